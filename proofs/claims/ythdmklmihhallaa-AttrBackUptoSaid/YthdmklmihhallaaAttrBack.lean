/- AttrBack: a Set comes back from its numbers. -/
import Derived.Test.YthdmklmihhallaaAtV
import Derived.Test.YthdmklmihhallaaAtW
import Derived.Test.YthdmklmihhallaaInts
import Derived.Test.YthdmklmihhallaaLiftC
import Derived.Outline
namespace Go.Proofs.Ythdmklmihhallaa.AttrBack
open Go.RowKit Go.ChangeShapes Go.WideShapes Go.ChangeAt Go.Proofs.Ythdmklmihhallaa

theorem rd_row {w0 w : World} {A : Option Addr} {n c : Nat} {l : List Int} {F : List Assn} (H : St w0 w (Row 3 1 A n c (ivs l) :: F)) : Rd w A l := fun i x hx => by
  have hl := H.row_length
  have hi := (List.getElem?_eq_some_iff.1 hx).1
  rw [ivs_length, Nat.mul_one] at hl
  obtain ⟨g, o, rfl⟩ := H.row_form (by omega)
  exact ⟨g, o, rfl, H.row_cell i (by rw [ivs, List.getElem?_map, hx]; rfl)⟩
theorem row_cap {w0 w : World} {e : TypeId} {size : Nat} {A : Option Addr} {n c : Nat} {xs : List Value} {L : List Assn} (H : St w0 w (Row e size A n c xs :: L)) : n ≤ c ∧ c ≤ maxLen := by
  rcases H.row_cases with ⟨_, h, h2, _⟩ | ⟨g, o, cur, fr, _, _, _, h1, h2, _⟩
  · rw [h, h2]; exact ⟨Nat.le_refl _, Nat.zero_le _⟩
  · exact ⟨h1, h2⟩
theorem src_rd {w : World} {A : Option Addr} {l : List Int} {n : Nat} (hl : l.length = n) (h : Rd w A l) : Src w A n (ivs l) := .of (by rw [ivs_length, hl]) fun j u hu => by
  rw [ivs, List.getElem?_map] at hu
  obtain ⟨x, hx, rfl⟩ := Option.map_eq_some_iff.1 hu
  exact h j x hx
def nrm (h : List Bool) (l : List Int) : Nat → List Int
  | 0 => l
  | k + 1 => if h.getD k true then nrm h l k else (nrm h l k).set k 0
theorem nrm_length (h : List Bool) (l : List Int) : ∀ k, (nrm h l k).length = l.length
  | 0 => rfl
  | k + 1 => by
    rw [nrm]; split
    · exact nrm_length h l k
    · rw [List.length_set]; exact nrm_length h l k
set_option maxRecDepth 100000 in
set_option maxHeartbeats 8000000 in
theorem walk (w : World) (has0 has1 has2 has3 : Bool) (n0 : Int) (_h0 : -9223372036854775808 ≤ n0 ∧ n0 ≤ 9223372036854775807) (n1 : Int) (_h1 : -9223372036854775808 ≤ n1 ∧ n1 ≤ 9223372036854775807) (n2 : Int) (_h2 : -9223372036854775808 ≤ n2 ∧ n2 ≤ 9223372036854775807) (n3 : Int) (_h3 : -9223372036854775808 ≤ n3 ∧ n3 ≤ 9223372036854775807) (n4 : Int) (_h4 : -9223372036854775808 ≤ n4 ∧ n4 ≤ 9223372036854775807) (n5 : Int) (_h5 : -9223372036854775808 ≤ n5 ∧ n5 ≤ 9223372036854775807) (n6 : Int) (_h6 : -9223372036854775808 ≤ n6 ∧ n6 ≤ 9223372036854775807) (n7 : Int) (_h7 : -9223372036854775808 ≤ n7 ∧ n7 ≤ 9223372036854775807) (n8 : Int) (_h8 : -9223372036854775808 ≤ n8 ∧ n8 ≤ 9223372036854775807) (n9 : Int) (_h9 : -9223372036854775808 ≤ n9 ∧ n9 ≤ 9223372036854775807)
    (A : Option Addr) (n c : Nat) (more : List Int) (hrd : SlRd w A n 1 (more.map fun x => [.int .i64 x])) (hn : n ≤ 1048576) (_hsum : sumW (more.map fun x => [.int .i64 x]) ≤ 1048576) (_hok : ∀ x ∈ more, -9223372036854775808 ≤ x ∧ x ≤ 9223372036854775807) (hcap : n ≤ c ∧ c ≤ maxLen) :
    Calls Try.prog 7 #[.agg #[.bool has0, .bool has1, .bool has2, .bool has3], .agg #[.int .i64 n0, .int .i64 n1, .int .i64 n2, .int .i64 n3, .int .i64 n4, .int .i64 n5, .int .i64 n6, .int .i64 n7, .int .i64 n8, .int .i64 n9], .slice A n c] w fun r w' => r = .returned (.bool true) ∧ Below w.heap.size w w' := by
  have H0 := ((St.init w).alloc #[.bool has0, .bool has1, .bool has2, .bool has3] 41).alloc #[.int .i64 n0, .int .i64 n1, .int .i64 n2, .int .i64 n3, .int .i64 n4, .int .i64 n5, .int .i64 n6, .int .i64 n7, .int .i64 n8, .int .i64 n9] 42
  simp only [World.size_alloc] at H0
  obtain ⟨i0, hi, hz0, hz1, hz2⟩ := info_parts infoInt
  have hlm : more.length = n := by have := hrd.1; simpa using this
  have hrd2 : ∀ w', Below w.heap.size w w' → Rd w' A more := fun w' hb => Rd.of (SlRd.src hrd hb).2
  have HRD := Lib.hid hrd2; have HLM := Lib.hid hlm; clear hrd hlm hrd2
  go_enter Try.func7, Try.ntmps7
  go_wp2_with (first | (with_reducible refine hold_load (ty := 41) ?_) | (go_at_call 8; refine (speaks_ok H0).mono ?_; rintro x w1 ⟨rfl, H1⟩))
  unfold Hold
  have HZ := H1.alloc zeroSet 46
  have p0 := H1.cell 0 rfl
  have p1 := H1.cell 1 rfl
  have p2 := H1.cell 2 rfl
  have p3 := H1.cell 3 rfl
  have p4 := H1.cell 4 rfl
  have p5 := H1.cell 5 rfl
  have p6 := H1.cell 6 rfl
  have p7 := H1.cell 7 rfl
  have p8 := H1.cell 8 rfl
  have p9 := H1.cell 9 rfl
  with_reducible refine wpList_load_st (ty := 41) H1.r2 ?_ ?_ Try.underlying41 ?_ ?_ ?_
  rfl
  rfl
  rfl
  kernel_rfl
  have hm0 := andOne n4
  have hm1 := andOne n5
  obtain ⟨m0, hm0e⟩ : ∃ m, bits .and .i64 n4 1 = m := ⟨_, rfl⟩
  obtain ⟨m1, hm1e⟩ : ∃ m, bits .and .i64 n5 1 = m := ⟨_, rfl⟩
  rw [hm0e] at hm0
  rw [hm1e] at hm1
  have HM0 := Lib.hid hm0; clear hm0
  rcases hm1 with rfl | rfl
  · go_wp2_with (with_reducible refine hold_store ?_)
    unfold Hold
    with_reducible refine wpList_store_st (ty := 46) (HZ) (#[.bool has0, .bool has1, .bool has2, .bool has3, .int .i64 n0, .int .i64 n1, .int .i64 n2, .int .i64 n3, .int .i64 m0, .int .i64 0, .int .i64 0, .int .i64 0, .int .i64 n8, .int .i64 n9]) ?_ ?_ ?_ ?_ ?_ ?_ ?_
    rfl
    rfl
    rfl
    rfl
    kernel_rfl
    rfl
    intro w2 H2
    clear p0 p1 p2 p3 p4 p5 p6 p7 p8 p9 HZ H0
    obtain ⟨ba, hba⟩ : ∃ b, b = w1.heap.size := ⟨_, rfl⟩
    rw [← hba] at H2 ⊢
    clear hba H1
    clear _h0 _h1 _h2 _h3 _h4 _h5 _h6 _h7 _h8 _h9 hm0e hm1e
    have H3 := H2.ord 3 [0, 2, 1]
    obtain ⟨h, hh⟩ : ∃ h, h = [has0, has1, has2, has3] := ⟨_, rfl⟩
    obtain ⟨l, hl⟩ : ∃ l : List Int, l = [n0, n1, n2, n3, m0, 0, 0, 0, n8, n9] := ⟨_, rfl⟩
    have hs0 : (#[.bool has0, .bool has1, .bool has2, .bool has3, .int .i64 n0, .int .i64 n1, .int .i64 n2, .int .i64 n3, .int .i64 m0, .int .i64 0, .int .i64 0, .int .i64 0, .int .i64 n8, .int .i64 n9] : Array Value) = (⟨h, nrm h l 0⟩ : SS).cells.toArray := by rw [hh, hl]; rfl
    have hb0 : (#[.bool has0, .bool has1, .bool has2, .bool has3] : Array Value) = (bvs h).toArray := by rw [hh]; rfl
    rw [hs0, hb0] at H3
    have hlh : h.length = 4 := by rw [hh]; rfl
    have hll : l.length = 10 := by rw [hl]; rfl
    have HH := Lib.hid hh; have HL := Lib.hid hl; have HLH := Lib.hid hlh; have HLL := Lib.hid hll
    clear hh hl hlh hll hs0 hb0 H2
    go_wp2_with (fail)
    go_loopw [8] (fun i wr => ∃ k : Nat, k ≤ 4 ∧ i = .int .i64 k ∧ St w wr [Pt ba (⟨h, nrm h l k⟩ : SS).cells.toArray 46, Pt w.heap.size (bvs h).toArray 41, Pt (w.heap.size + 1) #[.int .i64 n0, .int .i64 n1, .int .i64 n2, .int .i64 n3, .int .i64 n4, .int .i64 n5, .int .i64 n6, .int .i64 n7, .int .i64 n8, .int .i64 n9] 42]) (fun i _ => 4 - (intOf i).toNat)
    case atStart => exact ⟨0, by omega, rfl, H3⟩
    case round =>
    clear H3
    obtain ⟨k, hk, rfl, H4⟩ := hrel
    by_cases hlt : k < 4
    · obtain ⟨x, hx⟩ : ∃ x, h[k]? = some x := ⟨_, List.getElem?_eq_getElem (by rw [HLH.out]; exact hlt)⟩
      have hkI : (k : Int) < 4 := by omega
      have ok4 : (⟨h, nrm h l k⟩ : SS).ok := ⟨HLH.out, by rw [nrm_length]; exact HLL.out⟩
      have q4 := H4.r2.cell k (v := .bool x) (by rw [List.getElem?_toArray, bvs, List.getElem?_map, hx]; rfl)
      have f4 := H4.frozen (4 + k)
      have p4 := H4.cell (4 + k) (SS.getL ok4 (List.getElem?_eq_getElem (by rw [ok4.l]; omega)))
      have hgd : h.getD k true = x := by rw [List.getD_eq_getElem?_getD, hx]; rfl
      have HX := Lib.hid hgd; clear hgd hx
      cases x
      · have H5 := H4.set (4 + k) (.int .i64 0)
        rw [SS.setL ok4] at H5
        have e5 : nrm h l (k + 1) = (nrm h l k).set k 0 := by rw [nrm, HX.out]; rfl
        dsimp only at H5
        rw [← e5] at H5
        clear e5
        go_wp2_with (fail)
        go_roundw
        case rel => exact ⟨k + 1, by omega, by go_num, H5⟩
        case measure => simp [intOf]; omega
      · have e5 : nrm h l (k + 1) = nrm h l k := by rw [nrm, HX.out]; rfl
        go_wp2_with (fail)
        go_roundw
        case rel => exact ⟨k + 1, by omega, by go_num, by rw [e5]; exact H4⟩
        case measure => simp [intOf]; omega
    obtain rfl : k = 4 := by omega
    clear hk hlt
    have hs4 : (⟨h, nrm h l 4⟩ : SS) = back has0 has1 has2 has3 (if has0 then n0 else 0) (if has1 then n1 else 0) (if has2 then n2 else 0) (if has3 then n3 else 0) m0 0 n8 n9 := by
      rw [HH.out, HL.out]; cases has0 <;> cases has1 <;> cases has2 <;> cases has3 <;> rfl
    rw [hs4] at H4
    clear hs4
    have q9 := H4.cell 9 (v := .int .i64 0) rfl
    have p12 := H4.cell 12 (v := .int .i64 n8) rfl
    have p13 := H4.cell 13 (v := .int .i64 n9) rfl
    have f12 := H4.frozen 12
    have f13 := H4.frozen 13
    go_wp2_with (with_reducible refine hold_load (ty := 46) ?_)
    unfold Hold
    clear q9 p12 p13 f12 f13
    have H5 := (H4.set 12 (.int .i64 0)).set 13 (.int .i64 0)
    clear H4
    generalize (wr.setCell ⟨ba, 12, none⟩ (.int .i64 0)).setCell ⟨ba, 13, none⟩ (.int .i64 0) = w3 at *
    obtain ⟨s, hs⟩ : ∃ s, s = back has0 has1 has2 has3 (if has0 then n0 else 0) (if has1 then n1 else 0) (if has2 then n2 else 0) (if has3 then n3 else 0) m0 0 (0) (0) := ⟨_, rfl⟩
    have ok : s.ok := by rw [hs]; exact ⟨rfl, rfl⟩
    obtain ⟨g1, g2, g3⟩ := back_law has0 has1 has2 has3 (if has0 then n0 else 0) (if has1 then n1 else 0) (if has2 then n2 else 0) (if has3 then n3 else 0) m0 0 (0) (0) (by intro h; rw [h]; rfl) (by intro h; rw [h]; rfl) (by intro h; rw [h]; rfl) (by intro h; rw [h]; rfl) HM0.out (.inl ⟨rfl, rfl, rfl⟩) more
    rw [← hs] at g1 g2 g3
    have HC : St w w3 [Pt ba s.cells.toArray 46, Pt w.heap.size (bvs h).toArray 41, Pt (w.heap.size + 1) #[.int .i64 n0, .int .i64 n1, .int .i64 n2, .int .i64 n3, .int .i64 n4, .int .i64 n5, .int .i64 n6, .int .i64 n7, .int .i64 n8, .int .i64 n9] 42] := by rw [hs]; exact H5
    clear H5 hs HH HL HLH HLL HM0
    with_reducible refine wpList_load_st (ty := 46) HC ?_ ?_ Try.underlying46 ?_ ?_ ?_
    rfl
    rfl
    rfl
    (rw [List.size_toArray, SS.length ok]; kernel_rfl)
    go_wp2_with (fail)
    refine (made_ok s ok HC).mono ?_
    rintro e w4 ⟨rfl, H3⟩
    go_wp2_with (fail)
    refine (putset_ok s ok H3).mono ?_
    rintro e w5 ⟨A1, k1, c1, rfl, hk1, H4⟩
    have hpl := s.putM_length 2
    obtain ⟨p, hp⟩ : ∃ p, p = s.putM 2 := ⟨_, rfl⟩
    rw [← hp] at H4 g1 g2 g3 hpl hk1
    have HP := Lib.hid hk1
    rw [← hk1] at hpl g3 g2
    clear hp hk1 H3 HC
    have G1 := Lib.hid g1; have G2 := Lib.hid g2; clear g1 g2
    have H5 := (H4.alloc #[] 3).emptyRow (size := 1)
    have s1 := Lib.hid (src_rd HP.out.symm (rd_row H5.r2))
    have tok1 : True := trivial
    go_wp2_with (first  | (at_builtin; refine wpList_append_any (by rfl) _ _ _ (by rfl) 3 i0 (.int .i64 0) 1 8 Try.underlying23 hi hz0 hz1 hz2 rfl (by decide) A5 k1 c5 (ivs p) H6 (by rfl) A n c (ivs more) (by rfl) (by rw [ivs_length, HLM.out, Nat.mul_one]) (src_rd HLM.out (HRD.out _ H6.below)) (ivs_one more) (by unfold maxLen; omega) (by omega) ?_; intro A6 c6 w7 H7)  | (at_builtin; have _t := tok1; refine wpList_append_any (by rfl) _ _ _ (by rfl) 3 i0 (.int .i64 0) 1 8 Try.underlying23 hi hz0 hz1 hz2 rfl (by decide) _ 0 0 [] H5 (by rfl) A1 k1 c1 (ivs p) (by rfl) (by rw [ivs_length, ← HP.out, Nat.mul_one]) s1.out (ivs_one p) (by unfold maxLen; omega) (by omega) ?_; rw [List.nil_append, Nat.zero_add]; intro A5 c5 w6 H6; clear tok1 _t))
    rw [← ivs_app] at H7
    have hcap8 := row_cap H7
    unfold maxLen at hcap8
    have hg := getset_ok A6 (k1 + n) c6 (p ++ more) (by rw [List.length_append, ← HP.out, HLM.out]) (by omega) hcap8.1 hcap8.2 w7 (rd_row H7)
    rw [G1.out] at hg
    refine hg.mono ?_
    clear hg hcap8
    rintro e w8 ⟨A8, c8, rfl, H8⟩
    have H9 := H7.frame H8
    simp only [List.cons_append, List.nil_append] at H9
    rw [HLM.out] at H9 ⊢
    clear H8 H7 H6 H5 s1
    have HZ := H9.alloc zeroSet 49
    go_wp2_with (with_reducible refine hold_store ?_)
    unfold Hold
    with_reducible refine wpList_store_st (ty := 49) HZ (s).cells.toArray ?_ ?_ ?_ ?_ ?_ ?_ ?_
    rfl
    rfl
    rfl
    (rw [List.size_toArray, SS.length (ok)]; rfl)
    (rw [List.size_toArray, SS.length (ok)]; kernel_rfl)
    (exact List.all_eq_true.2 (SS.one _))
    intro w9 H10
    obtain ⟨bx, hbx⟩ : ∃ b, b = w8.heap.size := ⟨_, rfl⟩
    rw [← hbx] at H10 ⊢
    clear hbx HZ H9
    have hcp := row_cap (H10.ord 4 [3, 0, 1, 2])
    unfold maxLen at hcp
    obtain ⟨ga, oa, hA1⟩ := (H10.ord 4 [3, 0, 1, 2]).row_form g3
    subst hA1
    obtain ⟨k0, rfl⟩ : ∃ k0, k1 = k0 + 1 := ⟨k1 - 1, by omega⟩
    have G3 : Hid (gM (p.take k0) 2 = none) := G2
    clear G2
    have hcI : (k0 : Int) ≤ c1 := by omega
    have H11 := (H10.alloc #[] 3).emptyRow (size := 1)
    have hlt0 : (p.take k0).length = k0 := by rw [List.length_take, ← HP.out]; omega
    have s2 := Lib.hid (src_rd (n := k0) (l := p.take k0) hlt0 (fun i x hx => (rd_row (H11.ord 5 [4, 0, 1, 2, 3])) i x (by rw [List.getElem?_take] at hx; split at hx <;> simp_all)))
    have HLT := Lib.hid hlt0; clear hlt0
    go_wp2_with (at_builtin; refine wpList_append_any (by rfl) _ _ _ (by rfl) 3 i0 (.int .i64 0) 1 8 Try.underlying23 hi hz0 hz1 hz2 rfl (by decide) _ 0 0 [] H11 (by rfl) (some ⟨ga, oa, none⟩) k0 c1 (ivs (p.take k0)) (by rfl) (by rw [ivs_length, HLT.out, Nat.mul_one]) s2.out (ivs_one _) (by unfold maxLen; omega) (by omega) ?_; rw [List.nil_append, Nat.zero_add]; intro A9 c9 w10 H12)
    have hcap8 := row_cap H12
    unfold maxLen at hcap8
    have hg := getset_ok A9 k0 c9 (p.take k0) HLT.out (by omega) hcap8.1 hcap8.2 w10 (rd_row H12)
    rw [G3.out] at hg
    refine hg.mono ?_
    clear hg hcap8
    rintro e w11 ⟨rfl, H13⟩
    have H14 := H12.frame H13
    rw [List.nil_append] at H14
    clear H13 H12 H11 H10 s2
    have HZ := H14.alloc zeroSet 49
    go_wp2_with (with_reducible refine hold_store ?_)
    unfold Hold
    with_reducible refine wpList_store_st (ty := 49) HZ (SS.zero).cells.toArray ?_ ?_ ?_ ?_ ?_ ?_ ?_
    rfl
    rfl
    rfl
    (rw [List.size_toArray, SS.length (SS.zero_ok)]; rfl)
    (rw [List.size_toArray, SS.length (SS.zero_ok)]; kernel_rfl)
    (exact List.all_eq_true.2 (SS.one _))
    intro w12 H15
    clear HZ H14
    go_wp2_with (fail)
    refine wp_region_held_drew (S := fun w' => w'.rangeAt bx 0 s.cells ∧ w'.rangeAt ba 0 s.cells) (by kernel_rfl) ⟨(H15.drew.ord 3 [2, 0, 1]).range, (H15.drew.ord 7 [6, 0, 1, 2, 3, 4, 5]).range⟩ (fun hHeld => ?_)
    have H16 := H15.drew
    clear H15
    generalize w12.drew = w12 at *
    refine rg_take (i := 0) (v := ?_) rfl (by kernel_rfl) (by kernel_rfl) (by kernel_rfl) (fun _ _ _ h => h) (Or.inl ⟨by kernel_rfl, ?_⟩) (by assumption) ?_
    rotate_left 1
    · intro w' hSw
      try dsimp only at hSw
      go_simp
      first | done | with_reducible rfl
    try simp only [Act.put, List.setIfInBounds_toArray, List.set_cons_zero, List.set_cons_succ]
    refine rg_take (i := 1) (v := ?_) rfl (by kernel_rfl) (by kernel_rfl) (by kernel_rfl) (fun _ _ _ h => h) (Or.inl ⟨by kernel_rfl, ?_⟩) (by assumption) ?_
    rotate_left 1
    · intro w' hSw
      try dsimp only at hSw
      go_simp
      first | done | with_reducible rfl
    try simp only [Act.put, List.setIfInBounds_toArray, List.set_cons_zero, List.set_cons_succ]
    refine rg_take (i := 2) (v := _) rfl (by kernel_rfl) (by kernel_rfl) (by kernel_rfl) (fun _ _ _ h => h) (yieldsIf_load_mid (by kernel_rfl) 49 _ rfl bx 0 rfl s.cells _ (fun w' h => h.1) Try.underlying49 rfl (by rw [SS.length ok]; kernel_rfl)) hHeld ?_
    try simp only [Act.put, List.setIfInBounds_toArray, List.set_cons_zero, List.set_cons_succ]
    refine rg_take (i := 3) (v := _) rfl (by kernel_rfl) (by kernel_rfl) (by kernel_rfl) (fun _ _ _ h => h) (yieldsIf_load_mid (by kernel_rfl) 46 _ rfl ba 0 rfl s.cells _ (fun w' h => h.2) Try.underlying46 rfl (by rw [SS.length ok]; kernel_rfl)) hHeld ?_
    try simp only [Act.put, List.setIfInBounds_toArray, List.set_cons_zero, List.set_cons_succ]
    have hm := made_ok s ok H16
    refine wpAnyH_ready (rs := [4]) (by kernel_rfl) (by simp) ?_
    refine rg_cons rfl (fun K hK => ?_) AllReadyH.nil
    go_simp
    refine hm.mono ?_
    rintro e w13 ⟨rfl, H17⟩
    refine hK.out _ _ ⟨(H17.ord 3 [2, 0, 1]).range, (H17.ord 7 [6, 0, 1, 2, 3, 4, 5]).range⟩ (fun hHeld => ?_)
    clear hK
    try simp only [Act.put, List.setIfInBounds_toArray, List.set_cons_zero, List.set_cons_succ]
    clear hm H16
    have heql := eql_set s ok
    have hgd : Try.prog.eqGuardType Try.prog.depth 49 = false := by kernel_rfl
    refine rg_take (i := 5) (v := ?_) rfl (by kernel_rfl) (by kernel_rfl) (by kernel_rfl) (fun _ _ _ h => h) (Or.inl ⟨by kernel_rfl, ?_⟩) (by assumption) ?_
    rotate_left 1
    · intro w' hSw
      try dsimp only at hSw
      go_simp
      first | done | with_reducible rfl
    try simp only [Act.put, List.setIfInBounds_toArray, List.set_cons_zero, List.set_cons_succ]
    refine rg_take (i := 6) (v := ?_) rfl (by kernel_rfl) (by kernel_rfl) (by kernel_rfl) (fun _ _ _ h => h) (Or.inl ⟨by kernel_rfl, ?_⟩) (by assumption) ?_
    rotate_left 1
    · intro w' hSw
      try dsimp only at hSw
      go_simp
      first | done | with_reducible rfl
    try simp only [Act.put, List.setIfInBounds_toArray, List.set_cons_zero, List.set_cons_succ]
    refine rg_take (i := 7) (v := ?_) rfl (by kernel_rfl) (by kernel_rfl) (by kernel_rfl) (fun _ _ _ h => h) (Or.inl ⟨by kernel_rfl, ?_⟩) (by assumption) ?_
    rotate_left 1
    · intro w' hSw
      try dsimp only at hSw
      go_simp
      first | done | with_reducible rfl
    try simp only [Act.put, List.setIfInBounds_toArray, List.set_cons_zero, List.set_cons_succ]
    refine rg_take (i := 8) (v := ?_) rfl (by kernel_rfl) (by kernel_rfl) (by kernel_rfl) (fun _ _ _ h => h) (Or.inl ⟨by kernel_rfl, ?_⟩) (by assumption) ?_
    rotate_left 1
    · intro w' hSw
      try dsimp only at hSw
      go_simp
      first | done | with_reducible rfl
    try simp only [Act.put, List.setIfInBounds_toArray, List.set_cons_zero, List.set_cons_succ]
    refine rg_take (i := 9) (v := ?_) rfl (by kernel_rfl) (by kernel_rfl) (by kernel_rfl) (fun _ _ _ h => h) (Or.inl ⟨by kernel_rfl, ?_⟩) (by assumption) ?_
    rotate_left 1
    · intro w' hSw
      try dsimp only at hSw
      go_simp
      first | done | with_reducible rfl
    try simp only [Act.put, List.setIfInBounds_toArray, List.set_cons_zero, List.set_cons_succ]
    have hi2 := ints_ok A8 c8 more A c more (by rw [HLM.out]; omega) (by rw [HLM.out]; omega) w13 (rd_row (H17.ord 4 [3, 0, 1, 2])) (HRD.out _ H17.below)
    rw [HLM.out, decide_eq_true rfl] at hi2
    refine wpAnyH_ready (rs := [10]) (by kernel_rfl) (by simp) ?_
    refine rg_cons rfl (fun K hK => ?_) AllReadyH.nil
    go_simp
    refine hi2.mono ?_
    rintro e w14 ⟨rfl, k2, rfl⟩
    have H18 := H17.drewN k2
    refine hK.out _ _ ⟨(H18.ord 3 [2, 0, 1]).range, (H18.ord 7 [6, 0, 1, 2, 3, 4, 5]).range⟩ (fun hHeld => ?_)
    clear hK
    try simp only [Act.put, List.setIfInBounds_toArray, List.set_cons_zero, List.set_cons_succ]
    clear hi2 H17
    generalize w13.drewN k2 = w14 at *
    refine rg_take (i := 11) (v := ?_) rfl (by kernel_rfl) (by kernel_rfl) (by kernel_rfl) (fun _ _ _ h => h) (Or.inl ⟨by kernel_rfl, ?_⟩) (by assumption) ?_
    rotate_left 1
    · intro w' hSw
      try dsimp only at hSw
      go_simp
      first | done | with_reducible rfl
    try simp only [Act.put, List.setIfInBounds_toArray, List.set_cons_zero, List.set_cons_succ]
    refine rg_take (i := 12) (v := ?_) rfl (by kernel_rfl) (by kernel_rfl) (by kernel_rfl) (fun _ _ _ h => h) (Or.inl ⟨by kernel_rfl, ?_⟩) (by assumption) ?_
    rotate_left 1
    · intro w' hSw
      try dsimp only at hSw
      go_simp
      first | done | with_reducible rfl
    try simp only [Act.put, List.setIfInBounds_toArray, List.set_cons_zero, List.set_cons_succ]
    refine rg_take (i := 13) (v := ?_) rfl (by kernel_rfl) (by kernel_rfl) (by kernel_rfl) (fun _ _ _ h => h) (Or.inl ⟨by kernel_rfl, ?_⟩) (by assumption) ?_
    rotate_left 1
    · intro w' hSw
      try dsimp only at hSw
      go_simp
      first | done | with_reducible rfl
    try simp only [Act.put, List.setIfInBounds_toArray, List.set_cons_zero, List.set_cons_succ]
    refine rg_take (i := 14) (v := ?_) rfl (by kernel_rfl) (by kernel_rfl) (by kernel_rfl) (fun _ _ _ h => h) (Or.inl ⟨by kernel_rfl, ?_⟩) (by assumption) ?_
    rotate_left 1
    · intro w' hSw
      try dsimp only at hSw
      go_simp
      first | done | with_reducible rfl
    try simp only [Act.put, List.setIfInBounds_toArray, List.set_cons_zero, List.set_cons_succ]
    refine rg_take (i := 15) (v := ?_) rfl (by kernel_rfl) (by kernel_rfl) (by kernel_rfl) (fun _ _ _ h => h) (Or.inl ⟨by kernel_rfl, ?_⟩) (by assumption) ?_
    rotate_left 1
    · intro w' hSw
      try dsimp only at hSw
      go_simp
      first | done | with_reducible rfl
    try simp only [Act.put, List.setIfInBounds_toArray, List.set_cons_zero, List.set_cons_succ]
    refine rg_take (i := 16) (v := ?_) rfl (by kernel_rfl) (by kernel_rfl) (by kernel_rfl) (fun _ _ _ h => h) (Or.inl ⟨by kernel_rfl, ?_⟩) (by assumption) ?_
    rotate_left 1
    · intro w' hSw
      try dsimp only at hSw
      go_simp
      first | done | with_reducible rfl
    try simp only [Act.put, List.setIfInBounds_toArray, List.set_cons_zero, List.set_cons_succ]
    refine wpAnyH_done (by kernel_rfl) ?_ _
    clear hHeld heql hgd
    go_wp2_with (fail)
    go_ret
    exact ⟨rfl, H18.below⟩
  · go_wp2_with (with_reducible refine hold_store ?_)
    unfold Hold
    with_reducible refine wpList_store_st (ty := 46) (HZ) (#[.bool has0, .bool has1, .bool has2, .bool has3, .int .i64 n0, .int .i64 n1, .int .i64 n2, .int .i64 n3, .int .i64 m0, .int .i64 2, .int .i64 0, .int .i64 0, .int .i64 n8, .int .i64 n9]) ?_ ?_ ?_ ?_ ?_ ?_ ?_
    rfl
    rfl
    rfl
    rfl
    kernel_rfl
    rfl
    intro w2 H2
    clear p0 p1 p2 p3 p4 p5 p6 p7 p8 p9 HZ H0
    obtain ⟨ba, hba⟩ : ∃ b, b = w1.heap.size := ⟨_, rfl⟩
    rw [← hba] at H2 ⊢
    clear hba H1
    clear _h0 _h1 _h2 _h3 _h4 _h5 _h6 _h7 _h8 _h9 hm0e hm1e
    have H3 := H2.ord 3 [0, 2, 1]
    obtain ⟨h, hh⟩ : ∃ h, h = [has0, has1, has2, has3] := ⟨_, rfl⟩
    obtain ⟨l, hl⟩ : ∃ l : List Int, l = [n0, n1, n2, n3, m0, 2, 0, 0, n8, n9] := ⟨_, rfl⟩
    have hs0 : (#[.bool has0, .bool has1, .bool has2, .bool has3, .int .i64 n0, .int .i64 n1, .int .i64 n2, .int .i64 n3, .int .i64 m0, .int .i64 2, .int .i64 0, .int .i64 0, .int .i64 n8, .int .i64 n9] : Array Value) = (⟨h, nrm h l 0⟩ : SS).cells.toArray := by rw [hh, hl]; rfl
    have hb0 : (#[.bool has0, .bool has1, .bool has2, .bool has3] : Array Value) = (bvs h).toArray := by rw [hh]; rfl
    rw [hs0, hb0] at H3
    have hlh : h.length = 4 := by rw [hh]; rfl
    have hll : l.length = 10 := by rw [hl]; rfl
    have HH := Lib.hid hh; have HL := Lib.hid hl; have HLH := Lib.hid hlh; have HLL := Lib.hid hll
    clear hh hl hlh hll hs0 hb0 H2
    go_wp2_with (fail)
    go_loopw [8] (fun i wr => ∃ k : Nat, k ≤ 4 ∧ i = .int .i64 k ∧ St w wr [Pt ba (⟨h, nrm h l k⟩ : SS).cells.toArray 46, Pt w.heap.size (bvs h).toArray 41, Pt (w.heap.size + 1) #[.int .i64 n0, .int .i64 n1, .int .i64 n2, .int .i64 n3, .int .i64 n4, .int .i64 n5, .int .i64 n6, .int .i64 n7, .int .i64 n8, .int .i64 n9] 42]) (fun i _ => 4 - (intOf i).toNat)
    case atStart => exact ⟨0, by omega, rfl, H3⟩
    case round =>
    clear H3
    obtain ⟨k, hk, rfl, H4⟩ := hrel
    by_cases hlt : k < 4
    · obtain ⟨x, hx⟩ : ∃ x, h[k]? = some x := ⟨_, List.getElem?_eq_getElem (by rw [HLH.out]; exact hlt)⟩
      have hkI : (k : Int) < 4 := by omega
      have ok4 : (⟨h, nrm h l k⟩ : SS).ok := ⟨HLH.out, by rw [nrm_length]; exact HLL.out⟩
      have q4 := H4.r2.cell k (v := .bool x) (by rw [List.getElem?_toArray, bvs, List.getElem?_map, hx]; rfl)
      have f4 := H4.frozen (4 + k)
      have p4 := H4.cell (4 + k) (SS.getL ok4 (List.getElem?_eq_getElem (by rw [ok4.l]; omega)))
      have hgd : h.getD k true = x := by rw [List.getD_eq_getElem?_getD, hx]; rfl
      have HX := Lib.hid hgd; clear hgd hx
      cases x
      · have H5 := H4.set (4 + k) (.int .i64 0)
        rw [SS.setL ok4] at H5
        have e5 : nrm h l (k + 1) = (nrm h l k).set k 0 := by rw [nrm, HX.out]; rfl
        dsimp only at H5
        rw [← e5] at H5
        clear e5
        go_wp2_with (fail)
        go_roundw
        case rel => exact ⟨k + 1, by omega, by go_num, H5⟩
        case measure => simp [intOf]; omega
      · have e5 : nrm h l (k + 1) = nrm h l k := by rw [nrm, HX.out]; rfl
        go_wp2_with (fail)
        go_roundw
        case rel => exact ⟨k + 1, by omega, by go_num, by rw [e5]; exact H4⟩
        case measure => simp [intOf]; omega
    obtain rfl : k = 4 := by omega
    clear hk hlt
    have hs4 : (⟨h, nrm h l 4⟩ : SS) = back has0 has1 has2 has3 (if has0 then n0 else 0) (if has1 then n1 else 0) (if has2 then n2 else 0) (if has3 then n3 else 0) m0 2 n8 n9 := by
      rw [HH.out, HL.out]; cases has0 <;> cases has1 <;> cases has2 <;> cases has3 <;> rfl
    rw [hs4] at H4
    clear hs4
    have q9 := H4.cell 9 (v := .int .i64 2) rfl
    have p12 := H4.cell 12 (v := .int .i64 n8) rfl
    have p13 := H4.cell 13 (v := .int .i64 n9) rfl
    have f12 := H4.frozen 12
    have f13 := H4.frozen 13
    go_wp2_with (with_reducible refine hold_load (ty := 46) ?_)
    unfold Hold
    clear q9 p12 p13 f12 f13
    have H5 := H4
    clear H4
    generalize wr = w3 at *
    obtain ⟨s, hs⟩ : ∃ s, s = back has0 has1 has2 has3 (if has0 then n0 else 0) (if has1 then n1 else 0) (if has2 then n2 else 0) (if has3 then n3 else 0) m0 2 (n8) (n9) := ⟨_, rfl⟩
    have ok : s.ok := by rw [hs]; exact ⟨rfl, rfl⟩
    obtain ⟨g1, g2, g3⟩ := back_law has0 has1 has2 has3 (if has0 then n0 else 0) (if has1 then n1 else 0) (if has2 then n2 else 0) (if has3 then n3 else 0) m0 2 (n8) (n9) (by intro h; rw [h]; rfl) (by intro h; rw [h]; rfl) (by intro h; rw [h]; rfl) (by intro h; rw [h]; rfl) HM0.out (.inr rfl) more
    rw [← hs] at g1 g2 g3
    have HC : St w w3 [Pt ba s.cells.toArray 46, Pt w.heap.size (bvs h).toArray 41, Pt (w.heap.size + 1) #[.int .i64 n0, .int .i64 n1, .int .i64 n2, .int .i64 n3, .int .i64 n4, .int .i64 n5, .int .i64 n6, .int .i64 n7, .int .i64 n8, .int .i64 n9] 42] := by rw [hs]; exact H5
    clear H5 hs HH HL HLH HLL HM0
    with_reducible refine wpList_load_st (ty := 46) HC ?_ ?_ Try.underlying46 ?_ ?_ ?_
    rfl
    rfl
    rfl
    (rw [List.size_toArray, SS.length ok]; kernel_rfl)
    go_wp2_with (fail)
    refine (made_ok s ok HC).mono ?_
    rintro e w4 ⟨rfl, H3⟩
    go_wp2_with (fail)
    refine (putset_ok s ok H3).mono ?_
    rintro e w5 ⟨A1, k1, c1, rfl, hk1, H4⟩
    have hpl := s.putM_length 2
    obtain ⟨p, hp⟩ : ∃ p, p = s.putM 2 := ⟨_, rfl⟩
    rw [← hp] at H4 g1 g2 g3 hpl hk1
    have HP := Lib.hid hk1
    rw [← hk1] at hpl g3 g2
    clear hp hk1 H3 HC
    have G1 := Lib.hid g1; have G2 := Lib.hid g2; clear g1 g2
    have H5 := (H4.alloc #[] 3).emptyRow (size := 1)
    have s1 := Lib.hid (src_rd HP.out.symm (rd_row H5.r2))
    have tok1 : True := trivial
    go_wp2_with (first  | (at_builtin; refine wpList_append_any (by rfl) _ _ _ (by rfl) 3 i0 (.int .i64 0) 1 8 Try.underlying23 hi hz0 hz1 hz2 rfl (by decide) A5 k1 c5 (ivs p) H6 (by rfl) A n c (ivs more) (by rfl) (by rw [ivs_length, HLM.out, Nat.mul_one]) (src_rd HLM.out (HRD.out _ H6.below)) (ivs_one more) (by unfold maxLen; omega) (by omega) ?_; intro A6 c6 w7 H7)  | (at_builtin; have _t := tok1; refine wpList_append_any (by rfl) _ _ _ (by rfl) 3 i0 (.int .i64 0) 1 8 Try.underlying23 hi hz0 hz1 hz2 rfl (by decide) _ 0 0 [] H5 (by rfl) A1 k1 c1 (ivs p) (by rfl) (by rw [ivs_length, ← HP.out, Nat.mul_one]) s1.out (ivs_one p) (by unfold maxLen; omega) (by omega) ?_; rw [List.nil_append, Nat.zero_add]; intro A5 c5 w6 H6; clear tok1 _t))
    rw [← ivs_app] at H7
    have hcap8 := row_cap H7
    unfold maxLen at hcap8
    have hg := getset_ok A6 (k1 + n) c6 (p ++ more) (by rw [List.length_append, ← HP.out, HLM.out]) (by omega) hcap8.1 hcap8.2 w7 (rd_row H7)
    rw [G1.out] at hg
    refine hg.mono ?_
    clear hg hcap8
    rintro e w8 ⟨A8, c8, rfl, H8⟩
    have H9 := H7.frame H8
    simp only [List.cons_append, List.nil_append] at H9
    rw [HLM.out] at H9 ⊢
    clear H8 H7 H6 H5 s1
    have HZ := H9.alloc zeroSet 49
    go_wp2_with (with_reducible refine hold_store ?_)
    unfold Hold
    with_reducible refine wpList_store_st (ty := 49) HZ (s).cells.toArray ?_ ?_ ?_ ?_ ?_ ?_ ?_
    rfl
    rfl
    rfl
    (rw [List.size_toArray, SS.length (ok)]; rfl)
    (rw [List.size_toArray, SS.length (ok)]; kernel_rfl)
    (exact List.all_eq_true.2 (SS.one _))
    intro w9 H10
    obtain ⟨bx, hbx⟩ : ∃ b, b = w8.heap.size := ⟨_, rfl⟩
    rw [← hbx] at H10 ⊢
    clear hbx HZ H9
    have hcp := row_cap (H10.ord 4 [3, 0, 1, 2])
    unfold maxLen at hcp
    obtain ⟨ga, oa, hA1⟩ := (H10.ord 4 [3, 0, 1, 2]).row_form g3
    subst hA1
    obtain ⟨k0, rfl⟩ : ∃ k0, k1 = k0 + 1 := ⟨k1 - 1, by omega⟩
    have G3 : Hid (gM (p.take k0) 2 = none) := G2
    clear G2
    have hcI : (k0 : Int) ≤ c1 := by omega
    have H11 := (H10.alloc #[] 3).emptyRow (size := 1)
    have hlt0 : (p.take k0).length = k0 := by rw [List.length_take, ← HP.out]; omega
    have s2 := Lib.hid (src_rd (n := k0) (l := p.take k0) hlt0 (fun i x hx => (rd_row (H11.ord 5 [4, 0, 1, 2, 3])) i x (by rw [List.getElem?_take] at hx; split at hx <;> simp_all)))
    have HLT := Lib.hid hlt0; clear hlt0
    go_wp2_with (at_builtin; refine wpList_append_any (by rfl) _ _ _ (by rfl) 3 i0 (.int .i64 0) 1 8 Try.underlying23 hi hz0 hz1 hz2 rfl (by decide) _ 0 0 [] H11 (by rfl) (some ⟨ga, oa, none⟩) k0 c1 (ivs (p.take k0)) (by rfl) (by rw [ivs_length, HLT.out, Nat.mul_one]) s2.out (ivs_one _) (by unfold maxLen; omega) (by omega) ?_; rw [List.nil_append, Nat.zero_add]; intro A9 c9 w10 H12)
    have hcap8 := row_cap H12
    unfold maxLen at hcap8
    have hg := getset_ok A9 k0 c9 (p.take k0) HLT.out (by omega) hcap8.1 hcap8.2 w10 (rd_row H12)
    rw [G3.out] at hg
    refine hg.mono ?_
    clear hg hcap8
    rintro e w11 ⟨rfl, H13⟩
    have H14 := H12.frame H13
    rw [List.nil_append] at H14
    clear H13 H12 H11 H10 s2
    have HZ := H14.alloc zeroSet 49
    go_wp2_with (with_reducible refine hold_store ?_)
    unfold Hold
    with_reducible refine wpList_store_st (ty := 49) HZ (SS.zero).cells.toArray ?_ ?_ ?_ ?_ ?_ ?_ ?_
    rfl
    rfl
    rfl
    (rw [List.size_toArray, SS.length (SS.zero_ok)]; rfl)
    (rw [List.size_toArray, SS.length (SS.zero_ok)]; kernel_rfl)
    (exact List.all_eq_true.2 (SS.one _))
    intro w12 H15
    clear HZ H14
    go_wp2_with (fail)
    refine wp_region_held_drew (S := fun w' => w'.rangeAt bx 0 s.cells ∧ w'.rangeAt ba 0 s.cells) (by kernel_rfl) ⟨(H15.drew.ord 3 [2, 0, 1]).range, (H15.drew.ord 7 [6, 0, 1, 2, 3, 4, 5]).range⟩ (fun hHeld => ?_)
    have H16 := H15.drew
    clear H15
    generalize w12.drew = w12 at *
    refine rg_take (i := 0) (v := ?_) rfl (by kernel_rfl) (by kernel_rfl) (by kernel_rfl) (fun _ _ _ h => h) (Or.inl ⟨by kernel_rfl, ?_⟩) (by assumption) ?_
    rotate_left 1
    · intro w' hSw
      try dsimp only at hSw
      go_simp
      first | done | with_reducible rfl
    try simp only [Act.put, List.setIfInBounds_toArray, List.set_cons_zero, List.set_cons_succ]
    refine rg_take (i := 1) (v := ?_) rfl (by kernel_rfl) (by kernel_rfl) (by kernel_rfl) (fun _ _ _ h => h) (Or.inl ⟨by kernel_rfl, ?_⟩) (by assumption) ?_
    rotate_left 1
    · intro w' hSw
      try dsimp only at hSw
      go_simp
      first | done | with_reducible rfl
    try simp only [Act.put, List.setIfInBounds_toArray, List.set_cons_zero, List.set_cons_succ]
    refine rg_take (i := 2) (v := _) rfl (by kernel_rfl) (by kernel_rfl) (by kernel_rfl) (fun _ _ _ h => h) (yieldsIf_load_mid (by kernel_rfl) 49 _ rfl bx 0 rfl s.cells _ (fun w' h => h.1) Try.underlying49 rfl (by rw [SS.length ok]; kernel_rfl)) hHeld ?_
    try simp only [Act.put, List.setIfInBounds_toArray, List.set_cons_zero, List.set_cons_succ]
    refine rg_take (i := 3) (v := _) rfl (by kernel_rfl) (by kernel_rfl) (by kernel_rfl) (fun _ _ _ h => h) (yieldsIf_load_mid (by kernel_rfl) 46 _ rfl ba 0 rfl s.cells _ (fun w' h => h.2) Try.underlying46 rfl (by rw [SS.length ok]; kernel_rfl)) hHeld ?_
    try simp only [Act.put, List.setIfInBounds_toArray, List.set_cons_zero, List.set_cons_succ]
    have hm := made_ok s ok H16
    refine wpAnyH_ready (rs := [4]) (by kernel_rfl) (by simp) ?_
    refine rg_cons rfl (fun K hK => ?_) AllReadyH.nil
    go_simp
    refine hm.mono ?_
    rintro e w13 ⟨rfl, H17⟩
    refine hK.out _ _ ⟨(H17.ord 3 [2, 0, 1]).range, (H17.ord 7 [6, 0, 1, 2, 3, 4, 5]).range⟩ (fun hHeld => ?_)
    clear hK
    try simp only [Act.put, List.setIfInBounds_toArray, List.set_cons_zero, List.set_cons_succ]
    clear hm H16
    have heql := eql_set s ok
    have hgd : Try.prog.eqGuardType Try.prog.depth 49 = false := by kernel_rfl
    refine rg_take (i := 5) (v := ?_) rfl (by kernel_rfl) (by kernel_rfl) (by kernel_rfl) (fun _ _ _ h => h) (Or.inl ⟨by kernel_rfl, ?_⟩) (by assumption) ?_
    rotate_left 1
    · intro w' hSw
      try dsimp only at hSw
      go_simp
      first | done | with_reducible rfl
    try simp only [Act.put, List.setIfInBounds_toArray, List.set_cons_zero, List.set_cons_succ]
    refine rg_take (i := 6) (v := ?_) rfl (by kernel_rfl) (by kernel_rfl) (by kernel_rfl) (fun _ _ _ h => h) (Or.inl ⟨by kernel_rfl, ?_⟩) (by assumption) ?_
    rotate_left 1
    · intro w' hSw
      try dsimp only at hSw
      go_simp
      first | done | with_reducible rfl
    try simp only [Act.put, List.setIfInBounds_toArray, List.set_cons_zero, List.set_cons_succ]
    refine rg_take (i := 7) (v := ?_) rfl (by kernel_rfl) (by kernel_rfl) (by kernel_rfl) (fun _ _ _ h => h) (Or.inl ⟨by kernel_rfl, ?_⟩) (by assumption) ?_
    rotate_left 1
    · intro w' hSw
      try dsimp only at hSw
      go_simp
      first | done | with_reducible rfl
    try simp only [Act.put, List.setIfInBounds_toArray, List.set_cons_zero, List.set_cons_succ]
    refine rg_take (i := 8) (v := ?_) rfl (by kernel_rfl) (by kernel_rfl) (by kernel_rfl) (fun _ _ _ h => h) (Or.inl ⟨by kernel_rfl, ?_⟩) (by assumption) ?_
    rotate_left 1
    · intro w' hSw
      try dsimp only at hSw
      go_simp
      first | done | with_reducible rfl
    try simp only [Act.put, List.setIfInBounds_toArray, List.set_cons_zero, List.set_cons_succ]
    refine rg_take (i := 9) (v := ?_) rfl (by kernel_rfl) (by kernel_rfl) (by kernel_rfl) (fun _ _ _ h => h) (Or.inl ⟨by kernel_rfl, ?_⟩) (by assumption) ?_
    rotate_left 1
    · intro w' hSw
      try dsimp only at hSw
      go_simp
      first | done | with_reducible rfl
    try simp only [Act.put, List.setIfInBounds_toArray, List.set_cons_zero, List.set_cons_succ]
    have hi2 := ints_ok A8 c8 more A c more (by rw [HLM.out]; omega) (by rw [HLM.out]; omega) w13 (rd_row (H17.ord 4 [3, 0, 1, 2])) (HRD.out _ H17.below)
    rw [HLM.out, decide_eq_true rfl] at hi2
    refine wpAnyH_ready (rs := [10]) (by kernel_rfl) (by simp) ?_
    refine rg_cons rfl (fun K hK => ?_) AllReadyH.nil
    go_simp
    refine hi2.mono ?_
    rintro e w14 ⟨rfl, k2, rfl⟩
    have H18 := H17.drewN k2
    refine hK.out _ _ ⟨(H18.ord 3 [2, 0, 1]).range, (H18.ord 7 [6, 0, 1, 2, 3, 4, 5]).range⟩ (fun hHeld => ?_)
    clear hK
    try simp only [Act.put, List.setIfInBounds_toArray, List.set_cons_zero, List.set_cons_succ]
    clear hi2 H17
    generalize w13.drewN k2 = w14 at *
    refine rg_take (i := 11) (v := ?_) rfl (by kernel_rfl) (by kernel_rfl) (by kernel_rfl) (fun _ _ _ h => h) (Or.inl ⟨by kernel_rfl, ?_⟩) (by assumption) ?_
    rotate_left 1
    · intro w' hSw
      try dsimp only at hSw
      go_simp
      first | done | with_reducible rfl
    try simp only [Act.put, List.setIfInBounds_toArray, List.set_cons_zero, List.set_cons_succ]
    refine rg_take (i := 12) (v := ?_) rfl (by kernel_rfl) (by kernel_rfl) (by kernel_rfl) (fun _ _ _ h => h) (Or.inl ⟨by kernel_rfl, ?_⟩) (by assumption) ?_
    rotate_left 1
    · intro w' hSw
      try dsimp only at hSw
      go_simp
      first | done | with_reducible rfl
    try simp only [Act.put, List.setIfInBounds_toArray, List.set_cons_zero, List.set_cons_succ]
    refine rg_take (i := 13) (v := ?_) rfl (by kernel_rfl) (by kernel_rfl) (by kernel_rfl) (fun _ _ _ h => h) (Or.inl ⟨by kernel_rfl, ?_⟩) (by assumption) ?_
    rotate_left 1
    · intro w' hSw
      try dsimp only at hSw
      go_simp
      first | done | with_reducible rfl
    try simp only [Act.put, List.setIfInBounds_toArray, List.set_cons_zero, List.set_cons_succ]
    refine rg_take (i := 14) (v := ?_) rfl (by kernel_rfl) (by kernel_rfl) (by kernel_rfl) (fun _ _ _ h => h) (Or.inl ⟨by kernel_rfl, ?_⟩) (by assumption) ?_
    rotate_left 1
    · intro w' hSw
      try dsimp only at hSw
      go_simp
      first | done | with_reducible rfl
    try simp only [Act.put, List.setIfInBounds_toArray, List.set_cons_zero, List.set_cons_succ]
    refine rg_take (i := 15) (v := ?_) rfl (by kernel_rfl) (by kernel_rfl) (by kernel_rfl) (fun _ _ _ h => h) (Or.inl ⟨by kernel_rfl, ?_⟩) (by assumption) ?_
    rotate_left 1
    · intro w' hSw
      try dsimp only at hSw
      go_simp
      first | done | with_reducible rfl
    try simp only [Act.put, List.setIfInBounds_toArray, List.set_cons_zero, List.set_cons_succ]
    refine rg_take (i := 16) (v := ?_) rfl (by kernel_rfl) (by kernel_rfl) (by kernel_rfl) (fun _ _ _ h => h) (Or.inl ⟨by kernel_rfl, ?_⟩) (by assumption) ?_
    rotate_left 1
    · intro w' hSw
      try dsimp only at hSw
      go_simp
      first | done | with_reducible rfl
    try simp only [Act.put, List.setIfInBounds_toArray, List.set_cons_zero, List.set_cons_succ]
    refine wpAnyH_done (by kernel_rfl) ?_ _
    clear hHeld heql hgd
    go_wp2_with (fail)
    go_ret
    exact ⟨rfl, H18.below⟩
theorem own : ownKnob Try.prog.godebug = none := by kernel_rfl
theorem laidOut : laidOutB Try.prog = true := by kernel_rfl
theorem readable : ∀ t ∈ Try.f7.params.toList, Try.prog.readableRec t = true ∧ t < Try.prog.types.size := by
  intro t ht
  rw [Try.params7] at ht
  simp only [List.mem_cons, List.not_mem_nil, or_false] at ht
  rcases ht with rfl | rfl | rfl
  all_goals exact ⟨by kernel_rfl, of_decide_eq_true (by kernel_rfl)⟩
theorem contract (H : Type) (enc : TypeId × Value → H) (W : World) (base : Nat) (args : Array Value) (ds gs : List (DataW H)) (before : List MemPlace)
    (hval : ∀ (j : Nat) t v, Try.f7.params[j]? = some t → args[j]? = some v → Value.okWide Try.prog W .any base t v)
    (hW : DataW.Whole enc Try.prog Try.f7.params.toList Rows.attrBackSpec.vars false W args.toList ds gs before) (hk : Rows.uptoSmall H (ds ++ gs) = true) :
    Calls Try.prog 7 args W fun e W' => ∃ v, e = .returned v ∧ Rows.attrBackSpec.post enc Try.prog Try.f7 false true false false W args v W' := by
  have hW' := hW
  obtain ⟨p, q, hA0, hV, rfl, _, _⟩ := hW
  have hA : DataW.TrodAll enc Try.prog W 0 (fun _ => true) true Try.f7.params.toList args.toList ds p := hA0
  rw [Try.params7] at hA hval
  obtain ⟨v0, vs0, d0, ds0, p0, q0, hargs, rfl, rfl, h0, r0⟩ := trodAll_cons hA
  obtain ⟨v1, vs1, d1, ds1, p1, q1, rfl, rfl, rfl, h1, r1⟩ := trodAll_cons r0
  obtain ⟨v2, vs2, d2, ds2, p2, q2, rfl, rfl, rfl, h2, r2⟩ := trodAll_cons r1
  obtain ⟨rfl, rfl, rfl⟩ := trodAll_nil r2
  obtain rfl : args = #[v0, v1, v2] := by cases args; simp_all
  obtain ⟨rfl, rfl⟩ := trodVars_none hV
  clear hA0
  have hk2 : Rows.uptoBulkAll _ ≤ 1048576 := of_decide_eq_true hk
  rw [List.append_nil] at hk2
  obtain ⟨cs0, hv0, hsz0⟩ := okWide_array Try.underlying41 (hval 0 41 v0 rfl rfl)
  subst hv0
  rw [show Try.prog.cellsOf 41 = 4 by kernel_rfl] at hsz0
  obtain ⟨l0⟩ := cs0
  obtain ⟨fuel0, hf0⟩ := h0
  obtain ⟨hrow0, hbulk0⟩ := trod_flat 8 41 [.bool, .bool, .bool, .bool] (by kernel_rfl) _ _ _ hf0
  simp only [Value.cells] at hrow0 hbulk0
  match l0, hsz0, hrow0, hbulk0, hval, hf0, hW', hk2 with
  | [c0_0, c0_1, c0_2, c0_3], _, hrow0, hbulk0, hval, hf0, hW', hk2 =>
  obtain ⟨⟨has0, rfl⟩, ⟨has1, rfl⟩, ⟨has2, rfl⟩, ⟨has3, rfl⟩, _⟩ := hrow0
  obtain ⟨cs1, hv1, hsz1⟩ := okWide_array Try.underlying42 (hval 1 42 v1 rfl rfl)
  subst hv1
  rw [show Try.prog.cellsOf 42 = 10 by kernel_rfl] at hsz1
  obtain ⟨l1⟩ := cs1
  obtain ⟨fuel1, hf1⟩ := h1
  obtain ⟨hrow1, hbulk1⟩ := trod_flat 8 42 [.int .i64, .int .i64, .int .i64, .int .i64, .int .i64, .int .i64, .int .i64, .int .i64, .int .i64, .int .i64] (by kernel_rfl) _ _ _ hf1
  simp only [Value.cells] at hrow1 hbulk1
  match l1, hsz1, hrow1, hbulk1, hval, hf1, hW', hk2 with
  | [c1_0, c1_1, c1_2, c1_3, c1_4, c1_5, c1_6, c1_7, c1_8, c1_9], _, hrow1, hbulk1, hval, hf1, hW', hk2 =>
  obtain ⟨⟨n0, rfl, wn0⟩, ⟨n1, rfl, wn1⟩, ⟨n2, rfl, wn2⟩, ⟨n3, rfl, wn3⟩, ⟨n4, rfl, wn4⟩, ⟨n5, rfl, wn5⟩, ⟨n6, rfl, wn6⟩, ⟨n7, rfl, wn7⟩, ⟨n8, rfl, wn8⟩, ⟨n9, rfl, wn9⟩, _⟩ := hrow1
  obtain ⟨fuel2, hf2⟩ := h2
  obtain ⟨A2, n2, c2, hv2⟩ := okWide_slice Try.underlying23 (hval 2 23 v2 rfl rfl)
  subst hv2
  obtain ⟨A2', n2', c2', rows2, hc2, hn2, hrd2, hrow2, hbulk2⟩ := trod_slice_flat (ks := [.int .i64]) (m := 8) Try.underlying23 (by kernel_rfl) (by kernel_rfl) (by decide) hf2
  dsimp only at hbulk2
  obtain ⟨rfl, rfl, rfl⟩ : A2' = A2 ∧ n2' = n2 ∧ c2' = c2 := by simp [Value.cells] at hc2; simp [hc2]
  obtain ⟨more, rfl, hok2⟩ := rows_map (fun x : Int => [.int .i64 x]) (fun x : Int => -9223372036854775808 ≤ x ∧ x ≤ 9223372036854775807) rows2 (fun row hr => of_row_int row (hrow2 row hr))
  refine (walk W has0 has1 has2 has3 n0 (wf_i64 wn0) n1 (wf_i64 wn1) n2 (wf_i64 wn2) n3 (wf_i64 wn3) n4 (wf_i64 wn4) n5 (wf_i64 wn5) n6 (wf_i64 wn6) n7 (wf_i64 wn7) n8 (wf_i64 wn8) n9 (wf_i64 wn9) A2' n2' c2' more hrd2 (by
    have h1 := len_le_sum (ks := [.int .i64]) _ hrow2 (by decide)
    have h2 := hrd2.1
    simp only [Rows.uptoBulkAll] at hk2
    omega) (by
    simp only [Rows.uptoBulkAll] at hk2
    omega) hok2 (trod_cap Try.underlying23 hf2 _ _ _ hc2)).mono fun e W' ⟨he, hb⟩ => ?_
  exact ⟨_, he, law_post (tb := 4) laidOut readable rfl Try.underlying4 rfl hW' rfl rfl rfl hb⟩
set_option maxRecDepth 100000 in
theorem lifted (os : Os) (started : os.Started) (H : Type) (enc : TypeId × Value → H) (F : Stop.Interp) :
    ReturnsInHanded {} Try.checked os 7 .any ((Rows.OpenSpec.upto Rows.attrBackSpec).pre6 enc Try.prog Try.f7 Rows.attrBackUptoRow.domain false) (((Rows.OpenSpec.upto Rows.attrBackSpec).at F).post enc Try.prog Try.f7 false true false false) := by
  refine returnsInHanded_of_cond (C := Try.checked) (s := Rows.OpenSpec.upto Rows.attrBackSpec) (k := Rows.uptoSmall) rfl own started (by kernel_rfl) Try.func7
    (OpenSpec.witness (enc := enc) (C := Try.checked) (s := Rows.OpenSpec.upto Rows.attrBackSpec) (k := Rows.uptoSmall) rfl false ⟨#[], #[.agg #[.bool false, .bool false, .bool false, .bool false], .agg #[.int .i64 0, .int .i64 0, .int .i64 0, .int .i64 0, .int .i64 0, .int .i64 0, .int .i64 0, .int .i64 0, .int .i64 0, .int .i64 0], .slice none 0 0], []⟩ 8 (by kernel_rfl) (by kernel_rfl) (by kernel_rfl)
      (x := ([.agg [.lit (.bool false), .lit (.bool false), .lit (.bool false), .lit (.bool false)], .agg [.lit (.int .i64 0), .lit (.int .i64 0), .lit (.int .i64 0), .lit (.int .i64 0), .lit (.int .i64 0), .lit (.int .i64 0), .lit (.int .i64 0), .lit (.int .i64 0), .lit (.int .i64 0), .lit (.int .i64 0)], .nil], [], [])) (by kernel_rfl) rfl (by kernel_rfl)) ?_
  intro W base args ds gs before hval hW _ hk _
  exact contract H enc W base args ds gs before hval hW hk
theorem proved : Rows.AttrBackUptoSaid :=
  OpenClaim.holds_of_cond 7 Try.f7 rfl rfl rfl rfl rfl rfl rfl ⟨rfl, rfl, rfl, rfl, rfl⟩ rfl rfl rfl rfl rfl (by kernel_rfl) Try.func7 (by kernel_rfl)
    (of_decide_eq_true (by kernel_rfl)) (by unfold Func.isWrapper; first | (rw [if_pos (by decide +kernel)]; kernel_rfl) | (rw [if_neg (by decide +kernel)]; exact ⟨rfl, rfl⟩))
    (fun os started H enc _ F => lifted os started H enc F)
#print axioms proved

end Go.Proofs.Ythdmklmihhallaa.AttrBack

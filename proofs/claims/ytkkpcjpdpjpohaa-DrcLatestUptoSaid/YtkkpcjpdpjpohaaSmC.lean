/- Layer 2: the parser's arms; the parser as a whole. -/
import Derived.Test.YtkkpcjpdpjpohaaSmB
namespace Go.Proofs.Ytkkpcjpdpjpohaa
open Go.RowKit

def ofArms : List (Nat × Bool × Tr) → Tr
  | [] => .nil
  | x :: l => .arm x.1 x.2.1 x.2.2 (ofArms l)
theorem ofArms_len : ∀ l, (ofArms l).len = l.length
  | [] => rfl
  | x :: l => by rw [ofArms, Tr.len, ofArms_len l]; rfl
theorem ofArms_snoc (l : List (Nat × Bool × Tr)) (k : Nat) (y : Bool) (f : Tr) : ofArms (l ++ [(k, y, f)]) = (ofArms l).app (.arm k y f .nil) := by
  induction l with
  | nil => rfl
  | cons x l ih => rw [List.cons_append, ofArms, ih]; rfl
theorem arm_get : ∀ {l : List (Nat × Bool × Tr)} {vs : List Value} {L : List Assn}, Hd (ofArms l) vs L → ∀ (i : Nat) (x : Nat × Bool × Tr), l[i]? = some x → ∃ A c, vs[3 * i]? = some (.int .i64 x.1) ∧ vs[3 * i + 1]? = some (.bool x.2.1) ∧ vs[3 * i + 2]? = some (.slice A x.2.2.len c)
  | [], _, _, _, i, x, h => by simp at h
  | y :: l, vs, L, ⟨A, c, va, La, vt, Lt, h1, h2, ha, ht⟩, 0, x, h => by
    simp at h; subst h
    exact ⟨A, c, by rw [h1]; rfl, by rw [h1]; rfl, by rw [h1]; rfl⟩
  | y :: l, vs, L, ⟨A, c, va, La, vt, Lt, h1, h2, ha, ht⟩, i + 1, x, h => by
    obtain ⟨A', c', g1, g2, g3⟩ := arm_get ht i x (by simpa using h)
    refine ⟨A', c', ?_, ?_, ?_⟩
    · rw [h1, show 3 * (i + 1) = 3 * i + 3 by omega]; exact g1
    · rw [h1, show 3 * (i + 1) + 1 = 3 * i + 1 + 3 by omega]; exact g2
    · rw [h1, show 3 * (i + 1) + 2 = 3 * i + 2 + 3 by omega]; exact g3
-- §1 why nothing, §2 H with p's block in front and L ++ F behind it
-- §1 any, §2 the key, §3 where ':' is wanted, §4 what is known of the keys ahead of the m-th, §5 it at the start, §6 an element's comparison, §7 what the loop gives, §8 the end
-- the row comes back: §1 any, §2 the key, §3 H with p's block in front, then the row and the rest, §4 why it ends here, §5 the flag
set_option maxRecDepth 100000 in
set_option maxHeartbeats 16000000 in
theorem arms_step (s : ByteArray) (hs : s.size ≤ 1099511627776) (k : Nat) (IH : ∀ j, j < k → FormOK s j ∧ ArmsOK s j) : ArmsOK s k := by
  intro b d at_ w0 w F hk ha hd H
  obtain ⟨o, ho⟩ : ∃ o, o = pr s k true d at_ [] := ⟨_, rfl⟩
  rw [← ho]
  have HO := Lib.hid ho; clear ho
  obtain ⟨i0, hi, hz0, hz1, hz2⟩ := info_parts infoArm
  go_enter Try.func67, Try.ntmps67
  go_wp2_with (fail)
  go_loopw [5] (fun out wr => ∃ (j : Nat) (l : List (Nat × Bool × Tr)) (q : Nat) (A : Option Addr) (c : Nat) (vs : List Value) (L : List Assn), j ≤ k ∧ s.size - q < j ∧ q ≤ s.size ∧ l.length ≤ q ∧ Hid (o = (pr s j true d q (l.map (·.1))).map (fun r => ((ofArms l).app r.1, r.2))) ∧ out = .slice A l.length c ∧ Hid (Hd (ofArms l) vs L) ∧ St w0 wr (Psr b s q :: Row 117 3 A l.length c vs :: (L ++ F))) (fun _ wr => s.size - atOf b wr)
  case atStart => exact ⟨k, [], at_, none, 0, [], [], Nat.le_refl _, hk, ha, Nat.zero_le _, by show o = Option.map (fun r => (Tr.app .nil r.1, r.2)) (pr s k true d at_ []); rw [HO.out]; cases pr s k true d at_ [] <;> rfl, rfl, ⟨rfl, rfl⟩, (H.nilRow 117 3).r2⟩
  case round =>
    clear H HO
    obtain ⟨j, l, q, A, c, vs, L, hjk, hqj, hqs, htq, HO, rfl, HT, H⟩ := hrel
    obtain ⟨j, rfl⟩ : ∃ i, j = i + 1 := ⟨j - 1, by omega⟩
    obtain ⟨n, hn⟩ : ∃ n, n = l.length := ⟨_, rfl⟩
    rw [← hn] at H htq ⊢
    have HN := Lib.hid hn; clear hn
    obtain ⟨F', hF'⟩ : ∃ X, X = L ++ F := ⟨_, rfl⟩
    rw [← hF'] at H
    have HF' := Lib.hid hF'; clear hF'
    have ha0 : atOf b wr = q := by unfold atOf; rw [H.cell 1 rfl]; rfl
    have HA := Lib.hid ha0; clear ha0
    go_wp2_with (fail)
    refine (peek_ok b s q hs H).mono ?_
    rintro x w1 ⟨rfl, H1⟩
    clear H
    by_cases h45 : pk s q = 45
    · have z45 : ((pk s q : Int) == 45) = true := by rw [h45]; rfl
      have H45 := Lib.hid h45; clear h45
      have H2 := H1.alloc #[.int .i64 0, .bool true, .slice none 0 0] 117
      obtain ⟨b6, hb6⟩ : ∃ x, x = w1.heap.size := ⟨_, rfl⟩
      go_upto_region 3 with (fail)
      rw [← hb6] at H2 ⊢
      generalize w1.alloc (.cells #[.int .i64 0, .bool true, .slice none 0 0] 117) = w2 at *
      clear hb6 H1 z45
      have s1 := H2.cell 1 rfl
      have c1 := H2.r2.cell 1 rfl
      have f1 := H2.r2.frozen 1
      have hql := pk_lt (s := s) (i := q) (by rw [H45.out]; decide)
      go_upto_region 6 with (fail)
      have H3 : St w0 (w2.setCell ⟨b, 1, none⟩ (.int .i64 ((q : Int) + 1))) (Psr b s (q + 1) :: Pt b6 #[.int .i64 0, .bool true, .slice none 0 0] 117 :: Row 117 3 A n c vs :: F') := H2.r2.set 1 _
      generalize w2.setCell ⟨b, 1, none⟩ (.int .i64 ((q : Int) + 1)) = w3 at *
      clear s1 c1 f1 H2
      go_wp2_with (fail)
      go_loopw [27] (fun i wx => ∃ m : Nat, m ≤ n ∧ i = .int .i64 m ∧ Hid (True) ∧ St w0 wx (Psr b s (q + 1) :: Pt b6 #[.int .i64 0, .bool true, .slice none 0 0] 117 :: Row 117 3 A n c vs :: F')) (fun i _ => n - (intOf i).toNat)
      case atStart => exact ⟨0, Nat.zero_le _, rfl, trivial, H3⟩
      case round =>
        clear H3
        obtain ⟨m, hm, rfl, HK, H3⟩ := hrel
        have s0 := H3.r2.cell 0 rfl
        have s1 := H3.r2.cell 1 rfl
        by_cases hlt : m < n
        · have hmI : (m : Int) < n := by omega
          obtain ⟨x, hx⟩ : ∃ x, l[m]? = some x := ⟨_, List.getElem?_eq_getElem (by rw [← HN.out]; exact hlt)⟩
          obtain ⟨A', c', g1, g2, g3⟩ := arm_get HT.out m x hx
          obtain ⟨g, og, rfl⟩ := H3.r3.row_form (by omega)
          have e0 := H3.r3.row_cell _ g1
          have e1 := H3.r3.row_cell _ g2
          have e2 := H3.r3.row_cell _ g3
          rw [Nat.mul_comm 3 m] at e0 e1 e2
          rw [← Nat.add_assoc] at e1 e2
          have HX := Lib.hid hx
          clear g1 g2 g3 hx
          have H4 := H3.alloc #[.int .i64 x.1, .bool x.2.1, .slice A' x.2.2.len c'] 117
          obtain ⟨b8, hb8⟩ : ∃ x, x = wr.heap.size := ⟨_, rfl⟩
          go_upto_region 9 with (fail)
          rw [← hb8] at H4 ⊢
          generalize wr.alloc (.cells #[.int .i64 x.1, .bool x.2.1, .slice A' x.2.2.len c'] 117) = w4 at *
          clear e0 e1 e2 s0 s1 hb8
          have k0 := H4.cell 0 rfl
          have s0 := H4.r3.cell 0 rfl
          have s1 := H4.r3.cell 1 rfl
          go_wp2_with (fail)
          go_roundw
          case rel => exact ⟨m + 1, by omega, by go_num, trivial, H4.tail⟩
          case measure => simp [intOf]; omega
        · obtain rfl : m = n := by omega
          clear s0 s1
          have hkey : (if pk s q = 45 then some (0, q + 1) else (numF s q).bind fun n => if n.1 ∈ l.map (·.1) then none else some n) = some (0, q + 1) := if_pos H45.out
          have HKEY := Lib.hid hkey; clear hkey hlt hm HK
          go_wp2_with (fail)
          refine (want_ok b s (q + 1) 58 hs (by omega) H3).mono ?_
          intro x w4 hx
          by_cases h58 : pk s (q + 1) = 58
          rotate_left 1
          · rw [beq_eq_false_iff_ne.2 h58] at hx
            obtain ⟨rfl, H4⟩ := hx
            refine ⟨rfl, ?_⟩
            have hno : o = none := by
              rw [HO.out, pr]
              rw [HKEY.out, Option.bind_some, if_pos (.inl h58)]; rfl
            rw [hno]
            have HL := H4.r2.tail.r2.tail
            rw [HF'.out] at HL
            exact ⟨rfl, _, HL.drop1⟩
          rw [beq_iff_eq.2 h58] at hx
          obtain ⟨rfl, H4⟩ := hx
          have hql2 := pk_lt (s := s) (i := q + 1) (by omega)
          have H58 := Lib.hid h58; clear h58 H3
          have hfm := (IH j (by omega)).1 b d (q + 1 + 1) w0 w4 _ (by omega) (by omega) (by omega) H4
          obtain ⟨fo, hfo⟩ : ∃ fo, fo = if 16 < d then none else pr s j false d (q + 1 + 1) [] := ⟨_, rfl⟩
          rw [← hfo] at hfm
          go_wp2_with (fail)
          refine hfm.mono ?_
          clear hfm
          intro x w5 hx
          cases fo with
          | none =>
            obtain ⟨rfl, at2, H5⟩ := hx
            refine ⟨rfl, ?_⟩
            have hno : o = none := by
              rw [HO.out, pr]
              rw [HKEY.out, Option.bind_some]; by_cases hh : 16 < d; (rw [if_pos (.inr hh)]; rfl); (rw [if_neg (fun h => h.elim (fun h => h H58.out) hh)]; rw [if_neg hh] at hfo; rw [← hfo]; rfl)
            rw [hno]
            have HL := H5.r2.tail.r2.tail
            rw [HF'.out] at HL
            exact ⟨rfl, _, HL.drop1⟩
          | some r =>
            obtain ⟨Aa, ca, va, La, rfl, hA1, H5⟩ := hx
            obtain ⟨f, q2⟩ := r
            dsimp only at hA1 H5 ⊢
            have h16b : ¬ 16 < d := fun h => by rw [if_pos h] at hfo; cases hfo
            rw [if_neg h16b] at hfo
            have hrg := pr_range s j false d (q + 1 + 1) [] _ hfo.symm
            dsimp only at hrg
            have hq2s : q2 ≤ s.size := hrg.2 (by omega)
            have hq21 : q + 1 + 1 ≤ q2 := hrg.1
            have HFO := Lib.hid hfo; have HA0 := Lib.hid hA1; have H16b := Lib.hid h16b
            clear hfo hrg hA1 h16b H4
            have H5 := H5.perm (List.Perm.cons _ (List.Perm.cons _ (sh4 La _ _ F')))
            have s2 := H5.r3.cell 2 rfl
            have f2 := H5.r3.frozen 2
            go_upto_region 14 with (fail)
            have H6 := H5.r3.set 2 (.slice Aa f.len ca)
            generalize w5.setCell ⟨b6, 2, none⟩ (.slice Aa f.len ca) = w6 at *
            clear s2 f2 H5
            have p0 := H6.cell 0 rfl
            have p1 := H6.cell 1 rfl
            have p2 := H6.cell 2 rfl
            go_upto_region 15 with (at_builtin; refine wpList_append_st (by rfl) _ _ _ (by rfl) 117 i0 (.agg #[.int .i64 0, .bool false, .slice none 0 0]) 3 40 Try.underlying110 hi hz0 hz1 hz2 rfl (by decide) A m c vs ((H6.r4).more _) (by rfl) ⟨_, 0, none⟩ 1 1 [.int .i64 0, .bool true, .slice Aa f.len ca] (by rfl) rfl (World.news_of_block (heap_alloc_new _ _)) (fun u hu => by simp at hu; rcases hu with rfl | rfl | rfl <;> rfl) (by unfold maxLen; omega) (by omega) ?_; intro A4 c4 w4 H4)
            clear p0 p1 p2 H6
            have s1 := H4.r2.cell 1 rfl
            have hOn : o = some (ofArms (l ++ [(0, true, f)]), q2) := by
              rw [HO.out, pr, HKEY.out, Option.bind_some, if_neg (fun h => h.elim (fun h => h H58.out) H16b.out), ← HFO.out, Option.bind_some, if_pos (.inl H45.out), ofArms_snoc, show (pk s q == 45) = true from beq_iff_eq.2 H45.out]; rfl
            have HOn := Lib.hid hOn; clear hOn
            go_wp2_with (fail)
            go_ret
            rw [HOn.out]
            have H9 := H4.r2.tail.r2
            rw [HF'.out] at H9
            have hln : (ofArms (l ++ [(0, true, f)])).len = m + 1 := by rw [ofArms_len, List.length_append, ← HN.out]; rfl
            refine ⟨A4, c4, _, L ++ (Row 112 3 Aa f.len ca va :: La), by rw [hln]; rfl, by rw [ofArms_snoc]; exact HT.out.app (Hd.one_arm HA0.out), ?_⟩
            rw [hln]
            exact H9.perm (List.Perm.cons _ (List.Perm.cons _ (by rw [List.append_assoc]; exact sh3 L La F _)))
    · have z45 : ((pk s q : Int) == 45) = false := beq_eq_false_iff_ne.2 (by omega)
      have H45 := Lib.hid h45; clear h45
      have H2 := H1.alloc #[.int .i64 0, .bool false, .slice none 0 0] 117
      obtain ⟨b6, hb6⟩ : ∃ x, x = w1.heap.size := ⟨_, rfl⟩
      go_upto_region 3 with (fail)
      rw [← hb6] at H2 ⊢
      generalize w1.alloc (.cells #[.int .i64 0, .bool false, .slice none 0 0] 117) = w2 at *
      clear hb6 H1 z45
      have s1 := H2.cell 1 rfl
      have hnp := pnumber_ok b s q hs hqs H2.r2
      obtain ⟨on, hon⟩ : ∃ on, on = numF s q := ⟨_, rfl⟩
      rw [← hon] at hnp
      go_wp2_with (fail)
      refine hnp.mono ?_
      clear hnp
      intro x w4 hx
      cases on with
      | none =>
        obtain ⟨rfl, at2, H4⟩ := hx
        refine ⟨rfl, ?_⟩
        have hno : o = none := by
          rw [HO.out, pr]
          rw [if_neg H45.out, ← hon]; rfl
        rw [hno]
        have HL := H4.r2.tail.r2.tail
        rw [HF'.out] at HL
        exact ⟨rfl, _, HL.drop1⟩
      | some r =>
        obtain ⟨rfl, H4⟩ := hx
        obtain ⟨kn, q1⟩ := r
        dsimp only at H4 ⊢
        have hrg := numF_range hon.symm
        dsimp only at hrg
        have hq1 : q < q1 := by omega
        have hq2 : q1 ≤ s.size := hrg.2.2 (by omega)
        have HNUM := Lib.hid hon; clear hon hrg s1 H2
        have s1 := H4.r2.cell 0 rfl
        have g1 := H4.r2.frozen 0
        go_upto_region 6 with (fail)
        have H3 := (H4.r2.set 0 (.int .i64 kn)).r2
        generalize w4.setCell ⟨b6, 0, none⟩ (.int .i64 kn) = w3 at *
        clear s1 g1 H4
        go_wp2_with (fail)
        go_loopw [27] (fun i wx => ∃ m : Nat, m ≤ n ∧ i = .int .i64 m ∧ Hid (∀ y ∈ l.take m, y.1 ≠ kn) ∧ St w0 wx (Psr b s (q1) :: Pt b6 #[.int .i64 kn, .bool false, .slice none 0 0] 117 :: Row 117 3 A n c vs :: F')) (fun i _ => n - (intOf i).toNat)
        case atStart => exact ⟨0, Nat.zero_le _, rfl, (fun y hy => by simp at hy), H3⟩
        case round =>
          clear H3
          obtain ⟨m, hm, rfl, HK, H3⟩ := hrel
          have s0 := H3.r2.cell 0 rfl
          have s1 := H3.r2.cell 1 rfl
          by_cases hlt : m < n
          · have hmI : (m : Int) < n := by omega
            obtain ⟨x, hx⟩ : ∃ x, l[m]? = some x := ⟨_, List.getElem?_eq_getElem (by rw [← HN.out]; exact hlt)⟩
            obtain ⟨A', c', g1, g2, g3⟩ := arm_get HT.out m x hx
            obtain ⟨g, og, rfl⟩ := H3.r3.row_form (by omega)
            have e0 := H3.r3.row_cell _ g1
            have e1 := H3.r3.row_cell _ g2
            have e2 := H3.r3.row_cell _ g3
            rw [Nat.mul_comm 3 m] at e0 e1 e2
            rw [← Nat.add_assoc] at e1 e2
            have HX := Lib.hid hx
            clear g1 g2 g3 hx
            have H4 := H3.alloc #[.int .i64 x.1, .bool x.2.1, .slice A' x.2.2.len c'] 117
            obtain ⟨b8, hb8⟩ : ∃ x, x = wr.heap.size := ⟨_, rfl⟩
            go_upto_region 9 with (fail)
            rw [← hb8] at H4 ⊢
            generalize wr.alloc (.cells #[.int .i64 x.1, .bool x.2.1, .slice A' x.2.2.len c'] 117) = w4 at *
            clear e0 e1 e2 s0 s1 hb8
            have k0 := H4.cell 0 rfl
            have s0 := H4.r3.cell 0 rfl
            have s1 := H4.r3.cell 1 rfl
            by_cases hkx : x.1 = kn
            · have z : ((x.1 : Int) == (kn : Int)) = true := by rw [hkx]; exact beq_self_eq_true _
              have HKX := Lib.hid hkx; clear hkx
              go_wp2_with (fail)
              refine ⟨rfl, ?_⟩
              have hno : o = none := by
                rw [HO.out, pr]
                rw [if_neg H45.out, ← HNUM.out, Option.bind_some, if_pos (List.mem_map.2 ⟨x, List.mem_of_getElem? HX.out, HKX.out⟩)]; rfl
              rw [hno]
              have HL := H4.tail.r2.tail.r2.tail
              rw [HF'.out] at HL
              exact ⟨rfl, _, HL.drop1⟩
            have z : ((x.1 : Int) == (kn : Int)) = false := beq_eq_false_iff_ne.2 (by omega)
            have HKX := Lib.hid hkx; clear hkx
            go_wp2_with (fail)
            go_roundw
            case rel =>
              refine ⟨m + 1, by omega, by go_num, ?_, H4.tail⟩
              show ∀ y ∈ l.take (m + 1), y.1 ≠ kn
              intro y hy
              rw [List.take_add_one, HX.out] at hy
              rcases List.mem_append.1 hy with hy | hy
              · exact HK.out y hy
              · simp at hy; subst hy; exact HKX.out
            case measure => simp [intOf]; omega
          · obtain rfl : m = n := by omega
            clear s0 s1
            have hkey : (if pk s q = 45 then some (0, q + 1) else (numF s q).bind fun n => if n.1 ∈ l.map (·.1) then none else some n) = some (kn, q1) := by
              rw [if_neg H45.out, ← HNUM.out, Option.bind_some, if_neg]
              intro hmem
              obtain ⟨y, hy, hyk⟩ := List.mem_map.1 hmem
              refine HK.out y ?_ hyk
              rw [HN.out, List.take_length]
              exact hy
            have HKEY := Lib.hid hkey; clear hkey hlt hm HK
            go_wp2_with (fail)
            refine (want_ok b s (q1) 58 hs (by omega) H3).mono ?_
            intro x w4 hx
            by_cases h58 : pk s (q1) = 58
            rotate_left 1
            · rw [beq_eq_false_iff_ne.2 h58] at hx
              obtain ⟨rfl, H4⟩ := hx
              refine ⟨rfl, ?_⟩
              have hno : o = none := by
                rw [HO.out, pr]
                rw [HKEY.out, Option.bind_some, if_pos (.inl h58)]; rfl
              rw [hno]
              have HL := H4.r2.tail.r2.tail
              rw [HF'.out] at HL
              exact ⟨rfl, _, HL.drop1⟩
            rw [beq_iff_eq.2 h58] at hx
            obtain ⟨rfl, H4⟩ := hx
            have hql2 := pk_lt (s := s) (i := q1) (by omega)
            have H58 := Lib.hid h58; clear h58 H3
            have hfm := (IH j (by omega)).1 b d (q1 + 1) w0 w4 _ (by omega) (by omega) (by omega) H4
            obtain ⟨fo, hfo⟩ : ∃ fo, fo = if 16 < d then none else pr s j false d (q1 + 1) [] := ⟨_, rfl⟩
            rw [← hfo] at hfm
            go_wp2_with (fail)
            refine hfm.mono ?_
            clear hfm
            intro x w5 hx
            cases fo with
            | none =>
              obtain ⟨rfl, at2, H5⟩ := hx
              refine ⟨rfl, ?_⟩
              have hno : o = none := by
                rw [HO.out, pr]
                rw [HKEY.out, Option.bind_some]; by_cases hh : 16 < d; (rw [if_pos (.inr hh)]; rfl); (rw [if_neg (fun h => h.elim (fun h => h H58.out) hh)]; rw [if_neg hh] at hfo; rw [← hfo]; rfl)
              rw [hno]
              have HL := H5.r2.tail.r2.tail
              rw [HF'.out] at HL
              exact ⟨rfl, _, HL.drop1⟩
            | some r =>
              obtain ⟨Aa, ca, va, La, rfl, hA1, H5⟩ := hx
              obtain ⟨f, q2⟩ := r
              dsimp only at hA1 H5 ⊢
              have h16b : ¬ 16 < d := fun h => by rw [if_pos h] at hfo; cases hfo
              rw [if_neg h16b] at hfo
              have hrg := pr_range s j false d (q1 + 1) [] _ hfo.symm
              dsimp only at hrg
              have hq2s : q2 ≤ s.size := hrg.2 (by omega)
              have hq21 : q1 + 1 ≤ q2 := hrg.1
              have HFO := Lib.hid hfo; have HA0 := Lib.hid hA1; have H16b := Lib.hid h16b
              clear hfo hrg hA1 h16b H4
              have H5 := H5.perm (List.Perm.cons _ (List.Perm.cons _ (sh4 La _ _ F')))
              have s2 := H5.r3.cell 2 rfl
              have f2 := H5.r3.frozen 2
              go_upto_region 14 with (fail)
              have H6 := H5.r3.set 2 (.slice Aa f.len ca)
              generalize w5.setCell ⟨b6, 2, none⟩ (.slice Aa f.len ca) = w6 at *
              clear s2 f2 H5
              have p0 := H6.cell 0 rfl
              have p1 := H6.cell 1 rfl
              have p2 := H6.cell 2 rfl
              go_upto_region 15 with (at_builtin; refine wpList_append_st (by rfl) _ _ _ (by rfl) 117 i0 (.agg #[.int .i64 0, .bool false, .slice none 0 0]) 3 40 Try.underlying110 hi hz0 hz1 hz2 rfl (by decide) A m c vs ((H6.r4).more _) (by rfl) ⟨_, 0, none⟩ 1 1 [.int .i64 kn, .bool false, .slice Aa f.len ca] (by rfl) rfl (World.news_of_block (heap_alloc_new _ _)) (fun u hu => by simp at hu; rcases hu with rfl | rfl | rfl <;> rfl) (by unfold maxLen; omega) (by omega) ?_; intro A4 c4 w4 H4)
              clear p0 p1 p2 H6
              have s1 := H4.r2.cell 1 rfl
              go_wp2_with (fail)
              refine (peek_ok b s q2 hs H4.r3).mono ?_
              rintro x w7 ⟨rfl, H5⟩
              clear H4 s1
              by_cases h44 : pk s q2 = 44
              rotate_left 1
              · have z : ((pk s q2 : Int) != 44) = true := bne_iff_ne.2 (by omega)
                have H44 := Lib.hid h44; clear h44
                have hOn : o = some (ofArms (l ++ [(kn, false, f)]), q2) := by
                  rw [HO.out, pr, HKEY.out, Option.bind_some, if_neg (fun h => h.elim (fun h => h H58.out) H16b.out), ← HFO.out, Option.bind_some, if_pos (.inr H44.out), ofArms_snoc, show (pk s q == 45) = false from beq_eq_false_iff_ne.2 H45.out]; rfl
                have HOn := Lib.hid hOn; clear hOn
                go_wp2_with (fail)
                go_ret
                rw [HOn.out]
                have H9 := H5.r3.tail
                rw [HF'.out] at H9
                have hln : (ofArms (l ++ [(kn, false, f)])).len = m + 1 := by rw [ofArms_len, List.length_append, ← HN.out]; rfl
                refine ⟨A4, c4, _, L ++ (Row 112 3 Aa f.len ca va :: La), by rw [hln]; rfl, by rw [ofArms_snoc]; exact HT.out.app (Hd.one_arm HA0.out), ?_⟩
                rw [hln]
                exact H9.perm (List.Perm.cons _ (List.Perm.cons _ (by rw [List.append_assoc]; exact sh3 L La F _)))
              have z : ((pk s q2 : Int) != 44) = false := by rw [h44]; rfl
              have hql3 := pk_lt (s := s) (i := q2) (by omega)
              have hOn : o = (pr s j true d (q2 + 1) ((l ++ [(kn, false, f)]).map (·.1))).map fun r => ((ofArms (l ++ [(kn, false, f)])).app r.1, r.2) := by
                rw [HO.out, pr, HKEY.out, Option.bind_some, if_neg (fun h => h.elim (fun h => h H58.out) H16b.out), ← HFO.out, Option.bind_some, if_neg (fun h => h.elim H45.out (fun h => h h44)), ofArms_snoc, List.map_append]
                exact map_app _ _ _ _ (fun _ => rfl)
              have HOn := Lib.hid hOn; clear hOn h44
              have c1 := H5.cell 1 rfl
              have f1 := H5.frozen 1
              have H6 := H5.set 1 (.int .i64 ((q2 : Int) + 1))
              have cz := H6.cell 1 rfl
              go_wp2_with (fail)
              go_roundw
              case rel =>
                have hln : (l ++ [(kn, false, f)]).length = m + 1 := by rw [List.length_append, ← HN.out]; rfl
                have H9 := H6.r3.tail
                rw [HF'.out] at H9
                refine ⟨j, l ++ [(kn, false, f)], q2 + 1, A4, c4, _, L ++ (Row 112 3 Aa f.len ca va :: La), by omega, by omega, hql3, by rw [hln]; omega, HOn.out, by rw [hln], by rw [ofArms_snoc]; exact HT.out.app (Hd.one_arm HA0.out), ?_⟩
                rw [hln]
                exact H9.perm (List.Perm.cons _ (List.Perm.cons _ (by rw [List.append_assoc]; exact sh3 L La F _)))
              case measure =>
                rw [HA.out]
                have : atOf b (w7.setCell ⟨b, 1, none⟩ (.int .i64 ((q2 : Int) + 1))) = q2 + 1 := by unfold atOf; rw [cz]; rfl
                omega
end Go.Proofs.Ytkkpcjpdpjpohaa

/- Layer 9: Get. -/
import Derived.Test.YthdmklmihhallaaCln
import Derived.Test.YthdmklmihhallaaSLW
import Derived.Test.YthdmklmihhallaaSLP
import Derived.Test.YthdmklmihhallaaSLF
import Derived.Deep.DeepCutAuto
import Derived.Outline
namespace Go.Proofs.Ythdmklmihhallaa
open Go.RowKit

def part (l : List Int) (k : Nat) : List Int := l.take k ++ List.replicate (17 - k) 0
theorem part_zero (l : List Int) : part l 0 = List.replicate 17 0 := by simp [part]
theorem part_all (l : List Int) : part l 17 = l.take 17 := by simp [part]
theorem part_length (l : List Int) (k : Nat) (hk : k ≤ 17) (hl : 17 ≤ l.length) : (part l k).length = 17 := by
  rw [part, List.length_append, List.length_take, List.length_replicate]; omega
theorem part_set (l : List Int) (k : Nat) (x : Int) (hk : k < 17) (h : l[k]? = some x) : (part l k).set k x = part l (k + 1) := by
  have hlt := (List.getElem?_eq_some_iff.1 h).1
  have e1 : (l.take k).length = k := by rw [List.length_take]; omega
  have e2 : List.replicate (17 - k) (0 : Int) = 0 :: List.replicate (17 - (k + 1)) 0 := by rw [show 17 - k = (17 - (k + 1)) + 1 by omega]; rfl
  rw [part, part, take_snoc' l k x h, e2, List.set_append_right _ _ (by omega), e1, Nat.sub_self, List.append_assoc]; rfl
theorem ivs_set (l : List Int) (k : Nat) (x : Int) : (ivs l).toArray.setIfInBounds k (.int .i64 x) = (ivs (l.set k x)).toArray := by
  simp only [ivs, List.map_set, iv, List.setIfInBounds_toArray]
theorem results_cell_tmp2 {P : Program} {fn : Func} {p t u : Tmp} {ty : TypeId} (h : fn.results = #[.cell p ty, .tmp t, .tmp u]) (tmps : Array Value) (w : World) (g : Nat) (T : TypeId) (cs : Array Value) (fr : Nat × Nat) (d : TypeDesc)
    (hp : tmps.getD p undef = .pointer (some ⟨g, 0, none⟩)) (hg : w.heap[g]? = some (.cells cs T fr))
    (hu : P.underlying ty = some d) (hd : (match d with | .struct _ | .array _ _ => true | _ => false) = true) (hi : (P.info? ty).map (·.size) = some cs.size) :
    (results fn tmps).run P w = .ok (.tuple #[.agg cs, tmps.getD t undef, tmps.getD u undef]) w := by
  have hp' : tmps[p]?.getD undef = .pointer (some ⟨g, 0, none⟩) := by simpa using hp
  simp [results, h, hp', asAddr, run_loadVar_row w g T ty cs fr d hg hu hd hi]
theorem zero_cells : (ivs (List.replicate 17 0)).toArray = #[.int .i64 0, .int .i64 0, .int .i64 0, .int .i64 0, .int .i64 0, .int .i64 0, .int .i64 0, .int .i64 0, .int .i64 0, .int .i64 0, .int .i64 0, .int .i64 0, .int .i64 0, .int .i64 0, .int .i64 0, .int .i64 0, .int .i64 0] := rfl
set_option maxRecDepth 100000 in
set_option maxHeartbeats 4000000 in
theorem get_no (A : Option Addr) (n c : Nat) (hn : n < 17) (w : World) :
    Calls Try.prog 13 #[.slice A n c] w fun r w' => r = .returned (.tuple #[.agg (ivs (List.replicate 17 0)).toArray, .slice none 0 0, .bool false]) ∧ St w w' [] := by
  have H1 := ((St.init w).alloc (ivs (List.replicate 17 0)).toArray 29).alloc (ivs (List.replicate 17 0)).toArray 29
  have hnI : (n : Int) < 17 := by omega
  rw [zero_cells] at H1
  go_enter Try.func13, Try.ntmps13
  go_wp2_with (fail)
  obtain ⟨b2, hb2⟩ : ∃ b, b = w.heap.size := ⟨_, rfl⟩
  obtain ⟨b5, hb5⟩ : ∃ b, b = w.heap.size + 1 := ⟨_, rfl⟩
  simp only [World.size_alloc] at H1
  rw [← hb5] at H1 ⊢
  rw [← hb2] at H1 ⊢
  clear hb2 hb5
  refine (fields_ok b5 H1).mono ?_
  rintro e w2 ⟨g, rfl, H2⟩
  have H3 := H2.r3
  go_wp2_with (with_reducible refine hold_store ?_)
  unfold Hold
  with_reducible refine wpList_store_st (ty := 29) (H3) ((ivs (List.replicate 17 0)).toArray) ?_ ?_ ?_ ?_ ?_ ?_ ?_
  rfl
  rfl
  rfl
  rfl
  kernel_rfl
  rfl
  intro w3 H4
  go_wp2_with (fail)
  refine bodyPost_ret (results_cell_tmp2 rfl _ _ b2 29 (ivs (List.replicate 17 0)).toArray (0, 0) _ rfl H4.block Try.underlying29 rfl (by kernel_rfl)) rfl ?_
  exact ⟨rfl, H4.tail.tail.tail⟩
theorem add_plain (b o k : Nat) : (⟨b, o, none⟩ : Addr).add k = ⟨b, o + k, none⟩ := by unfold Addr.add; split <;> simp_all
set_option maxRecDepth 100000 in
set_option maxHeartbeats 4000000 in
theorem get_yes (A : Option Addr) (n c : Nat) (l : List Int) (hl : l.length = n) (hn : 17 ≤ n) (hn2 : n ≤ 1099511627776) (hnc : n ≤ c) (hc : c ≤ 9223372036854775807) (w : World) (hr : Rd w A l) :
    Calls Try.prog 13 #[.slice A n c] w fun r w' => ∃ A' c', r = .returned (.tuple #[.agg (ivs (l.take 17)).toArray, .slice A' (n - 17 : Nat) c', .bool true]) ∧ St w w' [Row 3 1 A' (n - 17) c' (ivs (l.drop 17))] := by
  have H1 := ((St.init w).alloc (ivs (List.replicate 17 0)).toArray 29).alloc (ivs (List.replicate 17 0)).toArray 29
  have hnI : decide ((n : Int) < 17) = false := decide_eq_false (by omega)
  obtain ⟨bs, os, hA, hA0⟩ := hr 0 l[0] (List.getElem?_eq_getElem (by omega))
  clear hA0
  subst hA
  have hcell : ∀ k x, l[k]? = some x → ∀ w', St w w' [] → w'.cell? ⟨bs, os + k, none⟩ = some (.int .i64 x) := fun k x hx w' H => by
    obtain ⟨b1, o1, h1, h2⟩ := hr k x hx
    injection h1 with h1; injection h1 with h1 h1'
    subst h1 h1'
    have := H.old (a := ⟨bs, os + k, none⟩) (World.block_lt_of_cell? w _ h2)
    rw [this]; exact h2
  have HL := Lib.hid hl; have HC := Lib.hid hcell; clear hl hr hcell
  rw [zero_cells] at H1
  go_enter Try.func13, Try.ntmps13
  go_wp2_with (fail)
  obtain ⟨b2, hb2⟩ : ∃ b, b = w.heap.size := ⟨_, rfl⟩
  obtain ⟨b5, hb5⟩ : ∃ b, b = w.heap.size + 1 := ⟨_, rfl⟩
  simp only [World.size_alloc] at H1
  rw [← hb5] at H1 ⊢
  rw [← hb2] at H1 ⊢
  clear hb2 hb5
  refine (fields_ok b5 H1).mono ?_
  rintro e w2 ⟨g, rfl, H2⟩
  rw [← zero_cells, ← part_zero l] at H2
  have hpz : (ivs (part l 0)).toArray = (ivs (List.replicate 17 0)).toArray := by rw [part_zero]
  go_wp2_with (fail)
  go_loopw [7, 8, 18] (fun _ _ i wr => ∃ k : Nat, k ≤ 17 ∧ i = .int .i64 k ∧ St w wr [Pt g (ptrs b5).toArray 60, Pt b5 (ivs (part l k)).toArray 29, Pt b2 (ivs (List.replicate 17 0)).toArray 29]) (fun _ _ i _ => 17 - (intOf i).toNat)
  case atStart => exact ⟨0, Nat.zero_le _, rfl, by rw [hpz] at H2; rw [hpz]; exact H2⟩
  case round =>
    obtain ⟨k, hk, rfl, H3⟩ := hrel
    by_cases hlt : k < 17
    · obtain ⟨x, hx⟩ : ∃ x, l[k]? = some x := ⟨_, List.getElem?_eq_getElem (by rw [HL.out]; omega)⟩
      have p0 := H3.cell k (ptrs_get b5 k hlt)
      have p1 := HC.out k x hx wr H3.tail.tail.tail
      have hplen := part_length l k (by omega) (by rw [HL.out]; exact hn)
      obtain ⟨y, hy⟩ : ∃ y, (part l k)[k]? = some y := ⟨_, List.getElem?_eq_getElem (by rw [hplen]; exact hlt)⟩
      have p2 := H3.r2.cell k (ivs_get _ k _ hy)
      have p3 := H3.r2.frozen k
      have hkI : (k : Int) < 17 := by omega
      have hkn : (k : Int) < n := by omega
      have H4 := H3.r2.set k (.int .i64 x)
      rw [ivs_set, part_set l k x hlt hx] at H4
      clear hx hplen hy
      go_wp2_with (fail)
      go_roundw
      case rel => exact ⟨k + 1, by omega, by go_num, H4.r2⟩
      case measure => simp [intOf]; omega
    · obtain rfl : k = 17 := by omega
      rw [part_all] at H3
      clear H1 H2 hlt hk
      go_wp2_with (fail)
      have hzz : (ivs (l.take 17)).length = 17 := by rw [ivs_length, List.length_take, HL.out]; omega
      have HZZ := Lib.hid hzz; clear hzz
      have hnI17 : (17 : Int) ≤ n := by omega
      by_cases hc17 : c = 17
      · refine wp_region_held_drew (S := fun w' => Hid (w'.rangeAt b5 0 (ivs (l.take 17)))) (by kernel_rfl) (Lib.hid H3.drew.r2.range) (fun hHeld => ?_)
        have H4 := H3.drew
        generalize wr.drew = w4 at *
        refine rg_take (i := 0) (v := _) rfl (by kernel_rfl) (by kernel_rfl) (by kernel_rfl) (fun _ _ _ h => h) (yieldsIf_load_mid (by kernel_rfl) 29 _ rfl b5 0 rfl (ivs (l.take 17)) _ (fun w' h => h.out) Try.underlying29 rfl (by rw [HZZ.out]; kernel_rfl)) hHeld ?_
        simp only [Act.put, List.setIfInBounds_toArray, List.set_cons_zero, List.set_cons_succ]
        refine rg_take (i := 1) (v := ?_) rfl (by kernel_rfl) (by kernel_rfl) (by kernel_rfl) (fun _ _ _ h => h) (Or.inl ⟨by kernel_rfl, ?_⟩) (by assumption) ?_
        rotate_left 1
        · intro w' hSw
          try dsimp only at hSw
          go_simp
          first | done | with_reducible rfl
        simp only [Act.put, List.setIfInBounds_toArray, List.set_cons_zero, List.set_cons_succ]
        refine rg_take (i := 2) (v := ?_) rfl (by kernel_rfl) (by kernel_rfl) (by kernel_rfl) (fun _ _ _ h => h) (Or.inl ⟨by kernel_rfl, ?_⟩) (by assumption) ?_
        rotate_left 1
        · intro w' hSw
          try dsimp only at hSw
          go_simp
          first | done | with_reducible rfl
        simp only [Act.put, List.setIfInBounds_toArray, List.set_cons_zero, List.set_cons_succ]
        refine rg_take (i := 3) (v := ?_) rfl (by kernel_rfl) (by kernel_rfl) (by kernel_rfl) (fun _ _ _ h => h) (Or.inl ⟨by kernel_rfl, ?_⟩) (by assumption) ?_
        rotate_left 1
        · intro w' hSw
          try dsimp only at hSw
          go_simp
          first | done | with_reducible rfl
        simp only [Act.put, List.setIfInBounds_toArray, List.set_cons_zero, List.set_cons_succ]
        refine rg_take (i := 4) (v := ?_) rfl (by kernel_rfl) (by kernel_rfl) (by kernel_rfl) (fun _ _ _ h => h) (Or.inl ⟨by kernel_rfl, ?_⟩) (by assumption) ?_
        rotate_left 1
        · intro w' hSw
          try dsimp only at hSw
          go_simp
          first | done | with_reducible rfl
        simp only [Act.put, List.setIfInBounds_toArray, List.set_cons_zero, List.set_cons_succ]
        refine wpAnyH_ready (rs := [5]) (by kernel_rfl) (by simp) ?_
        refine rg_cons rfl (fun K hK => ?_) AllReadyH.nil
        go_simp
        have hsrc : ∀ w', Below w4.heap.size w4 w' → Src w' (some ⟨bs, os, none⟩) (n - 17) (ivs (l.drop 17)) := by
          intro w' hb
          have HH := H4.keep hb
          by_cases h17 : n = 17
          · refine .of (by rw [ivs_length, List.length_drop, HL.out]) fun j u hu => ?_
            rw [List.drop_of_length_le (by rw [HL.out]; omega)] at hu; simp [ivs] at hu
          · refine .of (by rw [ivs_length, List.length_drop, HL.out]) fun j u hu => ?_
            rw [ivs, List.getElem?_map, List.getElem?_drop] at hu
            obtain ⟨x, hx, rfl⟩ := Option.map_eq_some_iff.1 hu
            first
              | exact ⟨bs, os + 17, rfl, by rw [Nat.add_assoc]; exact HC.out _ x hx w' HH.tail.tail.tail⟩
              | (exfalso; omega)
        have hcl := clone_ok (some ⟨bs, os, none⟩) (n - 17) (0) (l.drop 17) (by rw [List.length_drop, HL.out]) (by omega) hsrc H4
        refine hcl.mono ?_
        rintro e w5 ⟨A5, c5, rfl, H5⟩
        refine hK.out _ _ (Lib.hid H5.r3.range) (fun hHeld => ?_)
        clear hK
        try simp only [Act.put, List.setIfInBounds_toArray, List.set_cons_zero, List.set_cons_succ]
        refine wpAnyH_ready (rs := [6]) (by kernel_rfl) (by simp) ?_
        refine rg_cons rfl (fun K hK => ?_) AllReadyH.nil
        refine step_store_st 29 _ _ rfl rfl H5.r4 (ivs (l.take 17)).toArray rfl rfl (by rw [List.size_toArray, HZZ.out]; rfl) (by rw [List.size_toArray, HZZ.out]; kernel_rfl) (List.all_eq_true.2 (ivs_one _)) ?_
        intro w6 H6
        refine hK.out _ _ (Lib.hid H6.r4.range) (fun hHeld => ?_)
        clear hK
        try simp only [Act.put, List.setIfInBounds_toArray, List.set_cons_zero, List.set_cons_succ]
        refine rg_take (i := 7) (v := ?_) rfl (by kernel_rfl) (by kernel_rfl) (by kernel_rfl) (fun _ _ _ h => h) (Or.inl ⟨by kernel_rfl, ?_⟩) (by assumption) ?_
        rotate_left 1
        · intro w' hSw
          try dsimp only at hSw
          go_simp
          first | done | with_reducible rfl
        simp only [Act.put, List.setIfInBounds_toArray, List.set_cons_zero, List.set_cons_succ]
        refine rg_take (i := 8) (v := ?_) rfl (by kernel_rfl) (by kernel_rfl) (by kernel_rfl) (fun _ _ _ h => h) (Or.inl ⟨by kernel_rfl, ?_⟩) (by assumption) ?_
        rotate_left 1
        · intro w' hSw
          try dsimp only at hSw
          go_simp
          first | done | with_reducible rfl
        simp only [Act.put, List.setIfInBounds_toArray, List.set_cons_zero, List.set_cons_succ]
        refine wpAnyH_done (by kernel_rfl) ?_ _
        go_wp2_with (fail)
        refine bodyPost_ret (results_cell_tmp2 rfl _ _ b2 29 (ivs (l.take 17)).toArray (0, 0) _ rfl H6.block Try.underlying29 rfl (by rw [List.size_toArray, HZZ.out]; kernel_rfl)) rfl ?_
        exact ⟨_, _, rfl, (H6.tail.ord 3 [1, 2, 0]).tail.tail⟩
      · refine wp_region_held_drew (S := fun w' => Hid (w'.rangeAt b5 0 (ivs (l.take 17)))) (by kernel_rfl) (Lib.hid H3.drew.r2.range) (fun hHeld => ?_)
        have H4 := H3.drew
        generalize wr.drew = w4 at *
        refine rg_take (i := 0) (v := _) rfl (by kernel_rfl) (by kernel_rfl) (by kernel_rfl) (fun _ _ _ h => h) (yieldsIf_load_mid (by kernel_rfl) 29 _ rfl b5 0 rfl (ivs (l.take 17)) _ (fun w' h => h.out) Try.underlying29 rfl (by rw [HZZ.out]; kernel_rfl)) hHeld ?_
        simp only [Act.put, List.setIfInBounds_toArray, List.set_cons_zero, List.set_cons_succ]
        refine rg_take (i := 1) (v := ?_) rfl (by kernel_rfl) (by kernel_rfl) (by kernel_rfl) (fun _ _ _ h => h) (Or.inl ⟨by kernel_rfl, ?_⟩) (by assumption) ?_
        rotate_left 1
        · intro w' hSw
          try dsimp only at hSw
          go_simp
          first | done | with_reducible rfl
        simp only [Act.put, List.setIfInBounds_toArray, List.set_cons_zero, List.set_cons_succ]
        refine rg_take (i := 2) (v := ?_) rfl (by kernel_rfl) (by kernel_rfl) (by kernel_rfl) (fun _ _ _ h => h) (Or.inl ⟨by kernel_rfl, ?_⟩) (by assumption) ?_
        rotate_left 1
        · intro w' hSw
          try dsimp only at hSw
          go_simp
          first | done | with_reducible rfl
        simp only [Act.put, List.setIfInBounds_toArray, List.set_cons_zero, List.set_cons_succ]
        refine rg_take (i := 3) (v := ?_) rfl (by kernel_rfl) (by kernel_rfl) (by kernel_rfl) (fun _ _ _ h => h) (Or.inl ⟨by kernel_rfl, ?_⟩) (by assumption) ?_
        rotate_left 1
        · intro w' hSw
          try dsimp only at hSw
          go_simp
          first | done | with_reducible rfl
        simp only [Act.put, List.setIfInBounds_toArray, List.set_cons_zero, List.set_cons_succ]
        refine rg_take (i := 4) (v := ?_) rfl (by kernel_rfl) (by kernel_rfl) (by kernel_rfl) (fun _ _ _ h => h) (Or.inl ⟨by kernel_rfl, ?_⟩) (by assumption) ?_
        rotate_left 1
        · intro w' hSw
          try dsimp only at hSw
          go_simp
          first | done | with_reducible rfl
        simp only [Act.put, List.setIfInBounds_toArray, List.set_cons_zero, List.set_cons_succ]
        refine wpAnyH_ready (rs := [5]) (by kernel_rfl) (by simp) ?_
        refine rg_cons rfl (fun K hK => ?_) AllReadyH.nil
        go_simp
        have hsrc : ∀ w', Below w4.heap.size w4 w' → Src w' (some ⟨bs, os + 17, none⟩) (n - 17) (ivs (l.drop 17)) := by
          intro w' hb
          have HH := H4.keep hb
          by_cases h17 : n = 17
          · refine .of (by rw [ivs_length, List.length_drop, HL.out]) fun j u hu => ?_
            rw [List.drop_of_length_le (by rw [HL.out]; omega)] at hu; simp [ivs] at hu
          · refine .of (by rw [ivs_length, List.length_drop, HL.out]) fun j u hu => ?_
            rw [ivs, List.getElem?_map, List.getElem?_drop] at hu
            obtain ⟨x, hx, rfl⟩ := Option.map_eq_some_iff.1 hu
            first
              | exact ⟨bs, os + 17, rfl, by rw [Nat.add_assoc]; exact HC.out _ x hx w' HH.tail.tail.tail⟩
              | (exfalso; omega)
        have hcl := clone_ok (some ⟨bs, os + 17, none⟩) (n - 17) (c - 17) (l.drop 17) (by rw [List.length_drop, HL.out]) (by omega) hsrc H4
        refine hcl.mono ?_
        rintro e w5 ⟨A5, c5, rfl, H5⟩
        refine hK.out _ _ (Lib.hid H5.r3.range) (fun hHeld => ?_)
        clear hK
        try simp only [Act.put, List.setIfInBounds_toArray, List.set_cons_zero, List.set_cons_succ]
        refine wpAnyH_ready (rs := [6]) (by kernel_rfl) (by simp) ?_
        refine rg_cons rfl (fun K hK => ?_) AllReadyH.nil
        refine step_store_st 29 _ _ rfl rfl H5.r4 (ivs (l.take 17)).toArray rfl rfl (by rw [List.size_toArray, HZZ.out]; rfl) (by rw [List.size_toArray, HZZ.out]; kernel_rfl) (List.all_eq_true.2 (ivs_one _)) ?_
        intro w6 H6
        refine hK.out _ _ (Lib.hid H6.r4.range) (fun hHeld => ?_)
        clear hK
        try simp only [Act.put, List.setIfInBounds_toArray, List.set_cons_zero, List.set_cons_succ]
        refine rg_take (i := 7) (v := ?_) rfl (by kernel_rfl) (by kernel_rfl) (by kernel_rfl) (fun _ _ _ h => h) (Or.inl ⟨by kernel_rfl, ?_⟩) (by assumption) ?_
        rotate_left 1
        · intro w' hSw
          try dsimp only at hSw
          go_simp
          first | done | with_reducible rfl
        simp only [Act.put, List.setIfInBounds_toArray, List.set_cons_zero, List.set_cons_succ]
        refine rg_take (i := 8) (v := ?_) rfl (by kernel_rfl) (by kernel_rfl) (by kernel_rfl) (fun _ _ _ h => h) (Or.inl ⟨by kernel_rfl, ?_⟩) (by assumption) ?_
        rotate_left 1
        · intro w' hSw
          try dsimp only at hSw
          go_simp
          first | done | with_reducible rfl
        simp only [Act.put, List.setIfInBounds_toArray, List.set_cons_zero, List.set_cons_succ]
        refine wpAnyH_done (by kernel_rfl) ?_ _
        go_wp2_with (fail)
        refine bodyPost_ret (results_cell_tmp2 rfl _ _ b2 29 (ivs (l.take 17)).toArray (0, 0) _ rfl H6.block Try.underlying29 rfl (by rw [List.size_toArray, HZZ.out]; kernel_rfl)) rfl ?_
        exact ⟨_, _, rfl, (H6.tail.ord 3 [1, 2, 0]).tail.tail⟩
end Go.Proofs.Ythdmklmihhallaa

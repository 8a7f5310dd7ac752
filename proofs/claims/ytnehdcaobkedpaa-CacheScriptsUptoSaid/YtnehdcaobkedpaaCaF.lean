/- Layer 20: a file is learned. -/
import Derived.Test.YtnehdcaobkedpaaCaE
namespace Go.Proofs.Ytnehdcaobkedpaa.Ca
open Go.Proofs.Ytnehdcaobkedpaa
open Go.RowKit
open Go.Maps (Keyed)
open Classical

theorem learn_nil (h : ByteArray) (size id s n now : Int) {w0 w : World} {F : List Assn} (H : St w0 w F) : Calls Try.prog 9 #[.pointer none, .string h, .agg (attrC size id s n), .int .i64 now] w fun r w' => r = .returned (.bool false) ∧ St w0 w' F := by
  go_enter Try.func9, Try.ntmps9
  go_wp2_with (fail)
  go_ret
  exact ⟨rfl, H.more _⟩
/-- did the bytes change? -/
def changed (o : Option FV) (size s n : Int) : Bool := match o with | some f => !(decide (f.size = size) && (decide (f.s = s) && decide (f.n = n))) | none => false
def CS.learn (c : CS) (h : ByteArray) (size id s n now : Int) : CS := { c with nf := c.nf + 1, fm := c.fm.set h ⟨size, id, s, n, now⟩, pm := if changed (c.fm h) size s n = true then c.pm.drop h else c.pm }
set_option maxRecDepth 100000 in
set_option maxHeartbeats 4000000 in
theorem learn_ok (c : CS) (h : ByteArray) (size id s n now : Int) (hh : h.size ≤ maxLen) (hnf : c.nf < maxLen) {w0 w : World} {F : List Assn} (H : St w0 w (c.own F)) :
    Calls Try.prog 9 #[.pointer (some ⟨c.b, 0, none⟩), .string h, .agg (attrC size id s n), .int .i64 now] w fun r w' => r = .returned (.bool (changed (c.fm h) size s n)) ∧ St w0 w' (CS.own (c.learn h size id s n now) F) := by
  obtain ⟨kl, hkl⟩ := key_s h hh
  have hl := (H.more (.cells (attrC size id s n) 30)).r2.mp_look true law_s Try.underlying68 (zero_file _) hkl
  rw [liftF_at] at hl
  unfold CS.learn
  cases hx : c.fm h with
  | none =>
    rw [hx] at hl
    dsimp only [Option.map, lookV] at hl ⊢
    clear hx
    have HA := H.alloc (attrC size id s n) 30
    have HZ := HA.alloc (fileC 0 0 0 0 0) 75
    have s1 := alloc_size w (.cells (attrC size id s n) 30)
    rw [s1] at HZ
    have p1 := HA.r2.cell 1 (v := .map (some c.bf)) rfl
    go_enter Try.func9, Try.ntmps9
    go_wp2_with (with_reducible refine hold_store ?_)
    unfold Hold
    with_reducible refine wpList_store_st (ty := 75) (HZ) (fileC 0 0 0 0 0) ?_ ?_ ?_ ?_ ?_ ?_ ?_
    rfl
    rfl
    rfl
    rfl
    kernel_rfl
    rfl
    intro w1 H2
    clear HZ hl p1 s1 HA
    obtain ⟨b6, h6⟩ : ∃ b6, b6 = w.heap.size := ⟨_, rfl⟩
    rw [← h6] at H2 ⊢
    obtain ⟨b9, h9⟩ : ∃ b9, b9 = b6 + 1 := ⟨_, rfl⟩
    rw [← h9] at H2 ⊢
    clear h6 h9
    go_wp2_with (fail)
    refine wp_region_held_drew (S := fun w' => w'.cell? ⟨c.b, 1, none⟩ = some (.map (some c.bf)) ∧ w'.rangeAt b6 0 (attrC size id s n).toList) (by kernel_rfl) ⟨H2.drew.r3.cell 1 (v := .map (some c.bf)) rfl, H2.drew.r2.range⟩ (fun hHeld => ?_)
    have H3 := H2.drew
    clear H2
    generalize w1.drew = w2 at *
    refine rg_take (i := 0) (v := ?_) rfl (by kernel_rfl) (by kernel_rfl) (by kernel_rfl) (fun _ _ _ h => h) (Or.inl ⟨by kernel_rfl, ?_⟩) (by assumption) ?_
    rotate_left 1
    · intro w' hSw
      try dsimp only at hSw
      go_simp
      first | done | with_reducible rfl
    simp only [Act.put, List.setIfInBounds_toArray, List.set_cons_zero, List.set_cons_succ]
    refine rg_take (i := 1) (v := ?_) rfl (by kernel_rfl) (by kernel_rfl) (by kernel_rfl) (fun _ _ _ h => h) (Or.inl ⟨by kernel_rfl, ?_⟩) (by assumption) ?_
    rotate_left 1
    · intro w' hSw
      try dsimp only at hSw
      go_simp
      first | done | with_reducible rfl
    simp only [Act.put, List.setIfInBounds_toArray, List.set_cons_zero, List.set_cons_succ]
    refine rg_take (i := 2) (v := ?_) rfl (by kernel_rfl) (by kernel_rfl) (by kernel_rfl) (fun _ _ _ h => h) (Or.inl ⟨by kernel_rfl, ?_⟩) (by assumption) ?_
    rotate_left 1
    · intro w' hSw
      try dsimp only at hSw
      go_simp
      first | done | with_reducible rfl
    simp only [Act.put, List.setIfInBounds_toArray, List.set_cons_zero, List.set_cons_succ]
    refine rg_take (i := 3) (v := ?_) rfl (by kernel_rfl) (by kernel_rfl) (by kernel_rfl) (fun _ _ _ h => h) (Or.inl ⟨by kernel_rfl, ?_⟩) (by assumption) ?_
    rotate_left 1
    · intro w' hSw
      try dsimp only at hSw
      go_simp
      first | done | with_reducible rfl
    simp only [Act.put, List.setIfInBounds_toArray, List.set_cons_zero, List.set_cons_succ]
    refine rg_take (i := 4) (v := ?_) rfl (by kernel_rfl) (by kernel_rfl) (by kernel_rfl) (fun _ _ _ h => h) (Or.inl ⟨by kernel_rfl, ?_⟩) (by assumption) ?_
    rotate_left 1
    · intro w' hSw
      try dsimp only at hSw
      go_simp
      first | done | with_reducible rfl
    simp only [Act.put, List.setIfInBounds_toArray, List.set_cons_zero, List.set_cons_succ]
    refine rg_take (i := 5) (v := _) rfl (by kernel_rfl) (by kernel_rfl) (by kernel_rfl) (fun _ _ _ h => h) (yieldsIf_load_mid (by kernel_rfl) 30 _ rfl b6 0 rfl (attrC size id s n).toList _ (fun w' h => h.2) Try.underlying30 rfl (by kernel_rfl)) hHeld ?_
    simp only [Act.put, List.setIfInBounds_toArray, List.set_cons_zero, List.set_cons_succ]
    refine rg_take (i := 6) (v := ?_) rfl (by kernel_rfl) (by kernel_rfl) (by kernel_rfl) (fun _ _ _ h => h) (Or.inl ⟨by kernel_rfl, ?_⟩) (by assumption) ?_
    rotate_left 1
    · intro w' hSw
      try dsimp only at hSw
      go_simp
      first | done | with_reducible rfl
    simp only [Act.put, List.setIfInBounds_toArray, List.set_cons_zero, List.set_cons_succ]
    refine rg_take (i := 7) (v := ?_) rfl (by kernel_rfl) (by kernel_rfl) (by kernel_rfl) (fun _ _ _ h => h) (Or.inl ⟨by kernel_rfl, ?_⟩) (by assumption) ?_
    rotate_left 1
    · intro w' hSw
      try dsimp only at hSw
      go_simp
      first | done | with_reducible rfl
    simp only [Act.put, List.setIfInBounds_toArray, List.set_cons_zero, List.set_cons_succ]
    refine wpAnyH_ready (rs := [8]) (by kernel_rfl) (by simp) ?_
    refine rg_cons rfl (fun K hK => ?_) AllReadyH.nil
    refine step_map_st 68 _ _ _ rfl rfl 9 75 law_s Try.underlying68 H3.r4 rfl hnf (.string h) (FV.val ⟨size, id, s, n, now⟩) rfl rfl kl hkl ⟨_, rfl⟩ ?_
    rw [liftF_set]
    intro w3 H4
    refine hK.out _ _ ⟨H4.r4.cell 1 (v := .map (some c.bf)) rfl, H4.r3.range⟩ (fun hHeld => ?_)
    clear hK
    try simp only [Act.put, List.setIfInBounds_toArray, List.set_cons_zero, List.set_cons_succ]
    refine wpAnyH_done (by kernel_rfl) ?_ _
    clear hHeld H3
    go_wp2_with (fail)
    go_ret
    exact ⟨rfl, (H4.ord 6 [1, 2, 3, 0, 4, 5]).tail.tail⟩
  | some f =>
    rw [hx] at hl
    obtain ⟨fsz, fid, fs, fn, fnow⟩ := f
    dsimp only [Option.map, lookV, FV.val] at hl ⊢
    clear hx
    obtain ⟨chd, hch⟩ : ∃ b, b = changed (some ⟨fsz, fid, fs, fn, fnow⟩) size s n := ⟨_, rfl⟩
    rw [← hch]
    unfold changed at hch
    dsimp only at hch
    have HCH := Lib.hid hch; clear hch
    have HA := H.alloc (attrC size id s n) 30
    have HZ := HA.alloc (fileC 0 0 0 0 0) 75
    have s1 := alloc_size w (.cells (attrC size id s n) 30)
    rw [s1] at HZ
    have p1 := HA.r2.cell 1 (v := .map (some c.bf)) rfl
    go_enter Try.func9, Try.ntmps9
    go_wp2_with (with_reducible refine hold_store ?_)
    unfold Hold
    with_reducible refine wpList_store_st (ty := 75) (HZ) (fileC fsz fid fs fn fnow) ?_ ?_ ?_ ?_ ?_ ?_ ?_
    rfl
    rfl
    rfl
    rfl
    kernel_rfl
    rfl
    intro w1 H2
    clear HZ hl p1 s1 HA
    obtain ⟨b6, h6⟩ : ∃ b6, b6 = w.heap.size := ⟨_, rfl⟩
    rw [← h6] at H2 ⊢
    obtain ⟨b9, h9⟩ : ∃ b9, b9 = b6 + 1 := ⟨_, rfl⟩
    rw [← h9] at H2 ⊢
    clear h6 h9
    go_wp2_with (fail)
    refine wp_region_held_drew (S := fun w' => w'.cell? ⟨c.b, 1, none⟩ = some (.map (some c.bf)) ∧ w'.rangeAt b6 0 (attrC size id s n).toList) (by kernel_rfl) ⟨H2.drew.r3.cell 1 (v := .map (some c.bf)) rfl, H2.drew.r2.range⟩ (fun hHeld => ?_)
    have H3 := H2.drew
    clear H2
    generalize w1.drew = w2 at *
    refine rg_take (i := 0) (v := ?_) rfl (by kernel_rfl) (by kernel_rfl) (by kernel_rfl) (fun _ _ _ h => h) (Or.inl ⟨by kernel_rfl, ?_⟩) (by assumption) ?_
    rotate_left 1
    · intro w' hSw
      try dsimp only at hSw
      go_simp
      first | done | with_reducible rfl
    simp only [Act.put, List.setIfInBounds_toArray, List.set_cons_zero, List.set_cons_succ]
    refine rg_take (i := 1) (v := ?_) rfl (by kernel_rfl) (by kernel_rfl) (by kernel_rfl) (fun _ _ _ h => h) (Or.inl ⟨by kernel_rfl, ?_⟩) (by assumption) ?_
    rotate_left 1
    · intro w' hSw
      try dsimp only at hSw
      go_simp
      first | done | with_reducible rfl
    simp only [Act.put, List.setIfInBounds_toArray, List.set_cons_zero, List.set_cons_succ]
    refine rg_take (i := 2) (v := ?_) rfl (by kernel_rfl) (by kernel_rfl) (by kernel_rfl) (fun _ _ _ h => h) (Or.inl ⟨by kernel_rfl, ?_⟩) (by assumption) ?_
    rotate_left 1
    · intro w' hSw
      try dsimp only at hSw
      go_simp
      first | done | with_reducible rfl
    simp only [Act.put, List.setIfInBounds_toArray, List.set_cons_zero, List.set_cons_succ]
    refine rg_take (i := 3) (v := ?_) rfl (by kernel_rfl) (by kernel_rfl) (by kernel_rfl) (fun _ _ _ h => h) (Or.inl ⟨by kernel_rfl, ?_⟩) (by assumption) ?_
    rotate_left 1
    · intro w' hSw
      try dsimp only at hSw
      go_simp
      first | done | with_reducible rfl
    simp only [Act.put, List.setIfInBounds_toArray, List.set_cons_zero, List.set_cons_succ]
    refine rg_take (i := 4) (v := ?_) rfl (by kernel_rfl) (by kernel_rfl) (by kernel_rfl) (fun _ _ _ h => h) (Or.inl ⟨by kernel_rfl, ?_⟩) (by assumption) ?_
    rotate_left 1
    · intro w' hSw
      try dsimp only at hSw
      go_simp
      first | done | with_reducible rfl
    simp only [Act.put, List.setIfInBounds_toArray, List.set_cons_zero, List.set_cons_succ]
    refine rg_take (i := 5) (v := _) rfl (by kernel_rfl) (by kernel_rfl) (by kernel_rfl) (fun _ _ _ h => h) (yieldsIf_load_mid (by kernel_rfl) 30 _ rfl b6 0 rfl (attrC size id s n).toList _ (fun w' h => h.2) Try.underlying30 rfl (by kernel_rfl)) hHeld ?_
    simp only [Act.put, List.setIfInBounds_toArray, List.set_cons_zero, List.set_cons_succ]
    refine rg_take (i := 6) (v := ?_) rfl (by kernel_rfl) (by kernel_rfl) (by kernel_rfl) (fun _ _ _ h => h) (Or.inl ⟨by kernel_rfl, ?_⟩) (by assumption) ?_
    rotate_left 1
    · intro w' hSw
      try dsimp only at hSw
      go_simp
      first | done | with_reducible rfl
    simp only [Act.put, List.setIfInBounds_toArray, List.set_cons_zero, List.set_cons_succ]
    refine rg_take (i := 7) (v := ?_) rfl (by kernel_rfl) (by kernel_rfl) (by kernel_rfl) (fun _ _ _ h => h) (Or.inl ⟨by kernel_rfl, ?_⟩) (by assumption) ?_
    rotate_left 1
    · intro w' hSw
      try dsimp only at hSw
      go_simp
      first | done | with_reducible rfl
    simp only [Act.put, List.setIfInBounds_toArray, List.set_cons_zero, List.set_cons_succ]
    refine wpAnyH_ready (rs := [8]) (by kernel_rfl) (by simp) ?_
    refine rg_cons rfl (fun K hK => ?_) AllReadyH.nil
    refine step_map_st 68 _ _ _ rfl rfl 9 75 law_s Try.underlying68 H3.r4 rfl hnf (.string h) (FV.val ⟨size, id, s, n, now⟩) rfl rfl kl hkl ⟨_, rfl⟩ ?_
    rw [liftF_set]
    intro w3 H4
    refine hK.out _ _ ⟨H4.r4.cell 1 (v := .map (some c.bf)) rfl, H4.r3.range⟩ (fun hHeld => ?_)
    clear hK
    try simp only [Act.put, List.setIfInBounds_toArray, List.set_cons_zero, List.set_cons_succ]
    refine wpAnyH_done (by kernel_rfl) ?_ _
    clear hHeld H3
    have q5 := H4.r2.cell 5 (v := .int .i64 fsz) rfl
    have q13 := H4.r2.cell 13 (v := .int .i64 fs) rfl
    have q14 := H4.r2.cell 14 (v := .int .i64 fn) rfl
    have r5 := H4.r3.cell 5 (v := .int .i64 size) rfl
    have r13 := H4.r3.cell 13 (v := .int .i64 s) rfl
    have r14 := H4.r3.cell 14 (v := .int .i64 n) rfl
    have H5 : St w0 w3 (CS.own { c with nf := c.nf + 1, fm := c.fm.set h ⟨size, id, s, n, now⟩ } F) := (H4.ord 6 [1, 2, 3, 0, 4, 5]).tail.tail
    clear H4
    have hch := HCH.out; clear HCH
    by_cases e1 : fsz = size
    · by_cases e2 : fs = s
      · by_cases e3 : fn = n
        · rw [decide_eq_true e1, decide_eq_true e2, decide_eq_true e3] at hch
          subst hch e1 e2 e3
          go_wp2_with (fail)
          go_ret
          exact ⟨rfl, H5⟩
        · rw [decide_eq_true e1, decide_eq_true e2, decide_eq_false e3] at hch
          subst hch e1 e2
          go_wp2_with (fail)
          refine (drop_ok _ h H5).mono ?_
          rintro e w4 ⟨rfl, H6⟩
          go_wp2_with (fail)
          go_ret
          exact ⟨rfl, H6⟩
      · rw [decide_eq_true e1, decide_eq_false e2] at hch
        subst hch e1
        cases e3 : decide (fn = n)
        · have e4 := of_decide_eq_false e3
          go_wp2_with (fail)
          refine (drop_ok _ h H5).mono ?_
          rintro e w4 ⟨rfl, H6⟩
          go_wp2_with (fail)
          go_ret
          exact ⟨rfl, H6⟩
        · have e4 := of_decide_eq_true e3
          subst e4
          clear e3
          go_wp2_with (fail)
          refine (drop_ok _ h H5).mono ?_
          rintro e w4 ⟨rfl, H6⟩
          go_wp2_with (fail)
          go_ret
          exact ⟨rfl, H6⟩
    · rw [decide_eq_false e1] at hch
      subst hch
      go_wp2_with (fail)
      refine (drop_ok _ h H5).mono ?_
      rintro e w4 ⟨rfl, H6⟩
      go_wp2_with (fail)
      go_ret
      exact ⟨rfl, H6⟩
end Go.Proofs.Ytnehdcaobkedpaa.Ca

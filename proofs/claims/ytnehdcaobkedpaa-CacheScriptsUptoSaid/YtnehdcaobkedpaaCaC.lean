/- Layer 20: what a name leads to, and what is known of a file. -/
import Derived.Test.YtnehdcaobkedpaaCaB
import Derived.Deep.MidRow
namespace Go.Proofs.Ytnehdcaobkedpaa.Ca
open Go.Proofs.Ytnehdcaobkedpaa
open Go.RowKit
open Go.Maps (Keyed)

set_option maxHeartbeats 4000000 in
theorem name_ok (c : CS) (d s : ByteArray) (now : Int) (hd : d.size ≤ maxLen) (hs : s.size ≤ maxLen) (hn : inI now) (ha : 0 ≤ c.age) (ha2 : inI c.age) (hm : ∀ x, c.nm d s = some x → inI x.2) {w0 w : World} {F : List Assn} (H : St w0 w (c.own F)) :
    Calls Try.prog 13 #[.pointer (some ⟨c.b, 0, none⟩), .string d, .string s, .int .i64 now] w fun r w' => r = .returned (.tuple #[.string (c.nameOf d s now).1, .bool (c.nameOf d s now).2]) ∧ St w0 w' (c.own F) := by
  obtain ⟨kl, hkl⟩ := key_n d s hd hs
  have p2 := H.cell 2 (v := .map (some c.bn)) rfl
  have hl := (H.ord 3 [2, 0, 1]).mp_look true law_n Try.underlying69 (zero_bound w) hkl
  rw [liftN_at] at hl
  clear hkl kl
  unfold CS.nameOf
  cases hx : c.nm d s with
  | none =>
    rw [hx] at hl
    dsimp only [Option.map, lookV] at hl ⊢
    clear hm hx
    have H2 := H.alloc #[.string ByteArray.empty, .int .i64 0] 83
    go_enter Try.func13, Try.ntmps13
    go_wp2_with (fail)
    clear hl p2
    generalize w.heap.size = bx at *
    generalize w.alloc (.cells #[.string ByteArray.empty, .int .i64 0] 83) = w1 at *
    refine wp_region_held_drew (S := fun w' => True) (by kernel_rfl) trivial (fun hHeld => ?_)
    have H3 := H2.drew
    clear H2
    generalize w1.drew = w2 at *
    refine rg_take (i := 0) (v := ?_) rfl (by kernel_rfl) (by kernel_rfl) (by kernel_rfl) (fun _ _ _ h => h) (Or.inl ⟨by kernel_rfl, ?_⟩) (by assumption) ?_
    rotate_left 1
    · intro w' hSw
      try dsimp only at hSw
      go_simp
      first | done | with_reducible rfl
    simp only [Act.put, List.setIfInBounds_toArray, List.set_cons_zero, List.set_cons_succ]
    refine rg_take (i := 1) (v := ?_) rfl (by kernel_rfl) (by kernel_rfl) (by kernel_rfl) (fun _ _ _ h => h) (Or.inl ⟨by kernel_rfl, ?_⟩) (by assumption) ?_
    rotate_left 1
    · intro w' hSw
      try dsimp only at hSw
      go_simp
      first | done | with_reducible rfl
    simp only [Act.put, List.setIfInBounds_toArray, List.set_cons_zero, List.set_cons_succ]
    refine rg_take (i := 2) (v := ?_) rfl (by kernel_rfl) (by kernel_rfl) (by kernel_rfl) (fun _ _ _ h => h) (Or.inl ⟨by kernel_rfl, ?_⟩) (by assumption) ?_
    rotate_left 1
    · intro w' hSw
      try dsimp only at hSw
      go_simp
      first | done | with_reducible rfl
    simp only [Act.put, List.setIfInBounds_toArray, List.set_cons_zero, List.set_cons_succ]
    refine rg_take (i := 3) (v := undef) rfl (by kernel_rfl) (by kernel_rfl) (by kernel_rfl) (fun _ _ _ h => h) (Or.inr ⟨by kernel_rfl, rfl⟩) (by assumption) ?_
    simp only [Act.put, List.setIfInBounds_toArray, List.set_cons_zero, List.set_cons_succ]
    refine rg_take (i := 4) (v := undef) rfl (by kernel_rfl) (by kernel_rfl) (by kernel_rfl) (fun _ _ _ h => h) (Or.inr ⟨by kernel_rfl, rfl⟩) (by assumption) ?_
    simp only [Act.put, List.setIfInBounds_toArray, List.set_cons_zero, List.set_cons_succ]
    refine rg_take (i := 5) (v := undef) rfl (by kernel_rfl) (by kernel_rfl) (by kernel_rfl) (fun _ _ _ h => h) (Or.inr ⟨by kernel_rfl, rfl⟩) (by assumption) ?_
    simp only [Act.put, List.setIfInBounds_toArray, List.set_cons_zero, List.set_cons_succ]
    refine rg_take (i := 6) (v := undef) rfl (by kernel_rfl) (by kernel_rfl) (by kernel_rfl) (fun _ _ _ h => h) (Or.inr ⟨by kernel_rfl, rfl⟩) (by assumption) ?_
    simp only [Act.put, List.setIfInBounds_toArray, List.set_cons_zero, List.set_cons_succ]
    refine rg_take (i := 7) (v := undef) rfl (by kernel_rfl) (by kernel_rfl) (by kernel_rfl) (fun _ _ _ h => h) (Or.inr ⟨by kernel_rfl, rfl⟩) (by assumption) ?_
    simp only [Act.put, List.setIfInBounds_toArray, List.set_cons_zero, List.set_cons_succ]
    refine rg_take (i := 8) (v := undef) rfl (by kernel_rfl) (by kernel_rfl) (by kernel_rfl) (fun _ _ _ h => h) (Or.inr ⟨by kernel_rfl, rfl⟩) (by assumption) ?_
    simp only [Act.put, List.setIfInBounds_toArray, List.set_cons_zero, List.set_cons_succ]
    refine rg_take (i := 9) (v := undef) rfl (by kernel_rfl) (by kernel_rfl) (by kernel_rfl) (fun _ _ _ h => h) (Or.inr ⟨by kernel_rfl, rfl⟩) (by assumption) ?_
    simp only [Act.put, List.setIfInBounds_toArray, List.set_cons_zero, List.set_cons_succ]
    refine rg_take (i := 10) (v := undef) rfl (by kernel_rfl) (by kernel_rfl) (by kernel_rfl) (fun _ _ _ h => h) (Or.inr ⟨by kernel_rfl, rfl⟩) (by assumption) ?_
    simp only [Act.put, List.setIfInBounds_toArray, List.set_cons_zero, List.set_cons_succ]
    refine rg_take (i := 11) (v := undef) rfl (by kernel_rfl) (by kernel_rfl) (by kernel_rfl) (fun _ _ _ h => h) (Or.inr ⟨by kernel_rfl, rfl⟩) (by assumption) ?_
    simp only [Act.put, List.setIfInBounds_toArray, List.set_cons_zero, List.set_cons_succ]
    refine rg_take (i := 12) (v := ?_) rfl (by kernel_rfl) (by kernel_rfl) (by kernel_rfl) (fun _ _ _ h => h) (Or.inl ⟨by kernel_rfl, ?_⟩) (by assumption) ?_
    rotate_left 1
    · intro w' hSw
      try dsimp only at hSw
      go_simp
      first | done | with_reducible rfl
    simp only [Act.put, List.setIfInBounds_toArray, List.set_cons_zero, List.set_cons_succ]
    refine wpAnyH_done (by kernel_rfl) ?_ _
    go_wp2_with (fail)
    go_ret2
    exact ⟨rfl, H3.tail⟩
  | some x =>
    rw [hx] at hl
    obtain ⟨xh, xn⟩ := x
    have hxn := hm _ hx
    dsimp only [Option.map, lookV, valN] at hl ⊢
    clear hm hx
    have H2 := H.alloc #[.string xh, .int .i64 xn] 83
    have fr := fresh_ok xn now c.age hxn hn ha ha2
    obtain ⟨fb, hfb⟩ : ∃ fb, fb = freshB c.age now xn := ⟨_, rfl⟩
    rw [show (decide (xn ≤ now) && decide (now - xn < c.age)) = fb from hfb.symm] at fr
    rw [← hfb]
    have FR := Lib.hid fr
    clear fr hfb
    go_enter Try.func13, Try.ntmps13
    go_wp2_with (fail)
    clear hl p2
    generalize w.heap.size = bx at *
    generalize w.alloc (.cells #[.string xh, .int .i64 xn] 83) = w1 at *
    refine wp_region_held_drew (S := fun w' => w'.cell? ⟨c.b, 0, none⟩ = some (.int .i64 c.age) ∧ w'.cell? ⟨bx, 1, none⟩ = some (.int .i64 xn)) (by kernel_rfl) ⟨H2.drew.r2.cell 0 (v := .int .i64 c.age) rfl, H2.drew.cell 1 (v := .int .i64 xn) rfl⟩ (fun hHeld => ?_)
    have H3 := H2.drew
    clear H2
    generalize w1.drew = w2 at *
    refine rg_take (i := 0) (v := ?_) rfl (by kernel_rfl) (by kernel_rfl) (by kernel_rfl) (fun _ _ _ h => h) (Or.inl ⟨by kernel_rfl, ?_⟩) (by assumption) ?_
    rotate_left 1
    · intro w' hSw
      try dsimp only at hSw
      go_simp
      first | done | with_reducible rfl
    simp only [Act.put, List.setIfInBounds_toArray, List.set_cons_zero, List.set_cons_succ]
    refine rg_take (i := 1) (v := ?_) rfl (by kernel_rfl) (by kernel_rfl) (by kernel_rfl) (fun _ _ _ h => h) (Or.inl ⟨by kernel_rfl, ?_⟩) (by assumption) ?_
    rotate_left 1
    · intro w' hSw
      try dsimp only at hSw
      go_simp
      first | done | with_reducible rfl
    simp only [Act.put, List.setIfInBounds_toArray, List.set_cons_zero, List.set_cons_succ]
    refine rg_take (i := 2) (v := ?_) rfl (by kernel_rfl) (by kernel_rfl) (by kernel_rfl) (fun _ _ _ h => h) (Or.inl ⟨by kernel_rfl, ?_⟩) (by assumption) ?_
    rotate_left 1
    · intro w' hSw
      try dsimp only at hSw
      go_simp
      first | done | with_reducible rfl
    simp only [Act.put, List.setIfInBounds_toArray, List.set_cons_zero, List.set_cons_succ]
    refine rg_take (i := 3) (v := ?_) rfl (by kernel_rfl) (by kernel_rfl) (by kernel_rfl) (fun _ _ _ h => h) (Or.inl ⟨by kernel_rfl, ?_⟩) (by assumption) ?_
    rotate_left 1
    · intro w' hSw
      try dsimp only at hSw
      go_simp
      first | done | with_reducible rfl
    simp only [Act.put, List.setIfInBounds_toArray, List.set_cons_zero, List.set_cons_succ]
    refine rg_take (i := 4) (v := ?_) rfl (by kernel_rfl) (by kernel_rfl) (by kernel_rfl) (fun _ _ _ h => h) (Or.inl ⟨by kernel_rfl, ?_⟩) (by assumption) ?_
    rotate_left 1
    · intro w' hSw
      try dsimp only at hSw
      go_simp
      first | done | with_reducible rfl
    simp only [Act.put, List.setIfInBounds_toArray, List.set_cons_zero, List.set_cons_succ]
    refine rg_take (i := 5) (v := ?_) rfl (by kernel_rfl) (by kernel_rfl) (by kernel_rfl) (fun _ _ _ h => h) (Or.inl ⟨by kernel_rfl, ?_⟩) (by assumption) ?_
    rotate_left 1
    · intro w' hSw
      try dsimp only at hSw
      go_simp
      first | done | with_reducible rfl
    simp only [Act.put, List.setIfInBounds_toArray, List.set_cons_zero, List.set_cons_succ]
    refine rg_take (i := 6) (v := ?_) rfl (by kernel_rfl) (by kernel_rfl) (by kernel_rfl) (fun _ _ _ h => h) (Or.inl ⟨by kernel_rfl, ?_⟩) (by assumption) ?_
    rotate_left 1
    · intro w' hSw
      try dsimp only at hSw
      go_simp
      first | done | with_reducible rfl
    simp only [Act.put, List.setIfInBounds_toArray, List.set_cons_zero, List.set_cons_succ]
    refine rg_take (i := 7) (v := ?_) rfl (by kernel_rfl) (by kernel_rfl) (by kernel_rfl) (fun _ _ _ h => h) (Or.inl ⟨by kernel_rfl, ?_⟩) (by assumption) ?_
    rotate_left 1
    · intro w' hSw
      try dsimp only at hSw
      go_simp
      first | done | with_reducible rfl
    simp only [Act.put, List.setIfInBounds_toArray, List.set_cons_zero, List.set_cons_succ]
    refine rg_take (i := 8) (v := ?_) rfl (by kernel_rfl) (by kernel_rfl) (by kernel_rfl) (fun _ _ _ h => h) (Or.inl ⟨by kernel_rfl, ?_⟩) (by assumption) ?_
    rotate_left 1
    · intro w' hSw
      try dsimp only at hSw
      go_simp
      first | done | with_reducible rfl
    simp only [Act.put, List.setIfInBounds_toArray, List.set_cons_zero, List.set_cons_succ]
    refine rg_take (i := 9) (v := ?_) rfl (by kernel_rfl) (by kernel_rfl) (by kernel_rfl) (fun _ _ _ h => h) (Or.inl ⟨by kernel_rfl, ?_⟩) (by assumption) ?_
    rotate_left 1
    · intro w' hSw
      try dsimp only at hSw
      go_simp
      first | done | with_reducible rfl
    simp only [Act.put, List.setIfInBounds_toArray, List.set_cons_zero, List.set_cons_succ]
    refine wpAnyH_ready (rs := [10]) (by kernel_rfl) (by simp) ?_
    refine rg_cons rfl (fun K hK => ?_) AllReadyH.nil
    go_simp
    refine (FR.out _).mono ?_
    rintro e w3 ⟨rfl, rfl⟩
    refine hK.out _ _ ⟨H3.r2.cell 0 (v := .int .i64 c.age) rfl, H3.cell 1 (v := .int .i64 xn) rfl⟩ (fun hHeld => ?_)
    clear hK
    try simp only [Act.put, List.setIfInBounds_toArray, List.set_cons_zero, List.set_cons_succ]
    refine rg_take (i := 11) (v := ?_) rfl (by kernel_rfl) (by kernel_rfl) (by kernel_rfl) (fun _ _ _ h => h) (Or.inl ⟨by kernel_rfl, ?_⟩) (by assumption) ?_
    rotate_left 1
    · intro w' hSw
      try dsimp only at hSw
      go_simp
      first | done | with_reducible rfl
    simp only [Act.put, List.setIfInBounds_toArray, List.set_cons_zero, List.set_cons_succ]
    refine rg_take (i := 12) (v := ?_) rfl (by kernel_rfl) (by kernel_rfl) (by kernel_rfl) (fun _ _ _ h => h) (Or.inl ⟨by kernel_rfl, ?_⟩) (by assumption) ?_
    rotate_left 1
    · intro w' hSw
      try dsimp only at hSw
      go_simp
      first | done | with_reducible rfl
    simp only [Act.put, List.setIfInBounds_toArray, List.set_cons_zero, List.set_cons_succ]
    refine wpAnyH_done (by kernel_rfl) ?_ _
    have q0 := H3.cell 0 (v := .string xh) rfl
    cases fb with
    | true =>
      go_wp2_with (fail)
      go_ret2
      exact ⟨rfl, H3.tail⟩
    | false =>
      go_wp2_with (fail)
      go_ret2
      exact ⟨rfl, H3.tail⟩
theorem name_nil (d s : ByteArray) (now : Int) (w : World) : Calls Try.prog 13 #[.pointer none, .string d, .string s, .int .i64 now] w fun r w' => r = .returned (.tuple #[.string ByteArray.empty, .bool false]) ∧ w' = w := by
  go_enter Try.func13, Try.ntmps13
  go_wp2_with (fail)
  go_ret2
  exact ⟨rfl, rfl⟩
theorem results_cell1 {P : Program} {fn : Func} {p t : Tmp} {ty : TypeId} (h : fn.results = #[.cell p ty, .tmp t]) (tmps : Array Value) (w : World) (g : Nat) (T : TypeId) (cs : Array Value) (fr : Nat × Nat) (d : TypeDesc)
    (hp : tmps.getD p undef = .pointer (some ⟨g, 0, none⟩)) (hg : w.heap[g]? = some (.cells cs T fr))
    (hu : P.underlying ty = some d) (hd : (match d with | .struct _ | .array _ _ => true | _ => false) = true) (hi : (P.info? ty).map (·.size) = some cs.size) :
    (results fn tmps).run P w = .ok (.tuple #[.agg cs, tmps.getD t undef]) w := by
  have hp' : tmps[p]?.getD undef = .pointer (some ⟨g, 0, none⟩) := by simpa using hp
  simp [results, h, hp', asAddr, run_loadVar_row w g T ty cs fr d hg hu hd hi]
/-- what is known of a file now -/
def CS.attrOf (c : CS) (h : ByteArray) (now : Int) : Array Value × Bool := match c.fm h with | some f => if freshB c.age now f.now = true then (attrC f.size f.id f.s f.n, true) else (attrC 0 0 0 0, false) | none => (attrC 0 0 0 0, false)
set_option maxHeartbeats 4000000 in
theorem attr_ok (c : CS) (h : ByteArray) (now : Int) (hh : h.size ≤ maxLen) (hn : inI now) (ha : 0 ≤ c.age) (ha2 : inI c.age) (hm : ∀ x, c.fm h = some x → inI x.now) {w0 w : World} {F : List Assn} (H : St w0 w (c.own F)) :
    Calls Try.prog 14 #[.pointer (some ⟨c.b, 0, none⟩), .string h, .int .i64 now] w fun r w' => r = .returned (.tuple #[.agg (c.attrOf h now).1, .bool (c.attrOf h now).2]) ∧ St w0 w' (c.own F) := by
  obtain ⟨kl, hkl⟩ := key_s h hh
  have p2 := (H.more (.cells (attrC 0 0 0 0) 30)).cell 1 (v := .map (some c.bf)) rfl
  have hl := (H.more (.cells (attrC 0 0 0 0) 30)).r2.mp_look true law_s Try.underlying68 (zero_file _) hkl
  rw [liftF_at] at hl
  clear hkl kl
  unfold CS.attrOf
  cases hx : c.fm h with
  | none =>
    rw [hx] at hl
    dsimp only [Option.map, lookV] at hl ⊢
    clear hm hx
    have HZ := (H.alloc (attrC 0 0 0 0) 30).alloc (fileC 0 0 0 0 0) 75
    have s1 := alloc_size w (.cells (attrC 0 0 0 0) 30)
    rw [s1] at HZ
    go_enter Try.func14, Try.ntmps14
    go_wp2_with (with_reducible refine hold_store ?_)
    unfold Hold
    with_reducible refine wpList_store_st (ty := 75) (HZ) (fileC 0 0 0 0 0) ?_ ?_ ?_ ?_ ?_ ?_ ?_
    rfl
    rfl
    rfl
    rfl
    kernel_rfl
    rfl
    intro w1 H2
    clear HZ hl p2 s1
    obtain ⟨b6, h6⟩ : ∃ b6, b6 = w.heap.size := ⟨_, rfl⟩
    rw [← h6] at H2 ⊢
    obtain ⟨b8, h8⟩ : ∃ b8, b8 = b6 + 1 := ⟨_, rfl⟩
    rw [← h8] at H2 ⊢
    clear h6 h8
    go_wp2_with (fail)
    refine wp_region_held_drew (S := fun w' => True) (by kernel_rfl) trivial (fun hHeld => ?_)
    have H3 := H2.drew
    clear H2
    generalize w1.drew = w2 at *
    refine rg_take (i := 0) (v := ?_) rfl (by kernel_rfl) (by kernel_rfl) (by kernel_rfl) (fun _ _ _ h => h) (Or.inl ⟨by kernel_rfl, ?_⟩) (by assumption) ?_
    rotate_left 1
    · intro w' hSw
      try dsimp only at hSw
      go_simp
      first | done | with_reducible rfl
    simp only [Act.put, List.setIfInBounds_toArray, List.set_cons_zero, List.set_cons_succ]
    refine rg_take (i := 1) (v := ?_) rfl (by kernel_rfl) (by kernel_rfl) (by kernel_rfl) (fun _ _ _ h => h) (Or.inl ⟨by kernel_rfl, ?_⟩) (by assumption) ?_
    rotate_left 1
    · intro w' hSw
      try dsimp only at hSw
      go_simp
      first | done | with_reducible rfl
    simp only [Act.put, List.setIfInBounds_toArray, List.set_cons_zero, List.set_cons_succ]
    refine rg_take (i := 2) (v := ?_) rfl (by kernel_rfl) (by kernel_rfl) (by kernel_rfl) (fun _ _ _ h => h) (Or.inl ⟨by kernel_rfl, ?_⟩) (by assumption) ?_
    rotate_left 1
    · intro w' hSw
      try dsimp only at hSw
      go_simp
      first | done | with_reducible rfl
    simp only [Act.put, List.setIfInBounds_toArray, List.set_cons_zero, List.set_cons_succ]
    refine rg_take (i := 3) (v := undef) rfl (by kernel_rfl) (by kernel_rfl) (by kernel_rfl) (fun _ _ _ h => h) (Or.inr ⟨by kernel_rfl, rfl⟩) (by assumption) ?_
    simp only [Act.put, List.setIfInBounds_toArray, List.set_cons_zero, List.set_cons_succ]
    refine rg_take (i := 4) (v := undef) rfl (by kernel_rfl) (by kernel_rfl) (by kernel_rfl) (fun _ _ _ h => h) (Or.inr ⟨by kernel_rfl, rfl⟩) (by assumption) ?_
    simp only [Act.put, List.setIfInBounds_toArray, List.set_cons_zero, List.set_cons_succ]
    refine rg_take (i := 5) (v := undef) rfl (by kernel_rfl) (by kernel_rfl) (by kernel_rfl) (fun _ _ _ h => h) (Or.inr ⟨by kernel_rfl, rfl⟩) (by assumption) ?_
    simp only [Act.put, List.setIfInBounds_toArray, List.set_cons_zero, List.set_cons_succ]
    refine rg_take (i := 6) (v := undef) rfl (by kernel_rfl) (by kernel_rfl) (by kernel_rfl) (fun _ _ _ h => h) (Or.inr ⟨by kernel_rfl, rfl⟩) (by assumption) ?_
    simp only [Act.put, List.setIfInBounds_toArray, List.set_cons_zero, List.set_cons_succ]
    refine rg_take (i := 7) (v := undef) rfl (by kernel_rfl) (by kernel_rfl) (by kernel_rfl) (fun _ _ _ h => h) (Or.inr ⟨by kernel_rfl, rfl⟩) (by assumption) ?_
    simp only [Act.put, List.setIfInBounds_toArray, List.set_cons_zero, List.set_cons_succ]
    refine rg_take (i := 8) (v := undef) rfl (by kernel_rfl) (by kernel_rfl) (by kernel_rfl) (fun _ _ _ h => h) (Or.inr ⟨by kernel_rfl, rfl⟩) (by assumption) ?_
    simp only [Act.put, List.setIfInBounds_toArray, List.set_cons_zero, List.set_cons_succ]
    refine rg_take (i := 9) (v := undef) rfl (by kernel_rfl) (by kernel_rfl) (by kernel_rfl) (fun _ _ _ h => h) (Or.inr ⟨by kernel_rfl, rfl⟩) (by assumption) ?_
    simp only [Act.put, List.setIfInBounds_toArray, List.set_cons_zero, List.set_cons_succ]
    refine rg_take (i := 10) (v := undef) rfl (by kernel_rfl) (by kernel_rfl) (by kernel_rfl) (fun _ _ _ h => h) (Or.inr ⟨by kernel_rfl, rfl⟩) (by assumption) ?_
    simp only [Act.put, List.setIfInBounds_toArray, List.set_cons_zero, List.set_cons_succ]
    refine rg_take (i := 11) (v := undef) rfl (by kernel_rfl) (by kernel_rfl) (by kernel_rfl) (fun _ _ _ h => h) (Or.inr ⟨by kernel_rfl, rfl⟩) (by assumption) ?_
    simp only [Act.put, List.setIfInBounds_toArray, List.set_cons_zero, List.set_cons_succ]
    refine rg_take (i := 12) (v := ?_) rfl (by kernel_rfl) (by kernel_rfl) (by kernel_rfl) (fun _ _ _ h => h) (Or.inl ⟨by kernel_rfl, ?_⟩) (by assumption) ?_
    rotate_left 1
    · intro w' hSw
      try dsimp only at hSw
      go_simp
      first | done | with_reducible rfl
    simp only [Act.put, List.setIfInBounds_toArray, List.set_cons_zero, List.set_cons_succ]
    refine wpAnyH_done (by kernel_rfl) ?_ _
    go_wp2_with (with_reducible refine hold_store ?_)
    unfold Hold
    with_reducible refine wpList_store_st (ty := 30) (H3.r2) (attrC 0 0 0 0) ?_ ?_ ?_ ?_ ?_ ?_ ?_
    rfl
    rfl
    rfl
    rfl
    kernel_rfl
    rfl
    intro w4 H4
    go_wp2_with (fail)
    refine bodyPost_ret (results_cell1 rfl _ _ b6 30 (attrC 0 0 0 0) (0, 0) _ rfl H4.block Try.underlying30 rfl (by kernel_rfl)) rfl ?_
    exact ⟨rfl, H4.tail.tail⟩
  | some f =>
    rw [hx] at hl
    have hxn := hm _ hx
    obtain ⟨fsz, fid, fs, fn, fnow⟩ := f
    dsimp only [Option.map, lookV, FV.val] at hl hxn ⊢
    clear hm hx
    have fr := fresh_ok fnow now c.age hxn hn ha ha2
    obtain ⟨fb, hfb⟩ : ∃ fb, fb = freshB c.age now fnow := ⟨_, rfl⟩
    rw [show (decide (fnow ≤ now) && decide (now - fnow < c.age)) = fb from hfb.symm] at fr
    rw [← hfb]
    have FR := Lib.hid fr
    clear fr hfb
    have HZ := (H.alloc (attrC 0 0 0 0) 30).alloc (fileC 0 0 0 0 0) 75
    have s1 := alloc_size w (.cells (attrC 0 0 0 0) 30)
    rw [s1] at HZ
    go_enter Try.func14, Try.ntmps14
    go_wp2_with (with_reducible refine hold_store ?_)
    unfold Hold
    with_reducible refine wpList_store_st (ty := 75) (HZ) (fileC fsz fid fs fn fnow) ?_ ?_ ?_ ?_ ?_ ?_ ?_
    rfl
    rfl
    rfl
    rfl
    kernel_rfl
    rfl
    intro w1 H2
    clear HZ hl p2 s1
    obtain ⟨b6, h6⟩ : ∃ b6, b6 = w.heap.size := ⟨_, rfl⟩
    rw [← h6] at H2 ⊢
    obtain ⟨b8, h8⟩ : ∃ b8, b8 = b6 + 1 := ⟨_, rfl⟩
    rw [← h8] at H2 ⊢
    clear h6 h8
    go_wp2_with (fail)
    refine wp_region_held_drew (S := fun w' => w'.cell? ⟨c.b, 0, none⟩ = some (.int .i64 c.age) ∧ w'.cell? ⟨b8, 17, none⟩ = some (.int .i64 fnow)) (by kernel_rfl) ⟨H2.drew.r3.cell 0 (v := .int .i64 c.age) rfl, H2.drew.cell 17 (v := .int .i64 fnow) rfl⟩ (fun hHeld => ?_)
    have H3 := H2.drew
    clear H2
    generalize w1.drew = w2 at *
    refine rg_take (i := 0) (v := ?_) rfl (by kernel_rfl) (by kernel_rfl) (by kernel_rfl) (fun _ _ _ h => h) (Or.inl ⟨by kernel_rfl, ?_⟩) (by assumption) ?_
    rotate_left 1
    · intro w' hSw
      try dsimp only at hSw
      go_simp
      first | done | with_reducible rfl
    simp only [Act.put, List.setIfInBounds_toArray, List.set_cons_zero, List.set_cons_succ]
    refine rg_take (i := 1) (v := ?_) rfl (by kernel_rfl) (by kernel_rfl) (by kernel_rfl) (fun _ _ _ h => h) (Or.inl ⟨by kernel_rfl, ?_⟩) (by assumption) ?_
    rotate_left 1
    · intro w' hSw
      try dsimp only at hSw
      go_simp
      first | done | with_reducible rfl
    simp only [Act.put, List.setIfInBounds_toArray, List.set_cons_zero, List.set_cons_succ]
    refine rg_take (i := 2) (v := ?_) rfl (by kernel_rfl) (by kernel_rfl) (by kernel_rfl) (fun _ _ _ h => h) (Or.inl ⟨by kernel_rfl, ?_⟩) (by assumption) ?_
    rotate_left 1
    · intro w' hSw
      try dsimp only at hSw
      go_simp
      first | done | with_reducible rfl
    simp only [Act.put, List.setIfInBounds_toArray, List.set_cons_zero, List.set_cons_succ]
    refine rg_take (i := 3) (v := ?_) rfl (by kernel_rfl) (by kernel_rfl) (by kernel_rfl) (fun _ _ _ h => h) (Or.inl ⟨by kernel_rfl, ?_⟩) (by assumption) ?_
    rotate_left 1
    · intro w' hSw
      try dsimp only at hSw
      go_simp
      first | done | with_reducible rfl
    simp only [Act.put, List.setIfInBounds_toArray, List.set_cons_zero, List.set_cons_succ]
    refine rg_take (i := 4) (v := ?_) rfl (by kernel_rfl) (by kernel_rfl) (by kernel_rfl) (fun _ _ _ h => h) (Or.inl ⟨by kernel_rfl, ?_⟩) (by assumption) ?_
    rotate_left 1
    · intro w' hSw
      try dsimp only at hSw
      go_simp
      first | done | with_reducible rfl
    simp only [Act.put, List.setIfInBounds_toArray, List.set_cons_zero, List.set_cons_succ]
    refine rg_take (i := 5) (v := ?_) rfl (by kernel_rfl) (by kernel_rfl) (by kernel_rfl) (fun _ _ _ h => h) (Or.inl ⟨by kernel_rfl, ?_⟩) (by assumption) ?_
    rotate_left 1
    · intro w' hSw
      try dsimp only at hSw
      go_simp
      first | done | with_reducible rfl
    simp only [Act.put, List.setIfInBounds_toArray, List.set_cons_zero, List.set_cons_succ]
    refine rg_take (i := 6) (v := ?_) rfl (by kernel_rfl) (by kernel_rfl) (by kernel_rfl) (fun _ _ _ h => h) (Or.inl ⟨by kernel_rfl, ?_⟩) (by assumption) ?_
    rotate_left 1
    · intro w' hSw
      try dsimp only at hSw
      go_simp
      first | done | with_reducible rfl
    simp only [Act.put, List.setIfInBounds_toArray, List.set_cons_zero, List.set_cons_succ]
    refine rg_take (i := 7) (v := ?_) rfl (by kernel_rfl) (by kernel_rfl) (by kernel_rfl) (fun _ _ _ h => h) (Or.inl ⟨by kernel_rfl, ?_⟩) (by assumption) ?_
    rotate_left 1
    · intro w' hSw
      try dsimp only at hSw
      go_simp
      first | done | with_reducible rfl
    simp only [Act.put, List.setIfInBounds_toArray, List.set_cons_zero, List.set_cons_succ]
    refine rg_take (i := 8) (v := ?_) rfl (by kernel_rfl) (by kernel_rfl) (by kernel_rfl) (fun _ _ _ h => h) (Or.inl ⟨by kernel_rfl, ?_⟩) (by assumption) ?_
    rotate_left 1
    · intro w' hSw
      try dsimp only at hSw
      go_simp
      first | done | with_reducible rfl
    simp only [Act.put, List.setIfInBounds_toArray, List.set_cons_zero, List.set_cons_succ]
    refine rg_take (i := 9) (v := ?_) rfl (by kernel_rfl) (by kernel_rfl) (by kernel_rfl) (fun _ _ _ h => h) (Or.inl ⟨by kernel_rfl, ?_⟩) (by assumption) ?_
    rotate_left 1
    · intro w' hSw
      try dsimp only at hSw
      go_simp
      first | done | with_reducible rfl
    simp only [Act.put, List.setIfInBounds_toArray, List.set_cons_zero, List.set_cons_succ]
    refine wpAnyH_ready (rs := [10]) (by kernel_rfl) (by simp) ?_
    refine rg_cons rfl (fun K hK => ?_) AllReadyH.nil
    go_simp
    refine (FR.out _).mono ?_
    rintro e w3 ⟨rfl, rfl⟩
    refine hK.out _ _ ⟨H3.r3.cell 0 (v := .int .i64 c.age) rfl, H3.cell 17 (v := .int .i64 fnow) rfl⟩ (fun hHeld => ?_)
    clear hK
    try simp only [Act.put, List.setIfInBounds_toArray, List.set_cons_zero, List.set_cons_succ]
    refine rg_take (i := 11) (v := ?_) rfl (by kernel_rfl) (by kernel_rfl) (by kernel_rfl) (fun _ _ _ h => h) (Or.inl ⟨by kernel_rfl, ?_⟩) (by assumption) ?_
    rotate_left 1
    · intro w' hSw
      try dsimp only at hSw
      go_simp
      first | done | with_reducible rfl
    simp only [Act.put, List.setIfInBounds_toArray, List.set_cons_zero, List.set_cons_succ]
    refine rg_take (i := 12) (v := ?_) rfl (by kernel_rfl) (by kernel_rfl) (by kernel_rfl) (fun _ _ _ h => h) (Or.inl ⟨by kernel_rfl, ?_⟩) (by assumption) ?_
    rotate_left 1
    · intro w' hSw
      try dsimp only at hSw
      go_simp
      first | done | with_reducible rfl
    simp only [Act.put, List.setIfInBounds_toArray, List.set_cons_zero, List.set_cons_succ]
    refine wpAnyH_done (by kernel_rfl) ?_ _
    cases fb with
    | true =>
      go_wp2_with (with_reducible refine hold_load ?_)
      unfold Hold
      refine wpList_load_mid rfl 30 _ rfl b8 0 rfl (attrC fsz fid fs fn).toList _ (fun j v hv => by rw [Nat.zero_add]; exact H3.cell j (by rcases j with _ | _ | _ | _ | _ | _ | _ | _ | _ | _ | _ | _ | _ | _ | _ | _ | _ | j <;> first | exact hv | (simp at hv))) Try.underlying30 rfl (by kernel_rfl) ?_
      go_wp2_with (with_reducible refine hold_store ?_)
      unfold Hold
      with_reducible refine wpList_store_st (ty := 30) (H3.r2) (attrC fsz fid fs fn) ?_ ?_ ?_ ?_ ?_ ?_ ?_
      rfl
      rfl
      rfl
      rfl
      kernel_rfl
      rfl
      intro w4 H4
      go_wp2_with (fail)
      refine bodyPost_ret (results_cell1 rfl _ _ b6 30 (attrC fsz fid fs fn) (0, 0) _ rfl H4.block Try.underlying30 rfl (by kernel_rfl)) rfl ?_
      exact ⟨rfl, H4.tail.tail⟩
    | false =>
      go_wp2_with (with_reducible refine hold_store ?_)
      unfold Hold
      with_reducible refine wpList_store_st (ty := 30) (H3.r2) (attrC 0 0 0 0) ?_ ?_ ?_ ?_ ?_ ?_ ?_
      rfl
      rfl
      rfl
      rfl
      kernel_rfl
      rfl
      intro w4 H4
      go_wp2_with (fail)
      refine bodyPost_ret (results_cell1 rfl _ _ b6 30 (attrC 0 0 0 0) (0, 0) _ rfl H4.block Try.underlying30 rfl (by kernel_rfl)) rfl ?_
      exact ⟨rfl, H4.tail.tail⟩
end Go.Proofs.Ytnehdcaobkedpaa.Ca

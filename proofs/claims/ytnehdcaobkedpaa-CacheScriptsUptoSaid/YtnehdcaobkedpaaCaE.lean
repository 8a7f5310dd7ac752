/- Layer 20: a file's pieces are forgotten, or all of it; a file is learned. -/
import Derived.Test.YtnehdcaobkedpaaCaD
namespace Go.Proofs.Ytnehdcaobkedpaa.Ca
open Go.Proofs.Ytnehdcaobkedpaa
open Go.RowKit
open Go.Maps (Keyed)
open Classical

def PM.drop (m : PM) (h : ByteArray) : PM := fun x k => if x = h then none else m x k
def FM.del (m : FM) (h : ByteArray) : FM := fun x => if x = h then none else m x
def NM.drop (m : NM) (h : ByteArray) : NM := fun x y => match m x y with | some q => if x = h ∨ q.1 = h then none else some q | none => none
theorem liftF_del (m : FM) (h : ByteArray) : mdel (liftF m) (.string h) = liftF (m.del h) := by
  funext x
  unfold mdel
  split
  · rename_i e; subst e; rw [liftF_at]; unfold FM.del; rw [if_pos rfl]; rfl
  · rename_i e
    unfold liftF
    cases hx : unS x with
    | none => rfl
    | some y =>
      have := unS_eq hx
      subst this
      simp only [Option.bind_some]
      unfold FM.del
      rw [if_neg (fun q => e (by rw [q]))]
theorem liftP_drop (m : PM) (h : ByteArray) : mstrike (liftP m) (pdP h) = liftP (m.drop h) := by
  funext x
  unfold mstrike liftP pdP
  cases hx : un2i x with
  | none => rfl
  | some y =>
    simp only [Option.bind_some]
    unfold PM.drop
    by_cases e : y.1 = h
    · rw [if_pos e]
      cases m y.1 y.2 with
      | none => rfl
      | some v => simp [e]
    · rw [if_neg e]
      cases m y.1 y.2 with
      | none => rfl
      | some v => simp [e]
theorem liftN_drop (m : NM) (h : ByteArray) : mstrike (liftN m) (pdN h) = liftN (m.drop h) := by
  funext x
  unfold mstrike liftN
  cases hx : un2 x with
  | none => rfl
  | some y =>
    simp only [Option.bind_some]
    unfold NM.drop pdN
    rw [hx]
    cases hq : m y.1 y.2 with
    | none => rfl
    | some q =>
      simp only [Option.map_some]
      rw [show un2i (valN q) = some q from rfl]
      dsimp only
      by_cases e : y.1 = h ∨ q.1 = h
      · rw [if_pos e, if_pos (by simpa using e)]; rfl
      · rw [if_neg e, if_neg (by simpa using e)]; rfl
set_option maxHeartbeats 4000000 in
theorem drop_ok (c : CS) (h : ByteArray) {w0 w : World} {F : List Assn} (H : St w0 w (c.own F)) :
    Calls Try.prog 24 #[.pointer (some ⟨c.b, 0, none⟩), .string h] w fun r w' => r = .returned (.tuple #[]) ∧ St w0 w' (CS.own { c with pm := c.pm.drop h } F) := by
  have H1 := H.alloc #[.string h] 9
  have p2 := H1.r2.cell 3 (v := .map (some c.bp)) rfl
  have H2 := H1.ord 5 [4, 0, 1, 2, 3]
  obtain ⟨D, hown, hl⟩ := H2.mp_owns
  have hne : w.heap.size ≠ c.bp := by have := (H.ord 4 [3, 0, 1, 2]).mp_ge; omega
  have hd := delp_ok w.heap.size h c.bp c.np D _ hown (H1.cell 0 rfl) hne
  go_enter Try.func24, Try.ntmps24
  go_wp2_with (fail)
  refine hd.mono ?_
  rintro e w1 ⟨rfl, h1, h2⟩
  have H3 := H2.mp_strike law_p (pdP h) hown hl h1 h2
  rw [liftP_drop] at H3
  go_wp2_with (fail)
  go_end0
  exact ⟨rfl, (H3.ord 5 [1, 2, 3, 4, 0]).tail⟩
theorem forget_nil (h : ByteArray) {w0 w : World} {F : List Assn} (H : St w0 w F) : Calls Try.prog 22 #[.pointer none, .string h] w fun r w' => r = .returned (.tuple #[]) ∧ St w0 w' F := by
  go_enter Try.func22, Try.ntmps22
  go_wp2_with (fail)
  refine bodyPost_ret (results_none (by rfl) _ _ _) rfl ?_
  exact ⟨rfl, H.more _⟩
set_option maxHeartbeats 4000000 in
theorem forget_ok (c : CS) (h : ByteArray) (hh : h.size ≤ maxLen) {w0 w : World} {F : List Assn} (H : St w0 w (c.own F)) :
    Calls Try.prog 22 #[.pointer (some ⟨c.b, 0, none⟩), .string h] w fun r w' => r = .returned (.tuple #[]) ∧ St w0 w' (CS.own { c with fm := c.fm.del h, nm := c.nm.drop h, pm := c.pm.drop h } F) := by
  obtain ⟨kl, hkl⟩ := key_s h hh
  have H1 := H.alloc #[.string h] 9
  go_enter Try.func22, Try.ntmps22
  go_wp2_with (fail)
  have hge := H.ord 3 [2, 0, 1]
  have hne : w.heap.size ≠ c.bn := by have := hge.mp_ge; omega
  clear hge
  generalize w.heap.size = bx at *
  generalize w.alloc (.cells #[.string h] 9) = w1 at *
  refine wp_region_held_drew (S := fun w' => w'.cell? ⟨c.b, 1, none⟩ = some (.map (some c.bf)) ∧ w'.cell? ⟨bx, 0, none⟩ = some (.string h)) (by kernel_rfl) ⟨H1.drew.r2.cell 1 (v := .map (some c.bf)) rfl, H1.drew.cell 0 (v := .string h) rfl⟩ (fun hHeld => ?_)
  have H2 := H1.drew
  clear H1
  generalize w1.drew = w2 at *
  refine rg_take (i := 0) (v := ?_) rfl (by kernel_rfl) (by kernel_rfl) (by kernel_rfl) (fun _ _ _ h => h) (Or.inl ⟨by kernel_rfl, ?_⟩) (by assumption) ?_
  rotate_left 1
  · intro w' hSw
    try dsimp only at hSw
    go_simp
    first | done | with_reducible rfl
  simp only [Act.put, List.setIfInBounds_toArray, List.set_cons_zero, List.set_cons_succ]
  refine rg_take (i := 1) (v := ?_) rfl (by kernel_rfl) (by kernel_rfl) (by kernel_rfl) (fun _ _ _ h => h) (Or.inl ⟨by kernel_rfl, ?_⟩) (by assumption) ?_
  rotate_left 1
  · intro w' hSw
    try dsimp only at hSw
    go_simp
    first | done | with_reducible rfl
  simp only [Act.put, List.setIfInBounds_toArray, List.set_cons_zero, List.set_cons_succ]
  refine rg_take (i := 2) (v := ?_) rfl (by kernel_rfl) (by kernel_rfl) (by kernel_rfl) (fun _ _ _ h => h) (Or.inl ⟨by kernel_rfl, ?_⟩) (by assumption) ?_
  rotate_left 1
  · intro w' hSw
    try dsimp only at hSw
    go_simp
    first | done | with_reducible rfl
  simp only [Act.put, List.setIfInBounds_toArray, List.set_cons_zero, List.set_cons_succ]
  refine rg_take (i := 3) (v := ?_) rfl (by kernel_rfl) (by kernel_rfl) (by kernel_rfl) (fun _ _ _ h => h) (Or.inl ⟨by kernel_rfl, ?_⟩) (by assumption) ?_
  rotate_left 1
  · intro w' hSw
    try dsimp only at hSw
    go_simp
    first | done | with_reducible rfl
  simp only [Act.put, List.setIfInBounds_toArray, List.set_cons_zero, List.set_cons_succ]
  refine rg_take (i := 4) (v := ?_) rfl (by kernel_rfl) (by kernel_rfl) (by kernel_rfl) (fun _ _ _ h => h) (Or.inl ⟨by kernel_rfl, ?_⟩) (by assumption) ?_
  rotate_left 1
  · intro w' hSw
    try dsimp only at hSw
    go_simp
    first | done | with_reducible rfl
  simp only [Act.put, List.setIfInBounds_toArray, List.set_cons_zero, List.set_cons_succ]
  refine wpAnyH_ready (rs := [5]) (by kernel_rfl) (by simp) ?_
  refine rg_cons rfl (fun K hK => ?_) AllReadyH.nil
  refine step_delete_st 68 9 _ _ rfl rfl 75 law_s Try.underlying68 H2.r3 rfl (.string h) rfl kl hkl ?_
  rw [liftF_del]
  intro w3 H3
  refine hK.out _ _ ⟨H3.r3.cell 1 (v := .map (some c.bf)) rfl, H3.r2.cell 0 (v := .string h) rfl⟩ (fun hHeld => ?_)
  clear hK
  try simp only [Act.put, List.setIfInBounds_toArray, List.set_cons_zero, List.set_cons_succ]
  refine wpAnyH_done (by kernel_rfl) ?_ _
  have H4 : St w0 w3 (CS.own { c with fm := c.fm.del h } (Pt bx #[.string h] 9 :: F)) := H3.ord 5 [2, 0, 3, 4, 1]
  clear H3 H2 hHeld
  have q0 := (H4.ord 5 [4, 0, 1, 2, 3]).cell 0 (v := .string h) rfl
  go_wp2_with (fail)
  refine (drop_ok _ h H4).mono ?_
  clear q0
  rintro e w4 ⟨rfl, H5⟩
  have H6 := H5.ord 5 [2, 0, 1, 3, 4]
  have q0 := (H5.ord 5 [4, 0, 1, 2, 3]).cell 0 (v := .string h) rfl
  have q1 := H5.cell 2 (v := .map (some c.bn)) rfl
  obtain ⟨D, hown, hl⟩ := H6.mp_owns
  have hd := deln_ok bx h c.bn c.nn D _ hown q0 hne
  go_wp2_with (fail)
  refine hd.mono ?_
  rintro e w5 ⟨rfl, h1, h2⟩
  have H7 := H6.mp_strike law_n (pdN h) hown hl h1 h2
  rw [liftN_drop] at H7
  go_wp2_with (fail)
  go_end0
  exact ⟨rfl, H7.ord 4 [1, 2, 0, 3] |>.ord 5 [4, 0, 1, 2, 3] |>.tail⟩
end Go.Proofs.Ytnehdcaobkedpaa.Ca

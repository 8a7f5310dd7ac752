/- Layer 20: a file's pieces are forgotten, or all of it; a file is learned. -/
import Derived.Test.YtaifncebakbinaaCaD
namespace Go.Proofs.Ytaifncebakbinaa.Ca
open Go.Proofs.Ytaifncebakbinaa
open Go.RowKit
open Go.Maps (Keyed)
open Classical

def PM.drop (m : PM) (h : ByteArray) : PM := fun x k => if x = h then none else m x k
def FM.del (m : FM) (h : ByteArray) : FM := fun x => if x = h then none else m x
def NM.drop (m : NM) (h : ByteArray) : NM := fun x y => match m x y with | some q => if x = h ∨ q.1 = h then none else some q | none => none
theorem liftF_del (m : FM) (h : ByteArray) : mdel (liftF m) (.string h) = liftF (m.del h) := by
  funext x
  unfold mdel
  split
  · rename_i e; subst e; rw [liftF_at]; unfold FM.del; rw [if_pos rfl]; rfl
  · rename_i e
    unfold liftF
    cases hx : unS x with
    | none => rfl
    | some y =>
      have := unS_eq hx
      subst this
      simp only [Option.bind_some]
      unfold FM.del
      rw [if_neg (fun q => e (by rw [q]))]
theorem liftP_drop (m : PM) (h : ByteArray) : mstrike (liftP m) (pdP h) = liftP (m.drop h) := by
  funext x
  unfold mstrike liftP pdP
  cases hx : un2i x with
  | none => rfl
  | some y =>
    simp only [Option.bind_some]
    unfold PM.drop
    by_cases e : y.1 = h
    · rw [if_pos e]
      cases m y.1 y.2 with
      | none => rfl
      | some v => simp [e]
    · rw [if_neg e]
      cases m y.1 y.2 with
      | none => rfl
      | some v => simp [e]
theorem liftN_drop (m : NM) (h : ByteArray) : mstrike (liftN m) (pdN h) = liftN (m.drop h) := by
  funext x
  unfold mstrike liftN
  cases hx : un2 x with
  | none => rfl
  | some y =>
    simp only [Option.bind_some]
    unfold NM.drop pdN
    rw [hx]
    cases hq : m y.1 y.2 with
    | none => rfl
    | some q =>
      simp only [Option.map_some]
      rw [show un2i (valN q) = some q from rfl]
      dsimp only
      by_cases e : y.1 = h ∨ q.1 = h
      · rw [if_pos e, if_pos (by simpa using e)]; rfl
      · rw [if_neg e, if_neg (by simpa using e)]; rfl
set_option maxHeartbeats 4000000 in
theorem drop_ok (c : CS) (h : ByteArray) {w0 w : World} {F : List Assn} (H : St w0 w (c.own F)) :
    Calls Try.prog 44 #[.pointer (some ⟨c.b, 0, none⟩), .string h] w fun r w' => r = .returned (.tuple #[]) ∧ St w0 w' (CS.own { c with pm := c.pm.drop h } F) := by
  have H1 := H.alloc #[.string h] 9
  have p2 := H1.r2.cell 3 (v := .map (some c.bp)) rfl
  have H2 := H1.ord 5 [4, 0, 1, 2, 3]
  obtain ⟨D, hown, hl⟩ := H2.mp_owns
  have hne : w.heap.size ≠ c.bp := by have := (H.ord 4 [3, 0, 1, 2]).mp_ge; omega
  have hd := delp_ok w.heap.size h c.bp c.np D _ hown (H1.cell 0 rfl) hne
  go_enter Try.func44, Try.ntmps44
  go_wp2_with (fail)
  refine hd.mono ?_
  rintro e w1 ⟨rfl, h1, h2⟩
  have H3 := H2.mp_strike law_p (pdP h) hown hl h1 h2
  rw [liftP_drop] at H3
  go_wp2_with (fail)
  go_end0
  exact ⟨rfl, (H3.ord 5 [1, 2, 3, 4, 0]).tail⟩
end Go.Proofs.Ytaifncebakbinaa.Ca

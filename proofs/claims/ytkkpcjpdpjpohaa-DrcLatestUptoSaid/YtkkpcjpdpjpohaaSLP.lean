/- What is owned, in another order. -/
import Derived.Test.YtkkpcjpdpjpohaaSL
namespace Go.Proofs.Ytkkpcjpdpjpohaa
open Go.RowKit

theorem Own.perm {base : Nat} {w : World} {L L' : List Assn} (h : L.Perm L') : ∀ hs, Own base w L hs → ∃ hs', Own base w L' hs' ∧ ∀ k, k ∈ hs ↔ k ∈ hs' := by
  induction h with
  | nil => exact fun hs H => ⟨hs, H, fun _ => Iff.rfl⟩
  | cons A _ ih => exact Own.under (A := A) ih
  | swap A B L => exact fun hs H => H.swap
  | trans _ _ ih1 ih2 =>
    intro hs H
    obtain ⟨hs1, h1, m1⟩ := ih1 hs H
    obtain ⟨hs2, h2, m2⟩ := ih2 hs1 h1
    exact ⟨hs2, h2, fun k => (m1 k).trans (m2 k)⟩
theorem St.perm {w0 w : World} {L L' : List Assn} (H : St w0 w L) (h : L.Perm L') : St w0 w L' := by
  obtain ⟨hb, hs, ho⟩ := H
  obtain ⟨hs', ho', _⟩ := Own.perm h hs ho
  exact ⟨hb, hs', ho'⟩
theorem range_take {α : Type _} (L : List α) : ∀ n, (List.range n).filterMap (fun i => L[i]?) = L.take n
  | 0 => by simp
  | n + 1 => by
    rw [List.range_succ, List.filterMap_append, range_take L n, List.take_add_one]
    congr 1
/-- the first n, in another order -/
theorem St.ord {w0 w : World} {L : List Assn} (H : St w0 w L) (n : Nat) (is : List Nat) (hp : is.isPerm (List.range n) = true := by decide) : St w0 w (is.filterMap (fun i => L[i]?) ++ L.drop n) := by
  refine H.perm ?_
  have h1 : (List.range n).Perm is := (List.isPerm_iff.1 hp).symm
  have h2 := h1.filterMap (fun i => L[i]?)
  rw [range_take] at h2
  have h3 := h2.append_right (L.drop n)
  rwa [List.take_append_drop] at h3
end Go.Proofs.Ytkkpcjpdpjpohaa

/- What a call made itself, beside what was owned ahead of it. -/
import Derived.Test.YtkkpcjpdpjpohaaSL
namespace Go.Proofs.Ytkkpcjpdpjpohaa
open Go.RowKit

theorem Own.join {b0 base : Nat} {w' : World} {F : List Assn} {ks : List PH} (hle : b0 ≤ base) (hk : ∀ k ∈ ks, ∀ i o, k i = some o → i < base) (HF : Own b0 w' F ks) : ∀ {L : List Assn} {hs : List PH}, Own base w' L hs → Own b0 w' (L ++ F) (hs ++ ks)
  | _, _, .nil => HF
  | _, _, .cons (h := h) ha hsub hb hd r => by
    refine .cons ha hsub (fun i o hi => Nat.le_trans hle (hb i o hi)) ?_ (Own.join hle hk HF r)
    intro k hm i
    rcases List.mem_append.1 hm with hm | hm
    · exact hd k hm i
    · cases e : h i with
      | none => exact .inl rfl
      | some o =>
        cases e2 : k i with
        | none => exact .inr rfl
        | some o2 =>
          have h1 := hb i o e
          have h2 := hk k hm i o2 e2
          omega
theorem Own.heaps {base : Nat} {w : World} : ∀ {L : List Assn} {hs : List PH}, Own base w L hs → ∀ k ∈ hs, k.sub w
  | _, _, .nil, k, hk => by cases hk
  | _, _, .cons ha hsub hb hd r, k, hk => by
    rcases List.mem_cons.1 hk with rfl | hk
    · exact hsub
    · exact r.heaps k hk
/-- what was owned stays, what a call made comes to it -/
theorem St.frame {w0 w w' : World} {L F : List Assn} (H : St w0 w F) (K : St w w' L) : St w0 w' (L ++ F) := by
  obtain ⟨hb, ks, ho⟩ := H
  obtain ⟨kb, hs, ko⟩ := K
  refine ⟨hb.trans (kb.mono hb.size), hs ++ ks, Own.join hb.size (fun k hk i o hi => PH.sub_lt (ho.heaps k hk) hi) (ho.move fun i o hi _ => ?_) ko⟩
  rw [kb.block i (Array.getElem?_eq_some_iff.1 hi).1]; exact hi
end Go.Proofs.Ytkkpcjpdpjpohaa

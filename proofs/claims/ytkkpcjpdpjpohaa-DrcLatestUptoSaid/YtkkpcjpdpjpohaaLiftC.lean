/- A slice handed in has room for what it holds. -/
import Derived.Test.YtkkpcjpdpjpohaaLift
namespace Go.Proofs.Ytkkpcjpdpjpohaa
open Go.RowKit Go.ChangeShapes Go.WideShapes Go.ChangeAt
theorem trod_cap {H : Type} {enc : TypeId × Value → H} {P : Program} {w : World} {spare : Nat → Bool} {held : Bool} {t e : TypeId} {fuel : Nat} {cs : List Value} {x : DataW H × List MemPlace}
    (ht : P.underlying t = some (.slice e)) (hx : DataW.trod enc P w 0 spare held fuel t cs = some x) : ∀ (A : Option Addr) (n c : Nat), cs = [.slice A n c] → n ≤ c ∧ c ≤ maxLen := by
  intro A n c hcs
  rcases DataW.trod_slice ht hx with ⟨rfl, rfl⟩ | ⟨a, len, cap, elems, rest, n, rfl, rfl, rfl, hb, hlc, hcm, hel, hread, _, _⟩
  · cases hcs; exact ⟨Nat.le_refl _, Nat.zero_le _⟩
  · cases hcs; exact ⟨hlc, by omega⟩
end Go.Proofs.Ytkkpcjpdpjpohaa

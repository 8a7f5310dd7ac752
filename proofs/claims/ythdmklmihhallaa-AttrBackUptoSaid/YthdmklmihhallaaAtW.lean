/- Layer 9: a Set comes back from its numbers; cut short it does not. -/
import Derived.Test.YthdmklmihhallaaAtK
import Derived.Test.YthdmklmihhallaaBits
namespace Go.Proofs.Ythdmklmihhallaa
open Go.RowKit

def back (h0 h1 h2 h3 : Bool) (a0 a1 a2 a3 a4 a5 a8 a9 : Int) : SS := ⟨[h0, h1, h2, h3], [a0, a1, a2, a3, a4, a5, 0, 0, a8, a9]⟩
set_option maxRecDepth 10000 in
set_option maxHeartbeats 4000000 in
theorem back_law (h0 h1 h2 h3 : Bool) (a0 a1 a2 a3 a4 a5 a8 a9 : Int) (e0 : h0 = false → a0 = 0) (e1 : h1 = false → a1 = 0) (e2 : h2 = false → a2 = 0) (e3 : h3 = false → a3 = 0) (e4 : a4 = 0 ∨ a4 = 1) (e5 : (a5 = 0 ∧ a8 = 0 ∧ a9 = 0) ∨ a5 = 2) (more : List Int) :
    gM ((back h0 h1 h2 h3 a0 a1 a2 a3 a4 a5 a8 a9).putM 2 ++ more) 2 = some (back h0 h1 h2 h3 a0 a1 a2 a3 a4 a5 a8 a9, more) ∧ gM (((back h0 h1 h2 h3 a0 a1 a2 a3 a4 a5 a8 a9).putM 2).take (((back h0 h1 h2 h3 a0 a1 a2 a3 a4 a5 a8 a9).putM 2).length - 1)) 2 = none ∧ 0 < ((back h0 h1 h2 h3 a0 a1 a2 a3 a4 a5 a8 a9).putM 2).length := by
  rcases e4 with rfl | rfl <;> rcases e5 with ⟨rfl, rfl, rfl⟩ | rfl <;> cases h0 <;> cases h1 <;> cases h2 <;> cases h3 <;> (try obtain rfl := e0 rfl) <;> (try obtain rfl := e1 rfl) <;> (try obtain rfl := e2 rfl) <;> (try obtain rfl := e3 rfl) <;> exact ⟨rfl, rfl, Nat.succ_pos _⟩
theorem andOne (x : Int) : bits .and .i64 x 1 = 0 ∨ bits .and .i64 x 1 = 1 := by
  rw [bits_and_i64, show ((1 : Int) % 18446744073709551616).toNat = 1 from rfl, Nat.and_one_is_mod, IntKind.wrap_i64]
  omega
end Go.Proofs.Ythdmklmihhallaa

/- Layer 21: the document's turned bit. -/
import Derived.Test.YtaifncebakbinaaNeD
namespace Go.Proofs.Ytaifncebakbinaa
open Go.RowKit

theorem infoU8 : (Try.prog.info? 5).map (fun i => (i.zero, i.size, i.bytes)) = some (some (.int .u8 0), 1, 1) := by kernel_rfl
def zb (y : UInt8) (m : Nat) : UInt8 := UInt8.ofNat ((y.toNat ^^^ 2 ^ m) % 256)
theorem turn_get (l : List UInt8) (K i : Nat) (y : UInt8) (h : l[i]? = some y) : (turnL l K)[i]? = some (if K / 8 = i then zb y (K % 8) else y) := by
  have hi := (List.getElem?_eq_some_iff.1 h).1
  unfold turnL
  rw [List.getElem?_set]
  by_cases e : K / 8 = i
  · rw [if_pos e, if_pos (by omega), if_pos e]
    subst e
    rw [List.getD_eq_getElem?_getD, h]; rfl
  · rw [if_neg e, if_neg e, h]
theorem turnL_length (l : List UInt8) (K : Nat) : (turnL l K).length = l.length := List.length_set ..
def tb (y : UInt8) (K i k : Nat) : UInt8 := if K / 8 = i ∧ K % 8 < k then zb y (K % 8) else y
theorem tb_zero (y : UInt8) (K i : Nat) : tb y K i 0 = y := if_neg (by omega)
theorem tb_eight (y : UInt8) (K i : Nat) : tb y K i 8 = if K / 8 = i then zb y (K % 8) else y := by
  unfold tb
  by_cases h : K / 8 = i
  · rw [if_pos h, if_pos (by omega)]
  · rw [if_neg h, if_neg (by omega)]
end Go.Proofs.Ytaifncebakbinaa

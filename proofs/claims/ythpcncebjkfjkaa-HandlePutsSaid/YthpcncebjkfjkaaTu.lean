/- One bit turned. No program here. -/
import Derived.Test.YthpcncebjkfjkaaXdrP
import Derived.Test.YthpcncebjkfjkaaBits
namespace Go.Proofs.Ythpcncebjkfjkaa
open Go.RowKit

def zb (y : UInt8) (m : Nat) : UInt8 := UInt8.ofNat ((y.toNat ^^^ 2 ^ m) % 256)
def turnL (l : List UInt8) (k : Nat) : List UInt8 := l.set (k / 8) (zb (l.getD (k / 8) 0) (k % 8))
theorem turnL_length (l : List UInt8) (K : Nat) : (turnL l K).length = l.length := List.length_set ..
theorem turn_get (l : List UInt8) (K i : Nat) (y : UInt8) (h : l[i]? = some y) : (turnL l K)[i]? = some (if K / 8 = i then zb y (K % 8) else y) := by
  have hi := (List.getElem?_eq_some_iff.1 h).1
  unfold turnL
  rw [List.getElem?_set]
  by_cases e : K / 8 = i
  · rw [if_pos e, if_pos (by omega), if_pos e]
    subst e
    rw [List.getD_eq_getElem?_getD, h]; rfl
  · rw [if_neg e, if_neg e, h]
theorem xor_u8 (a m : Nat) (ha : a < 256) (hm : m < 8) : bits .xor .u8 (a : Int) ((2 : Int) ^ m % 256) = ((UInt8.ofNat ((a ^^^ 2 ^ m) % 256)).toNat : Int) := by
  have key : ∀ (a : Fin 256) (m : Fin 8), bits .xor .u8 (a.val : Int) ((2 : Int) ^ m.val % 256) = ((UInt8.ofNat ((a.val ^^^ 2 ^ m.val) % 256)).toNat : Int) := by decide +kernel
  exact key ⟨a, ha⟩ ⟨m, hm⟩
theorem zb_ne (y : UInt8) (m : Nat) (hm : m < 8) : zb y m ≠ y := by
  have key : ∀ (a : Fin 256) (m : Fin 8), (UInt8.ofNat ((a.val ^^^ 2 ^ m.val) % 256)).toNat ≠ a.val := by decide +kernel
  intro h
  exact key ⟨y.toNat, y.toNat_lt⟩ ⟨m, hm⟩ (congrArg UInt8.toNat h)
theorem turnL_ne (l : List UInt8) (K : Nat) (h : K / 8 < l.length) : turnL l K ≠ l := by
  intro he
  obtain ⟨y, hy⟩ : ∃ y, l[K / 8]? = some y := ⟨_, List.getElem?_eq_getElem h⟩
  have h1 := turn_get l K (K / 8) y hy
  rw [if_pos rfl, he, hy] at h1
  injection h1 with h1
  exact zb_ne y (K % 8) (by omega) h1.symm
theorem turnL_other (l : List UInt8) (K i : Nat) (h : K / 8 ≠ i) : (turnL l K)[i]? = l[i]? := by
  unfold turnL; rw [List.getElem?_set, if_neg h]
/-- outside the turned byte nothing is other -/
theorem turnL_drop (l : List UInt8) (K i : Nat) (h : K / 8 < i) : (turnL l K).drop i = l.drop i := by
  apply List.ext_getElem?
  intro j
  rw [List.getElem?_drop, List.getElem?_drop, turnL_other l K (i + j) (by omega)]
theorem turnL_mid (l : List UInt8) (K i n : Nat) (h : K / 8 < i ∨ i + n ≤ K / 8) : ((turnL l K).drop i).take n = (l.drop i).take n := by
  apply List.ext_getElem?
  intro j
  rw [List.getElem?_take, List.getElem?_take]
  split
  · rw [List.getElem?_drop, List.getElem?_drop, turnL_other l K (i + j) (by omega)]
  · rfl
end Go.Proofs.Ythpcncebjkfjkaa

/- AttrLess: the plain law. -/
import Derived.Test.YthdmklmihhallaaAtC
namespace Go.Proofs.Ythdmklmihhallaa
open Go.RowKit

/-- one of three bits -/
def xb (bt : Int) (k : Nat) : Int := bits .and .i64 bt ((2 ^ k : Nat) : Int)
def ek (m o1 g1 u1 g2 bt : Int) : Nat → Bool
  | 0 => true
  | k + 1 => ek m o1 g1 u1 g2 bt k && may m o1 g1 u1 g2 [] (xb bt k)
theorem may_sh (own grp uid gid : Int) (l : List Int) : ∃ sh : Int, (sh = 1 ∨ sh = 8 ∨ sh = 64) ∧ ∀ mode b, may mode own grp uid gid l b = (uid == 0 || grant (mode / sh) b) := by
  unfold may
  by_cases h0 : uid == 0
  · exact ⟨1, .inl rfl, fun mode b => by simp [h0]⟩
  · by_cases h1 : uid == own
    · exact ⟨64, .inr (.inr rfl), fun mode b => by simp [h0, h1]⟩
    · by_cases h2 : gid == grp || l.contains grp
      · exact ⟨8, .inr (.inl rfl), fun mode b => by rw [if_neg h0, if_neg h1, if_pos h2]; simp [h0]⟩
      · exact ⟨1, .inl rfl, fun mode b => by rw [if_neg h0, if_neg h1, if_neg h2, Int.ediv_one]; simp [h0]⟩
theorem and_bit (x : Int) (k : Nat) (hk : k < 3) : bits .and .i64 x ((2 ^ k : Nat) : Int) = x / 2 ^ k % 2 * 2 ^ k := by
  have h8 : ∃ a : Fin 8, x % 8 = (a.val : Int) := ⟨⟨(x % 8).toNat, by omega⟩, by simp; omega⟩
  obtain ⟨a, ha⟩ := h8
  have key : ∀ (a : Fin 8) (k : Fin 3), (((a.val &&& 2 ^ k.val : Nat)) : Int) = (a.val : Int) / 2 ^ k.val % 2 * 2 ^ k.val := by decide
  have h2 : 2 ^ k < 8 := by have : ∀ k : Fin 3, 2 ^ k.val < 8 := by decide
                            exact this ⟨k, hk⟩
  rw [and_low _ _ h2, ha, show ((a.val : Int)).toNat = a.val from rfl, key a ⟨k, hk⟩, ← ha]
  have : k = 0 ∨ k = 1 ∨ k = 2 := by omega
  rcases this with rfl | rfl | rfl <;> dsimp only <;> omega
theorem grant_one (m bt : Int) (k : Nat) (hk : k < 3) : grant m (xb bt k) = !lack m bt k := by
  rw [grant_lack]
  unfold xb
  rw [and_bit bt k hk]
  unfold lack
  have hb : bt / 2 ^ k % 2 = 0 ∨ bt / 2 ^ k % 2 = 1 := by omega
  have : k = 0 ∨ k = 1 ∨ k = 2 := by omega
  rcases this with rfl | rfl | rfl <;> rcases hb with hb | hb <;> rw [hb] <;> simp
theorem all_each (m o1 g1 u1 g2 bt : Int) : may m o1 g1 u1 g2 [] bt = ek m o1 g1 u1 g2 bt 3 := by
  obtain ⟨sh, _, h⟩ := may_sh o1 g1 u1 g2 []
  simp only [ek, h, grant_one _ _ _ (show 0 < 3 by decide), grant_one _ _ _ (show 1 < 3 by decide), grant_one _ _ _ (show 2 < 3 by decide), grant_lack (m / sh) bt]
  cases (u1 == 0) <;> cases lack (m / sh) bt 0 <;> cases lack (m / sh) bt 1 <;> cases lack (m / sh) bt 2 <;> rfl
theorem or_bit1 (x : Int) (a j : Nat) (hj : j ≤ 8) (ha : a = (x % 18446744073709551616).toNat) (h : x / 2 ^ j % 2 = 1) : a / 2 ^ j % 2 = 1 := by
  have hj' : j = 0 ∨ j = 1 ∨ j = 2 ∨ j = 3 ∨ j = 4 ∨ j = 5 ∨ j = 6 ∨ j = 7 ∨ j = 8 := by omega
  rcases hj' with rfl | rfl | rfl | rfl | rfl | rfl | rfl | rfl | rfl <;> simp only [Nat.reducePow, Int.reducePow] at h ⊢ <;> omega
theorem or_bit2 (c j : Nat) (hj : j ≤ 8) (hc : c < 18446744073709551616) : IntKind.i64.wrap (c : Int) / 2 ^ j % 2 = (c / 2 ^ j % 2 : Nat) := by
  rw [IntKind.wrap_i64]
  have e : ((c : Int) + 9223372036854775808) % 18446744073709551616 - 9223372036854775808 = if c < 9223372036854775808 then (c : Int) else (c : Int) - 18446744073709551616 := by split <;> omega
  rw [e]
  have hj' : j = 0 ∨ j = 1 ∨ j = 2 ∨ j = 3 ∨ j = 4 ∨ j = 5 ∨ j = 6 ∨ j = 7 ∨ j = 8 := by omega
  split
  · rcases hj' with rfl | rfl | rfl | rfl | rfl | rfl | rfl | rfl | rfl <;> simp only [Nat.reducePow, Int.reducePow] <;> omega
  · rcases hj' with rfl | rfl | rfl | rfl | rfl | rfl | rfl | rfl | rfl <;> simp only [Nat.reducePow, Int.reducePow] <;> omega
theorem or_small (a b : Nat) (ha : a < 18446744073709551616) (hb : b < 18446744073709551616) : a ||| b < 18446744073709551616 := Nat.or_lt_two_pow (n := 64) ha hb
theorem or_bit (x y : Int) (j : Nat) (hj : j ≤ 8) (h : x / 2 ^ j % 2 = 1) : bits .or .i64 x y / 2 ^ j % 2 = 1 := by
  rw [bits_or_i64]
  have h1 := or_bit1 x _ j hj rfl h
  rw [or_bit2 _ j hj (or_small _ _ (by omega) (by omega))]
  generalize (x % 18446744073709551616).toNat = a at *
  generalize (y % 18446744073709551616).toNat = b at *
  have e : (a ||| b).testBit j = true := by rw [Nat.testBit_or, Nat.testBit_eq_decide_div_mod_eq, h1]; simp
  rw [Nat.testBit_eq_decide_div_mod_eq] at e
  rw [of_decide_eq_true e]; rfl
theorem may_more (m mo o1 g1 u1 g2 bt : Int) (h : may m o1 g1 u1 g2 [] bt = true) : may (bits .or .i64 m mo) o1 g1 u1 g2 [] bt = true := by
  obtain ⟨sh, hsh, hs⟩ := may_sh o1 g1 u1 g2 []
  rw [hs] at h ⊢
  cases hz : (u1 == 0) <;> rw [hz] at h
  · rw [Bool.false_or, grant_lack] at h ⊢
    have key : ∀ k, k < 3 → lack (m / sh) bt k = false → lack (bits .or .i64 m mo / sh) bt k = false := fun k hk hl => by
      unfold lack at *
      cases hb : (bt / 2 ^ k % 2 == 1) <;> rw [hb] at hl
      · rfl
      · rw [Bool.true_and, beq_eq_false_iff_ne] at hl ⊢
        have hk' : k = 0 ∨ k = 1 ∨ k = 2 := by omega
        rcases hsh with rfl | rfl | rfl <;> rcases hk' with rfl | rfl | rfl
        · have := or_bit m mo 0 (by decide) (by omega); omega
        · have := or_bit m mo 1 (by decide) (by omega); omega
        · have := or_bit m mo 2 (by decide) (by omega); omega
        · have := or_bit m mo 3 (by decide) (by omega); omega
        · have := or_bit m mo 4 (by decide) (by omega); omega
        · have := or_bit m mo 5 (by decide) (by omega); omega
        · have := or_bit m mo 6 (by decide) (by omega); omega
        · have := or_bit m mo 7 (by decide) (by omega); omega
        · have := or_bit m mo 8 (by decide) (by omega); omega
    have h0 := key 0 (by decide); have h1 := key 1 (by decide); have h2 := key 2 (by decide)
    cases e0 : lack (m / sh) bt 0 <;> rw [e0] at h h0 <;> cases e1 : lack (m / sh) bt 1 <;> rw [e1] at h h1 <;> cases e2 : lack (m / sh) bt 2 <;> rw [e2] at h h2 <;> simp at h
    rw [h0 rfl, h1 rfl, h2 rfl]; rfl
  · rfl
theorem may_root (m o1 g1 g2 bt : Int) : may m o1 g1 0 g2 [] bt = true := rfl
theorem may_none (m o1 g1 u1 g2 : Int) : may m o1 g1 u1 g2 [] 0 = true := by
  obtain ⟨sh, _, h⟩ := may_sh o1 g1 u1 g2 []
  rw [h, grant_lack]; simp [lack]
end Go.Proofs.Ythdmklmihhallaa

/- The turned sign. No program here. -/
import Derived.Test.YtdofeehnclobmaaFOrd
namespace Go.Proofs.Ytdofeehnclobmaa

def fneg (b : Nat) : Nat := b ^^^ 2 ^ 63
theorem fneg_testBit (b i : Nat) : (fneg b).testBit i = ((b.testBit i) ^^ decide (63 = i)) := by
  unfold fneg
  rw [Nat.testBit_xor, Nat.testBit_two_pow]
theorem fneg_rung (b : Nat) : rung (fneg b) = rung b := by
  have e : bS = 2 ^ 63 := rfl
  unfold rung
  rw [e]
  apply Nat.eq_of_testBit_eq
  intro i
  rw [Nat.testBit_mod_two_pow, Nat.testBit_mod_two_pow, fneg_testBit]
  by_cases h : i < 63
  · rw [decide_eq_false (show ¬ 63 = i by omega)]; simp
  · simp [h]
theorem sneg_testBit (b : Nat) : sneg b = b.testBit 63 := by
  unfold sneg
  rw [Nat.testBit_eq_decide_div_mod_eq, show bS = 2 ^ 63 from rfl]
  rw [Bool.eq_iff_iff]; simp
theorem fneg_sneg (b : Nat) : sneg (fneg b) = !sneg b := by
  rw [sneg_testBit, sneg_testBit, fneg_testBit]
  simp
theorem fneg_lt (b : Nat) (h : b < 2 ^ 64) : fneg b < 2 ^ 64 := Nat.xor_lt_two_pow h (by decide)
theorem fneg_nan (b : Nat) : nanb (fneg b) = nanb b := by rw [nanb_rung, nanb_rung, fneg_rung]
end Go.Proofs.Ytdofeehnclobmaa

/- Floats that come out exactly. No program here. -/
import Derived.Test.YtdofeehnclobmaaFOrd
namespace Go.Proofs.Ytdofeehnclobmaa
open Ieee

/-- a cut that leaves nothing over -/
theorem cut_exact (neg : Bool) (n drop K : Nat) (hK : 0 < K) (h : n = K * 2 ^ drop) : Toward.even.cut neg n drop = K := by
  have hn0 : n ≠ 0 := by rw [h]; have := Nat.mul_pos hK (Nat.two_pow_pos drop); omega
  have hle : 2 ^ drop ≤ n := by rw [h]; exact Nat.le_mul_of_pos_left _ hK
  have hlog : drop ≤ n.log2 := (Nat.le_log2 hn0).2 hle
  unfold Toward.cut
  have hmin : min drop (n.log2 + 2) = drop := by omega
  simp only [hmin, Nat.one_shiftLeft]
  have hpos : 0 < 2 ^ drop := Nat.two_pow_pos _
  have h1 : n / 2 ^ drop = K := by rw [h]; exact Nat.mul_div_cancel _ hpos
  have h2 : n % 2 ^ drop = 0 := by rw [h]; exact Nat.mul_mod_left _ _
  rw [h1, h2]
  have h3 : (2 ^ drop == 2 * 0) = false := by rw [beq_eq_false_iff_ne]; omega
  simp [h3]
theorem log2_mul_pow (m k : Nat) (hm : m ≠ 0) : (m * 2 ^ k).log2 = m.log2 + k := by
  have h0 : m * 2 ^ k ≠ 0 := by have := Nat.mul_pos (Nat.pos_of_ne_zero hm) (Nat.two_pow_pos k); omega
  rw [Nat.log2_eq_iff h0]
  have h1 := Nat.log2_self_le hm
  have h2 : m < 2 ^ (m.log2 + 1) := Nat.lt_log2_self
  refine ⟨by rw [Nat.pow_add]; exact Nat.mul_le_mul_right _ h1, ?_⟩
  rw [show m.log2 + k + 1 = (m.log2 + 1) + k by omega, Nat.pow_add]
  exact Nat.mul_lt_mul_of_pos_right h2 (Nat.two_pow_pos _)
/-- the last place that is kept of a rung's value, and what is kept -/
theorem rval_parts (r : Nat) (hr : 0 < r) (h : r < bI) : ∃ d K, (rval r).log2 - 52 = d ∧ rval r = K * 2 ^ d ∧ 0 < K ∧ d * bB + K = r := by
  have hB : bB = 2 ^ 52 := rfl
  unfold rval
  by_cases h1 : r < bB
  · rw [if_pos h1]
    have : r.log2 < 52 := (Nat.log2_lt (by omega)).2 (by rw [← hB]; exact h1)
    exact ⟨0, r, by omega, by simp, hr, by simp⟩
  · rw [if_neg h1]
    have hm : bB + r % bB ≠ 0 := by have : 0 < bB := by decide
                                    omega
    have hlt : r % bB < bB := Nat.mod_lt _ (by decide)
    have hl : (bB + r % bB).log2 = 52 := by
      rw [Nat.log2_eq_iff hm, ← hB]
      have : (2 : Nat) ^ (52 + 1) = bB * 2 := by decide
      omega
    have e := Nat.div_add_mod r bB
    have hq : 1 ≤ r / bB := (Nat.one_le_div_iff (by decide)).2 (by omega)
    refine ⟨r / bB - 1, bB + r % bB, by rw [log2_mul_pow _ _ hm, hl]; omega, rfl, by omega, ?_⟩
    have : (r / bB - 1) * bB + bB = r / bB * bB := by rw [← Nat.succ_mul]; congr 1; omega
    rw [Nat.mul_comm] at e
    omega
/-- a number that the format has is written as itself -/
theorem nearest_exact (neg : Bool) (mag : Nat) (place : Int) (r a c : Nat) (hr : 0 < r) (h : r < bI) (hv : mag * 2 ^ a = rval r * 2 ^ c) (hp : place = Ieee.double.leastPlace + a - c) :
    Ieee.double.nearest neg mag place = Ieee.double.word neg r := by
  obtain ⟨d, K, hd, hK, hK0, hrung⟩ := rval_parts r hr h
  have hV0 : rval r ≠ 0 := by have := rval_pos.2 hr; omega
  have hm0 : mag ≠ 0 := by
    rintro rfl
    rw [Nat.zero_mul] at hv
    have := Nat.mul_pos (Nat.pos_of_ne_zero hV0) (Nat.two_pow_pos c)
    omega
  have hlog : mag.log2 + a = (rval r).log2 + c := by rw [← log2_mul_pow _ _ hm0, hv, log2_mul_pow _ _ hV0]
  have hlast : max (place + mag.log2 - Ieee.double.fractionBits) Ieee.double.leastPlace = Ieee.double.leastPlace + d := by
    have : (Ieee.double.fractionBits : Int) = 52 := rfl
    omega
  unfold Format.nearest
  rw [if_neg hm0]
  simp only [hlast]
  have hcut : Toward.even.cut neg (mag <<< (place - (Ieee.double.leastPlace + d)).toNat) (Ieee.double.leastPlace + d - place).toNat = K := by
    refine cut_exact neg _ _ K hK0 ?_
    rw [Nat.shiftLeft_eq]
    rw [hK, Nat.mul_assoc, ← Nat.pow_add] at hv
    by_cases hle : d + c ≤ a
    · rw [show (place - (Ieee.double.leastPlace + d)).toNat = a - (d + c) by omega, show (Ieee.double.leastPlace + d - place).toNat = 0 by omega, Nat.pow_zero, Nat.mul_one]
      refine Nat.eq_of_mul_eq_mul_right (Nat.two_pow_pos (d + c)) ?_
      rw [Nat.mul_assoc, ← Nat.pow_add, show a - (d + c) + (d + c) = a by omega, hv]
    · rw [show (place - (Ieee.double.leastPlace + d)).toNat = 0 by omega, show (Ieee.double.leastPlace + d - place).toNat = d + c - a by omega, Nat.pow_zero, Nat.mul_one]
      refine Nat.eq_of_mul_eq_mul_right (Nat.two_pow_pos a) ?_
      rw [Nat.mul_assoc, ← Nat.pow_add, show d + c - a + a = d + c by omega, hv]
  rw [hcut]
  congr 1
  rw [show (Ieee.double.leastPlace + ↑d - Ieee.double.leastPlace).toNat = d by omega, d_binade, d_infRung, hrung]
  omega
theorem nearest_zero (neg : Bool) (place : Int) : Ieee.double.nearest neg 0 place = Ieee.double.word neg 0 := by
  unfold Format.nearest
  rw [if_pos rfl]
/-- a word, put together of its sign and its rung -/
theorem word_parts (x : Nat) (h : x < 2 ^ 64) : Ieee.double.word (sneg x) (rung x) = x := by
  unfold Format.word sneg rung
  rw [d_signWeight, show bS = 9223372036854775808 by decide]
  by_cases h1 : x / 9223372036854775808 % 2 = 1
  · rw [if_pos (by simp [h1])]; omega
  · rw [if_neg (by simp [h1])]; omega
theorem read_num' (x : Nat) (h : rung x < bI) : ∃ m k, Ieee.double.read x = .number (sneg x) m (Ieee.double.leastPlace + (k : Nat)) ∧ m * 2 ^ k = rval (rung x) ∧ m < 9007199254740992 := by
  have hB : bB = 4503599627370496 := by decide
  rw [read_eq]
  unfold rval sneg
  unfold rung at *
  by_cases h1 : x % bS < bB
  · rw [if_pos h1, if_pos h1]; exact ⟨x % bS, 0, by simp, by simp, by omega⟩
  · rw [if_neg h1, if_neg h1, if_pos h]
    have : x % bS % bB < bB := Nat.mod_lt _ (by decide)
    exact ⟨_, _, rfl, rfl, by omega⟩
theorem key_word (s : Bool) (r : Nat) (h : r < bS) : fkey (Ieee.double.word s r) = sgn s r := by
  unfold fkey sneg rung Format.word
  rw [d_signWeight]
  cases s
  · simp only [Bool.false_eq_true, if_false]
    rw [Nat.div_eq_of_lt h, Nat.mod_eq_of_lt h]; rfl
  · simp only [if_true]
    have hb : 0 < bS := by decide
    rw [Nat.add_div_left _ hb, Nat.div_eq_of_lt h, Nat.add_mod_left, Nat.mod_eq_of_lt h]; rfl
theorem quotient_one (s : Bool) (m : Nat) (i : Int) (hm : m ≠ 0) (hlt : m < 9007199254740992) : ∃ e : Nat, Datum.quotient (Ieee.double.fractionBits + 2) (.number s m i) (.number false 4503599627370496 (-52)) = some (.number s (m * 2 ^ e) (i - e)) := by
  have hl : m.log2 < 53 := (Nat.log2_lt hm).2 (by rw [show (2 : Nat) ^ 53 = 9007199254740992 by decide]; exact hlt)
  have h52 : (4503599627370496 : Nat).log2 = 52 := by decide +kernel
  have hf : Ieee.double.fractionBits + 2 = 54 := rfl
  unfold Datum.quotient
  simp only [h52, hf]
  rw [if_neg (by decide)]
  have hmore : 54 + 52 - m.log2 = 52 + (54 - m.log2) := by omega
  rw [hmore, Nat.shiftLeft_eq, Nat.pow_add]
  have hd : m * (2 ^ 52 * 2 ^ (54 - m.log2)) = (m * 2 ^ (54 - m.log2)) * 4503599627370496 := by
    rw [show (2 : Nat) ^ 52 = 4503599627370496 by decide, Nat.mul_comm 4503599627370496, Nat.mul_assoc]
  rw [hd, Nat.mul_div_cancel _ (by decide), Nat.mul_mod_left]
  refine ⟨54 - m.log2 + 1, ?_⟩
  congr 2
  · cases s <;> rfl
  · rw [Nat.pow_succ, ← Nat.mul_assoc, Nat.mul_comm 2]; simp; rw [Nat.mul_assoc, Nat.mul_comm 2]
  · omega
/-- x / 1 -/
theorem div_one (x : Nat) (h : x < 2 ^ 64) (hx : rung x < bI) : Ieee.double.div x 4607182418800017408 = some x := by
  have h1 : Ieee.double.read 4607182418800017408 = .number false 4503599627370496 (-52) := by decide +kernel
  unfold Format.div
  rw [h1]
  obtain ⟨m, k, e, he, hm⟩ := read_num' x hx
  rw [e]
  have hw := word_parts x h
  by_cases h0 : m = 0
  · subst h0
    have hr : rung x = 0 := by
      rw [Nat.zero_mul] at he
      by_cases hz : rung x = 0
      · exact hz
      · have := rval_pos.2 (Nat.pos_of_ne_zero hz); omega
    rw [hr] at hw
    have : ∃ p, Datum.quotient (Ieee.double.fractionBits + 2) (.number (sneg x) 0 (Ieee.double.leastPlace + k)) (.number false 4503599627370496 (-52)) = some (.number (sneg x) 0 p) := by
      unfold Datum.quotient
      simp only
      rw [if_neg (by decide)]
      simp
    obtain ⟨p, hp⟩ := this
    rw [hp, Option.map_some]
    exact congrArg some ((nearest_zero _ _).trans hw)
  · obtain ⟨q, hq⟩ := quotient_one (sneg x) m (Ieee.double.leastPlace + k) h0 hm
    rw [hq, Option.map_some]
    have hr0 : 0 < rung x := by
      rw [← rval_pos, ← he]; exact Nat.mul_pos (Nat.pos_of_ne_zero h0) (Nat.two_pow_pos _)
    refine congrArg some ((nearest_exact (sneg x) _ _ (rung x) k q hr0 hx ?_ ?_).trans hw)
    · rw [← he, Nat.mul_assoc, Nat.mul_assoc, Nat.mul_comm (2 ^ q)]
    · omega
/-- 0 + x -/
theorem zero_add' (x : Nat) (h : x < 2 ^ 64) (hx : rung x < bI) : ∃ y, Ieee.double.add 0 x = some y ∧ fkey y = fkey x ∧ y < 2 ^ 64 ∧ rung y < bI := by
  have h1 : Ieee.double.read 0 = .number false 0 Ieee.double.leastPlace := by decide +kernel
  have hbs : bI < bS := by decide
  unfold Format.add
  rw [h1]
  obtain ⟨m, k, e, he, hm⟩ := read_num' x hx
  rw [e]
  have hw := word_parts x h
  have hsum : Datum.sum (.number false 0 Ieee.double.leastPlace) (.number (sneg x) m (Ieee.double.leastPlace + k)) = some (.number (if rval (rung x) = 0 then false else sneg x) (rval (rung x)) Ieee.double.leastPlace) := by
    unfold Datum.sum
    simp only [signed_eq]
    have hb : min Ieee.double.leastPlace (Ieee.double.leastPlace + (k : Int)) = Ieee.double.leastPlace := by omega
    rw [hb, show (Ieee.double.leastPlace + (k : Int) - Ieee.double.leastPlace).toNat = k by omega, he]
    generalize rval (rung x) = V
    by_cases hV : V = 0
    · subst hV; cases sneg x <;> simp [sgn]
    · cases sneg x <;> simp [sgn, hV]
      all_goals omega
  rw [hsum, Option.map_some]
  by_cases hz : rval (rung x) = 0
  · have hr : rung x = 0 := by
      by_cases h0 : rung x = 0
      · exact h0
      · have := rval_pos.2 (Nat.pos_of_ne_zero h0); omega
    refine ⟨Ieee.double.word false 0, ?_, ?_, by decide, by decide⟩
    · rw [hz, if_pos rfl]; exact congrArg some (nearest_zero _ _)
    · rw [key_word _ _ (by decide)]; unfold fkey; rw [hr]; cases sneg x <;> rfl
  · have hr0 : 0 < rung x := by rw [← rval_pos]; omega
    refine ⟨x, ?_, rfl, h, hx⟩
    rw [if_neg hz]
    refine congrArg some ((nearest_exact (sneg x) _ _ (rung x) 0 0 hr0 hx rfl (by omega)).trans hw)
end Go.Proofs.Ytdofeehnclobmaa


/- The order of floats, by their bits. No program here. -/
import Derived.Laws.FloatArith
namespace Go.Proofs.Ytdofeehnclobmaa
open Ieee

def bB : Nat := 2 ^ 52
def bS : Nat := 2 ^ 63
def bI : Nat := 2047 * 2 ^ 52
theorem d_signWeight : Ieee.double.signWeight = bS := rfl
theorem d_binade : Ieee.double.binade = bB := rfl
theorem d_infRung : Ieee.double.infRung = bI := rfl
def nanb (b : Nat) : Bool := (Ieee.double.read b).isNaN
/-- the value of a rung, in units of the least place -/
def rval (r : Nat) : Nat := if r < bB then r else (bB + r % bB) * 2 ^ (r / bB - 1)
def sgn (s : Bool) (n : Nat) : Int := if s then -(n : Int) else n
def rung (x : Nat) : Nat := x % bS
def sneg (x : Nat) : Bool := x / bS % 2 == 1
def fkey (x : Nat) : Int := sgn (sneg x) (rung x)

theorem read_eq (x : Nat) : Ieee.double.read x = (if x % bS < bB then .number (x / bS % 2 == 1) (x % bS) Ieee.double.leastPlace
    else if x % bS < bI then .number (x / bS % 2 == 1) (bB + x % bS % bB) (Ieee.double.leastPlace + (x % bS / bB - 1 : Nat))
    else if x % bS = bI then .infinity (x / bS % 2 == 1) else .nan (x / bS % 2 == 1) (x % bS - bI)) := rfl
theorem nanb_rung (x : Nat) : nanb x = decide (bI < rung x) := by
  unfold nanb rung
  rw [read_eq]
  have hlt : bB < bI := by decide
  by_cases h1 : x % bS < bB
  · rw [if_pos h1]; simp only [Datum.isNaN]; symm; rw [decide_eq_false_iff_not]; omega
  · rw [if_neg h1]
    by_cases h2 : x % bS < bI
    · rw [if_pos h2]; simp only [Datum.isNaN]; symm; rw [decide_eq_false_iff_not]; omega
    · rw [if_neg h2]
      by_cases h3 : x % bS = bI
      · rw [if_pos h3]; simp only [Datum.isNaN]; symm; rw [decide_eq_false_iff_not]; omega
      · rw [if_neg h3]; simp only [Datum.isNaN]; symm; rw [decide_eq_true_iff]; omega
theorem rval_mono {r r' : Nat} (h : r < r') : rval r < rval r' := by
  have hB : 0 < bB := by decide
  unfold rval
  by_cases h1 : r < bB
  · rw [if_pos h1]
    by_cases h2 : r' < bB
    · rw [if_pos h2]; exact h
    · rw [if_neg h2]
      have : 1 ≤ 2 ^ (r' / bB - 1) := Nat.one_le_two_pow
      have := Nat.le_mul_of_pos_right (bB + r' % bB) (show 0 < 2 ^ (r' / bB - 1) by omega)
      omega
  · rw [if_neg h1, if_neg (by omega)]
    have hq : r / bB ≤ r' / bB := Nat.div_le_div_right (Nat.le_of_lt h)
    have e := Nat.div_add_mod r bB
    have e' := Nat.div_add_mod r' bB
    have m := Nat.mod_lt r hB
    have m' := Nat.mod_lt r' hB
    rcases Nat.lt_or_eq_of_le hq with hlt | heq
    · have h1q : 1 ≤ r / bB := (Nat.one_le_div_iff hB).2 (by omega)
      have hp : 2 ^ (r / bB - 1) * 2 ≤ 2 ^ (r' / bB - 1) := by
        rw [← Nat.pow_succ]; exact Nat.pow_le_pow_right (by decide) (by omega)
      have hpos : 0 < 2 ^ (r / bB - 1) := Nat.two_pow_pos _
      calc (bB + r % bB) * 2 ^ (r / bB - 1) < (bB * 2) * 2 ^ (r / bB - 1) := Nat.mul_lt_mul_of_pos_right (by omega) hpos
        _ = bB * (2 ^ (r / bB - 1) * 2) := by rw [Nat.mul_assoc, Nat.mul_comm 2]
        _ ≤ bB * 2 ^ (r' / bB - 1) := Nat.mul_le_mul_left _ hp
        _ ≤ (bB + r' % bB) * 2 ^ (r' / bB - 1) := Nat.mul_le_mul_right _ (by omega)
    · rw [heq]
      rw [heq] at e
      exact Nat.mul_lt_mul_of_pos_right (by omega) (Nat.two_pow_pos _)
theorem rval_lt {r r' : Nat} : rval r < rval r' ↔ r < r' := by
  refine ⟨fun h => ?_, rval_mono⟩
  rcases Nat.lt_trichotomy r r' with h1 | rfl | h1
  · exact h1
  · omega
  · have := rval_mono h1; omega
theorem rval_inj {r r' : Nat} (h : rval r = rval r') : r = r' := by
  rcases Nat.lt_trichotomy r r' with h1 | h1 | h1
  · have := rval_mono h1; omega
  · exact h1
  · have := rval_mono h1; omega
theorem rval_zero : rval 0 = 0 := by decide
theorem rval_pos {r : Nat} : 0 < rval r ↔ 0 < r := by
  have := @rval_lt 0 r; rw [rval_zero] at this; exact this
theorem compare_scale (p q : Int) {c : Nat} (hc : 0 < c) : compare (p * c) (q * c) = compare p q := by
  have hc' : (0 : Int) < c := by omega
  simp only [compare, compareOfLessAndEq]
  by_cases h1 : p < q
  · rw [if_pos h1, if_pos (Int.mul_lt_mul_of_pos_right h1 hc')]
  · rw [if_neg h1, if_neg (fun h => h1 (Int.lt_of_mul_lt_mul_right h (Int.le_of_lt hc')))]
    by_cases h2 : p = q
    · rw [if_pos h2, if_pos (by rw [h2])]
    · rw [if_neg h2, if_neg (fun h => h2 (Int.eq_of_mul_eq_mul_right (by omega) h))]
theorem sgn_compare (s t : Bool) (a b : Nat) : compare (sgn s (rval a)) (sgn t (rval b)) = compare (sgn s a) (sgn t b) := by
  have h1 := @rval_lt a b
  have h2 := @rval_lt b a
  have h3 := @rval_pos a
  have h4 := @rval_pos b
  simp only [compare, compareOfLessAndEq]
  generalize rval a = A at *
  generalize rval b = B at *
  cases s <;> cases t <;> simp only [sgn] <;> simp only [Bool.false_eq_true, if_false, if_true]
  all_goals
    (repeat' split) <;> first | rfl | (exfalso; omega)
theorem signed_eq (s : Bool) (m up : Nat) : signed s m up = sgn s (m * 2 ^ up) := by
  unfold signed sgn
  rw [Nat.shiftLeft_eq]
theorem sgn_mul (s : Bool) (m c : Nat) : sgn s (m * c) = sgn s m * (c : Int) := by
  cases s <;> simp only [sgn] <;> simp only [Bool.false_eq_true, if_false, if_true]
  · exact Int.natCast_mul _ _
  · rw [Int.natCast_mul, Int.neg_mul]
/-- what a word reads as -/
theorem read_num (x : Nat) (h : rung x < bI) : ∃ m k, Ieee.double.read x = .number (sneg x) m (Ieee.double.leastPlace + (k : Nat)) ∧ m * 2 ^ k = rval (rung x) := by
  rw [read_eq]
  unfold rval sneg
  unfold rung at *
  by_cases h1 : x % bS < bB
  · rw [if_pos h1, if_pos h1]; exact ⟨x % bS, 0, by simp, by simp⟩
  · rw [if_neg h1, if_neg h1, if_pos h]; exact ⟨_, _, rfl, rfl⟩
theorem read_inf (x : Nat) (h : rung x = bI) : Ieee.double.read x = .infinity (sneg x) := by
  rw [read_eq]
  unfold sneg
  unfold rung at *
  rw [if_neg (by rw [h]; decide), if_neg (by rw [h]; decide), if_pos h]
theorem order_num (s t : Bool) (m n i j a b : Nat) (ha : m * 2 ^ i = rval a) (hb : n * 2 ^ j = rval b) (L : Int) :
    (Datum.number s m (L + i)).order (.number t n (L + j)) = some (compare (sgn s a) (sgn t b)) := by
  rw [← sgn_compare, ← ha, ← hb]
  unfold Datum.order
  dsimp only
  rw [signed_eq, signed_eq]
  have e1 : m * 2 ^ i = (m * 2 ^ (L + ↑i - min (L + ↑i) (L + ↑j)).toNat) * 2 ^ (min i j) := by
    rw [Nat.mul_assoc, ← Nat.pow_add]; congr 2; omega
  have e2 : n * 2 ^ j = (n * 2 ^ (L + ↑j - min (L + ↑i) (L + ↑j)).toNat) * 2 ^ (min i j) := by
    rw [Nat.mul_assoc, ← Nat.pow_add]; congr 2; omega
  rw [e1, e2, sgn_mul _ _ (2 ^ min i j), sgn_mul _ (n * 2 ^ (L + ↑j - min (L + ↑i) (L + ↑j)).toNat), compare_scale _ _ (Nat.two_pow_pos _)]
/-- THE ORDER IS THE KEYS' -/
theorem order_key (x y : Nat) (hx : nanb x = false) (hy : nanb y = false) : Ieee.double.order x y = some (compare (fkey x) (fkey y)) := by
  rw [nanb_rung, decide_eq_false_iff_not] at hx hy
  unfold Format.order fkey
  have hI : 0 < bI := by decide
  by_cases h1 : rung x = bI
  · rw [read_inf x h1]
    by_cases h2 : rung y = bI
    · rw [read_inf y h2, h1, h2]
      cases sneg x <;> cases sneg y <;> rfl
    · obtain ⟨m, k, e, _⟩ := read_num y (by omega)
      rw [e]
      simp only [Datum.order, h1]
      have : rung y < bI := by omega
      generalize rung y = r at *
      simp only [compare, compareOfLessAndEq]
      cases sneg x <;> cases sneg y <;> simp only [sgn] <;> simp only [Bool.false_eq_true, if_false, if_true]
      all_goals (repeat' split) <;> first | rfl | (exfalso; omega)
  · obtain ⟨m, k, e, he⟩ := read_num x (by omega)
    rw [e]
    by_cases h2 : rung y = bI
    · rw [read_inf y h2]
      simp only [Datum.order, h2]
      have : rung x < bI := by omega
      generalize rung x = r at *
      simp only [compare, compareOfLessAndEq]
      cases sneg x <;> cases sneg y <;> simp only [sgn] <;> simp only [Bool.false_eq_true, if_false, if_true]
      all_goals (repeat' split) <;> first | rfl | (exfalso; omega)
    · obtain ⟨n, j, e', he'⟩ := read_num y (by omega)
      rw [e']
      exact order_num _ _ _ _ _ _ _ _ he he' _
theorem cmp_lt (a b : Int) : (some (compare a b) == some Ordering.lt) = decide (a < b) := by
  simp only [compare, compareOfLessAndEq]
  by_cases h : a < b
  · rw [if_pos h, decide_eq_true h]; rfl
  · rw [if_neg h, decide_eq_false h]; split <;> rfl
theorem cmp_eq (a b : Int) : (some (compare a b) == some Ordering.eq) = decide (a = b) := by
  simp only [compare, compareOfLessAndEq]
  by_cases h : a < b
  · rw [if_pos h, decide_eq_false (by omega)]; rfl
  · rw [if_neg h]
    by_cases h2 : a = b
    · rw [if_pos h2, decide_eq_true h2]; rfl
    · rw [if_neg h2, decide_eq_false h2]; rfl
theorem cmp_gt (a b : Int) : (some (compare a b) == some Ordering.gt) = decide (b < a) := by
  simp only [compare, compareOfLessAndEq]
  by_cases h : a < b
  · rw [if_pos h, decide_eq_false (by omega)]; rfl
  · rw [if_neg h]
    by_cases h2 : a = b
    · rw [if_pos h2, decide_eq_false (by omega)]; rfl
    · rw [if_neg h2, decide_eq_true (by omega)]; rfl
end Go.Proofs.Ytdofeehnclobmaa

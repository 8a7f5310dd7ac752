/- Layer 6: the order. -/
import Derived.Test.YtdofeehnclobmaaScB
import Derived.Test.YtdofeehnclobmaaBits
namespace Go.Proofs.Ytdofeehnclobmaa
open Go.RowKit

theorem ord_self (b : Nat) : (FloatKind.f64.format.order b b != some .eq) = nanb b := by
  rw [bne, show FloatKind.f64.format.order b b = Ieee.double.order b b from rfl, nanb_order]; simp
theorem ord_self_eq (b : Nat) : (FloatKind.f64.format.order b b == some .eq) = !nanb b := nanb_order b
theorem key_zero : fkey 0 = 0 := by decide
theorem nanb_zero : nanb 0 = false := by decide
theorem ord_zero (b : Nat) (h : nanb b = false) : (FloatKind.f64.format.order b 0 == some .lt) = decide (fkey b < 0) ∧ (FloatKind.f64.format.order b 0 == some .eq) = decide (fkey b = 0) := by
  have := order_key b 0 h nanb_zero
  rw [show FloatKind.f64.format.order b 0 = Ieee.double.order b 0 from rfl, this, cmp_lt, cmp_eq, key_zero]
  exact ⟨rfl, rfl⟩
theorem ord_lt (a b : Nat) (h : nanb a = false) (h' : nanb b = false) : (FloatKind.f64.format.order a b == some .lt) = decide (fkey a < fkey b) := by
  rw [show FloatKind.f64.format.order a b = Ieee.double.order a b from rfl, order_key a b h h', cmp_lt]
/-- the document's order, as a number -/
def tkey (b : Nat) : Int := if nanb b then -36893488147419103232 else if sneg b then -(rung b : Int) - 1 else rung b
def frank (b : Nat) : Int := if nanb b then 0 else if fkey b < 0 then 1 else if fkey b = 0 then (if sneg b then 2 else 3) else 4
def fless (a b : Nat) : Bool := decide (tkey a < tkey b)
theorem rung_lt (b : Nat) : rung b < 9223372036854775808 := Nat.mod_lt _ (by decide)
theorem fless_rank (a b : Nat) : fless a b = (decide (frank a < frank b) || (decide (frank a = frank b) && (FloatKind.f64.format.order a b == some .lt))) := by
  have ra := rung_lt a
  have rb := rung_lt b
  unfold fless tkey frank
  cases ha : nanb a
  · cases hb : nanb b
    · rw [ord_lt a b ha hb]
      simp only [Bool.false_eq_true, if_false]
      unfold fkey sgn
      cases sneg a <;> cases sneg b <;> simp only [Bool.false_eq_true, if_false, if_true]
      all_goals (rw [Bool.eq_iff_iff]; simp only [Bool.or_eq_true, Bool.and_eq_true, decide_eq_true_eq]; (repeat' split) <;> omega)
    · simp only [Bool.false_eq_true, if_false, if_true]
      have : ¬ ((if sneg a = true then -(rung a : Int) - 1 else rung a) < -36893488147419103232) := by split <;> omega
      rw [decide_eq_false this]
      symm; rw [Bool.eq_false_iff]
      simp only [ne_eq, Bool.or_eq_true, Bool.and_eq_true, decide_eq_true_eq]
      have : FloatKind.f64.format.order a b = none := order_nan a b (.inr hb)
      rw [this]
      rintro (h | ⟨h, h'⟩)
      · revert h; (repeat' split) <;> omega
      · cases h'
  · simp only [if_true]
    have ho : FloatKind.f64.format.order a b = none := order_nan a b (.inl ha)
    rw [ho]
    cases hb : nanb b
    · simp only [Bool.false_eq_true, if_false]
      have : -36893488147419103232 < (if sneg b = true then -(rung b : Int) - 1 else rung b) := by split <;> omega
      rw [decide_eq_true this]
      symm; rw [Bool.or_eq_true]; left
      rw [decide_eq_true_eq]; (repeat' split) <;> omega
    · simp
theorem isnan_ok (b : Nat) (w : World) : Calls Try.prog 26 #[.float .f64 b] w fun r w' => r = .returned (.bool (nanb b)) ∧ w' = w := by
  go_enter Try.func26, Try.ntmps26
  go_wp2_with (fail)
  go_ret
  rw [← ord_self]
  exact ⟨rfl, rfl⟩
theorem sneg_lt (b : Nat) (h : b < 2 ^ 64) : sneg b = decide (9223372036854775808 ≤ b) := by
  unfold sneg bS
  rw [Bool.eq_iff_iff]; simp only [beq_iff_eq, decide_eq_true_eq]; omega
theorem rung_sneg (b : Nat) (h : b < 2 ^ 64) : b = rung b + (if sneg b then 9223372036854775808 else 0) := by
  rw [sneg_lt b h]
  unfold rung bS
  by_cases h1 : 9223372036854775808 ≤ b
  · rw [decide_eq_true h1, if_pos rfl]; omega
  · rw [decide_eq_false h1, if_neg (by decide)]; omega
theorem signbit_ok (b : Nat) (h : b < 2 ^ 64) (w : World) : Calls Try.prog 28 #[.float .f64 b] w fun r w' => r = .returned (.bool (sneg b)) ∧ w' = w := by
  have e : decide (wrap64 (b : Int) < 0) = sneg b := by
    rw [sneg_lt b h, Bool.eq_iff_iff]; simp only [decide_eq_true_eq]
    unfold wrap64; omega
  go_enter Try.func28, Try.ntmps28
  go_wp2_with (fail)
  go_ret
  refine ⟨?_, rfl⟩
  rw [← e]; rfl
theorem rank_ok (b : Nat) (h : b < 2 ^ 64) (w : World) : Calls Try.prog 25 #[.float .f64 b] w fun r w' => r = .returned (.int .i64 (frank b)) ∧ w' = w := by
  have hr : frank b = (if nanb b then 0 else if fkey b < 0 then 1 else if fkey b = 0 then (if sneg b then 2 else 3) else 4) := rfl
  cases hn : nanb b
  · obtain ⟨z1, z2⟩ := ord_zero b hn
    rw [hn, if_neg (by decide)] at hr
    have HN := Lib.hid hn; clear hn
    by_cases h1 : fkey b < 0
    · rw [decide_eq_true h1] at z1; rw [if_pos h1] at hr; clear h1 z2
      have HR := Lib.hid hr; clear hr
      go_enter Try.func25, Try.ntmps25
      go_wp2_with (first | (go_at_call 26; refine (isnan_ok _ _).mono ?_; rw [HN.out]; rintro x w1 ⟨rfl, rfl⟩))
      go_ret
      rw [HR.out]; exact ⟨rfl, rfl⟩
    · rw [decide_eq_false h1] at z1; rw [if_neg h1] at hr; clear h1
      by_cases h2 : fkey b = 0
      · rw [decide_eq_true h2] at z2; rw [if_pos h2] at hr; clear h2
        cases hs : sneg b <;> rw [hs] at hr
        all_goals
          have HR := Lib.hid hr; clear hr
          have HS := Lib.hid hs; clear hs
          go_enter Try.func25, Try.ntmps25
          go_wp2_with (first | (go_at_call 26; refine (isnan_ok _ _).mono ?_; rw [HN.out]; rintro x w1 ⟨rfl, rfl⟩) | (go_at_call 28; refine (signbit_ok _ h _).mono ?_; rw [HS.out]; rintro x w1 ⟨rfl, rfl⟩))
          go_ret
          rw [HR.out]; exact ⟨rfl, rfl⟩
      · rw [decide_eq_false h2] at z2; rw [if_neg h2] at hr; clear h2
        have HR := Lib.hid hr; clear hr
        go_enter Try.func25, Try.ntmps25
        go_wp2_with (first | (go_at_call 26; refine (isnan_ok _ _).mono ?_; rw [HN.out]; rintro x w1 ⟨rfl, rfl⟩))
        go_ret
        rw [HR.out]; exact ⟨rfl, rfl⟩
  · rw [hn, if_pos rfl] at hr
    have HN := Lib.hid hn; clear hn
    have HR := Lib.hid hr; clear hr
    go_enter Try.func25, Try.ntmps25
    go_wp2_with (first | (go_at_call 26; refine (isnan_ok _ _).mono ?_; rw [HN.out]; rintro x w1 ⟨rfl, rfl⟩))
    go_ret
    rw [HR.out]; exact ⟨rfl, rfl⟩
theorem less_ok (a b : Nat) (ha : a < 2 ^ 64) (hb : b < 2 ^ 64) (w : World) :
    Calls Try.prog 16 #[.float .f64 a, .float .f64 b] w fun r w' => r = .returned (.bool (fless a b)) ∧ w' = w := by
  have e := fless_rank a b
  have he : (frank a == frank b) = decide (frank a = frank b) := by rw [Bool.eq_iff_iff]; simp
  by_cases h1 : frank a < frank b
  · rw [decide_eq_true h1, Bool.true_or] at e
    have E := Lib.hid e; clear e he
    go_enter Try.func16, Try.ntmps16
    go_wp2_with (fail)
    refine (rank_ok a ha _).mono ?_
    rintro x w1 ⟨rfl, rfl⟩
    go_wp2_with (fail)
    refine (rank_ok b hb _).mono ?_
    rintro x w1 ⟨rfl, rfl⟩
    go_wp2_with (fail)
    go_ret
    rw [E.out]; exact ⟨rfl, rfl⟩
  · rw [decide_eq_false h1, Bool.false_or] at e
    have h1' : decide (frank a < frank b) = false := decide_eq_false h1
    by_cases h2 : frank a = frank b
    · rw [decide_eq_true h2, Bool.true_and] at e
      have E := Lib.hid e; clear e
      rw [decide_eq_true h2] at he
      clear h1 h2
      go_enter Try.func16, Try.ntmps16
      go_wp2_with (fail)
      refine (rank_ok a ha _).mono ?_
      rintro x w1 ⟨rfl, rfl⟩
      go_wp2_with (fail)
      refine (rank_ok b hb _).mono ?_
      rintro x w1 ⟨rfl, rfl⟩
      go_wp2_with (fail)
      go_ret
      rw [E.out]; exact ⟨rfl, rfl⟩
    · rw [decide_eq_false h2, Bool.false_and] at e
      have E := Lib.hid e; clear e
      rw [decide_eq_false h2] at he
      clear h1 h2
      go_enter Try.func16, Try.ntmps16
      go_wp2_with (fail)
      refine (rank_ok a ha _).mono ?_
      rintro x w1 ⟨rfl, rfl⟩
      go_wp2_with (fail)
      refine (rank_ok b hb _).mono ?_
      rintro x w1 ⟨rfl, rfl⟩
      go_wp2_with (fail)
      go_ret
      rw [E.out]; exact ⟨rfl, rfl⟩
end Go.Proofs.Ytdofeehnclobmaa

/- Layer 6: the document's order. -/
import Derived.Test.YtdofeehnclobmaaScO
namespace Go.Proofs.Ytdofeehnclobmaa
open Go.RowKit

theorem fless_bits (a b : Nat) (ha : a < 2 ^ 64) (hb : b < 2 ^ 64) (na : nanb a = false) (nb : nanb b = false) :
    fless a b = (if sneg a then (if sneg b then decide (b < a) else true) else (if sneg b then false else decide (a < b))) := by
  have ra := rung_lt a
  have rb := rung_lt b
  have ea := rung_sneg a ha
  have eb := rung_sneg b hb
  unfold fless tkey
  rw [na, nb]
  simp only [Bool.false_eq_true, if_false]
  cases hsa : sneg a <;> cases hsb : sneg b <;> rw [hsa] at ea <;> rw [hsb] at eb <;> simp only [Bool.false_eq_true, if_false, if_true] at ea eb ⊢
  all_goals first | (rw [decide_eq_true_eq]; omega) | (rw [decide_eq_false_iff_not]; omega) | (rw [Bool.eq_iff_iff]; simp only [decide_eq_true_eq]; omega)
theorem refless_ok (a b : Nat) (ha : a < 2 ^ 64) (hb : b < 2 ^ 64) (w : World) :
    Calls Try.prog 17 #[.float .f64 a, .float .f64 b] w fun r w' => r = .returned (.bool (fless a b)) ∧ w' = w := by
  have oa := ord_self a
  have ob := ord_self b
  have ob' := ord_self_eq b
  cases na : nanb a
  · cases nb : nanb b
    · have e := fless_bits a b ha hb na nb
      have sa := sneg_lt a ha
      have sb := sneg_lt b hb
      rw [na] at oa; rw [nb] at ob ob'
      clear na nb ob'
      have da : ∃ q : Int, (a : Int) / 9223372036854775808 = q ∧ q = (if sneg a then 1 else 0) := ⟨_, rfl, by rw [sa]; by_cases h : 9223372036854775808 ≤ a <;> simp [h] <;> omega⟩
      have db : ∃ q : Int, (b : Int) / 9223372036854775808 = q ∧ q = (if sneg b then 1 else 0) := ⟨_, rfl, by rw [sb]; by_cases h : 9223372036854775808 ≤ b <;> simp [h] <;> omega⟩
      obtain ⟨qa, da, hqa⟩ := da
      obtain ⟨qb, db, hqb⟩ := db
      clear sa sb
      cases hsa : sneg a <;> cases hsb : sneg b <;> rw [hsa] at e hqa <;> rw [hsb] at e hqb <;> clear hsa hsb
      all_goals
        simp only [Bool.false_eq_true, if_false, if_true] at e hqa hqb
        subst hqa hqb
        have E := Lib.hid e; clear e
        go_enter Try.func17, Try.ntmps17
        go_wp2_with (fail)
        go_ret
        rw [E.out]; exact ⟨rfl, rfl⟩
    · have e : fless a b = false := by unfold fless tkey; rw [na, nb]; have := rung_lt a; simp only [Bool.false_eq_true, if_false, if_true]; rw [decide_eq_false_iff_not]; split <;> omega
      rw [na] at oa; rw [nb] at ob ob'
      clear na nb
      have E := Lib.hid e; clear e
      go_enter Try.func17, Try.ntmps17
      go_wp2_with (fail)
      go_ret
      rw [E.out]; exact ⟨rfl, rfl⟩
  · have e : fless a b = !nanb b := by
      unfold fless tkey; rw [na]; have := rung_lt b; cases nanb b <;> simp only [Bool.false_eq_true, if_false, if_true]
      · rw [Bool.not_false, decide_eq_true_eq]; split <;> omega
      · rfl
    rw [na] at oa
    have E := Lib.hid e; clear e na
    go_enter Try.func17, Try.ntmps17
    go_wp2_with (fail)
    go_ret
    rw [E.out, ← ob']; exact ⟨rfl, rfl⟩
end Go.Proofs.Ytdofeehnclobmaa

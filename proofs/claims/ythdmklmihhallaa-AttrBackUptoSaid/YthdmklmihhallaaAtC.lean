/- Layer 9: May, in the document. -/
import Derived.Test.YthdmklmihhallaaAtB
namespace Go.Proofs.Ythdmklmihhallaa
open Go.RowKit

theorem and1 (x : Int) : bits .and .i64 x 1 = x % 2 := i64_and_mask x 1 (by decide)
/-- which of three bits is wanting -/
def lack (m bits_ : Int) (k : Nat) : Bool := bits_ / 2 ^ k % 2 == 1 && m / 2 ^ k % 2 == 0
theorem and_low (x : Int) (m : Nat) (hm : m < 8) : bits .and .i64 x (m : Int) = (((x % 8).toNat &&& m : Nat) : Int) := by
  rw [i64_and_nat x m (by omega)]
  congr 1
  have e : m = 7 &&& m := by
    have : ∀ q : Fin 8, q.val = 7 &&& q.val := by decide
    exact this ⟨m, hm⟩
  have h7 : ∀ y : Nat, y &&& m = (y % 8) &&& m := fun y => by
    rw [show y % 8 = y &&& 7 from (Nat.and_two_pow_sub_one_eq_mod y 3).symm, Nat.and_assoc, ← e]
  rw [h7 ((x % 18446744073709551616).toNat), h7 ((x % 8).toNat)]
  congr 1
  omega
theorem grant_lack (m bits_ : Int) : grant m bits_ = !(lack m bits_ 0 || lack m bits_ 1 || lack m bits_ 2) := by
  have hb : ∃ b : Fin 8, bits_ % 8 = (b.val : Int) := ⟨⟨(bits_ % 8).toNat, by omega⟩, by simp; omega⟩
  have ha : ∃ a : Fin 8, m % 8 = (a.val : Int) := ⟨⟨(m % 8).toNat, by omega⟩, by simp; omega⟩
  obtain ⟨b, hb⟩ := hb
  obtain ⟨a, ha⟩ := ha
  have key : ∀ a b : Fin 8, (((a.val &&& b.val : Nat) : Int) == (b.val : Int)) = !((((b.val : Int) / 2 ^ 0 % 2 == 1) && ((a.val : Int) / 2 ^ 0 % 2 == 0)) || (((b.val : Int) / 2 ^ 1 % 2 == 1) && ((a.val : Int) / 2 ^ 1 % 2 == 0)) || (((b.val : Int) / 2 ^ 2 % 2 == 1) && ((a.val : Int) / 2 ^ 2 % 2 == 0))) := by decide
  unfold grant
  rw [hb, and_low _ _ b.isLt, ha]
  rw [show ((a.val : Int)).toNat = a.val from rfl, key a b, ← ha, ← hb]
  unfold lack
  have e0 : bits_ % 8 / 2 ^ 0 % 2 = bits_ / 2 ^ 0 % 2 := by omega
  have e1 : bits_ % 8 / 2 ^ 1 % 2 = bits_ / 2 ^ 1 % 2 := by omega
  have e2 : bits_ % 8 / 2 ^ 2 % 2 = bits_ / 2 ^ 2 % 2 := by omega
  have f0 : m % 8 / 2 ^ 0 % 2 = m / 2 ^ 0 % 2 := by omega
  have f1 : m % 8 / 2 ^ 1 % 2 = m / 2 ^ 1 % 2 := by omega
  have f2 : m % 8 / 2 ^ 2 % 2 = m / 2 ^ 2 % 2 := by omega
  rw [e0, e1, e2, f0, f1, f2]
theorem take_contains (l : List Int) (k : Nat) (g y : Int) (h : l[k]? = some y) : (l.take (k + 1)).contains g = ((l.take k).contains g || y == g) := by
  rw [List.take_add_one, h]
  simp only [List.contains_eq_any_beq, List.any_append, Option.toList, List.any_cons, List.any_nil, Bool.or_false]
  congr 1; rw [Bool.eq_iff_iff, beq_iff_eq, beq_iff_eq]; exact ⟨fun h => h.symm, fun h => h.symm⟩
theorem refmay_ok (mode own grp uid gid : Int) (A : Option Addr) (c : Nat) (l : List Int) (bits_ : Int) (w : World) (hr : Rd w A l) (hl : l.length ≤ 281474976710656) :
    Calls Try.prog 10 #[.int .i64 mode, .int .i64 own, .int .i64 grp, .int .i64 uid, .int .i64 gid, .slice A l.length c, .int .i64 bits_] w fun r w' => r = .returned (.bool (may mode own grp uid gid l bits_)) ∧ w' = w := by
  have HR := Lib.hid hr; clear hr
  have a1 := and1
  obtain ⟨res, e⟩ : ∃ r, may mode own grp uid gid l bits_ = r := ⟨_, rfl⟩
  rw [e]
  unfold may at e
  obtain ⟨n, hn⟩ : ∃ n, n = l.length := ⟨_, rfl⟩
  rw [← hn] at hl ⊢
  have HN := Lib.hid hn; clear hn
  cases h0 : (uid == 0) <;> rw [h0] at e
  · rw [if_neg (by decide)] at e
    go_enter Try.func10, Try.ntmps10
    go_wp2_with (fail)
    go_loop [15, 16] (fun u i => ∃ k : Nat, k ≤ n ∧ i = .int .i64 k ∧ u = .bool (gid == grp || (l.take k).contains grp)) (fun _ i => n - (intOf i).toNat)
    case atStart => exact ⟨0, Nat.zero_le _, rfl, by simp⟩
    case round =>
      obtain ⟨k, hk, rfl, rfl⟩ := hrel
      by_cases hlt : k < n
      · obtain ⟨y, hy⟩ : ∃ y, l[k]? = some y := ⟨_, List.getElem?_eq_getElem (by rw [← HN.out]; exact hlt)⟩
        obtain ⟨b, o, hA, hc⟩ := HR.out k y hy
        subst hA
        have ht := take_contains l k grp y hy
        have HT := Lib.hid ht; have HY := Lib.hid hy; clear ht hy
        cases hin : (gid == grp || (l.take k).contains grp)
        · have HIN := Lib.hid hin; clear hin
          go_wp2_with (fail)
          go_round
          case rel => exact ⟨k + 1, by omega, by go_num, by rw [HT.out, ← Bool.or_assoc, HIN.out]; rfl⟩
          case measure => simp [intOf]; omega
        · have HIN := Lib.hid hin; clear hin
          go_wp2_with (fail)
          go_round
          case rel => exact ⟨k + 1, by omega, by go_num, by rw [HT.out, ← Bool.or_assoc, HIN.out]; rfl⟩
          case measure => simp [intOf]; omega
      · have hkn : k = n := by omega
        subst hkn
        have ht : l.take k = l := List.take_of_length_le (by have := HN.out; omega)
        rw [ht]
        clear ht hlt
        cases h1 : (uid == own) <;> rw [h1] at e
        · cases h2 : (gid == grp || l.contains grp) <;> rw [h2] at e
          · rw [if_neg (by decide), if_neg (by decide)] at e
            rw [grant_lack] at e
            go_wp2_with (fail)
            go_loop [18] (fun i => ∃ k : Nat, k ≤ 3 ∧ i = .int .i64 k ∧ ∀ j, j < k → lack (mode) bits_ j = false) (fun i => 3 - (intOf i).toNat)
            case atStart => exact ⟨0, Nat.zero_le _, rfl, fun j h => by omega⟩
            case round =>
              obtain ⟨k, hk, rfl, hq⟩ := hrel
              have hk4 : k = 0 ∨ k = 1 ∨ k = 2 ∨ k = 3 := by omega
              clear hk
              rcases hk4 with rfl | rfl | rfl | rfl
              · have hl : lack (mode) bits_ 0 = ((bits_) % 2 == 1 && (mode) % 2 == 0) := by
                  unfold lack; rw [show bits_ / 2 ^ 0 % 2 = (bits_) % 2 by omega, show (mode) / 2 ^ 0 % 2 = (mode) % 2 by omega]
                cases hp : ((bits_) % 2 == 1) <;> rw [hp] at hl
                · have HL := Lib.hid hl; have HQ := Lib.hid hq; have E := Lib.hid e; clear hq e hl
                  go_wp2_with (fail)
                  go_round
                  case rel => exact ⟨0 + 1, by omega, by go_num, fun j hj => by rcases Nat.lt_or_eq_of_le (Nat.le_of_lt_succ hj) with h | rfl; exact HQ.out j h; exact HL.out⟩
                  case measure => simp [intOf]
                · cases hr : ((mode) % 2 == 0) <;> rw [hr] at hl
                  · have HL := Lib.hid hl; have HQ := Lib.hid hq; have E := Lib.hid e; clear hq e hl
                    go_wp2_with (fail)
                    go_round
                    case rel => exact ⟨0 + 1, by omega, by go_num, fun j hj => by rcases Nat.lt_or_eq_of_le (Nat.le_of_lt_succ hj) with h | rfl; exact HQ.out j h; exact HL.out⟩
                    case measure => simp [intOf]
                  · have e3 : res = false := by rw [← e, hl]; simp
                    have E := Lib.hid e3; have HQ := Lib.hid hq; clear e e3 hl hq
                    go_wp2_with (fail)
                    go_ret
                    rw [E.out]; exact ⟨rfl, rfl⟩
              · have hl : lack (mode) bits_ 1 = ((bits_ / 2) % 2 == 1 && (mode / 2) % 2 == 0) := by
                  unfold lack; rw [show bits_ / 2 ^ 1 % 2 = (bits_ / 2) % 2 by omega, show (mode) / 2 ^ 1 % 2 = (mode / 2) % 2 by omega]
                cases hp : ((bits_ / 2) % 2 == 1) <;> rw [hp] at hl
                · have HL := Lib.hid hl; have HQ := Lib.hid hq; have E := Lib.hid e; clear hq e hl
                  go_wp2_with (fail)
                  go_round
                  case rel => exact ⟨1 + 1, by omega, by go_num, fun j hj => by rcases Nat.lt_or_eq_of_le (Nat.le_of_lt_succ hj) with h | rfl; exact HQ.out j h; exact HL.out⟩
                  case measure => simp [intOf]
                · cases hr : ((mode / 2) % 2 == 0) <;> rw [hr] at hl
                  · have HL := Lib.hid hl; have HQ := Lib.hid hq; have E := Lib.hid e; clear hq e hl
                    go_wp2_with (fail)
                    go_round
                    case rel => exact ⟨1 + 1, by omega, by go_num, fun j hj => by rcases Nat.lt_or_eq_of_le (Nat.le_of_lt_succ hj) with h | rfl; exact HQ.out j h; exact HL.out⟩
                    case measure => simp [intOf]
                  · have e3 : res = false := by rw [← e, hl]; simp
                    have E := Lib.hid e3; have HQ := Lib.hid hq; clear e e3 hl hq
                    go_wp2_with (fail)
                    go_ret
                    rw [E.out]; exact ⟨rfl, rfl⟩
              · have hl : lack (mode) bits_ 2 = ((bits_ / 4) % 2 == 1 && (mode / 4) % 2 == 0) := by
                  unfold lack; rw [show bits_ / 2 ^ 2 % 2 = (bits_ / 4) % 2 by omega, show (mode) / 2 ^ 2 % 2 = (mode / 4) % 2 by omega]
                cases hp : ((bits_ / 4) % 2 == 1) <;> rw [hp] at hl
                · have HL := Lib.hid hl; have HQ := Lib.hid hq; have E := Lib.hid e; clear hq e hl
                  go_wp2_with (fail)
                  go_round
                  case rel => exact ⟨2 + 1, by omega, by go_num, fun j hj => by rcases Nat.lt_or_eq_of_le (Nat.le_of_lt_succ hj) with h | rfl; exact HQ.out j h; exact HL.out⟩
                  case measure => simp [intOf]
                · cases hr : ((mode / 4) % 2 == 0) <;> rw [hr] at hl
                  · have HL := Lib.hid hl; have HQ := Lib.hid hq; have E := Lib.hid e; clear hq e hl
                    go_wp2_with (fail)
                    go_round
                    case rel => exact ⟨2 + 1, by omega, by go_num, fun j hj => by rcases Nat.lt_or_eq_of_le (Nat.le_of_lt_succ hj) with h | rfl; exact HQ.out j h; exact HL.out⟩
                    case measure => simp [intOf]
                  · have e3 : res = false := by rw [← e, hl]; simp
                    have E := Lib.hid e3; have HQ := Lib.hid hq; clear e e3 hl hq
                    go_wp2_with (fail)
                    go_ret
                    rw [E.out]; exact ⟨rfl, rfl⟩
              · have e3 : res = true := by rw [← e, hq 0 (by omega), hq 1 (by omega), hq 2 (by omega)]; rfl
                have E := Lib.hid e3; clear e e3 hq
                go_wp2_with (fail)
                go_ret
                rw [E.out]; exact ⟨rfl, rfl⟩
          · rw [if_neg (by decide), if_pos rfl] at e
            rw [grant_lack] at e
            go_wp2_with (fail)
            go_loop [18] (fun i => ∃ k : Nat, k ≤ 3 ∧ i = .int .i64 k ∧ ∀ j, j < k → lack (mode / 8) bits_ j = false) (fun i => 3 - (intOf i).toNat)
            case atStart => exact ⟨0, Nat.zero_le _, rfl, fun j h => by omega⟩
            case round =>
              obtain ⟨k, hk, rfl, hq⟩ := hrel
              have hk4 : k = 0 ∨ k = 1 ∨ k = 2 ∨ k = 3 := by omega
              clear hk
              rcases hk4 with rfl | rfl | rfl | rfl
              · have hl : lack (mode / 8) bits_ 0 = ((bits_) % 2 == 1 && (mode / 8) % 2 == 0) := by
                  unfold lack; rw [show bits_ / 2 ^ 0 % 2 = (bits_) % 2 by omega, show (mode / 8) / 2 ^ 0 % 2 = (mode / 8) % 2 by omega]
                cases hp : ((bits_) % 2 == 1) <;> rw [hp] at hl
                · have HL := Lib.hid hl; have HQ := Lib.hid hq; have E := Lib.hid e; clear hq e hl
                  go_wp2_with (fail)
                  go_round
                  case rel => exact ⟨0 + 1, by omega, by go_num, fun j hj => by rcases Nat.lt_or_eq_of_le (Nat.le_of_lt_succ hj) with h | rfl; exact HQ.out j h; exact HL.out⟩
                  case measure => simp [intOf]
                · cases hr : ((mode / 8) % 2 == 0) <;> rw [hr] at hl
                  · have HL := Lib.hid hl; have HQ := Lib.hid hq; have E := Lib.hid e; clear hq e hl
                    go_wp2_with (fail)
                    go_round
                    case rel => exact ⟨0 + 1, by omega, by go_num, fun j hj => by rcases Nat.lt_or_eq_of_le (Nat.le_of_lt_succ hj) with h | rfl; exact HQ.out j h; exact HL.out⟩
                    case measure => simp [intOf]
                  · have e3 : res = false := by rw [← e, hl]; simp
                    have E := Lib.hid e3; have HQ := Lib.hid hq; clear e e3 hl hq
                    go_wp2_with (fail)
                    go_ret
                    rw [E.out]; exact ⟨rfl, rfl⟩
              · have hl : lack (mode / 8) bits_ 1 = ((bits_ / 2) % 2 == 1 && (mode / 16) % 2 == 0) := by
                  unfold lack; rw [show bits_ / 2 ^ 1 % 2 = (bits_ / 2) % 2 by omega, show (mode / 8) / 2 ^ 1 % 2 = (mode / 16) % 2 by omega]
                cases hp : ((bits_ / 2) % 2 == 1) <;> rw [hp] at hl
                · have HL := Lib.hid hl; have HQ := Lib.hid hq; have E := Lib.hid e; clear hq e hl
                  go_wp2_with (fail)
                  go_round
                  case rel => exact ⟨1 + 1, by omega, by go_num, fun j hj => by rcases Nat.lt_or_eq_of_le (Nat.le_of_lt_succ hj) with h | rfl; exact HQ.out j h; exact HL.out⟩
                  case measure => simp [intOf]
                · cases hr : ((mode / 16) % 2 == 0) <;> rw [hr] at hl
                  · have HL := Lib.hid hl; have HQ := Lib.hid hq; have E := Lib.hid e; clear hq e hl
                    go_wp2_with (fail)
                    go_round
                    case rel => exact ⟨1 + 1, by omega, by go_num, fun j hj => by rcases Nat.lt_or_eq_of_le (Nat.le_of_lt_succ hj) with h | rfl; exact HQ.out j h; exact HL.out⟩
                    case measure => simp [intOf]
                  · have e3 : res = false := by rw [← e, hl]; simp
                    have E := Lib.hid e3; have HQ := Lib.hid hq; clear e e3 hl hq
                    go_wp2_with (fail)
                    go_ret
                    rw [E.out]; exact ⟨rfl, rfl⟩
              · have hl : lack (mode / 8) bits_ 2 = ((bits_ / 4) % 2 == 1 && (mode / 32) % 2 == 0) := by
                  unfold lack; rw [show bits_ / 2 ^ 2 % 2 = (bits_ / 4) % 2 by omega, show (mode / 8) / 2 ^ 2 % 2 = (mode / 32) % 2 by omega]
                cases hp : ((bits_ / 4) % 2 == 1) <;> rw [hp] at hl
                · have HL := Lib.hid hl; have HQ := Lib.hid hq; have E := Lib.hid e; clear hq e hl
                  go_wp2_with (fail)
                  go_round
                  case rel => exact ⟨2 + 1, by omega, by go_num, fun j hj => by rcases Nat.lt_or_eq_of_le (Nat.le_of_lt_succ hj) with h | rfl; exact HQ.out j h; exact HL.out⟩
                  case measure => simp [intOf]
                · cases hr : ((mode / 32) % 2 == 0) <;> rw [hr] at hl
                  · have HL := Lib.hid hl; have HQ := Lib.hid hq; have E := Lib.hid e; clear hq e hl
                    go_wp2_with (fail)
                    go_round
                    case rel => exact ⟨2 + 1, by omega, by go_num, fun j hj => by rcases Nat.lt_or_eq_of_le (Nat.le_of_lt_succ hj) with h | rfl; exact HQ.out j h; exact HL.out⟩
                    case measure => simp [intOf]
                  · have e3 : res = false := by rw [← e, hl]; simp
                    have E := Lib.hid e3; have HQ := Lib.hid hq; clear e e3 hl hq
                    go_wp2_with (fail)
                    go_ret
                    rw [E.out]; exact ⟨rfl, rfl⟩
              · have e3 : res = true := by rw [← e, hq 0 (by omega), hq 1 (by omega), hq 2 (by omega)]; rfl
                have E := Lib.hid e3; clear e e3 hq
                go_wp2_with (fail)
                go_ret
                rw [E.out]; exact ⟨rfl, rfl⟩
        · rw [if_pos rfl] at e
          rw [grant_lack] at e
          go_wp2_with (fail)
          go_loop [18] (fun i => ∃ k : Nat, k ≤ 3 ∧ i = .int .i64 k ∧ ∀ j, j < k → lack (mode / 64) bits_ j = false) (fun i => 3 - (intOf i).toNat)
          case atStart => exact ⟨0, Nat.zero_le _, rfl, fun j h => by omega⟩
          case round =>
            obtain ⟨k, hk, rfl, hq⟩ := hrel
            have hk4 : k = 0 ∨ k = 1 ∨ k = 2 ∨ k = 3 := by omega
            clear hk
            rcases hk4 with rfl | rfl | rfl | rfl
            · have hl : lack (mode / 64) bits_ 0 = ((bits_) % 2 == 1 && (mode / 64) % 2 == 0) := by
                unfold lack; rw [show bits_ / 2 ^ 0 % 2 = (bits_) % 2 by omega, show (mode / 64) / 2 ^ 0 % 2 = (mode / 64) % 2 by omega]
              cases hp : ((bits_) % 2 == 1) <;> rw [hp] at hl
              · have HL := Lib.hid hl; have HQ := Lib.hid hq; have E := Lib.hid e; clear hq e hl
                go_wp2_with (fail)
                go_round
                case rel => exact ⟨0 + 1, by omega, by go_num, fun j hj => by rcases Nat.lt_or_eq_of_le (Nat.le_of_lt_succ hj) with h | rfl; exact HQ.out j h; exact HL.out⟩
                case measure => simp [intOf]
              · cases hr : ((mode / 64) % 2 == 0) <;> rw [hr] at hl
                · have HL := Lib.hid hl; have HQ := Lib.hid hq; have E := Lib.hid e; clear hq e hl
                  go_wp2_with (fail)
                  go_round
                  case rel => exact ⟨0 + 1, by omega, by go_num, fun j hj => by rcases Nat.lt_or_eq_of_le (Nat.le_of_lt_succ hj) with h | rfl; exact HQ.out j h; exact HL.out⟩
                  case measure => simp [intOf]
                · have e3 : res = false := by rw [← e, hl]; simp
                  have E := Lib.hid e3; have HQ := Lib.hid hq; clear e e3 hl hq
                  go_wp2_with (fail)
                  go_ret
                  rw [E.out]; exact ⟨rfl, rfl⟩
            · have hl : lack (mode / 64) bits_ 1 = ((bits_ / 2) % 2 == 1 && (mode / 128) % 2 == 0) := by
                unfold lack; rw [show bits_ / 2 ^ 1 % 2 = (bits_ / 2) % 2 by omega, show (mode / 64) / 2 ^ 1 % 2 = (mode / 128) % 2 by omega]
              cases hp : ((bits_ / 2) % 2 == 1) <;> rw [hp] at hl
              · have HL := Lib.hid hl; have HQ := Lib.hid hq; have E := Lib.hid e; clear hq e hl
                go_wp2_with (fail)
                go_round
                case rel => exact ⟨1 + 1, by omega, by go_num, fun j hj => by rcases Nat.lt_or_eq_of_le (Nat.le_of_lt_succ hj) with h | rfl; exact HQ.out j h; exact HL.out⟩
                case measure => simp [intOf]
              · cases hr : ((mode / 128) % 2 == 0) <;> rw [hr] at hl
                · have HL := Lib.hid hl; have HQ := Lib.hid hq; have E := Lib.hid e; clear hq e hl
                  go_wp2_with (fail)
                  go_round
                  case rel => exact ⟨1 + 1, by omega, by go_num, fun j hj => by rcases Nat.lt_or_eq_of_le (Nat.le_of_lt_succ hj) with h | rfl; exact HQ.out j h; exact HL.out⟩
                  case measure => simp [intOf]
                · have e3 : res = false := by rw [← e, hl]; simp
                  have E := Lib.hid e3; have HQ := Lib.hid hq; clear e e3 hl hq
                  go_wp2_with (fail)
                  go_ret
                  rw [E.out]; exact ⟨rfl, rfl⟩
            · have hl : lack (mode / 64) bits_ 2 = ((bits_ / 4) % 2 == 1 && (mode / 256) % 2 == 0) := by
                unfold lack; rw [show bits_ / 2 ^ 2 % 2 = (bits_ / 4) % 2 by omega, show (mode / 64) / 2 ^ 2 % 2 = (mode / 256) % 2 by omega]
              cases hp : ((bits_ / 4) % 2 == 1) <;> rw [hp] at hl
              · have HL := Lib.hid hl; have HQ := Lib.hid hq; have E := Lib.hid e; clear hq e hl
                go_wp2_with (fail)
                go_round
                case rel => exact ⟨2 + 1, by omega, by go_num, fun j hj => by rcases Nat.lt_or_eq_of_le (Nat.le_of_lt_succ hj) with h | rfl; exact HQ.out j h; exact HL.out⟩
                case measure => simp [intOf]
              · cases hr : ((mode / 256) % 2 == 0) <;> rw [hr] at hl
                · have HL := Lib.hid hl; have HQ := Lib.hid hq; have E := Lib.hid e; clear hq e hl
                  go_wp2_with (fail)
                  go_round
                  case rel => exact ⟨2 + 1, by omega, by go_num, fun j hj => by rcases Nat.lt_or_eq_of_le (Nat.le_of_lt_succ hj) with h | rfl; exact HQ.out j h; exact HL.out⟩
                  case measure => simp [intOf]
                · have e3 : res = false := by rw [← e, hl]; simp
                  have E := Lib.hid e3; have HQ := Lib.hid hq; clear e e3 hl hq
                  go_wp2_with (fail)
                  go_ret
                  rw [E.out]; exact ⟨rfl, rfl⟩
            · have e3 : res = true := by rw [← e, hq 0 (by omega), hq 1 (by omega), hq 2 (by omega)]; rfl
              have E := Lib.hid e3; clear e e3 hq
              go_wp2_with (fail)
              go_ret
              rw [E.out]; exact ⟨rfl, rfl⟩
  · rw [if_pos rfl] at e
    have E := Lib.hid e; clear e
    go_enter Try.func10, Try.ntmps10
    go_wp2_with (fail)
    go_ret
    rw [← E.out]; exact ⟨rfl, rfl⟩
end Go.Proofs.Ythdmklmihhallaa

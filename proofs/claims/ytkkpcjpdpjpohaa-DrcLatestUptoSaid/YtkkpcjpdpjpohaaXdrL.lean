/- What was put is taken as it was, and cut short it is told. No program here. -/
import Derived.Test.YtkkpcjpdpjpohaaXdrR
import Derived.Test.YtkkpcjpdpjpohaaXdrF
namespace Go.Proofs.Ytkkpcjpdpjpohaa
open Go.RowKit

theorem be_snoc (n : Int) : ∀ k, be n (k + 1) = be (n / 256) k ++ [byt n]
  | 0 => by simp [be]
  | k + 1 => by
    rw [be, be_snoc n k, be, ← List.cons_append]
    have e : n / 2 ^ (8 * (k + 1)) = n / 256 / 2 ^ (8 * k) := by
      rw [Int.ediv_ediv_of_nonneg (by decide)]
      congr 1
      rw [show 8 * (k + 1) = 8 * k + 8 by omega, Int.pow_add, Int.mul_comm]; rfl
    rw [e]
theorem mod_join (q r M : Int) (hM : 0 < M) (h0 : 0 ≤ r) (h1 : r < 256) : (256 * q + r) % (M * 256) = 256 * (q % M) + r := by
  have hm := Int.emod_nonneg q (b := M) (by omega)
  have hl := Int.emod_lt_of_pos q hM
  have h2 := Int.emod_add_mul_ediv q M
  have e : 256 * q + r = (256 * (q % M) + r) + (M * 256) * (q / M) := by
    rw [Int.mul_comm M 256, Int.mul_assoc]; omega
  rw [e, Int.add_mul_emod_self_left, Int.emod_eq_of_lt (by omega) (by omega)]
theorem unum_be : ∀ (k : Nat) (n : Int), k ≤ 8 → unum (be n k) = n % ((256 ^ k : Nat) : Int)
  | 0, n, _ => by simp [be, unum]
  | k + 1, n, h => by
    rw [be_snoc, unum_snoc, unum_be k (n / 256) (by omega), byt_toNat]
    have hle : 256 ^ (k + 1) ≤ 256 ^ 8 := Nat.pow_le_pow_right (by decide) h
    have hp : 0 < 256 ^ k := Nat.pow_pos (by decide)
    rw [Nat.pow_succ] at hle ⊢
    have e8 : 256 ^ 8 = 18446744073709551616 := by decide
    rw [e8] at hle
    generalize 256 ^ k = M at *
    have e := mod_join (n / 256) (n % 256) M (by omega) (by omega) (by omega)
    rw [show 256 * (n / 256) + n % 256 = n by omega] at e
    rw [Int.natCast_mul, show ((256 : Nat) : Int) = 256 from rfl, e]
    have hm := Int.emod_nonneg (n / 256) (b := (M : Int)) (by omega)
    have hl := Int.emod_lt_of_pos (n / 256) (b := (M : Int)) (by omega)
    exact Int.emod_eq_of_lt (by omega) (by omega)
theorem num_be4 (n : Int) : num (be n 4) = n % 4294967296 := by
  rw [← num_unum, unum_be 4 n (by decide)]
  unfold wrap64
  rw [show ((256 ^ 4 : Nat) : Int) = 4294967296 from rfl]; omega
theorem num_be8 (n : Int) (h : -9223372036854775808 ≤ n ∧ n ≤ 9223372036854775807) : num (be n 8) = n := by
  rw [← num_unum, unum_be 8 n (by decide)]
  unfold wrap64
  rw [show ((256 ^ 8 : Nat) : Int) = 18446744073709551616 from rfl]; omega
/-- a reader over these bytes, of which so many came -/
def cutR (l : List UInt8) (m : Int) : RS := if m < 0 then ⟨ByteArray.empty, 5⟩ else ⟨mkb (l.take m.toNat), 0⟩
theorem cutR_all (l : List UInt8) (m : Int) (h : l.length ≤ m) : cutR l m = ⟨mkb l, 0⟩ := by
  unfold cutR
  rw [if_neg (by omega), List.take_of_length_le (by omega)]
theorem mkb_nil : mkb [] = ByteArray.empty := rfl
theorem mkb_extract (l : List UInt8) (a b : Nat) : (mkb l).extract a b = mkb ((l.drop a).take (b - a)) := bl_inj (by rw [bl_extract, bl_mkb, bl_mkb])
theorem cutR_neg (l : List UInt8) (m : Int) (h : m < 0) : cutR l m = ⟨ByteArray.empty, 5⟩ := by unfold cutR; rw [if_pos h]
theorem cutR_pos (l : List UInt8) (m : Int) (h : 0 ≤ m) : cutR l m = ⟨mkb (l.take m.toNat), 0⟩ := by unfold cutR; rw [if_neg (by omega)]
theorem cutR_take (a rest : List UInt8) (m : Int) : (cutR (a ++ rest) m).take (a.length : Int) = ((if (a.length : Int) ≤ m then (mkb a, true) else (ByteArray.empty, false)), cutR rest (m - a.length)) := by
  by_cases h0 : m < 0
  · rw [cutR_neg _ _ h0, cutR_neg _ (m - a.length) (by omega), if_neg (show ¬ (a.length : Int) ≤ m by omega)]
    simp [RS.take]
  · rw [cutR_pos _ m (by omega)]
    unfold RS.take
    rw [if_pos rfl]
    dsimp only
    rw [mkb_size, List.length_take, List.length_append]
    by_cases h : (a.length : Int) ≤ m
    · rw [if_pos (show (a.length : Int) ≤ ((min m.toNat (a.length + rest.length) : Nat) : Int) by omega), if_pos h, cutR_pos _ _ (by omega), Int.toNat_natCast, mkb_extract, mkb_extract]
      have e1 : List.take (a.length - 0) (List.drop 0 (List.take m.toNat (a ++ rest))) = a := by
        rw [List.drop_zero, Nat.sub_zero, List.take_take, Nat.min_eq_left (by omega), List.take_append_of_le_length (Nat.le_refl _), List.take_length]
      have e2 : List.take (min m.toNat (a.length + rest.length) - a.length) (List.drop a.length (List.take m.toNat (a ++ rest))) = List.take (m - a.length).toNat rest := by
        rw [List.drop_take, List.drop_left, List.take_take]
        rcases Nat.le_total m.toNat (a.length + rest.length) with hle | hle
        · congr 1; omega
        · rw [List.take_of_length_le (by omega), List.take_of_length_le (by omega)]
      rw [e1, e2]
    · rw [if_neg (show ¬ (a.length : Int) ≤ ((min m.toNat (a.length + rest.length) : Nat) : Int) by omega), if_neg h, cutR_neg _ (m - a.length) (by omega)]
theorem cutR_nat4 (n : Int) (rest : List UInt8) (m : Int) : (cutR (be n 4 ++ rest) m).nat 4 = (if 4 ≤ m then n % 4294967296 else 0, cutR rest (m - 4)) := by
  have h := cutR_take (be n 4) rest m
  rw [be_length] at h
  unfold RS.nat
  rw [show (4 : Int) = ((4 : Nat) : Int) from rfl, h]
  by_cases h4 : ((4 : Nat) : Int) ≤ m
  · rw [if_pos h4, if_pos h4]; dsimp only; rw [bl_mkb, num_be4]
  · rw [if_neg h4, if_neg h4]; rfl
theorem cutR_nat8 (n : Int) (hn : -9223372036854775808 ≤ n ∧ n ≤ 9223372036854775807) (rest : List UInt8) (m : Int) : (cutR (be n 8 ++ rest) m).nat 8 = (if 8 ≤ m then n else 0, cutR rest (m - 8)) := by
  have h := cutR_take (be n 8) rest m
  rw [be_length] at h
  unfold RS.nat
  rw [show (8 : Int) = ((8 : Nat) : Int) from rfl, h]
  by_cases h4 : ((8 : Nat) : Int) ≤ m
  · rw [if_pos h4, if_pos h4]; dsimp only; rw [bl_mkb, num_be8 n hn]
  · rw [if_neg h4, if_neg h4]; rfl
theorem cutR_wrong (l : List UInt8) (m e : Int) (h : 0 ≤ m) : (cutR l m).wrong e = ⟨ByteArray.empty, e⟩ := by
  rw [cutR_pos _ _ h]; rfl
theorem cutR_bool (b : Bool) (rest : List UInt8) (m : Int) : (cutR (be (if b then 1 else 0) 4 ++ rest) m).bool = (decide (4 ≤ m) && b, cutR rest (m - 4)) := by
  unfold RS.bool
  rw [cutR_nat4]
  cases b <;> by_cases h : 4 ≤ m <;> simp [h]
theorem cutR_fixed (s rest : List UInt8) (m : Int) : (cutR (fixed s ++ rest) m).fixed s.length = (if ((fixed s).length : Int) ≤ m then mkb s else ByteArray.empty, cutR rest (m - (fixed s).length)) := by
  have hf : (fixed s).length = s.length + padn s.length := by rw [fixed, List.length_append, zeros, List.length_replicate]
  rw [hf]
  unfold RS.fixed
  rw [if_neg (show ¬ (s.length : Int) < 0 by omega)]
  by_cases h0 : m < 0
  · rw [cutR_neg _ m h0, cutR_neg _ (m - (s.length + padn s.length : Nat)) (by omega), if_neg (show ¬ ((s.length + padn s.length : Nat) : Int) ≤ m by omega)]
    simp
  · rw [cutR_pos _ m (by omega)]
    dsimp only
    rw [if_pos rfl, mkb_size, List.length_take, List.length_append, hf, Int.toNat_natCast]
    by_cases h1 : (s.length : Int) ≤ m
    · rw [if_pos (show (s.length : Int) ≤ ((min m.toNat (s.length + padn s.length + rest.length) : Nat) : Int) by omega)]
      by_cases h2 : ((s.length + padn s.length : Nat) : Int) ≤ m
      · rw [if_pos (show (s.length : Int) + (padn s.length : Int) ≤ ((min m.toNat (s.length + padn s.length + rest.length) : Nat) : Int) by omega), if_pos h2, cutR_pos _ (m - (s.length + padn s.length : Nat)) (by omega)]
        have e1 : (mkb ((fixed s ++ rest).take m.toNat)).extract 0 (s.length + padn s.length) = mkb (fixed s) := by
          rw [mkb_extract]; congr 1
          rw [List.drop_zero, Nat.sub_zero, List.take_take, Nat.min_eq_left (by omega), List.take_append_of_le_length (by omega), List.take_of_length_le (by omega)]
        rw [e1]
        have e2 : (mkb (fixed s)).extract s.length (s.length + padn s.length) = mkb (zeros (padn s.length)) := by
          rw [mkb_extract]; congr 1
          rw [fixed, List.drop_append, List.drop_length, Nat.sub_self, List.drop_zero, List.nil_append, List.take_of_length_le (by rw [zeros, List.length_replicate]; omega)]
        have e3 : (mkb (fixed s)).extract 0 s.length = mkb s := by
          rw [mkb_extract]; congr 1
          rw [List.drop_zero, Nat.sub_zero, fixed, List.take_append_of_le_length (Nat.le_refl _), List.take_length]
        rw [e2, e3, bl_mkb, if_pos (fun x hx => by rw [zeros] at hx; exact (List.mem_replicate.1 hx).2), mkb_extract]
        have hfx : (fixed s).length = s.length + padn s.length := hf
        have e4 : List.take (min m.toNat (s.length + padn s.length + rest.length) - (s.length + padn s.length)) (List.drop (s.length + padn s.length) (List.take m.toNat (fixed s ++ rest))) = List.take (m - (s.length + padn s.length : Nat)).toNat rest := by
          rw [List.drop_take, List.drop_left' hf, List.take_take]
          rcases Nat.le_total m.toNat (s.length + padn s.length + rest.length) with hle | hle
          · congr 1; omega
          · rw [List.take_of_length_le (by omega), List.take_of_length_le (by omega)]
        rw [e4]
      · rw [if_neg (show ¬ (s.length : Int) + (padn s.length : Int) ≤ ((min m.toNat (s.length + padn s.length + rest.length) : Nat) : Int) by omega), if_neg h2, cutR_neg _ (m - (s.length + padn s.length : Nat)) (by omega)]
    · rw [if_neg (show ¬ (s.length : Int) ≤ ((min m.toNat (s.length + padn s.length + rest.length) : Nat) : Int) by omega), if_neg (show ¬ ((s.length + padn s.length : Nat) : Int) ≤ m by omega), cutR_neg _ (m - (s.length + padn s.length : Nat)) (by omega)]
theorem cutR_opaq (s rest : List UInt8) (m most : Int) (hm : (s.length : Int) ≤ most) (hs : s.length < 4294967296) : (cutR (opaq s ++ rest) m).opqe most = (if ((opaq s).length : Int) ≤ m then mkb s else ByteArray.empty, cutR rest (m - (opaq s).length)) := by
  have hl : (opaq s).length = 4 + (fixed s).length := by rw [opaq, List.length_append, be_length]
  unfold RS.opqe
  have e := cutR_nat4 (s.length : Int) (fixed s ++ rest) m
  rw [← List.append_assoc] at e
  rw [show opaq s = be s.length 4 ++ fixed s from rfl] at *
  rw [e]
  dsimp only
  by_cases h4 : 4 ≤ m
  · rw [if_pos h4, show (s.length : Int) % 4294967296 = s.length by omega, if_neg (by omega), cutR_fixed, hl]
    congr 1
    · by_cases h : ((fixed s).length : Int) ≤ m - 4
      · rw [if_pos h, if_pos (by omega)]
      · rw [if_neg h, if_neg (by omega)]
    · congr 1; omega
  · rw [if_neg h4, if_neg (by omega), if_neg (by omega)]
    have e5 : ∀ l, cutR l (m - 4) = ⟨ByteArray.empty, 5⟩ := fun l => by unfold cutR; rw [if_pos (by omega)]
    rw [e5]
    unfold cutR
    rw [if_pos (by omega)]
    simp [RS.fixed]
theorem cutR_fin (m : Int) : (cutR [] m).fin = if m < 0 then 5 else 0 := by
  by_cases h : m < 0
  · rw [cutR_neg _ _ h, if_pos h]; rfl
  · rw [cutR_pos _ _ (by omega), if_neg h, List.take_nil, mkb_nil]; rfl
end Go.Proofs.Ytkkpcjpdpjpohaa

/- Layer 14: handles, the plain side. -/
import Derived.Test.YthpcncebjkfjkaaXdrL
namespace Go.Proofs.Ythpcncebjkfjkaa
open Go.RowKit

def mark : List UInt8 := [99, 111, 114, 97]
def hb (f id gen : Int) : List UInt8 := mark ++ be f 8 ++ be id 8 ++ be gen 8
theorem hb_length (f id gen : Int) : (hb f id gen).length = 28 := by simp only [hb, List.length_append, be_length]; rfl
theorem nat8_eq (s : ByteArray) : (⟨s, 0⟩ : RS).nat 8 = if 8 ≤ s.size then (num (bl (s.extract 0 8)), ⟨s.extract 8 s.size, 0⟩) else (0, ⟨ByteArray.empty, 5⟩) := by
  unfold RS.nat RS.take
  dsimp only
  rw [if_pos rfl]
  by_cases h : 8 ≤ s.size
  · rw [if_pos (by omega), if_pos h]; rfl
  · rw [if_neg (by omega), if_neg h]; rfl
theorem nat8_err (r : RS) (h : r.e ≠ 0) : r.nat 8 = (0, r) := by
  unfold RS.nat; rw [RS.take_err r 8 h]; rfl
def r1 (s : ByteArray) : RS := ((⟨s, 0⟩ : RS).nat 8).2
def r2 (s : ByteArray) : RS := ((r1 s).nat 8).2
def r3 (s : ByteArray) : RS := ((r2 s).nat 8).2
def v1 (s : ByteArray) : Int := ((⟨s, 0⟩ : RS).nat 8).1
def v2 (s : ByteArray) : Int := ((r1 s).nat 8).1
def v3 (s : ByteArray) : Int := ((r2 s).nat 8).1
theorem r_le (s : ByteArray) : (r1 s).s.size ≤ s.size ∧ (r2 s).s.size ≤ s.size ∧ (r3 s).s.size ≤ s.size := by
  have h1 := (⟨s, 0⟩ : RS).nat_le 8
  have h2 := (r1 s).nat_le 8
  have h3 := (r2 s).nat_le 8
  have e1 : (r1 s).s.size ≤ s.size := h1
  have e2 : (r2 s).s.size ≤ (r1 s).s.size := h2
  have e3 : (r3 s).s.size ≤ (r2 s).s.size := h3
  omega
theorem fin_eq24 (s : ByteArray) : (r3 s).fin = if s.size = 24 then 0 else if s.size < 24 then 5 else 6 := by
  have er : ∀ r : RS, r.e = 5 → r.fin = 5 := fun r h => by unfold RS.fin; rw [h]; rfl
  have e1 : r1 s = if 8 ≤ s.size then ⟨s.extract 8 s.size, 0⟩ else ⟨ByteArray.empty, 5⟩ := by unfold r1; rw [nat8_eq]; split <;> rfl
  by_cases h1 : 8 ≤ s.size
  · rw [if_pos h1] at e1
    have z1 : (s.extract 8 s.size).size = s.size - 8 := by rw [ByteArray.size_extract]; omega
    have e2 : r2 s = if 8 ≤ s.size - 8 then ⟨(s.extract 8 s.size).extract 8 (s.size - 8), 0⟩ else ⟨ByteArray.empty, 5⟩ := by unfold r2; rw [e1, nat8_eq, z1]; split <;> rfl
    by_cases h2 : 8 ≤ s.size - 8
    · rw [if_pos h2] at e2
      have z2 : ((s.extract 8 s.size).extract 8 (s.size - 8)).size = s.size - 16 := by rw [ByteArray.size_extract, z1]; omega
      have e3 : r3 s = if 8 ≤ s.size - 16 then ⟨((s.extract 8 s.size).extract 8 (s.size - 8)).extract 8 (s.size - 16), 0⟩ else ⟨ByteArray.empty, 5⟩ := by unfold r3; rw [e2, nat8_eq, z2]; split <;> rfl
      by_cases h3 : 8 ≤ s.size - 16
      · rw [if_pos h3] at e3
        rw [e3]
        unfold RS.fin
        dsimp only
        rw [if_pos rfl, ByteArray.size_extract, z2]
        by_cases h4 : s.size = 24
        · rw [if_pos h4, if_pos (by omega)]
        · rw [if_neg h4, if_neg (by omega), if_neg (by omega)]
      · rw [if_neg h3] at e3
        rw [er _ (by rw [e3]), if_neg (by omega), if_pos (by omega)]
    · rw [if_neg h2] at e2
      have e3 : r3 s = ⟨ByteArray.empty, 5⟩ := by unfold r3; rw [e2, nat8_err _ (by decide)]
      rw [er _ (by rw [e3]), if_neg (by omega), if_pos (by omega)]
  · rw [if_neg h1] at e1
    have e2 : r2 s = ⟨ByteArray.empty, 5⟩ := by unfold r2; rw [e1, nat8_err _ (by decide)]
    have e3 : r3 s = ⟨ByteArray.empty, 5⟩ := by unfold r3; rw [e2, nat8_err _ (by decide)]
    rw [er _ (by rw [e3]), if_neg (by omega), if_pos (by omega)]
/-- three numbers of 24 bytes -/
theorem r_three (a b c : List UInt8) (ha : a.length = 8) (hb' : b.length = 8) (hc : c.length = 8) : v1 (mkb (a ++ b ++ c)) = num a ∧ v2 (mkb (a ++ b ++ c)) = num b ∧ v3 (mkb (a ++ b ++ c)) = num c := by
  have z : ∀ (x y : List UInt8), x.length = 8 → (⟨mkb (x ++ y), 0⟩ : RS).nat 8 = (num x, ⟨mkb y, 0⟩) := fun x y hx => by
    rw [nat8_eq, mkb_size, if_pos (by rw [List.length_append]; omega), mkb_extract, mkb_extract, bl_mkb]
    rw [List.drop_zero, Nat.sub_zero, List.take_left' hx, List.drop_left' hx, List.take_of_length_le (by rw [List.length_append]; omega)]
  have h1 := z a (b ++ c) ha
  have h2 := z b c hb'
  have h3 := z c [] hc
  rw [List.append_nil] at h3
  rw [← List.append_assoc] at h1
  unfold v3 v2 v1 r2 r1
  rw [h1]; dsimp only
  rw [h2]; dsimp only
  rw [h3]
  exact ⟨rfl, rfl, rfl⟩
theorem pow_split (k : Nat) : 256 ^ (k + 1) = 256 ^ k * 256 := Nat.pow_succ ..
theorem unum_inv : ∀ (k : Nat) (l : List UInt8), k ≤ 8 → l.length = k → unum l < ((256 ^ k : Nat) : Int) ∧ be (unum l) k = l
  | 0, l, _, hl => by
    obtain rfl := List.eq_nil_of_length_eq_zero hl
    exact ⟨by decide, rfl⟩
  | k + 1, l, hk, hl => by
    obtain ⟨l', b, rfl⟩ : ∃ l' b, l = l' ++ [b] := by
      have hne : l ≠ [] := fun h => by rw [h] at hl; simp at hl
      exact ⟨l.dropLast, l.getLast hne, (List.dropLast_concat_getLast hne).symm⟩
    have hl' : l'.length = k := by simpa using hl
    obtain ⟨h1, h2⟩ := unum_inv k l' (by omega) hl'
    have h0 := (unum_range l').1
    have hb := b.toNat_lt
    have hle : 256 ^ (k + 1) ≤ 256 ^ 8 := Nat.pow_le_pow_right (by decide) hk
    have e8 : 256 ^ 8 = 18446744073709551616 := by decide
    rw [e8, pow_split] at hle
    rw [pow_split, Int.natCast_mul]
    generalize 256 ^ k = M at *
    have e : unum (l' ++ [b]) = 256 * unum l' + (b.toNat : Int) := by
      rw [unum_snoc, Int.emod_eq_of_lt (by omega) (by omega)]
    refine ⟨by rw [e]; omega, ?_⟩
    rw [be_snoc, e, show (256 * unum l' + (b.toNat : Int)) / 256 = unum l' by omega, h2]
    congr 2
    apply UInt8.toNat_inj.1
    have := byt_toNat (256 * unum l' + (b.toNat : Int))
    omega
theorem be_wrap (x : Int) : be (wrap64 x) 8 = be x 8 := by
  have key : ∀ m k : Int, m % 256 = k % 256 → byt m = byt k := fun m k h => by unfold byt; rw [h]
  simp only [be]
  rw [key (wrap64 x / 2 ^ (8 * 7)) (x / 2 ^ (8 * 7)) (by unfold wrap64; omega), key (wrap64 x / 2 ^ (8 * 6)) (x / 2 ^ (8 * 6)) (by unfold wrap64; omega), key (wrap64 x / 2 ^ (8 * 5)) (x / 2 ^ (8 * 5)) (by unfold wrap64; omega), key (wrap64 x / 2 ^ (8 * 4)) (x / 2 ^ (8 * 4)) (by unfold wrap64; omega),
    key (wrap64 x / 2 ^ (8 * 3)) (x / 2 ^ (8 * 3)) (by unfold wrap64; omega), key (wrap64 x / 2 ^ (8 * 2)) (x / 2 ^ (8 * 2)) (by unfold wrap64; omega), key (wrap64 x / 2 ^ (8 * 1)) (x / 2 ^ (8 * 1)) (by unfold wrap64; omega), key (wrap64 x / 2 ^ (8 * 0)) (x / 2 ^ (8 * 0)) (by unfold wrap64; omega)]
theorem be_num (l : List UInt8) (h : l.length = 8) : be (num l) 8 = l := by
  rw [← num_unum, be_wrap]; exact (unum_inv 8 l (Nat.le_refl _) h).2
/-- a handle, taken apart -/
def isH (s : ByteArray) : Bool := decide (s.size = 28 ∧ (bl s).take 4 = mark)
def getB (s : ByteArray) : Int × Int × Int := if isH s then (v1 (s.extract 4 s.size), v2 (s.extract 4 s.size), v3 (s.extract 4 s.size)) else (0, 0, 0)
theorem isH_form (s : ByteArray) (h : isH s = true) : ∃ a b c : List UInt8, a.length = 8 ∧ b.length = 8 ∧ c.length = 8 ∧ s = mkb (mark ++ a ++ b ++ c) ∧ s.extract 4 s.size = mkb (a ++ b ++ c) := by
  obtain ⟨h1, h2⟩ := of_decide_eq_true h
  have hl : (bl s).length = 28 := by rw [bl_length, h1]
  refine ⟨((bl s).drop 4).take 8, ((bl s).drop 12).take 8, (bl s).drop 20, by simp; omega, by simp; omega, by simp; omega, ?_, ?_⟩
  · apply bl_inj
    rw [bl_mkb, ← h2]
    have e1 := List.take_append_drop 4 (bl s)
    have e2 := List.take_append_drop 8 ((bl s).drop 4)
    have e3 := List.take_append_drop 8 ((bl s).drop 12)
    rw [List.drop_drop] at e2 e3
    rw [List.append_assoc, List.append_assoc, show (20 : Nat) = 12 + 8 from rfl, e3, show (12 : Nat) = 4 + 8 from rfl, e2, e1]
  · apply bl_inj
    rw [bl_mkb, bl_extract, h1]
    have e2 := List.take_append_drop 8 ((bl s).drop 4)
    have e3 := List.take_append_drop 8 ((bl s).drop 12)
    rw [List.drop_drop] at e2 e3
    rw [List.append_assoc, show (20 : Nat) = 12 + 8 from rfl, e3, show (12 : Nat) = 4 + 8 from rfl, e2]
    exact List.take_of_length_le (by simp; omega)
theorem put_get (s : ByteArray) (h : isH s = true) : mkb (hb (getB s).1 (getB s).2.1 (getB s).2.2) = s := by
  obtain ⟨a, b, c, ha, hb', hc, hs, hx⟩ := isH_form s h
  obtain ⟨h1, h2, h3⟩ := r_three a b c ha hb' hc
  unfold getB
  rw [if_pos h, hx]
  dsimp only
  rw [h1, h2, h3, hb, be_num a ha, be_num b hb', be_num c hc, ← hs]
def inI64 (x : Int) : Prop := -9223372036854775808 ≤ x ∧ x ≤ 9223372036854775807
theorem isH_put (f id gen : Int) : isH (mkb (hb f id gen)) = true := by
  refine decide_eq_true ⟨by rw [mkb_size, hb_length], ?_⟩
  rw [bl_mkb, hb, List.append_assoc, List.append_assoc]; exact List.take_left' rfl
theorem get_put (f id gen : Int) (h1 : inI64 f) (h2 : inI64 id) (h3 : inI64 gen) : getB (mkb (hb f id gen)) = (f, id, gen) := by
  have hx : (mkb (hb f id gen)).extract 4 (mkb (hb f id gen)).size = mkb (be f 8 ++ be id 8 ++ be gen 8) := by
    rw [mkb_extract, hb, List.append_assoc, List.append_assoc, List.drop_left' (show mark.length = 4 by decide), List.take_of_length_le (by rw [mkb_size]; simp [be_length, mark]), List.append_assoc]
  unfold getB
  rw [if_pos (isH_put f id gen), hx]
  obtain ⟨e1, e2, e3⟩ := r_three (be f 8) (be id 8) (be gen 8) (be_length _ _) (be_length _ _) (be_length _ _)
  rw [e1, e2, e3, num_be8 f h1, num_be8 id h2, num_be8 gen h3]
def goodB (s : ByteArray) : Bool := isH s && (getB s).1 == 1 && decide (1 ≤ (getB s).2.1) && (getB s).2.2 == (getB s).2.1
def numB (s : ByteArray) : Int × Int := if goodB s then ((getB s).2.1, 0) else (0, 10001)
end Go.Proofs.Ythpcncebjkfjkaa

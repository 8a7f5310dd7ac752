/- Layer 21: checksums, the plain side. -/
import Derived.Test.YtaifncebakbinaaNeE
import Derived.Lib.Strings
namespace Go.Proofs.Ytaifncebakbinaa
open Go.RowKit

def wgt (i : Nat) (b : UInt8) : Int := if i % 2 = 0 then (b.toNat : Int) * 256 else b.toNat
/-- what goes over comes round -/
def rnd (n w : Int) : Int := if n + w ≤ 65535 then n + w else n + w - 65535
def csum (l : List UInt8) : Nat → Int
  | 0 => 0
  | k + 1 => rnd (csum l k) (wgt k (l.getD k 0))
def tot (l : List UInt8) : Nat → Int
  | 0 => 0
  | k + 1 => tot l k + wgt k (l.getD k 0)
theorem wgt_range (i : Nat) (b : UInt8) : 0 ≤ wgt i b ∧ wgt i b ≤ 65280 := by
  have := b.toNat_lt
  unfold wgt; split <;> omega
theorem csum_range (l : List UInt8) : ∀ k, 0 ≤ csum l k ∧ csum l k ≤ 65535
  | 0 => by show (0 : Int) ≤ 0 ∧ (0 : Int) ≤ 65535; decide
  | k + 1 => by
    have h1 := csum_range l k
    have h2 := wgt_range k (l.getD k 0)
    rw [csum]; unfold rnd; split <;> omega
theorem csum_mod (l : List UInt8) : ∀ k, ∃ q : Int, csum l k = tot l k - 65535 * q
  | 0 => ⟨0, rfl⟩
  | k + 1 => by
    obtain ⟨q, hq⟩ := csum_mod l k
    rw [csum, tot]; unfold rnd
    split
    · exact ⟨q, by omega⟩
    · exact ⟨q + 1, by omega⟩
theorem rnd_rnd (n a b : Int) (h0 : 0 ≤ n) (h1 : n ≤ 65535) (ha0 : 0 ≤ a) (ha : a ≤ 65280) (hb0 : 0 ≤ b) (hb : b ≤ 255) : rnd (rnd n a) b = rnd n (a + b) := by
  unfold rnd; split <;> split <;> split <;> omega
theorem csum_two (l : List UInt8) (k : Nat) (hk : k % 2 = 0) : csum l (k + 2) = rnd (csum l k) ((l.getD k 0).toNat * 256 + (l.getD (k + 1) 0).toNat) := by
  have h := csum_range l k
  have h1 := (l.getD k 0).toNat_lt
  have h2 := (l.getD (k + 1) 0).toNat_lt
  show rnd (rnd (csum l k) (wgt k (l.getD k 0))) (wgt (k + 1) (l.getD (k + 1) 0)) = _
  have e1 : wgt k (l.getD k 0) = ((l.getD k 0).toNat : Int) * 256 := if_pos hk
  have e2 : wgt (k + 1) (l.getD (k + 1) 0) = ((l.getD (k + 1) 0).toNat : Int) := if_neg (by omega)
  rw [e1, e2, rnd_rnd _ _ _ h.1 h.2 (by omega) (by omega) (by omega) (by omega)]
theorem tot_set (l : List UInt8) (i : Nat) (z : UInt8) : ∀ k, i < l.length → tot (l.set i z) k = tot l k + if i < k then wgt i z - wgt i (l.getD i 0) else 0
  | 0, _ => by simp [tot]
  | k + 1, hi => by
    rw [tot, tot, tot_set l i z k hi]
    by_cases hik : i = k
    · subst hik
      rw [if_neg (by omega), if_pos (by omega)]
      have : (l.set i z).getD i 0 = z := by rw [List.getD_eq_getElem?_getD, List.getElem?_set, if_pos rfl, if_pos hi]; rfl
      rw [this]; omega
    · have : (l.set i z).getD k 0 = l.getD k 0 := by rw [List.getD_eq_getElem?_getD, List.getElem?_set, if_neg hik, List.getD_eq_getElem?_getD]
      rw [this]
      by_cases h : i < k
      · rw [if_pos h, if_pos (by omega)]; omega
      · rw [if_neg h, if_neg (by omega)]; omega
theorem zb_diff (y : UInt8) (m : Nat) (hm : m < 8) : ((zb y m).toNat : Int) - y.toNat = 2 ^ m ∨ ((zb y m).toNat : Int) - y.toNat = -(2 ^ m) := by
  have key : ∀ (a : Fin 256) (m : Fin 8), (((UInt8.ofNat ((a.val ^^^ 2 ^ m.val) % 256)).toNat : Int) - a.val = 2 ^ m.val ∨ ((UInt8.ofNat ((a.val ^^^ 2 ^ m.val) % 256)).toNat : Int) - a.val = -(2 ^ m.val)) := by decide +kernel
  exact key ⟨y.toNat, y.toNat_lt⟩ ⟨m, hm⟩
theorem csum_turn (l : List UInt8) (K : Nat) (hK : K / 8 < l.length) : csum (turnL l K) l.length ≠ csum l l.length := by
  intro he
  obtain ⟨q1, h1⟩ := csum_mod (turnL l K) l.length
  obtain ⟨q2, h2⟩ := csum_mod l l.length
  have h3 := tot_set l (K / 8) (zb (l.getD (K / 8) 0) (K % 8)) l.length hK
  rw [if_pos hK] at h3
  have e : turnL l K = l.set (K / 8) (zb (l.getD (K / 8) 0) (K % 8)) := rfl
  rw [e] at h1 he
  have hd := zb_diff (l.getD (K / 8) 0) (K % 8) (by omega)
  generalize zb (l.getD (K / 8) 0) (K % 8) = z at *
  generalize l.getD (K / 8) 0 = y at *
  have hm : K % 8 = 0 ∨ K % 8 = 1 ∨ K % 8 = 2 ∨ K % 8 = 3 ∨ K % 8 = 4 ∨ K % 8 = 5 ∨ K % 8 = 6 ∨ K % 8 = 7 := by omega
  have hw : wgt (K / 8) z - wgt (K / 8) y = ((z.toNat : Int) - y.toNat) * 256 ∨ wgt (K / 8) z - wgt (K / 8) y = (z.toNat : Int) - y.toNat := by
    unfold wgt
    by_cases h : K / 8 % 2 = 0
    · rw [if_pos h, if_pos h]; left; omega
    · rw [if_neg h, if_neg h]; right; rfl
  rcases hm with hm | hm | hm | hm | hm | hm | hm | hm <;> rw [hm] at hd <;> simp only [Int.reducePow] at hd <;> rcases hd with hd | hd <;> rcases hw with hw | hw <;> omega
def sumB (s : ByteArray) : Int := 65535 - csum (bl s) s.size
theorem sumB_range (s : ByteArray) : 0 ≤ sumB s ∧ sumB s ≤ 65535 := by have := csum_range (bl s) s.size; unfold sumB; omega
def sealB (s : ByteArray) : ByteArray := mkb (bl s ++ be (sumB s) 2)
theorem sealB_size (s : ByteArray) : (sealB s).size = s.size + 2 := by rw [sealB, mkb_size, List.length_append, be_length, bl_length]
theorem be2_inj (x y : Int) (hx : 0 ≤ x ∧ x ≤ 65535) (hy : 0 ≤ y ∧ y ≤ 65535) (h : be x 2 = be y 2) : x = y := by
  simp only [be, List.cons.injEq, and_true] at h
  obtain ⟨h1, h2⟩ := h
  have e1 := congrArg (fun b : UInt8 => (b.toNat : Int)) h1
  have e2 := congrArg (fun b : UInt8 => (b.toNat : Int)) h2
  simp only [byt_toNat] at e1 e2
  omega
theorem bl_extract (S : ByteArray) (a b : Nat) : bl (S.extract a b) = ((bl S).drop a).take (b - a) := Lib.extract_data S a b
theorem mkb_extract (l : List UInt8) (a b : Nat) : (mkb l).extract a b = mkb ((l.drop a).take (b - a)) := bl_inj (by rw [bl_extract, bl_mkb, bl_mkb])
theorem seal_head (s : ByteArray) : (sealB s).extract 0 ((sealB s).size - 2) = s := by
  rw [sealB_size, Nat.add_sub_cancel, sealB, mkb_extract, List.drop_zero, Nat.sub_zero, List.take_left' (bl_length s), mkb_bl]
def openB (s : ByteArray) : ByteArray × Bool := if s.size < 2 then (ByteArray.empty, false) else if sealB (s.extract 0 (s.size - 2)) = s then (s.extract 0 (s.size - 2), true) else (ByteArray.empty, false)
theorem open_seal (s : ByteArray) : openB (sealB s) = (s, true) := by
  unfold openB
  rw [if_neg (by rw [sealB_size]; omega), seal_head, if_pos rfl]
theorem turnL_ne (l : List UInt8) (K : Nat) (h : K / 8 < l.length) : turnL l K ≠ l := by
  intro he
  obtain ⟨y, hy⟩ : ∃ y, l[K / 8]? = some y := ⟨_, List.getElem?_eq_getElem h⟩
  have h1 := turn_get l K (K / 8) y hy
  rw [if_pos rfl, he, hy] at h1
  injection h1 with h1
  have hd := zb_diff y (K % 8) (by omega)
  rw [← h1] at hd
  have hp : (0 : Int) < 2 ^ (K % 8) := by
    have : ∀ m : Fin 8, (0 : Int) < 2 ^ m.val := by decide
    exact this ⟨K % 8, by omega⟩
  omega
theorem open_turn (s : ByteArray) (bit : Int) : openB (turnB (sealB s) bit) = (ByteArray.empty, false) := by
  have hsz := sealB_size s
  have hlt := Int.emod_lt_of_pos bit (b := 8 * ((sealB s).size : Int)) (by omega)
  have hge := Int.emod_nonneg bit (b := 8 * ((sealB s).size : Int)) (by omega)
  obtain ⟨K, hK⟩ : ∃ K, K = (bit % (8 * ((sealB s).size : Int))).toNat := ⟨_, rfl⟩
  have e : turnB (sealB s) bit = mkb (turnL (bl (sealB s)) K) := by unfold turnB; rw [if_neg (by omega), hK]
  have hKl : K / 8 < (bl (sealB s)).length := by rw [bl_length]; omega
  have hts : (mkb (turnL (bl (sealB s)) K)).size = s.size + 2 := by rw [mkb_size, turnL_length, bl_length, hsz]
  rw [e]
  unfold openB
  rw [if_neg (by omega), if_neg, ]
  intro h
  rw [hts, Nat.add_sub_cancel] at h
  have hx : bl (sealB s) = bl s ++ be (sumB s) 2 := by rw [sealB, bl_mkb]
  rw [hx] at h hKl hts
  have hbl := bl_length s
  by_cases hin : K / 8 < s.size
  · have ht : turnL (bl s ++ be (sumB s) 2) K = turnL (bl s) K ++ be (sumB s) 2 := by
      unfold turnL
      rw [List.set_append_left _ _ (by omega)]
      congr 4
      rw [List.getD_eq_getElem?_getD, List.getElem?_append_left (by omega), List.getD_eq_getElem?_getD]
    rw [ht, mkb_extract, List.drop_zero, Nat.sub_zero, List.take_left' (by rw [turnL_length, hbl])] at h
    have h2 := congrArg bl h
    rw [sealB, bl_mkb, bl_mkb, bl_mkb] at h2
    have h3 := be2_inj _ _ (sumB_range _) (sumB_range _) (List.append_cancel_left h2)
    unfold sumB at h3
    rw [bl_mkb, mkb_size, turnL_length, ← hbl] at h3
    exact csum_turn (bl s) K (by omega) (by omega)
  · have ht : (turnL (bl s ++ be (sumB s) 2) K).take s.size = bl s := by
      unfold turnL
      rw [List.take_set, List.set_eq_of_length_le (by rw [List.length_take]; omega), List.take_left' hbl]
    rw [mkb_extract, List.drop_zero, Nat.sub_zero, ht, mkb_bl] at h
    have h2 := congrArg bl h
    rw [sealB, bl_mkb, bl_mkb] at h2
    exact turnL_ne _ K hKl h2.symm
theorem open_back (o : ByteArray) : ((openB o).2 = true ∧ sealB (openB o).1 = o) ∨ ((openB o).2 = false ∧ (openB o).1 = ByteArray.empty) := by
  unfold openB
  split
  · exact .inr ⟨rfl, rfl⟩
  · split
    · rename_i h; exact .inl ⟨rfl, h⟩
    · exact .inr ⟨rfl, rfl⟩
end Go.Proofs.Ytaifncebakbinaa

/- What is taken was put so: the bytes behind what a reader took. No program here. -/
import Derived.Test.YtkkpcjpdpjpohaaXdrL
namespace Go.Proofs.Ytkkpcjpdpjpohaa
open Go.RowKit

theorem unumI : ∀ (k : Nat) (l : List UInt8), k ≤ 8 → l.length = k → unum l < ((256 ^ k : Nat) : Int) ∧ be (unum l) k = l
  | 0, l, _, hl => by
    obtain rfl := List.eq_nil_of_length_eq_zero hl
    exact ⟨by decide, rfl⟩
  | k + 1, l, hk, hl => by
    obtain ⟨l', b, rfl⟩ : ∃ l' b, l = l' ++ [b] := by
      have hne : l ≠ [] := fun h => by rw [h] at hl; simp at hl
      exact ⟨l.dropLast, l.getLast hne, (List.dropLast_concat_getLast hne).symm⟩
    have hl' : l'.length = k := by simpa using hl
    obtain ⟨h1, h2⟩ := unumI k l' (by omega) hl'
    have h0 := (unum_range l').1
    have hb := b.toNat_lt
    have hle : 256 ^ (k + 1) ≤ 256 ^ 8 := Nat.pow_le_pow_right (by decide) hk
    have e8 : 256 ^ 8 = 18446744073709551616 := by decide
    have ps : 256 ^ (k + 1) = 256 ^ k * 256 := Nat.pow_succ ..
    rw [e8, ps] at hle
    rw [ps, Int.natCast_mul]
    generalize 256 ^ k = M at *
    have e : unum (l' ++ [b]) = 256 * unum l' + (b.toNat : Int) := by
      rw [unum_snoc, Int.emod_eq_of_lt (by omega) (by omega)]
    refine ⟨by rw [e]; omega, ?_⟩
    rw [be_snoc, e, show (256 * unum l' + (b.toNat : Int)) / 256 = unum l' by omega, h2]
    congr 2
    apply UInt8.toNat_inj.1
    have := byt_toNat (256 * unum l' + (b.toNat : Int))
    omega
theorem be_wrap64 (x : Int) : be (wrap64 x) 8 = be x 8 := by
  have key : ∀ m k : Int, m % 256 = k % 256 → byt m = byt k := fun m k h => by unfold byt; rw [h]
  simp only [be]
  rw [key (wrap64 x / 2 ^ (8 * 7)) (x / 2 ^ (8 * 7)) (by unfold wrap64; omega), key (wrap64 x / 2 ^ (8 * 6)) (x / 2 ^ (8 * 6)) (by unfold wrap64; omega), key (wrap64 x / 2 ^ (8 * 5)) (x / 2 ^ (8 * 5)) (by unfold wrap64; omega), key (wrap64 x / 2 ^ (8 * 4)) (x / 2 ^ (8 * 4)) (by unfold wrap64; omega),
    key (wrap64 x / 2 ^ (8 * 3)) (x / 2 ^ (8 * 3)) (by unfold wrap64; omega), key (wrap64 x / 2 ^ (8 * 2)) (x / 2 ^ (8 * 2)) (by unfold wrap64; omega), key (wrap64 x / 2 ^ (8 * 1)) (x / 2 ^ (8 * 1)) (by unfold wrap64; omega), key (wrap64 x / 2 ^ (8 * 0)) (x / 2 ^ (8 * 0)) (by unfold wrap64; omega)]
theorem be_num8' (l : List UInt8) (h : l.length = 8) : be (num l) 8 = l := by
  rw [← num_unum, be_wrap64]; exact (unumI 8 l (Nat.le_refl _) h).2
theorem be_num4' (l : List UInt8) (h : l.length = 4) : be (num l) 4 = l := by
  obtain ⟨h1, h2⟩ := unumI 4 l (by decide) h
  have h0 := (unum_range l).1
  rw [show ((256 ^ 4 : Nat) : Int) = 4294967296 from rfl] at h1
  rw [← num_unum, show wrap64 (unum l) = unum l by unfold wrap64; omega]
  exact h2
theorem RS.take_e0 {r : RS} {n : Int} (h : (r.take n).2.e = 0) : r.e = 0 := by
  unfold RS.take at h
  split at h
  · assumption
  · exact h
theorem RS.nat_e0 {r : RS} {n : Int} (h : (r.nat n).2.e = 0) : r.e = 0 := RS.take_e0 h
theorem RS.wrong_e0 {r : RS} {e : Int} (he : e ≠ 0) (h : (r.wrong e).e = 0) : False := by
  unfold RS.wrong at h
  dsimp only at h
  split at h
  · exact he h
  · exact absurd h (by assumption)
theorem RS.bool_e0 {r : RS} (h : r.bool.2.e = 0) : r.e = 0 := by
  unfold RS.bool at h
  split at h
  · exact (RS.wrong_e0 (by decide) h).elim
  · exact RS.nat_e0 h
theorem RS.fixed_e0 {r : RS} {n : Int} (h : (r.fixed n).2.e = 0) : r.e = 0 := by
  unfold RS.fixed at h
  split at h
  · exact h
  · split at h
    · assumption
    · exact h
theorem RS.opqe_e0 {r : RS} {n : Int} (h : (r.opqe n).2.e = 0) : r.e = 0 := by
  unfold RS.opqe at h
  split at h
  · exact (RS.wrong_e0 (by decide) h).elim
  · exact RS.nat_e0 (RS.fixed_e0 h)
theorem RS.take_inv {r : RS} {k : Nat} (h : (r.take k).2.e = 0) : k ≤ r.s.size ∧ bl (r.take k).1.1 = (bl r.s).take k ∧ bl (r.take k).2.s = (bl r.s).drop k := by
  have h0 := RS.take_e0 h
  unfold RS.take at h ⊢
  rw [if_pos h0] at h ⊢
  by_cases hle : (k : Int) ≤ r.s.size
  · rw [if_pos hle]
    refine ⟨by omega, ?_, ?_⟩
    · dsimp only; rw [bl_extract, List.drop_zero, Int.toNat_natCast, Nat.sub_zero]
    · dsimp only; rw [bl_extract, Int.toNat_natCast]; exact List.take_of_length_le (by rw [List.length_drop, bl_length]; omega)
  · rw [if_neg hle] at h; cases h
theorem RS.nat4_inv {r : RS} (h : (r.nat 4).2.e = 0) : bl r.s = be (r.nat 4).1 4 ++ bl (r.nat 4).2.s := by
  obtain ⟨h1, h2, h3⟩ := RS.take_inv (k := 4) h
  show _ = be (num (bl (r.take 4).1.1)) 4 ++ bl (r.take 4).2.s
  rw [show ((4 : Nat) : Int) = 4 from rfl] at h2 h3
  rw [h2, h3, be_num4' _ (by rw [List.length_take, bl_length]; omega), List.take_append_drop]
theorem RS.nat8_inv {r : RS} (h : (r.nat 8).2.e = 0) : bl r.s = be (r.nat 8).1 8 ++ bl (r.nat 8).2.s := by
  obtain ⟨h1, h2, h3⟩ := RS.take_inv (k := 8) h
  show _ = be (num (bl (r.take 8).1.1)) 8 ++ bl (r.take 8).2.s
  rw [show ((8 : Nat) : Int) = 8 from rfl] at h2 h3
  rw [h2, h3, be_num8' _ (by rw [List.length_take, bl_length]; omega), List.take_append_drop]
theorem RS.bool_inv {r : RS} (h : r.bool.2.e = 0) : bl r.s = be (if r.bool.1 then 1 else 0) 4 ++ bl r.bool.2.s := by
  have hn := r.nat4
  unfold RS.bool at h ⊢
  by_cases h1 : (r.nat 4).1 > 1
  · rw [if_pos h1] at h; exact (RS.wrong_e0 (by decide) h).elim
  · rw [if_neg h1] at h ⊢
    dsimp only at h ⊢
    have hi := RS.nat4_inv h
    have : (r.nat 4).1 = 0 ∨ (r.nat 4).1 = 1 := by omega
    rcases this with h2 | h2
    · rw [h2] at hi ⊢; exact hi
    · rw [h2] at hi ⊢; exact hi
theorem RS.fixed_inv {r : RS} {n : Int} (hn : 0 ≤ n) (h : (r.fixed n).2.e = 0) : bl r.s = Ytkkpcjpdpjpohaa.fixed (bl (r.fixed n).1) ++ bl (r.fixed n).2.s ∧ ((r.fixed n).1.size : Int) = n := by
  have h0 := RS.fixed_e0 h
  obtain ⟨k, rfl⟩ := Int.eq_ofNat_of_zero_le hn
  unfold RS.fixed at h ⊢
  rw [if_neg (by omega), if_pos h0] at h ⊢
  by_cases h1 : (k : Int) ≤ r.s.size
  · rw [if_pos h1] at h ⊢
    by_cases h2 : (k : Int) + (padn (k : Int).toNat : Int) ≤ r.s.size
    · rw [if_pos h2] at h ⊢
      rw [Int.toNat_natCast] at h h2 ⊢
      split at h
      · rename_i hz
        rw [if_pos hz]
        dsimp only
        have hp : k + padn k ≤ r.s.size := by omega
        have e1 : bl ((r.s.extract 0 (k + padn k)).extract 0 k) = (bl r.s).take k := by
          rw [bl_extract, bl_extract, List.drop_zero, List.drop_zero, Nat.sub_zero, Nat.sub_zero, List.take_take, Nat.min_eq_left (by omega)]
        have e2 : bl ((r.s.extract 0 (k + padn k)).extract k (k + padn k)) = ((bl r.s).drop k).take (padn k) := by
          rw [bl_extract, bl_extract, List.drop_zero, Nat.sub_zero, List.drop_take, List.take_take]
          congr 1
          omega
        have e3 : bl (r.s.extract (k + padn k) r.s.size) = ((bl r.s).drop k).drop (padn k) := by
          rw [bl_extract, List.drop_drop]
          exact List.take_of_length_le (by rw [List.length_drop, bl_length]; omega)
        have ez : ((bl r.s).drop k).take (padn k) = zeros (padn k) := by
          rw [zeros, List.eq_replicate_iff]
          refine ⟨by rw [List.length_take, List.length_drop, bl_length]; omega, fun x hx => hz x (by rw [e2]; exact hx)⟩
        have el : ((bl r.s).take k).length = k := by rw [List.length_take, bl_length]; omega
        refine ⟨?_, ?_⟩
        · rw [e1, e3, Ytkkpcjpdpjpohaa.fixed, el, ← ez, List.append_assoc, List.take_append_drop, List.take_append_drop]
        · rw [← bl_length, e1, el]
      · cases h
    · rw [if_neg h2] at h; cases h
  · rw [if_neg h1] at h; cases h
theorem RS.opqe_inv {r : RS} {m : Int} (h : (r.opqe m).2.e = 0) : bl r.s = opaq (bl (r.opqe m).1) ++ bl (r.opqe m).2.s ∧ ((r.opqe m).1.size : Int) ≤ max m 0 := by
  have hn := r.nat4
  unfold RS.opqe at h ⊢
  by_cases h1 : (r.nat 4).1 > max m 0
  · rw [if_pos h1] at h; exact (RS.wrong_e0 (by decide) h).elim
  · rw [if_neg h1] at h ⊢
    obtain ⟨h2, h3⟩ := RS.fixed_inv hn.1 h
    have hi := RS.nat4_inv (RS.fixed_e0 h)
    refine ⟨?_, by omega⟩
    rw [hi, h2, opaq, bl_length, h3, List.append_assoc]
end Go.Proofs.Ytkkpcjpdpjpohaa

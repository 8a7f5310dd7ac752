/- Layer 14: a handle with one bit turned, the plain side. -/
import Derived.Test.YthpcncebjkfjkaaHdP
import Derived.Test.YthpcncebjkfjkaaTu
namespace Go.Proofs.Ythpcncebjkfjkaa
open Go.RowKit

theorem hb_cut (f id gen : Int) : ((hb f id gen).drop 12).take 8 = be id 8 ∧ ((hb f id gen).drop 20).take 8 = be gen 8 := by
  have h1 : (mark ++ be f 8).length = 12 := by rw [List.length_append, be_length]; rfl
  have h2 : (mark ++ be f 8 ++ be id 8).length = 20 := by rw [List.length_append, h1, be_length]
  constructor
  · rw [hb, List.append_assoc, List.drop_left' h1, List.take_left' (be_length _ _)]
  · rw [hb, List.drop_left' h2, List.take_of_length_le (by rw [be_length]; decide)]
theorem v_range (s : ByteArray) (h : isH s = true) : inI64 (getB s).2.1 := by
  obtain ⟨a, b, c, ha, hb', hc, hs, hx⟩ := isH_form s h
  obtain ⟨h1, h2, h3⟩ := r_three a b c ha hb' hc
  unfold getB
  rw [if_pos h, hx]
  dsimp only
  rw [h2, ← num_unum]
  unfold inI64 wrap64; omega
theorem bits_bad (id : Int) (hid : inI64 id) (K : Nat) (hK : K / 8 < 28) : numB (mkb (turnL (hb 1 id id) K)) = (0, 10001) := by
  unfold numB
  rw [if_neg]
  intro hg
  unfold goodB at hg
  simp only [Bool.and_eq_true, beq_iff_eq, decide_eq_true_eq] at hg
  obtain ⟨⟨⟨h1, h2⟩, h3⟩, h4⟩ := hg
  have hp := put_get _ h1
  have hr := v_range _ h1
  rw [h2, h4] at hp
  generalize (getB (mkb (turnL (hb 1 id id) K))).2.1 = x at *
  have hl := mkb_inj hp
  obtain ⟨c1, c2⟩ := hb_cut 1 id id
  obtain ⟨d1, d2⟩ := hb_cut 1 x x
  rw [hl] at d1 d2
  have hx : x = id := by
    by_cases hm : K / 8 < 20
    · rw [turnL_mid _ _ _ _ (.inl hm), c2] at d2
      have := congrArg num d2
      rw [num_be8 id hid, num_be8 x hr] at this; exact this.symm
    · rw [turnL_mid _ _ _ _ (.inr (by omega)), c1] at d1
      have := congrArg num d1
      rw [num_be8 id hid, num_be8 x hr] at this; exact this.symm
  subst hx
  exact turnL_ne _ K (by rw [hb_length]; exact hK) hl.symm
end Go.Proofs.Ythpcncebjkfjkaa

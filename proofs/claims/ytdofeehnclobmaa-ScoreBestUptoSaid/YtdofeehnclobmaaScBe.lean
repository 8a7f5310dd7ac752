/- ScoreBest: the plain law. -/
import Derived.Test.YtdofeehnclobmaaScK
namespace Go.Proofs.Ytdofeehnclobmaa
def ga (x : Int) : Seg := ⟨x % 101, 100, 7⟩
def gb (x : Int) : Seg := ⟨30, 100, x % 1000⟩
theorem bkA : ∀ n : Nat, n < 100 → bk ⟨(n + 1 : Nat), 100, 7⟩ < bk ⟨(n : Nat), 100, 7⟩ := by decide +kernel
theorem bkB : ∀ n : Nat, n < 999 → bk ⟨30, 100, (n : Nat)⟩ < bk ⟨30, 100, (n + 1 : Nat)⟩ := by decide +kernel
theorem anti {f : Nat → Int} {m : Nat} (h : ∀ n, n < m → f (n + 1) < f n) (a : Nat) : ∀ d, a + d + 1 ≤ m → f (a + d + 1) < f a
  | 0, hm => h a (by omega)
  | d + 1, hm => by
    have h1 := anti h a d (by omega)
    have h2 := h (a + d + 1) (by omega)
    show f (a + (d + 1) + 1) < f a
    rw [show a + (d + 1) + 1 = a + d + 1 + 1 by omega]; omega
theorem bkA_anti (x y : Int) (hx : 0 ≤ x) (hy : y ≤ 100) (h : x < y) : bk ⟨y, 100, 7⟩ < bk ⟨x, 100, 7⟩ := by
  have := anti (f := fun n => bk ⟨(n : Nat), 100, 7⟩) (m := 100) bkA x.toNat (y.toNat - x.toNat - 1) (by omega)
  rw [show x.toNat + (y.toNat - x.toNat - 1) + 1 = y.toNat by omega] at this
  simpa only [Int.toNat_of_nonneg hx, Int.toNat_of_nonneg (show 0 ≤ y by omega)] using this
theorem bkB_mono (x y : Int) (hx : 0 ≤ x) (hy : y ≤ 999) (h : x < y) : bk ⟨30, 100, x⟩ < bk ⟨30, 100, y⟩ := by
  have := anti (f := fun n => - bk ⟨30, 100, (n : Nat)⟩) (m := 999) (fun n hn => by have := bkB n hn; omega) x.toNat (y.toNat - x.toNat - 1) (by omega)
  rw [show x.toNat + (y.toNat - x.toNat - 1) + 1 = y.toNat by omega] at this
  simp only [Int.toNat_of_nonneg hx, Int.toNat_of_nonneg (show 0 ≤ y by omega)] at this
  omega
theorem pickN_best (l : List Seg) : ∀ k, ∀ i, i < k → bk (l.getD i segd) ≤ bk (l.getD (pickN l k).toNat segd)
  | 0, i, h => by omega
  | k + 1, i, h => by
    have ih := pickN_best l k i
    have p := pickN_lt l k
    rw [pickN]
    by_cases hc : pickN l k < 0 ∨ bk (l.getD (pickN l k).toNat segd) < bk (l.getD k segd)
    · rw [if_pos hc, Int.toNat_natCast]
      by_cases hi : i = k
      · subst hi; exact Int.le_refl _
      · have := ih (by omega)
        rcases hc with hc | hc <;> omega
    · rw [if_neg hc]
      by_cases hi : i = k
      · subst hi; omega
      · exact ih (by omega)
/-- the least of the first k -/
def low (l : List Int) : Nat → Int
  | 0 => -1
  | k + 1 => if low l k < 0 ∨ l.getD k 0 % 101 < low l k then l.getD k 0 % 101 else low l k
def high (l : List Int) : Nat → Int
  | 0 => -1
  | k + 1 => if l.getD k 0 % 1000 ≤ high l k then high l k else l.getD k 0 % 1000
theorem low_spec (l : List Int) : ∀ k, -1 ≤ low l k ∧ (0 < k → (∃ i, i < k ∧ low l k = l.getD i 0 % 101) ∧ ∀ i, i < k → low l k ≤ l.getD i 0 % 101)
  | 0 => ⟨Int.le_refl _, fun h => by omega⟩
  | k + 1 => by
    have ih := low_spec l k
    rw [low]
    have hm : 0 ≤ l.getD k 0 % 101 := by omega
    by_cases hc : low l k < 0 ∨ l.getD k 0 % 101 < low l k
    · rw [if_pos hc]
      refine ⟨by omega, fun _ => ⟨⟨k, by omega, rfl⟩, fun i hi => ?_⟩⟩
      by_cases hik : i = k
      · subst hik; exact Int.le_refl _
      · obtain ⟨⟨j, hj, he⟩, h3⟩ := ih.2 (by omega)
        have := h3 i (by omega)
        have : 0 ≤ low l k := by rw [he]; omega
        omega
    · rw [if_neg hc]
      have hk : 0 < k := by
        rcases Nat.eq_zero_or_pos k with h | h
        · subst h; exact absurd (.inl (by show (-1 : Int) < 0; decide)) hc
        · exact h
      obtain ⟨⟨j, hj, he⟩, h3⟩ := ih.2 hk
      refine ⟨ih.1, fun _ => ⟨⟨j, by omega, he⟩, fun i hi => ?_⟩⟩
      by_cases hik : i = k
      · subst hik; omega
      · exact h3 i (by omega)
theorem high_spec (l : List Int) : ∀ k, -1 ≤ high l k ∧ (0 < k → (∃ i, i < k ∧ high l k = l.getD i 0 % 1000) ∧ ∀ i, i < k → l.getD i 0 % 1000 ≤ high l k)
  | 0 => ⟨Int.le_refl _, fun h => by omega⟩
  | k + 1 => by
    have ih := high_spec l k
    rw [high]
    have hm : 0 ≤ l.getD k 0 % 1000 := by omega
    by_cases hc : l.getD k 0 % 1000 ≤ high l k
    · rw [if_pos hc]
      have hk : 0 < k := by
        rcases Nat.eq_zero_or_pos k with h | h
        · subst h; have : high l 0 = -1 := rfl; omega
        · exact h
      obtain ⟨⟨j, hj, he⟩, h3⟩ := ih.2 hk
      refine ⟨ih.1, fun _ => ⟨⟨j, by omega, he⟩, fun i hi => ?_⟩⟩
      by_cases hik : i = k
      · subst hik; omega
      · exact h3 i (by omega)
    · rw [if_neg hc]
      refine ⟨by omega, fun _ => ⟨⟨k, by omega, rfl⟩, fun i hi => ?_⟩⟩
      by_cases hik : i = k
      · subst hik; exact Int.le_refl _
      · obtain ⟨⟨j, hj, he⟩, h3⟩ := ih.2 (by omega)
        have := h3 i (by omega)
        omega
theorem getD_map (l : List Int) (f : Int → Seg) (i : Nat) (h : i < l.length) : (l.map f).getD i segd = f (l.getD i 0) := by
  rw [List.getD_eq_getElem?_getD, List.getElem?_map, List.getD_eq_getElem?_getD, List.getElem?_eq_getElem h]; rfl
theorem pick_low (l : List Int) (h : 0 < l.length) : ∃ j : Nat, j < l.length ∧ pickN (l.map ga) l.length = (j : Int) ∧ (l.map ga)[j]? = some ⟨low l l.length, 100, 7⟩ := by
  obtain ⟨p1, p2, p3⟩ := pickN_lt (l.map ga) l.length
  obtain ⟨_, hs⟩ := low_spec l l.length
  obtain ⟨⟨i, hi, he⟩, hle⟩ := hs h
  have hp := p3 h
  have hb := pickN_best (l.map ga) l.length i hi
  obtain ⟨j, hj⟩ : ∃ j : Nat, pickN (l.map ga) l.length = (j : Int) := ⟨(pickN (l.map ga) l.length).toNat, by omega⟩
  rw [hj] at hb p2
  rw [Int.toNat_natCast] at hb
  have hjl : j < l.length := by omega
  rw [getD_map l ga i hi, getD_map l ga j hjl] at hb
  have h1 := hle j hjl
  have e : l.getD j 0 % 101 = low l l.length := by
    rcases Int.lt_or_le (low l l.length) (l.getD j 0 % 101) with hlt | hle2
    · have := bkA_anti (l.getD i 0 % 101) (l.getD j 0 % 101) (by omega) (by omega) (by omega)
      unfold ga at hb; omega
    · omega
  refine ⟨j, hjl, hj, ?_⟩
  rw [List.getElem?_map, List.getElem?_eq_getElem hjl]
  have e2 : l.getD j 0 = l[j] := by rw [List.getD_eq_getElem?_getD, List.getElem?_eq_getElem hjl]; rfl
  rw [← e, e2]; rfl
theorem pick_high (l : List Int) (h : 0 < l.length) : ∃ j : Nat, j < l.length ∧ pickN (l.map gb) l.length = (j : Int) ∧ (l.map gb)[j]? = some ⟨30, 100, high l l.length⟩ := by
  obtain ⟨p1, p2, p3⟩ := pickN_lt (l.map gb) l.length
  obtain ⟨_, hs⟩ := high_spec l l.length
  obtain ⟨⟨i, hi, he⟩, hle⟩ := hs h
  have hp := p3 h
  have hb := pickN_best (l.map gb) l.length i hi
  obtain ⟨j, hj⟩ : ∃ j : Nat, pickN (l.map gb) l.length = (j : Int) := ⟨(pickN (l.map gb) l.length).toNat, by omega⟩
  rw [hj] at hb p2
  rw [Int.toNat_natCast] at hb
  have hjl : j < l.length := by omega
  rw [getD_map l gb i hi, getD_map l gb j hjl] at hb
  have h1 := hle j hjl
  have e : l.getD j 0 % 1000 = high l l.length := by
    rcases Int.lt_or_le (l.getD j 0 % 1000) (high l l.length) with hlt | hle2
    · have := bkB_mono (l.getD j 0 % 1000) (l.getD i 0 % 1000) (by omega) (by omega) (by omega)
      unfold gb at hb; omega
    · omega
  refine ⟨j, hjl, hj, ?_⟩
  rw [List.getElem?_map, List.getElem?_eq_getElem hjl]
  have e2 : l.getD j 0 = l[j] := by rw [List.getD_eq_getElem?_getD, List.getElem?_eq_getElem hjl]; rfl
  rw [← e, e2]; rfl
end Go.Proofs.Ytdofeehnclobmaa

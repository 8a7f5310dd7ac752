/- Layer 2's reference: forms read from any place; a choice's arm, found by place. -/
import Derived.Test.YtpmhjjfcipjnoaaSmL
import Derived.Test.YtpmhjjfcipjnoaaSmG
namespace Go.Proofs.Ytpmhjjfcipjnoaa
open Go.RowKit

/-- what is a row of signs at a depth is one higher up -/
theorem pr_deep (s : ByteArray) : ∀ k m d d' a ks r, d' ≤ d → pr s k m d a ks = some r → pr s k m d' a ks = some r := by
  intro k
  induction k with
  | zero => intro m d d' a ks r _ h; cases h
  | succ k ih =>
    intro m d d' a ks r hd h
    cases m with
    | false =>
      rw [pr] at h ⊢
      by_cases h1 : pk s a = 117 ∨ pk s a = 113 ∨ pk s a = 98
      · rw [if_pos h1] at h ⊢
        obtain ⟨q, hq, rfl⟩ := Option.map_eq_some_iff.1 h
        rw [ih _ _ _ _ _ _ hd hq]; rfl
      rw [if_neg h1] at h ⊢
      by_cases h2 : pk s a = 111 ∨ pk s a = 102
      · rw [if_pos h2] at h ⊢
        obtain ⟨n, hn, h⟩ := Option.bind_eq_some_iff.1 h
        obtain ⟨q, hq, rfl⟩ := Option.map_eq_some_iff.1 h
        rw [hn, Option.bind_some, ih _ _ _ _ _ _ hd hq]; rfl
      rw [if_neg h2] at h ⊢
      by_cases h3 : pk s a = 63 ∨ pk s a = 42
      · rw [if_pos h3] at h ⊢
        by_cases h4 : pk s (a + 1) ≠ 40 ∨ 16 < d + 1
        · rw [if_pos h4] at h; cases h
        rw [if_neg h4] at h
        rw [if_neg (by omega)]
        obtain ⟨f, hf, h⟩ := Option.bind_eq_some_iff.1 h
        rw [ih _ _ (d' + 1) _ _ _ (by omega) hf, Option.bind_some]
        split at h
        · cases h
        rename_i h5
        rw [if_neg h5]
        obtain ⟨q, hq, rfl⟩ := Option.map_eq_some_iff.1 h
        rw [ih _ _ _ _ _ _ hd hq]; rfl
      rw [if_neg h3] at h ⊢
      by_cases h4 : pk s a = 60
      · rw [if_pos h4] at h ⊢
        obtain ⟨f, hf, h⟩ := Option.bind_eq_some_iff.1 h
        rw [ih _ _ (d' + 1) _ _ _ (by omega) hf, Option.bind_some]
        split at h
        · cases h
        rename_i h5
        rw [if_neg h5]
        obtain ⟨q, hq, rfl⟩ := Option.map_eq_some_iff.1 h
        rw [ih _ _ _ _ _ _ hd hq]; rfl
      rw [if_neg h4] at h ⊢
      exact h
    | true =>
      rw [pr] at h ⊢
      obtain ⟨n, hn, h⟩ := Option.bind_eq_some_iff.1 h
      rw [hn, Option.bind_some]
      split at h
      · cases h
      rename_i h5
      rw [if_neg (by omega)]
      obtain ⟨f, hf, h⟩ := Option.bind_eq_some_iff.1 h
      rw [ih _ _ _ _ _ _ hd hf, Option.bind_some]
      split at h
      · rename_i h6; rw [if_pos h6]; exact h
      · rename_i h6
        rw [if_neg h6]
        obtain ⟨q, hq, rfl⟩ := Option.map_eq_some_iff.1 h
        rw [ih _ _ _ _ _ _ hd hq]; rfl
/-- Skip at depth 0, where there is a row -/
theorem skip0_ok (s : ByteArray) (hs : s.size ≤ 1099511627776) (k d a : Nat) (r : Tr × Nat) (hk : s.size - a < k) (ha : a ≤ s.size) (h : pr s k false d a [] = some r) {w0 w : World} {F : List Assn} (H : St w0 w F) :
    Calls Try.prog 23 #[.string s, .int .i64 a, .int .i64 0] w fun x w' => x = .returned (.int .i64 r.2) ∧ St w0 w' F := by
  have := (skipper_ok s hs k).1 0 a w0 w F hk ha (by decide) H
  rw [if_neg (by decide), pr_deep s k false d 0 a [] r (Nat.zero_le _) h] at this
  exact this
/-- Skip from anywhere, whatever it tells -/
theorem skipx_ok (s : ByteArray) (hs : s.size ≤ 1099511627776) (a : Nat) (ha : a ≤ s.size) {w0 w : World} {F : List Assn} (H : St w0 w F) :
    Calls Try.prog 23 #[.string s, .int .i64 a, .int .i64 0] w fun x w' => (∃ n, x = .returned (.int .i64 n)) ∧ St w0 w' F := by
  refine ((skipper_ok s hs (s.size + 1)).1 0 a w0 w F (by omega) ha (by decide) H).mono ?_
  rintro x w' ⟨rfl, H⟩
  exact ⟨⟨_, rfl⟩, H⟩
/-- where an arm's form stands -/
def FoundAt (s : ByteArray) (p : Int) : Option Tr → Prop
  | none => p = -1
  | some f => ∃ P k d e, p = (P : Nat) ∧ s.size - P < k ∧ P ≤ s.size ∧ pr s k false d P [] = some (f, e)
/-- the number a digit string tells, where there is one -/
theorem digI_some {s : ByteArray} {a : Nat} {r : Nat × Nat} (h : numF s a = some r) : digI s a = r.1 ∧ (scan s 6 a 0).2 = r.2 := by
  refine ⟨by unfold digI; rw [h], ?_⟩
  unfold numF at h
  split at h
  · cases h
  · injection h with h; rw [← h]
/-- one arm of a row of arms -/
theorem pr_arm {s : ByteArray} {j d q e : Nat} {ks : List Nat} {a : Tr} (h : pr s (j + 1) true d q ks = some (a, e)) (he : pk s e = 62) :
    ∃ (n : Nat × Nat) (f : Tr) (e2 : Nat), ((pk s q = 45 ∧ n = (0, q + 1)) ∨ (pk s q ≠ 45 ∧ numF s q = some n)) ∧ pk s n.2 = 58 ∧ d ≤ 16 ∧ pr s j false d (n.2 + 1) [] = some (f, e2) ∧
      ((pk s e2 = 62 ∧ e2 = e ∧ a = .arm n.1 (pk s q == 45) f .nil) ∨ (pk s q ≠ 45 ∧ pk s e2 = 44 ∧ ∃ t ks', pr s j true d (e2 + 1) ks' = some (t, e) ∧ a = .arm n.1 false f t)) := by
  rw [pr] at h
  obtain ⟨n, hn, h⟩ := Option.bind_eq_some_iff.1 h
  have hn' : (pk s q = 45 ∧ n = (0, q + 1)) ∨ (pk s q ≠ 45 ∧ numF s q = some n) := by
    split at hn
    · rename_i h45; injection hn with hn; exact .inl ⟨h45, hn.symm⟩
    · rename_i h45
      obtain ⟨m, hm, hn⟩ := Option.bind_eq_some_iff.1 hn
      split at hn
      · cases hn
      injection hn with hn; subst hn
      exact .inr ⟨h45, hm⟩
  split at h
  · cases h
  rename_i h58
  obtain ⟨f, hf, h⟩ := Option.bind_eq_some_iff.1 h
  refine ⟨n, f.1, f.2, hn', by omega, by omega, hf, ?_⟩
  split at h
  · injection h with h; injection h with h1 h2
    subst h2
    exact .inl ⟨he, rfl, h1.symm⟩
  · rename_i h6
    obtain ⟨r, hr, h⟩ := Option.map_eq_some_iff.1 h
    injection h with h1 h2; subst h2
    exact .inr ⟨by omega, by omega, r.1, _, hr, h1.symm⟩
end Go.Proofs.Ytpmhjjfcipjnoaa

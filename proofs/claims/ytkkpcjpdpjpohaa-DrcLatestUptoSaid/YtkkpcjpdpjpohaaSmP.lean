/- Layer 2: forms, in plain Lean. -/
import Derived.Test.YtkkpcjpdpjpohaaSL
namespace Go.Proofs.Ytkkpcjpdpjpohaa
open Go

/-- rows of signs, and of a choice's arms -/
inductive Tr where
  | nil
  | sign (kind : Nat) (n : Nat) (arms : Tr) (next : Tr)
  | arm (key : Nat) (any : Bool) (form : Tr) (next : Tr)
def Tr.len : Tr → Nat
  | .nil => 0
  | .sign _ _ _ t => t.len + 1
  | .arm _ _ _ t => t.len + 1
def Tr.app : Tr → Tr → Tr
  | .nil, u => u
  | .sign k n a t, u => .sign k n a (t.app u)
  | .arm k n f t, u => .arm k n f (t.app u)
theorem Tr.app_nil : ∀ t : Tr, t.app .nil = t
  | .nil => rfl
  | .sign k n a t => by rw [Tr.app, Tr.app_nil t]
  | .arm k n f t => by rw [Tr.app, Tr.app_nil t]
theorem Tr.app_assoc (t u v : Tr) : (t.app u).app v = t.app (u.app v) := by
  induction t with
  | nil => rfl
  | sign k n a t _ ih => simp only [Tr.app, ih]
  | arm k n f t _ ih => simp only [Tr.app, ih]
theorem Tr.len_app (t u : Tr) : (t.app u).len = t.len + u.len := by
  induction t with
  | nil => simp [Tr.app, Tr.len]
  | sign k n a t _ ih => simp only [Tr.app, Tr.len, ih]; omega
  | arm k n f t _ ih => simp only [Tr.app, Tr.len, ih]; omega

/-- the byte at a place; 0: none -/
def pk (s : ByteArray) (i : Nat) : Nat := if h : i < s.size then s[i].toNat else 0
theorem pk_in {s : ByteArray} {i : Nat} (h : i < s.size) : pk s i = s[i].toNat := by rw [pk, dif_pos h]
theorem pk_out {s : ByteArray} {i : Nat} (h : ¬ i < s.size) : pk s i = 0 := by rw [pk, dif_neg h]
theorem pk_lt {s : ByteArray} {i : Nat} (h : pk s i ≠ 0) : i < s.size := by
  by_cases hi : i < s.size
  · exact hi
  · exact absurd (pk_out hi) h
theorem pk_byte (s : ByteArray) (i : Nat) : pk s i < 256 := by
  unfold pk; split
  · exact UInt8.toNat_lt _
  · omega
/-- digits -/
def scan (s : ByteArray) : Nat → Nat → Nat → Nat × Nat
  | 0, at_, n => (n, at_)
  | k + 1, at_, n => if 48 ≤ pk s at_ ∧ pk s at_ ≤ 57 then scan s k (at_ + 1) (10 * n + (pk s at_ - 48)) else (n, at_)
def numF (s : ByteArray) (at_ : Nat) : Option (Nat × Nat) :=
  if (scan s 6 at_ 0).2 = at_ ∨ at_ + 5 < (scan s 6 at_ 0).2 ∨ (at_ + 1 < (scan s 6 at_ 0).2 ∧ pk s at_ = 48) then none else some (scan s 6 at_ 0)
theorem scan_range (s : ByteArray) : ∀ k at_ n, at_ ≤ (scan s k at_ n).2 ∧ (scan s k at_ n).2 ≤ at_ + k ∧ (at_ ≤ s.size → (scan s k at_ n).2 ≤ s.size)
  | 0, at_, n => ⟨Nat.le_refl _, Nat.le_refl _, fun h => h⟩
  | k + 1, at_, n => by
    rw [scan]
    split
    · rename_i h
      have h1 := scan_range s k (at_ + 1) (10 * n + (pk s at_ - 48))
      have hl := pk_lt (s := s) (i := at_) (by omega)
      exact ⟨by omega, by omega, fun _ => h1.2.2 (by omega)⟩
    · exact ⟨Nat.le_refl _, by omega, fun h => h⟩
theorem numF_range {s : ByteArray} {at_ : Nat} {r : Nat × Nat} (h : numF s at_ = some r) : at_ < r.2 ∧ r.2 ≤ at_ + 5 ∧ (at_ ≤ s.size → r.2 ≤ s.size) := by
  unfold numF at h
  have h1 := scan_range s 6 at_ 0
  split at h
  · cases h
  · injection h with h; subst h
    exact ⟨by omega, by omega, h1.2.2⟩
/-- signs up to a byte that is none ('false'), or a choice's arms -/
def pr (s : ByteArray) : Nat → Bool → Nat → Nat → List Nat → Option (Tr × Nat)
  | 0, _, _, _, _ => none
  | k + 1, false, d, at_, _ =>
    if pk s at_ = 117 ∨ pk s at_ = 113 ∨ pk s at_ = 98 then (pr s k false d (at_ + 1) []).map fun r => (.sign (pk s at_) 0 .nil r.1, r.2)
    else if pk s at_ = 111 ∨ pk s at_ = 102 then (numF s (at_ + 1)).bind fun n => (pr s k false d n.2 []).map fun r => (.sign (pk s at_) n.1 .nil r.1, r.2)
    else if pk s at_ = 63 ∨ pk s at_ = 42 then
      if pk s (at_ + 1) ≠ 40 ∨ 16 < d + 1 then none else (pr s k false (d + 1) (at_ + 2) []).bind fun f =>
        if pk s f.2 ≠ 41 ∨ (pk s at_ = 42 ∧ f.1.len = 0) then none else (pr s k false d (f.2 + 1) []).map fun r => (.sign (pk s at_) 0 (.arm 0 false f.1 .nil) r.1, r.2)
    else if pk s at_ = 60 then (pr s k true (d + 1) (at_ + 1) []).bind fun f =>
        if pk s f.2 ≠ 62 then none else (pr s k false d (f.2 + 1) []).map fun r => (.sign (pk s at_) 0 f.1 r.1, r.2)
    else some (.nil, at_)
  | k + 1, true, d, at_, keys =>
    (if pk s at_ = 45 then some (0, at_ + 1) else (numF s at_).bind fun n => if n.1 ∈ keys then none else some n).bind fun n =>
      if pk s n.2 ≠ 58 ∨ 16 < d then none else (pr s k false d (n.2 + 1) []).bind fun f =>
        if pk s at_ = 45 ∨ pk s f.2 ≠ 44 then some (.arm n.1 (pk s at_ == 45) f.1 .nil, f.2)
        else (pr s k true d (f.2 + 1) (keys ++ [n.1])).map fun r => (.arm n.1 false f.1 r.1, r.2)
def parseF (s : ByteArray) : Option Tr :=
  if 1000 < s.size then none else (pr s (s.size + 1) false 0 0 []).bind fun r => if r.2 < s.size then none else some r.1

theorem pr_range (s : ByteArray) : ∀ k m d at_ ks r, pr s k m d at_ ks = some r → at_ ≤ r.2 ∧ (at_ ≤ s.size → r.2 ≤ s.size) := by
  intro k
  induction k with
  | zero => intro m d at_ ks r h; cases h
  | succ k ih =>
    intro m d at_ ks r h
    cases m with
    | false =>
      rw [pr] at h
      split at h
      · rename_i hc
        have hl := pk_lt (s := s) (i := at_) (by omega)
        obtain ⟨q, hq, rfl⟩ := Option.map_eq_some_iff.1 h
        have := ih _ _ _ _ _ hq
        exact ⟨by dsimp only; omega, fun _ => this.2 (by omega)⟩
      split at h
      · rename_i hc
        have hl := pk_lt (s := s) (i := at_) (by omega)
        obtain ⟨n, hn, h⟩ := Option.bind_eq_some_iff.1 h
        obtain ⟨q, hq, rfl⟩ := Option.map_eq_some_iff.1 h
        have h1 := numF_range hn
        have := ih _ _ _ _ _ hq
        exact ⟨by dsimp only; omega, fun _ => this.2 (h1.2.2 (by omega))⟩
      split at h
      · split at h
        · cases h
        rename_i hc hc2
        have hl := pk_lt (s := s) (i := at_ + 1) (by omega)
        obtain ⟨f, hf, h⟩ := Option.bind_eq_some_iff.1 h
        split at h
        · cases h
        rename_i hc3
        have hl2 := pk_lt (s := s) (i := f.2) (by omega)
        obtain ⟨q, hq, rfl⟩ := Option.map_eq_some_iff.1 h
        have h1 := ih _ _ _ _ _ hf
        have := ih _ _ _ _ _ hq
        exact ⟨by dsimp only; omega, fun _ => this.2 (by omega)⟩
      split at h
      · rename_i hc
        obtain ⟨f, hf, h⟩ := Option.bind_eq_some_iff.1 h
        split at h
        · cases h
        rename_i hc3
        have hl2 := pk_lt (s := s) (i := f.2) (by omega)
        obtain ⟨q, hq, rfl⟩ := Option.map_eq_some_iff.1 h
        have h1 := ih _ _ _ _ _ hf
        have := ih _ _ _ _ _ hq
        exact ⟨by dsimp only; omega, fun _ => this.2 (by omega)⟩
      · injection h with h; subst h
        exact ⟨Nat.le_refl _, fun h => h⟩
    | true =>
      rw [pr] at h
      obtain ⟨n, hn, h⟩ := Option.bind_eq_some_iff.1 h
      have hnr : at_ < n.2 ∧ (at_ ≤ s.size → n.2 ≤ s.size) := by
        split at hn
        · rename_i hc
          injection hn with hn; subst hn
          have hl := pk_lt (s := s) (i := at_) (by omega)
          exact ⟨by dsimp only; omega, fun _ => by dsimp only; omega⟩
        · obtain ⟨q, hq, hn⟩ := Option.bind_eq_some_iff.1 hn
          split at hn
          · cases hn
          injection hn with hn; subst hn
          have := numF_range hq
          exact ⟨by omega, this.2.2⟩
      split at h
      · cases h
      rename_i hc
      have hl := pk_lt (s := s) (i := n.2) (by omega)
      obtain ⟨f, hf, h⟩ := Option.bind_eq_some_iff.1 h
      have h1 := ih _ _ _ _ _ hf
      split at h
      · injection h with h; subst h
        exact ⟨by dsimp only; omega, fun _ => h1.2 (by omega)⟩
      · rename_i hc2
        have hl2 := pk_lt (s := s) (i := f.2) (by omega)
        obtain ⟨q, hq, rfl⟩ := Option.map_eq_some_iff.1 h
        have := ih _ _ _ _ _ hq
        exact ⟨by dsimp only; omega, fun _ => this.2 (by omega)⟩
end Go.Proofs.Ytkkpcjpdpjpohaa

/- Layer 2: taking a value by a form, in plain Lean. -/
import Derived.Test.YtkkpcjpdpjpohaaSmP
import Derived.Test.YtkkpcjpdpjpohaaXdrR
namespace Go.Proofs.Ytkkpcjpdpjpohaa
open Go

/-- what is left to read, the numbers and the texts that were taken -/
abbrev TS := RS × List Int × List ByteArray
def Tr.sg : Tr → Nat
  | .nil => 0
  | .sign _ _ a t => 1 + a.sg + t.sg
  | .arm _ _ f t => 1 + f.sg + t.sg
/-- well formed: rows of signs (false), of arms (true) -/
def Tr.wf : Bool → Tr → Prop
  | _, .nil => True
  | false, .sign k n a t => (k = 117 ∨ k = 113 ∨ k = 98 ∨ k = 111 ∨ k = 102 ∨ k = 63 ∨ k = 42 ∨ k = 60) ∧ n ≤ 99999 ∧ ((k = 63 ∨ k = 42) → ∃ f, a = .arm 0 false f .nil) ∧ a.wf true ∧ t.wf false
  | true, .arm k _ f t => k ≤ 99999 ∧ f.wf false ∧ t.wf true
  | _, _ => False
def bitI (b : Bool) : Int := if b then 1 else 0
def putN (n : Int) (st : TS) : Except Int TS := if st.1.e = 0 then .ok (st.1, st.2.1 ++ [n], st.2.2) else .error st.1.e
def putT (x : ByteArray) (st : TS) : Except Int TS := if st.1.e = 0 then .ok (st.1, st.2.1, st.2.2 ++ [x]) else .error st.1.e
/-- things, as long as a truth value stands ahead of them; they are counted at a place -/
def starL (f : TS → Except Int TS) (i : Nat) : Nat → TS → Except Int TS
  | 0, _ => .error 0
  | k + 1, (r, N, T) => if r.bool.1 = true then (f (r.bool.2, N.set i (N.getD i 0 + 1), T)).bind (starL f i k) else if r.bool.2.e = 0 then .ok (r.bool.2, N, T) else .error r.bool.2.e
/-- by a row of signs (none), by the arm of a number -/
def tk : Tr → Option Int → TS → Except Int TS
  | .nil, none, st => .ok st
  | .nil, some _, _ => .error 4
  | .sign .., some _, _ => .error 4
  | .arm .., none, _ => .error 4
  | .arm k y f t, some n, st => if y = true ∨ (k : Int) = n then tk f none st else tk t (some n) st
  | .sign k n a t, none, (r, N, T) =>
    (if k = 117 then putN (r.nat 4).1 ((r.nat 4).2, N, T)
    else if k = 113 then putN (r.nat 8).1 ((r.nat 8).2, N, T)
    else if k = 98 then putN (bitI r.bool.1) (r.bool.2, N, T)
    else if k = 111 then putT (r.opqe n).1 ((r.opqe n).2, N, T)
    else if k = 102 then putT (r.fixed n).1 ((r.fixed n).2, N, T)
    else if k = 63 then (putN (bitI r.bool.1) (r.bool.2, N, T)).bind fun st => if r.bool.1 = true then tk a (some 0) st else .ok st
    else if k = 42 then (putN 0 (r, N, T)).bind fun st => starL (fun st => tk a (some 0) st) N.length (st.1.s.size + 1) st
    else if k = 60 then (putN (r.nat 4).1 ((r.nat 4).2, N, T)).bind fun st => tk a (some (r.nat 4).1) st
    else .ok (r, N, T)).bind fun st => tk t none st
def decodeT (t : Tr) (s : ByteArray) : Except Int (List Int × List ByteArray) := if 65536 < s.size then .error 2 else match tk t none (⟨s, 0⟩, [], []) with
  | .error e => .error e
  | .ok st => if st.1.fin = 0 then .ok st.2 else .error st.1.fin
def decodeF (form s : ByteArray) : Except Int (List Int × List ByteArray) := match parseF form with
  | none => .error 1
  | some t => decodeT t s

theorem num_wf {s : ByteArray} {at_ : Nat} {r : Nat × Nat} (h : numF s at_ = some r) : r.1 ≤ 99999 := by
  have hb : ∀ k a n, (scan s k a n).1 + 1 ≤ (n + 1) * 10 ^ ((scan s k a n).2 - a) := by
    intro k
    induction k with
    | zero => intro a n; simp [scan]
    | succ k ih =>
      intro a n
      have hr := scan_range s (k + 1) a n
      rw [scan] at hr ⊢
      split
      · rename_i hd
        rw [if_pos hd] at hr
        have h1 := ih (a + 1) (10 * n + (pk s a - 48))
        have hr2 := scan_range s k (a + 1) (10 * n + (pk s a - 48))
        refine Nat.le_trans h1 ?_
        rw [show (scan s k (a + 1) (10 * n + (pk s a - 48))).2 - a = ((scan s k (a + 1) (10 * n + (pk s a - 48))).2 - (a + 1)) + 1 by omega, Nat.pow_succ', ← Nat.mul_assoc]
        exact Nat.mul_le_mul_right _ (by omega)
      · simp
  have hrg := numF_range h
  unfold numF at h
  split at h
  · cases h
  · injection h with h
    have := hb 6 at_ 0
    rw [h] at this
    have h2 : (0 + 1) * 10 ^ (r.2 - at_) ≤ 100000 := by
      rw [Nat.zero_add, Nat.one_mul]
      exact Nat.le_trans (Nat.pow_le_pow_right (by decide) (show r.2 - at_ ≤ 5 by omega)) (by decide)
    omega
theorem pr_wf (s : ByteArray) : ∀ k m d at_ ks r, pr s k m d at_ ks = some r → r.1.wf m ∧ r.1.sg + at_ ≤ r.2 := by
  intro k
  induction k with
  | zero => intro m d at_ ks r h; cases h
  | succ k ih =>
    intro m d at_ ks r h
    cases m with
    | false =>
      rw [pr] at h
      split at h
      · rename_i hc
        obtain ⟨q, hq, rfl⟩ := Option.map_eq_some_iff.1 h
        have := ih _ _ _ _ _ hq
        exact ⟨⟨by omega, by omega, by omega, trivial, this.1⟩, by simp only [Tr.sg]; omega⟩
      split at h
      · rename_i hc
        obtain ⟨n, hn, h⟩ := Option.bind_eq_some_iff.1 h
        obtain ⟨q, hq, rfl⟩ := Option.map_eq_some_iff.1 h
        have h1 := numF_range hn
        have h2 := num_wf hn
        have := ih _ _ _ _ _ hq
        exact ⟨⟨by omega, h2, by omega, trivial, this.1⟩, by simp only [Tr.sg]; omega⟩
      split at h
      · split at h
        · cases h
        rename_i hc hc2
        obtain ⟨f, hf, h⟩ := Option.bind_eq_some_iff.1 h
        split at h
        · cases h
        obtain ⟨q, hq, rfl⟩ := Option.map_eq_some_iff.1 h
        have h1 := ih _ _ _ _ _ hf
        have := ih _ _ _ _ _ hq
        exact ⟨⟨by omega, by omega, fun _ => ⟨_, rfl⟩, ⟨by omega, h1.1, trivial⟩, this.1⟩, by simp only [Tr.sg]; omega⟩
      split at h
      · rename_i hc
        obtain ⟨f, hf, h⟩ := Option.bind_eq_some_iff.1 h
        split at h
        · cases h
        obtain ⟨q, hq, rfl⟩ := Option.map_eq_some_iff.1 h
        have h1 := ih _ _ _ _ _ hf
        have := ih _ _ _ _ _ hq
        exact ⟨⟨by omega, by omega, by omega, h1.1, this.1⟩, by simp only [Tr.sg]; omega⟩
      · injection h with h; subst h
        exact ⟨trivial, by simp only [Tr.sg]; omega⟩
    | true =>
      rw [pr] at h
      obtain ⟨n, hn, h⟩ := Option.bind_eq_some_iff.1 h
      have hnr : n.1 ≤ 99999 ∧ at_ < n.2 := by
        split at hn
        · injection hn with hn; subst hn; exact ⟨by dsimp only; omega, by dsimp only; omega⟩
        · obtain ⟨q, hq, hn⟩ := Option.bind_eq_some_iff.1 hn
          split at hn
          · cases hn
          injection hn with hn; subst hn
          exact ⟨num_wf hq, (numF_range hq).1⟩
      split at h
      · cases h
      obtain ⟨f, hf, h⟩ := Option.bind_eq_some_iff.1 h
      have h1 := ih _ _ _ _ _ hf
      split at h
      · injection h with h; subst h
        exact ⟨⟨hnr.1, h1.1, trivial⟩, by simp only [Tr.sg]; omega⟩
      · obtain ⟨q, hq, rfl⟩ := Option.map_eq_some_iff.1 h
        have := ih _ _ _ _ _ hq
        exact ⟨⟨hnr.1, h1.1, this.1⟩, by simp only [Tr.sg]; omega⟩
theorem parseF_wf {s : ByteArray} {t : Tr} (h : parseF s = some t) : t.wf false ∧ t.sg ≤ 1000 := by
  unfold parseF at h
  split at h
  · cases h
  obtain ⟨r, hr, h⟩ := Option.bind_eq_some_iff.1 h
  split at h
  · cases h
  injection h with h; subst h
  have h1 := pr_wf s _ _ _ _ _ _ hr
  have h2 := pr_range s _ _ _ _ _ _ hr
  exact ⟨h1.1, by have := h2.2 (Nat.zero_le _); omega⟩
theorem RS.bool_true {r : RS} (h : r.bool.1 = true) : r.e = 0 ∧ r.bool.2.e = 0 ∧ r.bool.2.s.size + 4 = r.s.size := by
  unfold RS.bool at h ⊢
  split at h
  · cases h
  rename_i h1
  rw [if_neg h1]
  dsimp only at h ⊢
  unfold RS.nat RS.take at h ⊢
  split at h
  · rename_i h2
    rw [if_pos h2]
    split at h
    · rename_i h3
      rw [if_pos h3]
      refine ⟨h2, rfl, ?_⟩
      show (r.s.extract 4 r.s.size).size + 4 = _
      rw [ByteArray.size_extract]; omega
    · exact absurd (show (num (bl ByteArray.empty) == 1) = true from h) (by decide)
  · exact absurd (show (num (bl ByteArray.empty) == 1) = true from h) (by decide)
end Go.Proofs.Ytkkpcjpdpjpohaa

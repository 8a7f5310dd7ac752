/- Layer 2: how much a form takes. -/
import Derived.Test.YtkkpcjpdpjpohaaSmT
namespace Go.Proofs.Ytkkpcjpdpjpohaa
open Go

theorem bind_ok {α β ε : Type} {x : Except ε α} {f : α → Except ε β} {y : β} : x.bind f = .ok y ↔ ∃ a, x = .ok a ∧ f a = .ok y := by
  cases x with
  | error e => simp [Except.bind]
  | ok a => simp [Except.bind]
/-- what was taken stands behind what was there, and is no more than so much -/
structure Grow (g : Nat) (st st' : TS) : Prop where
  size : st'.1.s.size ≤ st.1.s.size
  err : st.1.e = 0 → st'.1.e = 0
  app : ∃ X Y, st'.2.1 = st.2.1 ++ X ∧ st'.2.2 = st.2.2 ++ Y ∧ X.length + Y.length ≤ g * (1 + (st.1.s.size - st'.1.s.size))
theorem Grow.refl (g : Nat) (st : TS) : Grow g st st := ⟨Nat.le_refl _, fun h => h, [], [], by simp, by simp, by simp⟩
theorem Grow.trans {g h : Nat} {a b c : TS} (H : Grow g a b) (K : Grow h b c) : Grow (g + h) a c := by
  obtain ⟨s1, e1, X1, Y1, x1, y1, l1⟩ := H
  obtain ⟨s2, e2, X2, Y2, x2, y2, l2⟩ := K
  refine ⟨Nat.le_trans s2 s1, fun h => e2 (e1 h), X1 ++ X2, Y1 ++ Y2, by rw [x2, x1, List.append_assoc], by rw [y2, y1, List.append_assoc], ?_⟩
  rw [List.length_append, List.length_append, Nat.add_mul]
  have h1 : g * (1 + (a.1.s.size - b.1.s.size)) ≤ g * (1 + (a.1.s.size - c.1.s.size)) := Nat.mul_le_mul_left _ (by omega)
  have h2 : h * (1 + (b.1.s.size - c.1.s.size)) ≤ h * (1 + (a.1.s.size - c.1.s.size)) := Nat.mul_le_mul_left _ (by omega)
  omega
theorem Grow.mono {g h : Nat} {a b : TS} (H : Grow g a b) (hg : g ≤ h) : Grow h a b := by
  obtain ⟨s1, e1, X1, Y1, x1, y1, l1⟩ := H
  exact ⟨s1, e1, X1, Y1, x1, y1, Nat.le_trans l1 (Nat.mul_le_mul_right _ hg)⟩
theorem putN_ok {n : Int} {st st' : TS} (h : putN n st = .ok st') : st.1.e = 0 ∧ st' = (st.1, st.2.1 ++ [n], st.2.2) := by
  unfold putN at h
  split at h
  · rename_i h1; injection h with h; exact ⟨h1, h.symm⟩
  · cases h
theorem putT_ok {x : ByteArray} {st st' : TS} (h : putT x st = .ok st') : st.1.e = 0 ∧ st' = (st.1, st.2.1, st.2.2 ++ [x]) := by
  unfold putT at h
  split at h
  · rename_i h1; injection h with h; exact ⟨h1, h.symm⟩
  · cases h
theorem grow_putN {n : Int} {r r' : RS} {N : List Int} {T : List ByteArray} {st' : TS} (hs : r'.s.size ≤ r.s.size) (h : putN n (r', N, T) = .ok st') : Grow 1 (r, N, T) st' := by
  obtain ⟨h1, rfl⟩ := putN_ok h
  exact ⟨hs, fun _ => h1, [n], [], rfl, by simp, by simp⟩
theorem grow_putT {x : ByteArray} {r r' : RS} {N : List Int} {T : List ByteArray} {st' : TS} (hs : r'.s.size ≤ r.s.size) (h : putT x (r', N, T) = .ok st') : Grow 1 (r, N, T) st' := by
  obtain ⟨h1, rfl⟩ := putT_ok h
  exact ⟨hs, fun _ => h1, [], [x], by simp, rfl, by simp⟩
theorem set_app {N X : List Int} {i : Nat} {v : Int} (h : i < N.length) : (N ++ X).set i v = N.set i v ++ X := List.set_append_left _ _ h
/-- a list of things: the count's place turns, all else stands behind; each thing costs four bytes at least -/
theorem starL_grow {f : TS → Except Int TS} {g : Nat} (hf : ∀ st st', f st = .ok st' → Grow g st st') {i : Nat} : ∀ (k : Nat) (st st' : TS), i < st.2.1.length → starL f i k st = .ok st' →
    st'.1.s.size ≤ st.1.s.size ∧ st'.1.e = 0 ∧ ∃ v X Y, st'.2.1 = st.2.1.set i v ++ X ∧ st'.2.2 = st.2.2 ++ Y ∧ X.length + Y.length ≤ g * (st.1.s.size - st'.1.s.size)
  | 0, _, _, _, h => by cases h
  | k + 1, (r, N, T), st', hi, h => by
    rw [starL] at h
    split at h
    · rename_i hb
      obtain ⟨h0, h1, h2⟩ := RS.bool_true hb
      obtain ⟨a, ha, h⟩ := bind_ok.1 h
      obtain ⟨s1, e1, X1, Y1, x1, y1, l1⟩ := hf _ _ ha
      dsimp only at hi s1 e1 x1 y1 l1
      obtain ⟨s2, e2, v, X2, Y2, x2, y2, l2⟩ := starL_grow hf k a st' (by rw [x1, List.length_append, List.length_set]; omega) h
      refine ⟨by dsimp only; omega, e2, v, X1 ++ X2, Y1 ++ Y2, ?_, by rw [y2, y1, List.append_assoc], ?_⟩
      · rw [x2, x1, set_app (by rw [List.length_set]; exact hi), List.set_set, List.append_assoc]
      · rw [List.length_append, List.length_append]
        dsimp only
        have h3 : g * (1 + (r.bool.2.s.size - a.1.s.size)) + g * (a.1.s.size - st'.1.s.size) ≤ g * (r.s.size - st'.1.s.size) := by
          rw [← Nat.mul_add]; exact Nat.mul_le_mul_left _ (by omega)
        omega
    · split at h
      · rename_i h1
        injection h with h; subst h
        refine ⟨RS.bool_le r, h1, N.getD i 0, [], [], ?_, by simp, by simp⟩
        dsimp only at hi ⊢
        rw [List.append_nil]
        apply List.ext_getElem?
        intro j
        rw [List.getElem?_set]
        split
        · rename_i hj; subst hj
          simp [List.getD, hi]
        · rfl
      · cases h
theorem tk_grow : ∀ (t : Tr) (m : Option Int) (st st' : TS), tk t m st = .ok st' → Grow t.sg st st'
  | .nil, none, st, st', h => by rw [tk] at h; injection h with h; subst h; exact Grow.refl _ _
  | .nil, some _, _, _, h => by rw [tk] at h; cases h
  | .sign .., some _, _, _, h => by rw [tk] at h; cases h
  | .arm .., none, _, _, h => by rw [tk] at h; cases h
  | .arm k y f t, some n, st, st', h => by
    rw [tk] at h
    split at h
    · exact (tk_grow f none st st' h).mono (by simp only [Tr.sg]; omega)
    · exact (tk_grow t (some n) st st' h).mono (by simp only [Tr.sg]; omega)
  | .sign k n a t, none, (r, N, T), st', h => by
    rw [tk] at h
    obtain ⟨st1, h1, h2⟩ := bind_ok.1 h
    have hg2 := tk_grow t none st1 st' h2
    have hg1 : Grow (1 + a.sg) (r, N, T) st1 := by
      split at h1
      · exact (grow_putN (RS.nat_le r 4) h1).mono (by omega)
      split at h1
      · exact (grow_putN (RS.nat_le r 8) h1).mono (by omega)
      split at h1
      · exact (grow_putN (RS.bool_le r) h1).mono (by omega)
      split at h1
      · exact (grow_putT (RS.opqe_le r n) h1).mono (by omega)
      split at h1
      · exact (grow_putT (RS.fixed_le r n) h1).mono (by omega)
      split at h1
      · obtain ⟨st0, h3, h4⟩ := bind_ok.1 h1
        have hg3 := grow_putN (RS.bool_le r) h3
        split at h4
        · exact hg3.trans (tk_grow a (some 0) st0 st1 h4)
        · injection h4 with h4; subst h4; exact hg3.mono (by omega)
      split at h1
      · obtain ⟨st0, h3, h4⟩ := bind_ok.1 h1
        obtain ⟨h5, rfl⟩ := putN_ok h3
        obtain ⟨s1, e1, v, X, Y, x1, y1, l1⟩ := starL_grow (fun st st' h => tk_grow a (some 0) st st' h) _ _ _ (by simp) h4
        dsimp only at s1 x1 y1 l1
        refine ⟨s1, fun _ => e1, v :: X, Y, ?_, y1, ?_⟩
        · rw [x1, List.set_append_right _ _ (Nat.le_refl _), Nat.sub_self]; simp
        · dsimp only
          rw [List.length_cons, Nat.add_mul, Nat.mul_add a.sg]; omega
      split at h1
      · obtain ⟨st0, h3, h4⟩ := bind_ok.1 h1
        exact (grow_putN (RS.nat_le r 4) h3).trans (tk_grow a (some _) st0 st1 h4)
      · injection h1 with h1; subst h1; exact Grow.refl _ _
    exact (hg1.trans hg2).mono (by simp only [Tr.sg]; omega)
end Go.Proofs.Ytkkpcjpdpjpohaa

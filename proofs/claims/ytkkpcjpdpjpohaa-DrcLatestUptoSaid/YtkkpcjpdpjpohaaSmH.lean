/- Layer 2: forms as they lie in memory. -/
import Derived.Test.YtkkpcjpdpjpohaaSmP
import Derived.Test.YtkkpcjpdpjpohaaSLA
import Derived.Test.YtkkpcjpdpjpohaaSLF
import Derived.Test.YtkkpcjpdpjpohaaSLP
namespace Go.Proofs.Ytkkpcjpdpjpohaa
open Go

/-- a row of signs (or of arms): its cells, and what they own -/
def Hd : Tr → List Value → List Assn → Prop
  | .nil, vs, L => vs = [] ∧ L = []
  | .sign k m a t, vs, L => ∃ A c va La vt Lt, vs = .int .u8 k :: .int .i64 m :: .slice A a.len c :: vt ∧ L = Row 117 3 A a.len c va :: (La ++ Lt) ∧ Hd a va La ∧ Hd t vt Lt
  | .arm k y f t, vs, L => ∃ A c va La vt Lt, vs = .int .i64 k :: .bool y :: .slice A f.len c :: vt ∧ L = Row 112 3 A f.len c va :: (La ++ Lt) ∧ Hd f va La ∧ Hd t vt Lt
theorem Hd.len : ∀ {t : Tr} {vs : List Value} {L : List Assn}, Hd t vs L → vs.length = t.len * 3
  | .nil, _, _, ⟨h, _⟩ => by rw [h]; rfl
  | .sign .., _, _, ⟨_, _, _, _, _, _, h, _, _, ht⟩ => by rw [h, Tr.len]; simp only [List.length_cons]; rw [Hd.len ht]; omega
  | .arm .., _, _, ⟨_, _, _, _, _, _, h, _, _, ht⟩ => by rw [h, Tr.len]; simp only [List.length_cons]; rw [Hd.len ht]; omega
theorem Hd.app : ∀ {t : Tr} {vs : List Value} {L : List Assn} {u : Tr} {us : List Value} {M : List Assn}, Hd t vs L → Hd u us M → Hd (t.app u) (vs ++ us) (L ++ M)
  | .nil, _, _, _, _, _, ⟨h1, h2⟩, hu => by rw [h1, h2]; exact hu
  | .sign .., _, _, _, _, _, ⟨A, c, va, La, vt, Lt, h1, h2, ha, ht⟩, hu => ⟨A, c, va, La, vt ++ _, Lt ++ _, by rw [h1]; rfl, by rw [h2]; simp only [List.cons_append, List.append_assoc], ha, ht.app hu⟩
  | .arm .., _, _, _, _, _, ⟨A, c, va, La, vt, Lt, h1, h2, ha, ht⟩, hu => ⟨A, c, va, La, vt ++ _, Lt ++ _, by rw [h1]; rfl, by rw [h2]; simp only [List.cons_append, List.append_assoc], ha, ht.app hu⟩
theorem Hd.one {k m : Nat} {a : Tr} {A : Option Addr} {c : Nat} {va : List Value} {La : List Assn} (h : Hd a va La) : Hd (.sign k m a .nil) [.int .u8 k, .int .i64 m, .slice A a.len c] (Row 117 3 A a.len c va :: La) :=
  ⟨A, c, va, La, [], [], rfl, by simp, h, rfl, rfl⟩
theorem Hd.one_arm {k : Nat} {y : Bool} {f : Tr} {A : Option Addr} {c : Nat} {va : List Value} {La : List Assn} (h : Hd f va La) : Hd (.arm k y f .nil) [.int .i64 k, .bool y, .slice A f.len c] (Row 112 3 A f.len c va :: La) :=
  ⟨A, c, va, La, [], [], rfl, by simp, h, rfl, rfl⟩

/-- the same, only read: the row lies at A, the first of it is the j-th there -/
def RdT (w : World) : Tr → Option Addr → Nat → Prop
  | .nil, _, _ => True
  | .sign k m a t, A, j => (∃ g o, A = some ⟨g, o, none⟩ ∧ w.cell? ⟨g, o + 3 * j, none⟩ = some (.int .u8 k) ∧ w.cell? ⟨g, o + (3 * j + 1), none⟩ = some (.int .i64 m) ∧ ∃ B c, w.cell? ⟨g, o + (3 * j + 2), none⟩ = some (.slice B a.len c) ∧ RdT w a B 0) ∧ RdT w t A (j + 1)
  | .arm k y f t, A, j => (∃ g o, A = some ⟨g, o, none⟩ ∧ w.cell? ⟨g, o + 3 * j, none⟩ = some (.int .i64 k) ∧ w.cell? ⟨g, o + (3 * j + 1), none⟩ = some (.bool y) ∧ ∃ B c, w.cell? ⟨g, o + (3 * j + 2), none⟩ = some (.slice B f.len c) ∧ RdT w f B 0) ∧ RdT w t A (j + 1)
theorem RdT.keep {w0 w : World} {L : List Assn} (H : St w0 w L) : ∀ (t : Tr) (A : Option Addr) (j : Nat), RdT w0 t A j → RdT w t A j
  | .nil, _, _, _ => trivial
  | .sign k m a t, A, j, ⟨⟨g, o, hA, h1, h2, B, c, h3, h4⟩, h5⟩ => by
    have hg : g < w0.heap.size := World.block_lt_of_cell? w0 _ h1
    exact ⟨⟨g, o, hA, by rw [H.old (by exact hg)]; exact h1, by rw [H.old (by exact hg)]; exact h2, B, c, by rw [H.old (by exact hg)]; exact h3, RdT.keep H a B 0 h4⟩, RdT.keep H t A (j + 1) h5⟩
  | .arm k m a t, A, j, ⟨⟨g, o, hA, h1, h2, B, c, h3, h4⟩, h5⟩ => by
    have hg : g < w0.heap.size := World.block_lt_of_cell? w0 _ h1
    exact ⟨⟨g, o, hA, by rw [H.old (by exact hg)]; exact h1, by rw [H.old (by exact hg)]; exact h2, B, c, by rw [H.old (by exact hg)]; exact h3, RdT.keep H a B 0 h4⟩, RdT.keep H t A (j + 1) h5⟩
/-- what is owned reads so -/
theorem RdT.of {w0 w : World} : ∀ (t : Tr) {e : TypeId} {A : Option Addr} {n c : Nat} {pre vs : List Value} {j : Nat} {L F : List Assn}, pre.length = 3 * j → Hd t vs L → St w0 w (Row e 3 A n c (pre ++ vs) :: (L ++ F)) → RdT w t A j
  | .nil, _, _, _, _, _, _, _, _, _, _, _, _ => trivial
  | .sign k m a t, e, A, n, c, pre, vs, j, L, F, hj, ⟨B, d, va, La, vt, Lt, h1, h2, ha, ht⟩, H => by
    subst h1 h2
    have hl := H.row_length
    simp only [List.length_append, List.length_cons] at hl
    obtain ⟨g, o, rfl⟩ := H.row_form (by omega)
    refine ⟨⟨g, o, rfl, H.row_cell _ (by rw [List.getElem?_append_right (by omega), hj, Nat.sub_self]; rfl), H.row_cell _ (by rw [List.getElem?_append_right (by omega), hj, show 3 * j + 1 - 3 * j = 1 by omega]; rfl), B, d, H.row_cell _ (by rw [List.getElem?_append_right (by omega), hj, show 3 * j + 2 - 3 * j = 2 by omega]; rfl), ?_⟩, ?_⟩
    · refine RdT.of a (e := 117) (n := a.len) (c := d) (pre := []) (j := 0) (F := Row e 3 (some ⟨g, o, none⟩) n c (pre ++ (.int .u8 k :: .int .i64 m :: .slice B a.len d :: vt)) :: (Lt ++ F)) rfl ha (H.perm ?_)
      simp only [List.nil_append, List.cons_append, List.append_assoc]
      refine (List.Perm.swap ..).trans (List.Perm.cons _ ?_)
      exact List.perm_middle.symm
    · refine RdT.of t (e := e) (A := some ⟨g, o, none⟩) (n := n) (c := c) (pre := pre ++ [.int .u8 k, .int .i64 m, .slice B a.len d]) (j := j + 1) (L := Lt) (F := Row 117 3 B a.len d va :: (La ++ F)) (by simp; omega) ht (H.perm ?_)
      simp only [List.append_assoc, List.cons_append, List.nil_append]
      refine List.Perm.cons _ ?_
      refine (List.Perm.cons _ ?_).trans List.perm_middle.symm
      rw [← List.append_assoc, ← List.append_assoc]
      exact List.Perm.append_right _ List.perm_append_comm
  | .arm k m a t, e, A, n, c, pre, vs, j, L, F, hj, ⟨B, d, va, La, vt, Lt, h1, h2, ha, ht⟩, H => by
    subst h1 h2
    have hl := H.row_length
    simp only [List.length_append, List.length_cons] at hl
    obtain ⟨g, o, rfl⟩ := H.row_form (by omega)
    refine ⟨⟨g, o, rfl, H.row_cell _ (by rw [List.getElem?_append_right (by omega), hj, Nat.sub_self]; rfl), H.row_cell _ (by rw [List.getElem?_append_right (by omega), hj, show 3 * j + 1 - 3 * j = 1 by omega]; rfl), B, d, H.row_cell _ (by rw [List.getElem?_append_right (by omega), hj, show 3 * j + 2 - 3 * j = 2 by omega]; rfl), ?_⟩, ?_⟩
    · refine RdT.of a (e := 112) (n := a.len) (c := d) (pre := []) (j := 0) (F := Row e 3 (some ⟨g, o, none⟩) n c (pre ++ (.int .i64 k :: .bool m :: .slice B a.len d :: vt)) :: (Lt ++ F)) rfl ha (H.perm ?_)
      simp only [List.nil_append, List.cons_append, List.append_assoc]
      refine (List.Perm.swap ..).trans (List.Perm.cons _ ?_)
      exact List.perm_middle.symm
    · refine RdT.of t (e := e) (A := some ⟨g, o, none⟩) (n := n) (c := c) (pre := pre ++ [.int .i64 k, .bool m, .slice B a.len d]) (j := j + 1) (L := Lt) (F := Row 112 3 B a.len d va :: (La ++ F)) (by simp; omega) ht (H.perm ?_)
      simp only [List.append_assoc, List.cons_append, List.nil_append]
      refine List.Perm.cons _ ?_
      refine (List.Perm.cons _ ?_).trans List.perm_middle.symm
      rw [← List.append_assoc, ← List.append_assoc]
      exact List.Perm.append_right _ List.perm_append_comm
/-- what is owned besides is let go -/
theorem St.drop {w0 w : World} : ∀ {L F : List Assn}, St w0 w (L ++ F) → St w0 w F
  | [], _, H => H
  | _ :: L, _, H => St.drop (L := L) H.tail
end Go.Proofs.Ytkkpcjpdpjpohaa

/- Layer 20: the document's cache: rows, of which the later ones count. -/
import Derived.Test.YtnehdcaobkedpaaCaG
import Derived.Test.YtnehdcaobkedpaaSLA
import Derived.Deep.QuietTactic
namespace Go.Proofs.Ytnehdcaobkedpaa.Ca
open Go.Proofs.Ytnehdcaobkedpaa
open Go.RowKit

structure FR where
  h : ByteArray
  size : Int
  s : Int
  n : Int
  id : Int
  now : Int
structure NR where
  d : ByteArray
  s : ByteArray
  h : ByteArray
  now : Int
structure PR where
  h : ByteArray
  k : Int
  x : ByteArray
def FR.cells (r : FR) : List Value := [.string r.h, .int .i64 r.size, .int .i64 r.s, .int .i64 r.n, .int .i64 r.id, .int .i64 r.now]
def NR.cells (r : NR) : List Value := [.string r.d, .string r.s, .string r.h, .int .i64 r.now]
def PR.cells (r : PR) : List Value := [.string r.h, .int .i64 r.k, .string r.x]
theorem flat_length {α : Type} (f : α → List Value) (k : Nat) (hk : ∀ x, (f x).length = k) (l : List α) : (l.flatMap f).length = l.length * k := by
  induction l with
  | nil => simp
  | cons x l ih => rw [List.flatMap_cons, List.length_append, ih, hk, List.length_cons, Nat.succ_mul]; omega
theorem flat_get {α : Type} (f : α → List Value) (k : Nat) (hk : ∀ x, (f x).length = k) : ∀ (l : List α) (i : Nat) (x : α), l[i]? = some x → ∀ j u, (f x)[j]? = some u → (l.flatMap f)[i * k + j]? = some u
  | [], i, x, h, j, u, hu => by simp at h
  | q :: l, 0, x, h, j, u, hu => by
    simp at h; subst h
    have := (List.getElem?_eq_some_iff.1 hu).1
    rw [List.flatMap_cons, Nat.zero_mul, Nat.zero_add, List.getElem?_append_left this]; exact hu
  | q :: l, i + 1, x, h, j, u, hu => by
    have := flat_get f k hk l i x (by simpa using h) j u hu
    rw [List.flatMap_cons, List.getElem?_append_right (by rw [hk, Nat.succ_mul]; omega), hk, show (i + 1) * k + j - k = i * k + j by rw [Nat.succ_mul]; omega]
    exact this
/-- a row of structs, read -/
theorem rows_get {α : Type} {f : α → List Value} {k : Nat} (hk : ∀ x, (f x).length = k) {w0 w : World} {e : TypeId} {A : Option Addr} {m c : Nat} {l : List α} {F : List Assn} (H : St w0 w (Row e k A m c (l.flatMap f) :: F)) {i : Nat} {x : α} (h : l[i]? = some x) (hm : l.length = m) :
    ∃ g o, A = some ⟨g, o, none⟩ ∧ (∀ u, (f x)[0]? = some u → w.cell? ⟨g, o + i * k, none⟩ = some u) ∧ ∀ j u, (f x)[j]? = some u → w.cell? ⟨g, o + i * k + j, none⟩ = some u := by
  have hi := (List.getElem?_eq_some_iff.1 h).1
  obtain ⟨g, o, rfl⟩ := H.row_form (by omega)
  have key : ∀ j u, (f x)[j]? = some u → w.cell? ⟨g, o + i * k + j, none⟩ = some u := fun j u hu => by
    rw [Nat.add_assoc]; exact H.row_cell (i * k + j) (flat_get f k hk l i x h j u hu)
  exact ⟨g, o, rfl, fun u hu => key 0 u hu, key⟩
/-- the last one that is so -/
def lastOf {α : Type} (p : α → Bool) (l : List α) : Option α := l.reverse.find? p
theorem lastOf_snoc {α : Type} (p : α → Bool) (l : List α) (x : α) : lastOf p (l ++ [x]) = if p x = true then some x else lastOf p l := by
  unfold lastOf
  rw [List.reverse_append]
  show (x :: l.reverse).find? p = _
  rw [List.find?_cons]
  cases p x <;> rfl
theorem lastOf_none {α : Type} {p : α → Bool} {l : List α} (h : ∀ x ∈ l, p x = false) : lastOf p l = none := by
  unfold lastOf
  exact List.find?_eq_none.2 fun x hx => by rw [h x (List.mem_reverse.1 hx)]; decide
theorem lastOf_at {α : Type} {p : α → Bool} {l : List α} {i : Nat} {x : α} (h : l[i]? = some x) (hp : p x = true) (hn : ∀ j y, i < j → l[j]? = some y → p y = false) : lastOf p l = some x := by
  have hi := (List.getElem?_eq_some_iff.1 h)
  have hs : l = l.take i ++ x :: l.drop (i + 1) := by
    obtain ⟨h1, h2⟩ := hi
    rw [← h2, ← List.drop_eq_getElem_cons h1, List.take_append_drop]
  unfold lastOf
  rw [hs, List.reverse_append, List.reverse_cons, List.append_assoc, List.find?_append]
  have h0 : (l.drop (i + 1)).reverse.find? p = none := List.find?_eq_none.2 fun y hy => by
    obtain ⟨j, hj⟩ := List.mem_iff_getElem?.1 (List.mem_reverse.1 hy)
    rw [List.getElem?_drop] at hj
    rw [hn _ y (by omega) hj]; decide
  rw [h0]
  show ((x :: (l.take i).reverse).find? p) = _
  rw [List.find?_cons_of_pos hp]
theorem lastOf_filter {α : Type} (p q : α → Bool) (l : List α) (h : ∀ x, p x = true → q x = true) : lastOf p (l.filter q) = lastOf p l := by
  unfold lastOf
  rw [← List.filter_reverse, List.find?_filter]
  congr 1
  funext x
  cases hp : p x with
  | true => simp [h x hp]
  | false => simp
theorem lastOf_some {α : Type} {p : α → Bool} {l : List α} {x : α} (h : lastOf p l = some x) : x ∈ l ∧ p x = true := by
  unfold lastOf at h
  exact ⟨List.mem_reverse.1 (List.mem_of_find?_eq_some h), List.find?_some h⟩
/-- the document's cache -/
structure RC where
  b : Nat
  age : Int
  fl : List FR
  nl : List NR
  pl : List PR
def RCx (r : RC) : Assn := exA fun p : (Option Addr × Nat) × (Option Addr × Nat) × (Option Addr × Nat) => star (Pt r.b #[.int .i64 r.age, .slice p.1.1 r.fl.length p.1.2, .slice p.2.1.1 r.nl.length p.2.1.2, .slice p.2.2.1 r.pl.length p.2.2.2] 56)
  (star (Row 48 6 p.1.1 r.fl.length p.1.2 (r.fl.flatMap FR.cells)) (star (Row 58 4 p.2.1.1 r.nl.length p.2.1.2 (r.nl.flatMap NR.cells)) (Row 62 3 p.2.2.1 r.pl.length p.2.2.2 (r.pl.flatMap PR.cells))))
theorem St.openR {w0 w : World} {r : RC} {F : List Assn} (H : St w0 w (RCx r :: F)) :
    ∃ A1 c1 A2 c2 A3 c3, St w0 w (Pt r.b #[.int .i64 r.age, .slice A1 r.fl.length c1, .slice A2 r.nl.length c2, .slice A3 r.pl.length c3] 56 :: Row 48 6 A1 r.fl.length c1 (r.fl.flatMap FR.cells) ::
      Row 58 4 A2 r.nl.length c2 (r.nl.flatMap NR.cells) :: Row 62 3 A3 r.pl.length c3 (r.pl.flatMap PR.cells) :: F) := by
  obtain ⟨p, H⟩ := H.unex
  have H1 := H.unstar
  have H2 := H1.r2.unstar
  have H3 := H2.r2.unstar
  exact ⟨p.1.1, p.1.2, p.2.1.1, p.2.1.2, p.2.2.1, p.2.2.2, H3.ord 4 [3, 2, 0, 1]⟩
theorem St.shutR {w0 w : World} {r : RC} {F : List Assn} {A1 A2 A3 : Option Addr} {n1 n2 n3 c1 c2 c3 : Nat} (h1 : n1 = r.fl.length) (h2 : n2 = r.nl.length) (h3 : n3 = r.pl.length)
    (H : St w0 w (Pt r.b #[.int .i64 r.age, .slice A1 n1 c1, .slice A2 n2 c2, .slice A3 n3 c3] 56 :: Row 48 6 A1 n1 c1 (r.fl.flatMap FR.cells) ::
      Row 58 4 A2 n2 c2 (r.nl.flatMap NR.cells) :: Row 62 3 A3 n3 c3 (r.pl.flatMap PR.cells) :: F)) : St w0 w (RCx r :: F) := by
  subst h1 h2 h3
  have H1 := (H.ord 4 [2, 3, 0, 1]).star
  have H2 := (H1.ord 3 [2, 0, 1]).star
  have H3 := (H2.ord 2 [1, 0]).star
  exact Ytnehdcaobkedpaa.St.ex ((A1, c1), (A2, c2), (A3, c3)) H3
end Go.Proofs.Ytnehdcaobkedpaa.Ca

/- A small separation logic over the model's worlds: what a call owns, as a list of assertions on disjoint pieces of the heap. -/
import Derived.WalkKit
import Derived.Deep.AppendLies
import Derived.Lib.Hide
import Derived.Deep.Draws
import Derived.ArgAppend
import Derived.Lib.AppendStr
import Derived.Lib.ConvBytes
namespace Go.Proofs.Ytkkpcjpdpjpohaa
open Go.RowKit

/-- a piece of a heap -/
abbrev PH := Nat → Option Obj
abbrev Assn := PH → Prop
def PH.sub (h : PH) (w : World) : Prop := ∀ i o, h i = some o → w.heap[i]? = some o
def PH.disj (h k : PH) : Prop := ∀ i, h i = none ∨ k i = none

/-- the pieces, one for each assertion, apart from one another, from block 'base' on -/
inductive Own (base : Nat) (w : World) : List Assn → List PH → Prop
  | nil : Own base w [] []
  | cons {A : Assn} {h : PH} {L : List Assn} {hs : List PH} (ha : A h) (hs' : h.sub w) (hb : ∀ i o, h i = some o → base ≤ i) (hd : ∀ k ∈ hs, PH.disj h k) (r : Own base w L hs) : Own base w (A :: L) (h :: hs)

structure St (w0 w : World) (L : List Assn) : Prop where
  below : Below w0.heap.size w0 w
  own : ∃ hs, Own w0.heap.size w L hs

theorem PH.disj.symm {h k : PH} (d : PH.disj h k) : PH.disj k h := fun i => (d i).symm
theorem PH.sub_lt {h : PH} {w : World} (hs : h.sub w) {i : Nat} {o : Obj} (hi : h i = some o) : i < w.heap.size := by
  have := hs i o hi
  exact (Array.getElem?_eq_some_iff.1 this).1

theorem St.init (w : World) : St w w [] := ⟨Below.refl _ _, [], .nil⟩

theorem Own.move {base : Nat} {w w' : World} (hk : ∀ i o, w.heap[i]? = some o → base ≤ i → w'.heap[i]? = some o) : ∀ {L : List Assn} {hs : List PH}, Own base w L hs → Own base w' L hs
  | _, _, .nil => .nil
  | _, _, .cons ha hs hb hd r => .cons ha (fun i o hi => hk i o (hs i o hi) (hb i o hi)) hb hd (Own.move hk r)

/-- what keeps every block that stood keeps what is owned -/
theorem St.keep {w0 w w' : World} {L : List Assn} (H : St w0 w L) (hb : Below w.heap.size w w') : St w0 w' L := by
  obtain ⟨hbel, hs, ho⟩ := H
  refine ⟨hbel.trans (hb.mono (hbel.size)), hs, ho.move fun i o hi _ => ?_⟩
  rw [hb.block i (Array.getElem?_eq_some_iff.1 hi).1]; exact hi
theorem St.drew {w0 w : World} {L : List Assn} (H : St w0 w L) : St w0 w.drew L := H.keep (Below.refl _ _).drew
theorem St.drewN {w0 w : World} {L : List Assn} (H : St w0 w L) (n : Nat) : St w0 (w.drewN n) L := H.keep ⟨rfl, rfl, rfl, Nat.le_refl _, fun _ _ => rfl⟩
theorem St.more {w0 w : World} {L : List Assn} (H : St w0 w L) (o : Obj) : St w0 (w.alloc o) L := H.keep ((Below.refl _ _).alloc (Nat.le_refl _) o)
theorem St.old {w0 w : World} {L : List Assn} (H : St w0 w L) {a : Addr} (h : a.block < w0.heap.size) : w.cell? a = w0.cell? a := H.below.cell h
theorem St.old_heap {w0 w : World} {L : List Assn} (H : St w0 w L) {i : Nat} (h : i < w0.heap.size) : w.heap[i]? = w0.heap[i]? := H.below.block i h
theorem St.size {w0 w : World} {L : List Assn} (H : St w0 w L) : w0.heap.size ≤ w.heap.size := H.below.size

/-! ### the list -/
theorem St.tail {w0 w : World} {A : Assn} {L : List Assn} (H : St w0 w (A :: L)) : St w0 w L := by
  obtain ⟨hb, hs, ho⟩ := H
  cases ho with
  | cons ha hs hb' hd r => exact ⟨hb, _, r⟩
theorem St.imp {w0 w : World} {A B : Assn} {L : List Assn} (H : St w0 w (A :: L)) (h : ∀ p, A p → B p) : St w0 w (B :: L) := by
  obtain ⟨hb, hs, ho⟩ := H
  cases ho with
  | cons ha hs hb' hd r => exact ⟨hb, _, .cons (h _ ha) hs hb' hd r⟩
theorem Own.swap {base : Nat} {w : World} {A B : Assn} {L : List Assn} {hs : List PH} (H : Own base w (A :: B :: L) hs) : ∃ hs', Own base w (B :: A :: L) hs' ∧ ∀ k, k ∈ hs ↔ k ∈ hs' := by
  cases H with
  | @cons _ h1 _ _ ha hsa hba hda r =>
    cases r with
    | @cons _ h2 _ hs2 hb hsb hbb hdb r =>
      refine ⟨h2 :: h1 :: hs2, .cons hb hsb hbb ?_ (.cons ha hsa hba ?_ r), by intro k; simp; exact or_left_comm⟩
      · intro k hk
        rcases List.mem_cons.1 hk with rfl | hk
        · exact (hda _ (List.mem_cons_self ..)).symm
        · exact hdb k hk
      · exact fun k hk => hda k (List.mem_cons_of_mem _ hk)
theorem Own.under {base : Nat} {w : World} {A : Assn} {L L' : List Assn} (f : ∀ hs, Own base w L hs → ∃ hs', Own base w L' hs' ∧ ∀ k, k ∈ hs ↔ k ∈ hs') : ∀ hs, Own base w (A :: L) hs → ∃ hs', Own base w (A :: L') hs' ∧ ∀ k, k ∈ hs ↔ k ∈ hs' := by
  intro hs H
  cases H with
  | cons ha hsa hba hda r =>
    obtain ⟨hs', ho', hm⟩ := f _ r
    exact ⟨_, .cons ha hsa hba (fun k hk => hda k ((hm k).2 hk)) ho', by intro k; simp [hm]⟩
theorem Own.up {base : Nat} {w : World} : ∀ (P : List Assn) {A : Assn} {L : List Assn} (hs : List PH), Own base w (P ++ A :: L) hs → ∃ hs', Own base w (A :: (P ++ L)) hs' ∧ ∀ k, k ∈ hs ↔ k ∈ hs'
  | [], _, _, hs, H => ⟨hs, H, fun _ => Iff.rfl⟩
  | B :: P, A, L, hs, H => by
    obtain ⟨hs1, h1, m1⟩ := Own.under (A := B) (fun hs h => Own.up P hs h) hs H
    obtain ⟨hs2, h2, m2⟩ := h1.swap
    exact ⟨hs2, h2, fun k => (m1 k).trans (m2 k)⟩
/-- the assertion behind 'P' comes to the front -/
theorem St.up {w0 w : World} (P : List Assn) {A : Assn} {L : List Assn} (H : St w0 w (P ++ A :: L)) : St w0 w (A :: (P ++ L)) := by
  obtain ⟨hb, hs, ho⟩ := H
  obtain ⟨hs', ho', _⟩ := Own.up P hs ho
  exact ⟨hb, hs', ho'⟩
theorem St.r2 {w0 w : World} {A B : Assn} {L : List Assn} (H : St w0 w (A :: B :: L)) : St w0 w (B :: A :: L) := St.up [A] H
theorem St.r3 {w0 w : World} {A B C : Assn} {L : List Assn} (H : St w0 w (A :: B :: C :: L)) : St w0 w (C :: A :: B :: L) := St.up [A, B] H
theorem St.r4 {w0 w : World} {A B C D : Assn} {L : List Assn} (H : St w0 w (A :: B :: C :: D :: L)) : St w0 w (D :: A :: B :: C :: L) := St.up [A, B, C] H
theorem St.r5 {w0 w : World} {A B C D E : Assn} {L : List Assn} (H : St w0 w (A :: B :: C :: D :: E :: L)) : St w0 w (E :: A :: B :: C :: D :: L) := St.up [A, B, C, D] H
theorem St.r6 {w0 w : World} {A B C D E G : Assn} {L : List Assn} (H : St w0 w (A :: B :: C :: D :: E :: G :: L)) : St w0 w (G :: A :: B :: C :: D :: E :: L) := St.up [A, B, C, D, E] H

/-- an assertion more, on nothing -/
theorem St.add {w0 w : World} {A : Assn} {L : List Assn} (H : St w0 w L) (h : A fun _ => none) : St w0 w (A :: L) := by
  obtain ⟨hb, hs, ho⟩ := H
  exact ⟨hb, _, .cons h (fun i o hi => by cases hi) (fun i o hi => by cases hi) (fun k _ i => .inl rfl) ho⟩

/-! ### what is owned -/
/-- block 'b' holds the cells 'cs' -/
def Pt (b : Nat) (cs : Array Value) (t : TypeId) : Assn := fun h => h b = some (.cells cs t (0, 0))
/-- block 'b' holds the cells 'cs', its mark (a conversion's) beyond them -/
def Ptf (b : Nat) (cs : Array Value) (t : TypeId) (fr : Nat × Nat) : Assn := fun h => h b = some (.cells cs t fr)
/-- the slice of 'n' elements at 'A', the one slice of its block -/
def Row (e : TypeId) (size : Nat) (A : Option Addr) (n c : Nat) (xs : List Value) : Assn := fun h =>
  xs.length = n * size ∧ ((A = none ∧ n = 0 ∧ c = 0) ∨
    ∃ g o cur fr, A = some ⟨g, o, none⟩ ∧ h g = some (.cells cur e fr) ∧ (fr.2 ≤ fr.1 ∨ cur.size ≤ fr.1) ∧ n ≤ c ∧ c ≤ maxLen ∧ o + c * size ≤ cur.size ∧ ∀ j u, xs[j]? = some u → cur[o + j]? = some u)
def blk (A : Option Addr) : Option Nat := A.map (·.block)
theorem ownBlock_blk (A : Option Addr) (n c : Nat) : (Value.slice A n c).ownBlock = blk A := by cases A <;> rfl

theorem St.block {w0 w : World} {b : Nat} {cs : Array Value} {t : TypeId} {L : List Assn} (H : St w0 w (Pt b cs t :: L)) : w.heap[b]? = some (.cells cs t (0, 0)) := by
  obtain ⟨hb, hs, ho⟩ := H
  cases ho with
  | cons ha hs hb' hd r => exact hs _ _ ha
theorem St.lt {w0 w : World} {b : Nat} {cs : Array Value} {t : TypeId} {L : List Assn} (H : St w0 w (Pt b cs t :: L)) : b < w.heap.size :=
  (Array.getElem?_eq_some_iff.1 H.block).1
theorem St.gef {w0 w : World} {b : Nat} {cs : Array Value} {t : TypeId} {fr : Nat × Nat} {L : List Assn} (H : St w0 w (Ptf b cs t fr :: L)) : w0.heap.size ≤ b := by
  obtain ⟨hb, hs, ho⟩ := H
  cases ho with
  | cons ha hs hb' hd r => exact hb' _ _ ha
theorem St.blockf {w0 w : World} {b : Nat} {cs : Array Value} {t : TypeId} {fr : Nat × Nat} {L : List Assn} (H : St w0 w (Ptf b cs t fr :: L)) : w.heap[b]? = some (.cells cs t fr) := by
  obtain ⟨hb, hs, ho⟩ := H
  cases ho with
  | cons ha hs hb' hd r => exact hs _ _ ha
theorem St.ge {w0 w : World} {b : Nat} {cs : Array Value} {t : TypeId} {L : List Assn} (H : St w0 w (Pt b cs t :: L)) : w0.heap.size ≤ b := by
  obtain ⟨hb, hs, ho⟩ := H
  cases ho with
  | cons ha hs hb' hd r => exact hb' _ _ ha
theorem St.cell {w0 w : World} {b : Nat} {cs : Array Value} {t : TypeId} {L : List Assn} (H : St w0 w (Pt b cs t :: L)) (o : Nat) {v : Value} (h : cs[o]? = some v) : w.cell? ⟨b, o, none⟩ = some v := by
  have := H.block
  simp only [World.cell?, this]
  simpa using h
theorem St.frozen {w0 w : World} {b : Nat} {cs : Array Value} {t : TypeId} {L : List Assn} (H : St w0 w (Pt b cs t :: L)) (o : Nat) : w.frozen? ⟨b, o, none⟩ = false := by
  have := H.block
  simp [World.frozen?, this]
theorem St.ne {w0 w : World} {b b' : Nat} {cs cs' : Array Value} {t t' : TypeId} {L : List Assn} (H : St w0 w (Pt b cs t :: Pt b' cs' t' :: L)) : b ≠ b' := by
  rintro rfl
  obtain ⟨hb, hs, ho⟩ := H
  cases ho with
  | @cons _ h1 _ _ ha hs hb' hd r =>
    cases r with
    | @cons _ h2 _ _ ha2 hs2 hb2 hd2 r =>
      rcases hd h2 (List.mem_cons_self ..) b with h | h
      · rw [show h1 b = _ from ha] at h; cases h
      · rw [show h2 b = _ from ha2] at h; cases h
theorem St.alloc {w0 w : World} {L : List Assn} (H : St w0 w L) (cs : Array Value) (t : TypeId) : St w0 (w.alloc (.cells cs t)) (Pt w.heap.size cs t :: L) := by
  have H' := H.more (.cells cs t)
  obtain ⟨hb, hs, ho⟩ := H
  have key : ∀ {L : List Assn} {hs : List PH}, Own w0.heap.size w L hs → ∀ k ∈ hs, k w.heap.size = none := by
    intro L hs ho
    induction ho with
    | nil => intro k hk; cases hk
    | cons ha hsub hb' hd r ih =>
      intro k hk
      rcases List.mem_cons.1 hk with rfl | hk
      · cases hq : k w.heap.size with
        | none => rfl
        | some o => have := PH.sub_lt hsub hq; omega
      · exact ih k hk
  refine ⟨H'.below, (fun i => if i = w.heap.size then some (.cells cs t (0, 0)) else none) :: hs, .cons (by simp [Pt]) ?_ ?_ ?_ ?_⟩
  · intro i o hi
    by_cases e : i = w.heap.size
    · subst e; simp at hi; subst hi; exact heap_alloc_new w _
    · simp [e] at hi
  · intro i o hi
    by_cases e : i = w.heap.size
    · subst e; exact hb.size
    · simp [e] at hi
  · intro k hk i
    by_cases e : i = w.heap.size
    · subst e; exact .inr (key ho k hk)
    · exact .inl (by simp [e])
  · refine ho.move fun i o hi _ => ?_
    rw [Below.heap_alloc _ _ _ (Array.getElem?_eq_some_iff.1 hi).1]; exact hi
theorem Own.far {base : Nat} {w w' : World} {g : Nat} (hk : ∀ i o, w.heap[i]? = some o → i ≠ g → w'.heap[i]? = some o) : ∀ {L : List Assn} {hs : List PH}, (∀ k ∈ hs, k g = none) → Own base w L hs → Own base w' L hs
  | _, _, _, .nil => .nil
  | _, _, hn, .cons ha hs hb hd r => .cons ha (fun i o hi => hk i o (hs i o hi) (fun e => by subst e; rw [hn _ (List.mem_cons_self ..)] at hi; cases hi)) hb hd (Own.far hk (fun k hk => hn k (List.mem_cons_of_mem _ hk)) r)
/-- a block that is owned is written: the others are as they were -/
theorem St.putf {w0 w w' : World} {b : Nat} {cs cs' : Array Value} {t t' : TypeId} {fr fr' : Nat × Nat} {L : List Assn} (H : St w0 w (Ptf b cs t fr :: L))
    (hb : Below b w w') (hsz : w.heap.size ≤ w'.heap.size) (hk : ∀ i, i < w.heap.size → i ≠ b → w'.heap[i]? = w.heap[i]?) (hn : w'.heap[b]? = some (.cells cs' t' fr')) : St w0 w' (Ptf b cs' t' fr' :: L) := by
  have hge := H.gef
  obtain ⟨hbel, hs, ho⟩ := H
  cases ho with
  | @cons _ h1 _ hs1 ha hsub hb' hd r =>
    refine ⟨⟨hb.os.trans hbel.os, hb.tape.trans hbel.tape, hb.output.trans hbel.output, Nat.le_trans hbel.size hsz, fun i hi => (hb.block i (by omega)).trans (hbel.block i hi)⟩,
      (fun i => if i = b then some (.cells cs' t' fr') else none) :: hs1, .cons (by simp [Ptf]) ?_ ?_ ?_ ?_⟩
    · intro i o hi
      by_cases e : i = b
      · subst e; simp at hi; subst hi; exact hn
      · simp [e] at hi
    · intro i o hi
      by_cases e : i = b
      · subst e; exact hge
      · simp [e] at hi
    · intro k hkm i
      by_cases e : i = b
      · subst e
        rcases hd k hkm i with h | h
        · rw [show h1 i = _ from ha] at h; cases h
        · exact .inr h
      · exact .inl (by simp [e])
    · refine r.far (g := b) (fun i o hi hne => ?_) (fun k hk => ?_)
      · rw [hk i (Array.getElem?_eq_some_iff.1 hi).1 hne]; exact hi
      · rcases hd k hk b with h | h
        · rw [show h1 b = _ from ha] at h; cases h
        · exact h
theorem St.put {w0 w w' : World} {b : Nat} {cs cs' : Array Value} {t t' : TypeId} {L : List Assn} (H : St w0 w (Pt b cs t :: L))
    (hb : Below b w w') (hsz : w.heap.size ≤ w'.heap.size) (hk : ∀ i, i < w.heap.size → i ≠ b → w'.heap[i]? = w.heap[i]?) (hn : w'.heap[b]? = some (.cells cs' t' (0, 0))) : St w0 w' (Pt b cs' t' :: L) :=
  St.putf (fr := (0, 0)) (fr' := (0, 0)) H hb hsz hk hn
theorem St.set {w0 w : World} {b : Nat} {cs : Array Value} {t : TypeId} {L : List Assn} (H : St w0 w (Pt b cs t :: L)) (o : Nat) (u : Value) : St w0 (w.setCell ⟨b, o, none⟩ u) (Pt b (cs.setIfInBounds o u) t :: L) := by
  refine H.put ⟨rfl, rfl, rfl, by simp, fun i hi => Below.heap_setCell _ _ _ _ (by simp; omega)⟩ (by simp) (fun i _ hne => Below.heap_setCell _ _ _ _ (by simpa using hne)) ?_
  have := H.block
  simp only [World.setCell, Array.getElem?_modify, this]
  simp

/-! ### rows -/
theorem St.nilRow {w0 w : World} {L : List Assn} (H : St w0 w L) (e : TypeId) (size : Nat) : St w0 w (Row e size none 0 0 [] :: L) :=
  H.add ⟨by simp, .inl ⟨rfl, rfl, rfl⟩⟩
/-- a row is nothing, or a block -/
theorem St.row_cases {w0 w : World} {e : TypeId} {size : Nat} {A : Option Addr} {n c : Nat} {xs : List Value} {L : List Assn} (H : St w0 w (Row e size A n c xs :: L)) :
    (A = none ∧ n = 0 ∧ c = 0 ∧ xs = []) ∨ ∃ g o cur fr, A = some ⟨g, o, none⟩ ∧ St w0 w (Ptf g cur e fr :: L) ∧ (fr.2 ≤ fr.1 ∨ cur.size ≤ fr.1) ∧ n ≤ c ∧ c ≤ maxLen ∧ o + c * size ≤ cur.size ∧ ∀ j u, xs[j]? = some u → cur[o + j]? = some u := by
  obtain ⟨hb, hs, ho⟩ := H
  cases ho with
  | @cons _ h _ hs1 ha hsub hb' hd r =>
    rcases ha.2 with ⟨h1, h2, h3⟩ | ⟨g, o, cur, fr, hA, hg, h1, h2, h3, h4, h5⟩
    · exact .inl ⟨h1, h2, h3, List.eq_nil_of_length_eq_zero (by rw [ha.1, h2]; simp)⟩
    · exact .inr ⟨g, o, cur, fr, hA, ⟨hb, _, .cons hg hsub hb' hd r⟩, h1, h2, h3, h4, h5⟩
theorem St.row_length {w0 w : World} {e : TypeId} {size : Nat} {A : Option Addr} {n c : Nat} {xs : List Value} {L : List Assn} (H : St w0 w (Row e size A n c xs :: L)) : xs.length = n * size := by
  obtain ⟨hb, hs, ho⟩ := H
  cases ho with
  | cons ha hs hb' hd r => exact ha.1
theorem St.toRow {w0 w : World} {e : TypeId} {size : Nat} {n c : Nat} {xs : List Value} {g o : Nat} {cur : Array Value} {fr : Nat × Nat} {L : List Assn} (H : St w0 w (Ptf g cur e fr :: L))
    (hl : xs.length = n * size) (h1 : fr.2 ≤ fr.1 ∨ cur.size ≤ fr.1) (h2 : n ≤ c) (h3 : c ≤ maxLen) (h4 : o + c * size ≤ cur.size) (h5 : ∀ j u, xs[j]? = some u → cur[o + j]? = some u) : St w0 w (Row e size (some ⟨g, o, none⟩) n c xs :: L) :=
  H.imp fun _ hg => ⟨hl, .inr ⟨g, o, cur, fr, rfl, hg, h1, h2, h3, h4, h5⟩⟩
theorem St.row_le {w0 w : World} {e : TypeId} {size : Nat} {A : Option Addr} {n c : Nat} {xs : List Value} {L : List Assn} (H : St w0 w (Row e size A n c xs :: L)) : n ≤ maxLen := by
  rcases H.row_cases with ⟨_, h, _⟩ | ⟨g, o, cur, fr, _, _, _, h1, h2, _⟩
  · rw [h]; exact Nat.zero_le _
  · omega
/-- a row that has elements lies somewhere -/
theorem St.row_form {w0 w : World} {e : TypeId} {size : Nat} {A : Option Addr} {n c : Nat} {xs : List Value} {L : List Assn} (H : St w0 w (Row e size A n c xs :: L)) (hn : 0 < n) : ∃ g o, A = some ⟨g, o, none⟩ := by
  rcases H.row_cases with ⟨_, h, _⟩ | ⟨g, o, cur, fr, h, _⟩
  · omega
  · exact ⟨g, o, h⟩
/-- an element of a row -/
theorem St.row_cell {w0 w : World} {e : TypeId} {size : Nat} {g o : Nat} {n c : Nat} {xs : List Value} {L : List Assn} (H : St w0 w (Row e size (some ⟨g, o, none⟩) n c xs :: L)) (j : Nat) {u : Value} (h : xs[j]? = some u) : w.cell? ⟨g, o + j, none⟩ = some u := by
  rcases H.row_cases with ⟨h0, _⟩ | ⟨g', o', cur, fr, hA, H1, _, _, _, _, h5⟩
  · cases h0
  · injection hA with hA
    injection hA with hg ho
    subst hg ho
    have := H1.blockf
    simp only [World.cell?, this]
    simpa using h5 j u h
theorem St.row_frozen {w0 w : World} {e : TypeId} {size : Nat} {g o : Nat} {n c : Nat} {xs : List Value} {L : List Assn} (H : St w0 w (Row e size (some ⟨g, o, none⟩) n c xs :: L)) (j : Nat) (hj : j < c * size) : w.frozen? ⟨g, o + j, none⟩ = false := by
  rcases H.row_cases with ⟨h0, _⟩ | ⟨g', o', cur, fr, hA, H1, h1, h2, h3, h4, h5⟩
  · cases h0
  · injection hA with hA
    injection hA with hg ho
    subst hg ho
    have := H1.blockf
    simp only [World.frozen?, this]
    simp only [Bool.and_eq_false_iff, decide_eq_false_iff_not]
    omega
theorem St.row_lt {w0 w : World} {e : TypeId} {size : Nat} {g o : Nat} {n c : Nat} {xs : List Value} {L : List Assn} (H : St w0 w (Row e size (some ⟨g, o, none⟩) n c xs :: L)) : g < w.heap.size := by
  rcases H.row_cases with ⟨h0, _⟩ | ⟨g', o', cur, fr, hA, H1, _⟩
  · cases h0
  · injection hA with hA
    injection hA with hg ho
    subst hg
    exact (Array.getElem?_eq_some_iff.1 H1.blockf).1
theorem St.row_ge {w0 w : World} {e : TypeId} {size : Nat} {g o : Nat} {n c : Nat} {xs : List Value} {L : List Assn} (H : St w0 w (Row e size (some ⟨g, o, none⟩) n c xs :: L)) : w0.heap.size ≤ g := by
  rcases H.row_cases with ⟨h0, _⟩ | ⟨g', o', cur, fr, hA, H1, _⟩
  · cases h0
  · injection hA with hA
    injection hA with hg ho
    subst hg
    exact H1.gef
theorem Ptf_ne {w0 w : World} {b b' : Nat} {cs cs' : Array Value} {t t' : TypeId} {fr fr' : Nat × Nat} {L : List Assn} (H : St w0 w (Ptf b cs t fr :: Ptf b' cs' t' fr' :: L)) : b ≠ b' := by
  rintro rfl
  obtain ⟨hb, hs, ho⟩ := H
  cases ho with
  | @cons _ h1 _ _ ha hs hb' hd r =>
    cases r with
    | @cons _ h2 _ _ ha2 hs2 hb2 hd2 r =>
      rcases hd h2 (List.mem_cons_self ..) b with h | h
      · rw [show h1 b = _ from ha] at h; cases h
      · rw [show h2 b = _ from ha2] at h; cases h
theorem St.row_ne {w0 w : World} {b : Nat} {cs : Array Value} {t e : TypeId} {size : Nat} {g o : Nat} {n c : Nat} {xs : List Value} {L : List Assn} (H : St w0 w (Pt b cs t :: Row e size (some ⟨g, o, none⟩) n c xs :: L)) : b ≠ g := by
  rcases H.r2.row_cases with ⟨h0, _⟩ | ⟨g', o', cur, fr, hA, H1, _⟩
  · cases h0
  · injection hA with hA
    injection hA with hg ho
    subst hg
    exact (Ptf_ne (fr' := (0, 0)) H1).symm

/-! ### many cells at once -/
def setAll (cur : Array Value) : Nat → List Value → Array Value
  | _, [] => cur
  | o, v :: r => setAll (cur.setIfInBounds o v) (o + 1) r
theorem setAll_size : ∀ (vs : List Value) (o : Nat) (cur : Array Value), (setAll cur o vs).size = cur.size
  | [], _, _ => rfl
  | v :: r, o, cur => by rw [setAll, setAll_size r]; simp
theorem setAll_out : ∀ (vs : List Value) (o : Nat) (cur : Array Value) (j : Nat), j < o ∨ o + vs.length ≤ j → (setAll cur o vs)[j]? = cur[j]?
  | [], _, _, _, _ => rfl
  | v :: r, o, cur, j, h => by
    rw [setAll, setAll_out r (o + 1) _ j (by simp at h; omega), Array.getElem?_setIfInBounds, if_neg]
    simp at h; omega
theorem setAll_in : ∀ (vs : List Value) (o : Nat) (cur : Array Value) (j : Nat) (u : Value), o + vs.length ≤ cur.size → vs[j]? = some u → (setAll cur o vs)[o + j]? = some u
  | [], _, _, j, u, _, h => by simp at h
  | v :: r, o, cur, 0, u, hl, h => by
    simp at h; subst h
    rw [setAll, setAll_out r (o + 1) _ (o + 0) (by omega), Array.getElem?_setIfInBounds]
    simp at hl ⊢; omega
  | v :: r, o, cur, j + 1, u, hl, h => by
    rw [setAll, show o + (j + 1) = o + 1 + j by omega]
    exact setAll_in r (o + 1) _ j u (by simp at hl ⊢; omega) (by simpa using h)
theorem setCells_block (g : Nat) (e : TypeId) (fr : Nat × Nat) : ∀ (vs : List Value) (o : Nat) (w : World) (cur : Array Value), w.heap[g]? = some (.cells cur e fr) → (w.setCells g o vs).heap[g]? = some (.cells (setAll cur o vs) e fr)
  | [], _, _, _, h => h
  | v :: r, o, w, cur, h => by
    rw [World.setCells, setAll]
    refine setCells_block g e fr r (o + 1) _ _ ?_
    simp [World.setCell, Array.getElem?_modify, h]
theorem setCells_rest (g : Nat) : ∀ (vs : List Value) (o : Nat) (w : World), (w.setCells g o vs).os = w.os ∧ (w.setCells g o vs).tape = w.tape ∧ (w.setCells g o vs).output = w.output ∧ (w.setCells g o vs).heap.size = w.heap.size ∧ ∀ k, k ≠ g → (w.setCells g o vs).heap[k]? = w.heap[k]?
  | [], _, _ => ⟨rfl, rfl, rfl, rfl, fun _ _ => rfl⟩
  | v :: r, o, w => by
    rw [World.setCells]
    obtain ⟨h1, h2, h3, h4, h5⟩ := setCells_rest g r (o + 1) (w.setCell ⟨g, o, none⟩ v)
    exact ⟨h1, h2, h3, h4.trans (by simp), fun k hk => (h5 k hk).trans (Below.heap_setCell _ _ _ _ hk)⟩
theorem St.setCells {w0 w : World} {g : Nat} {cur : Array Value} {e : TypeId} {fr : Nat × Nat} {L : List Assn} (H : St w0 w (Ptf g cur e fr :: L)) (o : Nat) (vs : List Value) : St w0 (w.setCells g o vs) (Ptf g (setAll cur o vs) e fr :: L) := by
  obtain ⟨h1, h2, h3, h4, h5⟩ := setCells_rest g vs o w
  exact H.putf ⟨h1, h2, h3, by omega, fun i hi => h5 i (by omega)⟩ (by omega) (fun i _ hne => h5 i hne) (setCells_block g e fr vs o w cur H.blockf)
theorem St.setCell_row {w0 w : World} {e : TypeId} {g o : Nat} {n c : Nat} {xs : List Value} {L : List Assn} {size : Nat} (H : St w0 w (Row e size (some ⟨g, o, none⟩) n c xs :: L)) (j : Nat) (hj : j < xs.length) (u : Value) :
    St w0 (w.setCell ⟨g, o + j, none⟩ u) (Row e size (some ⟨g, o, none⟩) n c (xs.set j u) :: L) := by
  have hl := H.row_length
  rcases H.row_cases with ⟨h0, _⟩ | ⟨g', o', cur, fr, hA, H1, h1, h2, h3, h4, h5⟩
  · cases h0
  · injection hA with hA
    injection hA with hg ho
    subst hg ho
    have hc : cur[o + j]? = some xs[j] := h5 j _ (List.getElem?_eq_getElem hj)
    have hlt : o + j < cur.size := (Array.getElem?_eq_some_iff.1 hc).1
    refine (H1.setCells (o + j) [u]).toRow (by simpa using hl) (by rw [setAll_size]; exact h1) h2 h3 (by rw [setAll_size]; exact h4) fun q v hv => ?_
    simp only [setAll]
    rw [Array.getElem?_setIfInBounds]
    rw [List.getElem?_set] at hv
    by_cases e : j = q
    · subst e
      simp only [if_true, hj] at hv
      simp only [if_true, hlt]
      exact hv
    · rw [if_neg (by omega)]
      rw [if_neg e] at hv
      exact h5 q v hv
/-- room: the row grows in its place -/
theorem St.grow_room {w0 w : World} {e : TypeId} {size : Nat} {g o : Nat} {n m c : Nat} {xs news : List Value} {L : List Assn} (H : St w0 w (Row e size (some ⟨g, o, none⟩) n c xs :: L)) (hl : news.length = m * size) (hr : n + m ≤ c) :
    St w0 (w.setCells g (o + n * size) news) (Row e size (some ⟨g, o, none⟩) (n + m) c (xs ++ news) :: L) := by
  have hxl := H.row_length
  rcases H.row_cases with ⟨h0, _⟩ | ⟨g', o', cur, fr, hA, H1, h1, h2, h3, h4, h5⟩
  · cases h0
  · injection hA with hA
    injection hA with hg ho
    subst hg ho
    have hfit : (n + m) * size ≤ c * size := Nat.mul_le_mul_right _ hr
    rw [Nat.add_mul] at hfit
    refine (H1.setCells (o + n * size) news).toRow (by rw [List.length_append, hxl, hl, Nat.add_mul]) (by rw [setAll_size]; exact h1) hr h3 (by rw [setAll_size]; exact h4) fun q v hv => ?_
    rw [List.getElem?_append] at hv
    split at hv
    · rw [setAll_out _ _ _ _ (by omega)]
      exact h5 q v hv
    · rename_i hq
      have := setAll_in news (o + n * size) cur (q - xs.length) v (by omega) hv
      rwa [show o + n * size + (q - xs.length) = o + q by omega] at this
/-- no room: a new block -/
theorem St.grow_new {w0 w : World} {e : TypeId} {size : Nat} {n c : Nat} {xs zs : List Value} {L : List Assn} (H : St w0 w L) (hl : xs.length = n * size) (hnc : n ≤ c) (hc : c ≤ maxLen) (hz : zs.length = (c - n) * size) :
    St w0 (w.alloc (.cells (xs ++ zs).toArray e)) (Row e size (some ⟨w.heap.size, 0, none⟩) n c xs :: L) := by
  have hm : n * size + (c - n) * size = c * size := by rw [← Nat.add_mul]; congr 1; omega
  refine St.toRow (fr := (0, 0)) (H.alloc _ _) hl (.inl (Nat.le_refl _)) hnc hc (by simp; omega) fun q v hv => ?_
  simp only [Nat.zero_add, List.getElem?_toArray]
  rw [List.getElem?_append_left (List.getElem?_eq_some_iff.1 hv).1]
  exact hv

/-! ### joined assertions -/
/-- one and the other, apart -/
def star (A B : Assn) : Assn := fun h => ∃ h1 h2, PH.disj h1 h2 ∧ (∀ i o, h1 i = some o → h i = some o) ∧ (∀ i o, h2 i = some o → h i = some o) ∧ A h1 ∧ B h2
def exA {α : Type} (f : α → Assn) : Assn := fun h => ∃ x, f x h
def prop (p : Prop) : Assn := fun _ => p
theorem St.unstar {w0 w : World} {A B : Assn} {L : List Assn} (H : St w0 w (star A B :: L)) : St w0 w (A :: B :: L) := by
  obtain ⟨hb, hs, ho⟩ := H
  cases ho with
  | @cons _ h _ hs1 ha hsub hb' hd r =>
    obtain ⟨h1, h2, d, s1, s2, a1, a2⟩ := ha
    refine ⟨hb, h1 :: h2 :: hs1, .cons a1 (fun i o hi => hsub i o (s1 i o hi)) (fun i o hi => hb' i o (s1 i o hi)) ?_ (.cons a2 (fun i o hi => hsub i o (s2 i o hi)) (fun i o hi => hb' i o (s2 i o hi)) ?_ r)⟩
    · intro k hk
      rcases List.mem_cons.1 hk with rfl | hk
      · exact d
      · intro i
        cases e : h1 i with
        | none => exact .inl rfl
        | some o =>
          rcases hd k hk i with h' | h'
          · rw [s1 i o e] at h'; cases h'
          · exact .inr h'
    · intro k hk i
      cases e : h2 i with
      | none => exact .inl rfl
      | some o =>
        rcases hd k hk i with h' | h'
        · rw [s2 i o e] at h'; cases h'
        · exact .inr h'
theorem St.star {w0 w : World} {A B : Assn} {L : List Assn} (H : St w0 w (A :: B :: L)) : St w0 w (Ytkkpcjpdpjpohaa.star A B :: L) := by
  obtain ⟨hb, hs, ho⟩ := H
  cases ho with
  | @cons _ h1 _ _ a1 hs1 hb1 hd1 r =>
    cases r with
    | @cons _ h2 _ hs3 a2 hs2 hb2 hd2 r =>
      have d12 := hd1 h2 (List.mem_cons_self ..)
      refine ⟨hb, (fun i => (h1 i).or (h2 i)) :: hs3, .cons ⟨h1, h2, d12, ?_, ?_, a1, a2⟩ ?_ ?_ ?_ r⟩
      · intro i o hi; simp [hi]
      · intro i o hi
        rcases d12 i with h | h
        · simp [h, hi]
        · rw [hi] at h; cases h
      · intro i o hi
        cases e : h1 i with
        | none => simp [e] at hi; exact hs2 i o hi
        | some o' => simp [e] at hi; subst hi; exact hs1 i o' e
      · intro i o hi
        cases e : h1 i with
        | none => simp [e] at hi; exact hb2 i o hi
        | some o' => simp [e] at hi; subst hi; exact hb1 i o' e
      · intro k hk i
        rcases hd1 k (List.mem_cons_of_mem _ hk) i with h | h
        · rcases hd2 k hk i with h' | h'
          · exact .inl (by simp [h, h'])
          · exact .inr h'
        · exact .inr h
theorem St.unex {w0 w : World} {α : Type} {f : α → Assn} {L : List Assn} (H : St w0 w (exA f :: L)) : ∃ x, St w0 w (f x :: L) := by
  obtain ⟨hb, hs, ho⟩ := H
  cases ho with
  | @cons _ h _ hs1 ha hsub hb' hd r => obtain ⟨x, hx⟩ := ha; exact ⟨x, hb, _, .cons hx hsub hb' hd r⟩
theorem St.ex {w0 w : World} {α : Type} {f : α → Assn} {L : List Assn} (x : α) (H : St w0 w (f x :: L)) : St w0 w (exA f :: L) := H.imp fun _ h => ⟨x, h⟩
/-- an assertion and a fact -/
def andA (A : Assn) (p : Prop) : Assn := fun h => A h ∧ p
theorem St.unand {w0 w : World} {A : Assn} {p : Prop} {L : List Assn} (H : St w0 w (andA A p :: L)) : St w0 w (A :: L) ∧ p := by
  refine ⟨H.imp fun _ h => h.1, ?_⟩
  obtain ⟨hb, hs, ho⟩ := H
  cases ho with
  | @cons _ h _ hs1 ha hsub hb' hd r => exact ha.2
theorem St.and {w0 w : World} {A : Assn} {p : Prop} {L : List Assn} (H : St w0 w (A :: L)) (h : p) : St w0 w (andA A p :: L) := H.imp fun _ ha => ⟨ha, h⟩
theorem St.prop {w0 w : World} {p : Prop} {L : List Assn} (H : St w0 w L) (h : p) : St w0 w (Ytkkpcjpdpjpohaa.prop p :: L) := H.add h
theorem St.unprop {w0 w : World} {p : Prop} {L : List Assn} (H : St w0 w (Ytkkpcjpdpjpohaa.prop p :: L)) : p := by
  obtain ⟨hb, hs, ho⟩ := H
  cases ho with
  | @cons _ h _ hs1 ha hsub hb' hd r => exact ha

section
variable {P : Program}
theorem zeroCells_list (z : Array Value) (n : Nat) : ∃ l : List Value, Builtin.zeroCells z n = l.toArray ∧ l.length = n * z.size :=
  ⟨(Builtin.zeroCells z n).toList, by simp, by rw [Array.length_toList, size_zeroCells]⟩
theorem grownCap_le' (w : World) (need old : Nat) (e : TypeId) (h : need ≤ maxLen) : grownCap w need old e ≤ maxLen := grownCap_le_maxLen w need old e h
/-- append, onto what is owned -/
theorem run_append_st {w0 w : World} {F : List Assn} (t ty : TypeId) (e : TypeId) (i : TypeInfo) (z : Value) (size bytes : Nat) (ht : P.underlying t = some (.slice e)) (hi : P.info? e = some i) (hz : i.zero = some z)
    (hsize : i.size = size) (hby : i.bytes = bytes) (hzs : z.cells.size = size) (hsz : 0 < size)
    (A : Option Addr) (n c : Nat) (xs : List Value) (H : St w0 w (Row e size A n c xs :: F))
    (ad : Addr) (m d : Nat) (news : List Value) (hl : news.length = m * size) (hnews : ∀ j u, news[j]? = some u → w.cell? (ad.add j) = some u) (h1 : ∀ u ∈ news, u.oneCell' = true)
    (h63 : n + m ≤ maxLen) (hbytes : (n + m) * bytes ≤ 140737488355328) :
    ∃ A' c' w', (Builtin.append_ #[t, t] ty #[.slice A n c, .slice (some ad) m d]).run P w = .ok (.slice A' (n + m) c') w' ∧ St w0 w' (Row e size A' (n + m) c' (xs ++ news) :: F) := by
  subst hsize hby
  have hxl := H.row_length
  have hsmall : n + m ≤ 9223372036854775807 := by simp only [maxLen] at h63; omega
  rcases H.row_cases with ⟨rfl, rfl, rfl, rfl⟩ | ⟨g, o, cur, fr, rfl, H1, hf, hnc, hcm, hfit, hxs⟩
  · by_cases hm : m = 0
    · subst hm
      obtain rfl : news = [] := List.eq_nil_of_length_eq_zero (by simpa using hl)
      refine ⟨none, 0, w, ?_, H⟩
      simp [Builtin.append_, run_underlying ht, sizeOf, typeInfo, hi, Builtin.lenOf, Builtin.firstCells, loadCells, loadCellsFrom]
    · have hr := run_append_nil (P := P) w t ty e i z ht hi hz ad m d news hl hnews (by omega) (by omega) (by have hb := hbytes; simp only [Nat.zero_add] at hb; omega)
      obtain ⟨l, hzl, hll⟩ := zeroCells_list z.cells (grownCap w m 0 e - m)
      have hge := grownCap_ge w m 0 e
      rw [hzl] at hr
      refine ⟨_, _, _, by rw [Nat.zero_add]; exact hr, ?_⟩
      have := St.grow_new (size := i.size) (e := e) (H.tail.drew) hl hge (grownCap_le' w m 0 e (by omega)) (zs := l) (by rw [hll, hzs])
      simpa using this
  · by_cases hroom : n + m ≤ c
    · have hmul : (n + m) * i.size ≤ c * i.size := Nat.mul_le_mul_right _ hroom
      rw [Nat.add_mul] at hmul
      have hcell : ∀ j, j < news.length → (w.cell? ⟨g, o + n * i.size + j, none⟩).isSome = true := by
        intro j hj
        have hlt : o + n * i.size + j < cur.size := by omega
        simp [World.cell?, H1.blockf, hlt]
      have hfro : ∀ j, j < news.length → w.frozen? ⟨g, o + n * i.size + j, none⟩ = false := by
        intro j hj
        simp only [World.frozen?, H1.blockf, Bool.and_eq_false_iff, decide_eq_false_iff_not]
        omega
      have hr := run_append_room_cells (P := P) w t ty e i ht hi g o n c ad m d news hl hnews h1 hroom hcell hfro
      exact ⟨_, _, _, hr, H.grow_room hl hroom⟩
    · have holds : ∀ j u, xs[j]? = some u → w.cell? ((⟨g, o, none⟩ : Addr).add j) = some u := fun j u hu => by
        have := H.row_cell j hu
        rwa [show (⟨g, o, none⟩ : Addr).add j = ⟨g, o + j, none⟩ by unfold Addr.add; split <;> simp_all]
      have hr := run_append_grow (P := P) w t ty e i z ht hi hz ⟨g, o, none⟩ n c xs hxl holds ad m d news hl hnews (by omega) (by omega) (growslice_fits (by omega) hbytes)
      obtain ⟨l, hzl, hll⟩ := zeroCells_list z.cells (grownCap w (n + m) c e - (n + m))
      rw [hzl] at hr
      refine ⟨_, _, _, hr, ?_⟩
      have := St.grow_new (size := i.size) (e := e) (n := n + m) (xs := xs ++ news) (H.tail.drew) (by rw [List.length_append, hxl, hl, Nat.add_mul]) (grownCap_ge w (n + m) c e) (grownCap_le' w (n + m) c e h63) (zs := l) (by rw [hll, hzs])
      simpa using this
/-- append of a string's bytes -/
theorem run_append_str {w0 w : World} {F : List Assn} (t u ty : TypeId) (e : TypeId) (i : TypeInfo) (ht : P.underlying t = some (.slice e)) (hu : P.underlying u = some .string) (hi : P.info? e = some i) (hz : i.zero = some (.int .u8 0))
    (hsize : i.size = 1) (hby : i.bytes = 1)
    (A : Option Addr) (n c : Nat) (xs : List Value) (H : St w0 w (Row e 1 A n c xs :: F)) (s : ByteArray)
    (h63 : n + s.size ≤ maxLen) (hbytes : n + s.size ≤ 140737488355328) :
    ∃ A' c' w', (Builtin.append_ #[t, u] ty #[.slice A n c, .string s]).run P w = .ok (.slice A' (n + s.size) c') w' ∧ St w0 w' (Row e 1 A' (n + s.size) c' (xs ++ Lib.strCells s) :: F) := by
  have hxl := H.row_length
  have hsl : (Lib.strCells s).length = s.size * 1 := by rw [Lib.strCells_length, Nat.mul_one]
  have hsmall : n + s.size ≤ 9223372036854775807 := by simp only [maxLen] at h63; omega
  rcases H.row_cases with ⟨rfl, rfl, rfl, rfl⟩ | ⟨g, o, cur, fr, rfl, H1, hf, hnc, hcm, hfit, hxs⟩
  · by_cases hm : s.size = 0
    · have hs0 : Lib.strCells s = [] := List.eq_nil_of_length_eq_zero (by rw [hsl, hm])
      refine ⟨none, 0, w, ?_, by rw [hs0, hm]; exact H⟩
      have hfc := Lib.run_firstCells_string (P := P) w i.size s
      rw [hm] at hfc
      simp [Builtin.append_, run_underlying ht, run_underlying hu, sizeOf, typeInfo, hi, Builtin.lenOf, hm, hfc]
    · have hr := run_append_nil_string (P := P) w t u ty e i _ ht hu hi hz s (by omega) (by omega) (by rw [hby]; omega)
      obtain ⟨l, hzl, hll⟩ := zeroCells_list (Value.int .u8 0).cells (grownCap w s.size 0 e - s.size)
      have hge := grownCap_ge w s.size 0 e
      rw [hzl] at hr
      refine ⟨_, _, _, by rw [Nat.zero_add]; exact hr, ?_⟩
      have := St.grow_new (size := 1) (e := e) (H.tail.drew) hsl hge (grownCap_le' w s.size 0 e (by omega)) (zs := l) (by rw [hll]; rfl)
      have e2 : (Lib.strCells s ++ l).toArray = s.data.map (fun b => Value.int .u8 b.toNat) ++ l.toArray := by
        apply Array.ext'
        simp [Lib.strCells]
      rw [e2] at this
      simpa using this
  · by_cases hroom : n + s.size ≤ c
    · have hst := run_storeCells_cells (P := P) g (o + n * 1) (Lib.strCells s) 0 w (by
          intro j hj
          have hlt : o + n + j < cur.size := by rw [Lib.strCells_length] at hj; omega
          simp [World.cell?, H1.blockf, hlt]) (by
          intro j hj
          rw [Lib.strCells_length] at hj
          simp only [World.frozen?, H1.blockf, Bool.and_eq_false_iff, decide_eq_false_iff_not]
          omega) (Lib.strCells_oneCell s)
      refine ⟨_, _, _, ?_, H.grow_room hsl hroom⟩
      have hfc := Lib.run_firstCells_string (P := P) w 1 s
      simp only [Nat.add_zero] at hst
      simp only [Nat.mul_one] at hst ⊢
      simp [Builtin.append_, run_underlying ht, run_underlying hu, sizeOf, typeInfo, hi, hsize, Builtin.lenOf, hroom, hfc, Addr.add_lit, hst]
    · have holds : ∀ j u, xs[j]? = some u → w.cell? ((⟨g, o, none⟩ : Addr).add j) = some u := fun j u hu => by
        have := H.row_cell j hu
        rwa [show (⟨g, o, none⟩ : Addr).add j = ⟨g, o + j, none⟩ by unfold Addr.add; split <;> simp_all]
      have hr := Lib.run_append_grow_string (P := P) w t u ty e i _ ht hu hi hz ⟨g, o, none⟩ n c xs (by rw [hsize]; exact hxl) holds s (by omega) (by omega) (growslice_fits (by omega) (by rw [hby]; omega))
      obtain ⟨l, hzl, hll⟩ := zeroCells_list (Value.int .u8 0).cells (grownCap w (n + s.size) c e - (n + s.size))
      rw [hzl] at hr
      refine ⟨_, _, _, hr, ?_⟩
      have := St.grow_new (size := 1) (e := e) (n := n + s.size) (xs := xs ++ Lib.strCells s) (H.tail.drew) (by rw [List.length_append, hxl, hsl, Nat.add_mul]) (grownCap_ge w (n + s.size) c e) (grownCap_le' w (n + s.size) c e h63) (zs := l) (by rw [hll]; rfl)
      simpa using this
theorem wp_append_st {o : Oper} {a : Act} {K : Act → World → Prop} {Q : Exit → Act → World → Prop} (s x : Operand) (t : TypeId)
    (ho : o.op = .call { callee := .builtin .append, args := #[s, x], argTypes := #[t, t] }) {w0 w : World} {F : List Assn}
    (e : TypeId) (i : TypeInfo) (z : Value) (size bytes : Nat) (ht : P.underlying t = some (.slice e)) (hi : P.info? e = some i) (hz : i.zero = some z)
    (hsize : i.size = size) (hby : i.bytes = bytes) (hzs : z.cells.size = size) (hsz : 0 < size)
    (A : Option Addr) (n c : Nat) (xs : List Value) (H : St w0 w (Row e size A n c xs :: F)) (hs : a.eval s = .slice A n c)
    (ad : Addr) (m d : Nat) (news : List Value) (hx : a.eval x = .slice (some ad) m d) (hl : news.length = m * size) (hnews : ∀ j u, news[j]? = some u → w.cell? (ad.add j) = some u) (h1 : ∀ u ∈ news, u.oneCell' = true)
    (h63 : n + m ≤ maxLen) (hbytes : (n + m) * bytes ≤ 140737488355328)
    (h : ∀ A' c' w', St w0 w' (Row e size A' (n + m) c' (xs ++ news) :: F) → K (a.put o.dst (.slice A' (n + m) c')) w') : o.wp P a w K Q := by
  obtain ⟨A', c', w', hr, h2⟩ := run_append_st (P := P) t o.type e i z size bytes ht hi hz hsize hby hzs hsz A n c xs H ad m d news hl hnews h1 h63 hbytes
  unfold Oper.wp execOp
  simp only [ho, resolve, invoke, builtin, Sem.run_bind, Sem.run_pure, Result.andThen_ok, List.map_toArray, List.map_cons, List.map_nil, hs, hx, hr]
  exact h A' c' w' h2
theorem wpList_append_st {ops : Array Oper} {rest : List Oper} {o : Oper} {a : Act} {Q : Exit → Act → World → Prop} (hgd : o.guard = none) (s x : Operand) (t : TypeId)
    (ho : o.op = .call { callee := .builtin .append, args := #[s, x], argTypes := #[t, t] }) {w0 w : World} {F : List Assn}
    (e : TypeId) (i : TypeInfo) (z : Value) (size bytes : Nat) (ht : P.underlying t = some (.slice e)) (hi : P.info? e = some i) (hz : i.zero = some z)
    (hsize : i.size = size) (hby : i.bytes = bytes) (hzs : z.cells.size = size) (hsz : 0 < size)
    (A : Option Addr) (n c : Nat) (xs : List Value) (H : St w0 w (Row e size A n c xs :: F)) (hs : a.eval s = .slice A n c)
    (ad : Addr) (m d : Nat) (news : List Value) (hx : a.eval x = .slice (some ad) m d) (hl : news.length = m * size) (hnews : ∀ j u, news[j]? = some u → w.cell? (ad.add j) = some u) (h1 : ∀ u ∈ news, u.oneCell' = true)
    (h63 : n + m ≤ maxLen) (hbytes : (n + m) * bytes ≤ 140737488355328)
    (h : ∀ A' c' w', St w0 w' (Row e size A' (n + m) c' (xs ++ news) :: F) → wpList P ops Q rest (a.put o.dst (.slice A' (n + m) c')) w') : wpList P ops Q (o :: rest) a w :=
  wpList_plain hgd fun _ hK => wp_append_st s x t ho e i z size bytes ht hi hz hsize hby hzs hsz A n c xs H hs ad m d news hx hl hnews h1 h63 hbytes fun A' c' w' h2 => hK _ _ (h A' c' w' h2)
theorem step_append_st {ops : Array Oper} {o : Oper} {a : Act} {K : Act → World → Prop} {Q : Exit → Act → World → Prop} {E : Prop} (hgd : o.guard = none) (s x : Operand) (t : TypeId)
    (ho : o.op = .call { callee := .builtin .append, args := #[s, x], argTypes := #[t, t] }) {w0 w : World} {F : List Assn}
    (e : TypeId) (i : TypeInfo) (z : Value) (size bytes : Nat) (ht : P.underlying t = some (.slice e)) (hi : P.info? e = some i) (hz : i.zero = some z)
    (hsize : i.size = size) (hby : i.bytes = bytes) (hzs : z.cells.size = size) (hsz : 0 < size)
    (A : Option Addr) (n c : Nat) (xs : List Value) (H : St w0 w (Row e size A n c xs :: F)) (hs : a.eval s = .slice A n c)
    (ad : Addr) (m d : Nat) (news : List Value) (hx : a.eval x = .slice (some ad) m d) (hl : news.length = m * size) (hnews : ∀ j u, news[j]? = some u → w.cell? (ad.add j) = some u) (h1 : ∀ u ∈ news, u.oneCell' = true)
    (h63 : n + m ≤ maxLen) (hbytes : (n + m) * bytes ≤ 140737488355328)
    (h : ∀ A' c' w', St w0 w' (Row e size A' (n + m) c' (xs ++ news) :: F) → K (a.put o.dst (.slice A' (n + m) c')) w') :
    if Region.wanted o (yielded ops a.tmps) = true then Oper.wp P o a w K Q else E := by
  have hw : Region.wanted o (yielded ops a.tmps) = true := by simp [Region.wanted, hgd]
  rw [if_pos hw]
  exact wp_append_st s x t ho e i z size bytes ht hi hz hsize hby hzs hsz A n c xs H hs ad m d news hx hl hnews h1 h63 hbytes h
theorem wp_append_str {o : Oper} {a : Act} {K : Act → World → Prop} {Q : Exit → Act → World → Prop} (s x : Operand) (t u : TypeId)
    (ho : o.op = .call { callee := .builtin .append, args := #[s, x], argTypes := #[t, u] }) {w0 w : World} {F : List Assn}
    (e : TypeId) (i : TypeInfo) (ht : P.underlying t = some (.slice e)) (hu : P.underlying u = some .string) (hi : P.info? e = some i) (hz : i.zero = some (.int .u8 0)) (hsize : i.size = 1) (hby : i.bytes = 1)
    (A : Option Addr) (n c : Nat) (xs : List Value) (H : St w0 w (Row e 1 A n c xs :: F)) (hs : a.eval s = .slice A n c) (b : ByteArray) (hx : a.eval x = .string b)
    (h63 : n + b.size ≤ maxLen) (hbytes : n + b.size ≤ 140737488355328)
    (h : ∀ A' c' w', St w0 w' (Row e 1 A' (n + b.size) c' (xs ++ Lib.strCells b) :: F) → K (a.put o.dst (.slice A' (n + b.size) c')) w') : o.wp P a w K Q := by
  obtain ⟨A', c', w', hr, h2⟩ := run_append_str (P := P) t u o.type e i ht hu hi hz hsize hby A n c xs H b h63 hbytes
  unfold Oper.wp execOp
  simp only [ho, resolve, invoke, builtin, Sem.run_bind, Sem.run_pure, Result.andThen_ok, List.map_toArray, List.map_cons, List.map_nil, hs, hx, hr]
  exact h A' c' w' h2
theorem wpList_append_str {ops : Array Oper} {rest : List Oper} {o : Oper} {a : Act} {Q : Exit → Act → World → Prop} (hgd : o.guard = none) (s x : Operand) (t u : TypeId)
    (ho : o.op = .call { callee := .builtin .append, args := #[s, x], argTypes := #[t, u] }) {w0 w : World} {F : List Assn}
    (e : TypeId) (i : TypeInfo) (ht : P.underlying t = some (.slice e)) (hu : P.underlying u = some .string) (hi : P.info? e = some i) (hz : i.zero = some (.int .u8 0)) (hsize : i.size = 1) (hby : i.bytes = 1)
    (A : Option Addr) (n c : Nat) (xs : List Value) (H : St w0 w (Row e 1 A n c xs :: F)) (hs : a.eval s = .slice A n c) (b : ByteArray) (hx : a.eval x = .string b)
    (h63 : n + b.size ≤ maxLen) (hbytes : n + b.size ≤ 140737488355328)
    (h : ∀ A' c' w', St w0 w' (Row e 1 A' (n + b.size) c' (xs ++ Lib.strCells b) :: F) → wpList P ops Q rest (a.put o.dst (.slice A' (n + b.size) c')) w') : wpList P ops Q (o :: rest) a w :=
  wpList_plain hgd fun _ hK => wp_append_str s x t u ho e i ht hu hi hz hsize hby A n c xs H hs b hx h63 hbytes fun A' c' w' h2 => hK _ _ (h A' c' w' h2)
theorem step_append_str {ops : Array Oper} {o : Oper} {a : Act} {K : Act → World → Prop} {Q : Exit → Act → World → Prop} {E : Prop} (hgd : o.guard = none) (s x : Operand) (t u : TypeId)
    (ho : o.op = .call { callee := .builtin .append, args := #[s, x], argTypes := #[t, u] }) {w0 w : World} {F : List Assn}
    (e : TypeId) (i : TypeInfo) (ht : P.underlying t = some (.slice e)) (hu : P.underlying u = some .string) (hi : P.info? e = some i) (hz : i.zero = some (.int .u8 0)) (hsize : i.size = 1) (hby : i.bytes = 1)
    (A : Option Addr) (n c : Nat) (xs : List Value) (H : St w0 w (Row e 1 A n c xs :: F)) (hs : a.eval s = .slice A n c) (b : ByteArray) (hx : a.eval x = .string b)
    (h63 : n + b.size ≤ maxLen) (hbytes : n + b.size ≤ 140737488355328)
    (h : ∀ A' c' w', St w0 w' (Row e 1 A' (n + b.size) c' (xs ++ Lib.strCells b) :: F) → K (a.put o.dst (.slice A' (n + b.size) c')) w') :
    if Region.wanted o (yielded ops a.tmps) = true then Oper.wp P o a w K Q else E := by
  have hw : Region.wanted o (yielded ops a.tmps) = true := by simp [Region.wanted, hgd]
  rw [if_pos hw]
  exact wp_append_str s x t u ho e i ht hu hi hz hsize hby A n c xs H hs b hx h63 hbytes h
/-- '[]byte(s)': a new row -/
theorem St.bytes {w0 w : World} {L : List Assn} (H : St w0 w L) (e : TypeId) (s : ByteArray) (hs : s.size ≤ maxLen) : St w0 (Lib.bytesWorld w e s) (Row e 1 (some ⟨w.heap.size, 0, none⟩) s.size (grownCap w s.size 0 e) (Lib.strCells s) :: L) := by
  have H1 := (H.drew).alloc (Lib.bytesCells w e s) e
  have hge := grownCap_ge w s.size 0 e
  have hsz : (Lib.bytesCells w e s).size = grownCap w s.size 0 e := by
    simp only [Lib.bytesCells, Array.size_append, Array.size_map, Array.size_replicate]
    have : s.data.size = s.size := rfl
    omega
  have H2 : St w0 (Lib.bytesWorld w e s) (Ptf w.heap.size (Lib.bytesCells w e s) e ((Lib.bytesCells w e s).size, (Lib.bytesCells w e s).size + 1) :: L) := by
    have hsize := Lib.bytesWorld_size w e s
    refine St.putf (fr := (0, 0)) H1 ⟨?_, ?_, ?_, ?_, fun i hi => ?_⟩ ?_ (fun i hi hne => ?_) (Lib.bytesWorld_at_new w e s)
    · simp [Lib.bytesWorld, World.freeze]
    · simp [Lib.bytesWorld, World.freeze]
    · simp [Lib.bytesWorld, World.freeze]
    · rw [hsize]; simp
    · rw [Lib.bytesWorld_at_old w e s i hi]
      rw [Below.heap_alloc _ _ _ (by simpa using hi)]; rfl
    · rw [hsize]; simp
    · have hi' : i < w.heap.size := by simp at hi hne; omega
      rw [Lib.bytesWorld_at_old w e s i hi', Below.heap_alloc _ _ _ (by simpa using hi')]; rfl
  refine H2.toRow (by rw [Lib.strCells_length, Nat.mul_one]) (.inr (Nat.le_refl _)) hge (grownCap_le' w _ _ e hs) (by omega) fun j u hu => ?_
  simp only [Nat.zero_add, Lib.bytesCells]
  have hj : j < s.data.size := by
    have := (List.getElem?_eq_some_iff.1 hu).1
    rw [Lib.strCells_length] at this; exact this
  rw [Array.getElem?_append_left (by simpa using hj)]
  rw [Lib.strCells] at hu
  simpa using hu
end
end Go.Proofs.Ytkkpcjpdpjpohaa

/- Whole structs out of and into a block of one's own. -/
import Derived.Test.YtkkpcjpdpjpohaaSL
import Derived.Deep.MidRow
namespace Go.Proofs.Ytkkpcjpdpjpohaa
open Go.RowKit

theorem setAll_whole (cs : Array Value) (vs : List Value) (h : vs.length = cs.size) : setAll cs 0 vs = vs.toArray := by
  apply Array.ext_getElem?
  intro j
  by_cases h1 : j < vs.length
  · have := setAll_in vs 0 cs j vs[j] (by omega) (List.getElem?_eq_getElem h1)
    rw [Nat.zero_add] at this
    rw [this]; simp [h1]
  · rw [setAll_out vs 0 cs j (by omega), Array.getElem?_eq_none (by omega)]; simp; omega
theorem St.range {w0 w : World} {b : Nat} {cs : Array Value} {T : TypeId} {L : List Assn} (H : St w0 w (Pt b cs T :: L)) : w.rangeAt b 0 cs.toList := fun j v hv => by
  rw [Nat.zero_add]; exact H.cell j (by simpa using hv)
/-- a load of a whole struct -/
theorem wpList_load_st {P : Program} {ops : Array Oper} {rest : List Oper} {dst : Option Tmp} {ty : TypeId} {x : Operand} {typ : TypeId} {pos : String} {af : Array Edge} {g : Option (Nat × Bool)} {a : Act} {w0 w : World} {Q : Exit → Act → World → Prop}
    {b : Nat} {cs : Array Value} {T : TypeId} {L : List Assn} (H : St w0 w (Pt b cs T :: L)) (hw : Region.wanted ⟨dst, .load ty x, typ, pos, af, g⟩ (yielded ops a.tmps) = true) (hx : a.eval x = .pointer (some ⟨b, 0, none⟩)) {d : TypeDesc}
    (hu : P.underlying ty = some d) (hd : (match d with | .struct _ | .array _ _ => true | _ => false) = true) (hi : (P.info? ty).map (·.size) = some cs.size)
    (h : wpList P ops Q rest (a.put dst (.agg cs)) w) : wpList P ops Q (⟨dst, .load ty x, typ, pos, af, g⟩ :: rest) a w :=
  wpList_step fun K hK => by rw [if_pos hw]; exact wp_load_row ty x rfl b hx T cs (0, 0) d H.block hu hd hi (hK _ _ h)
/-- a store of a whole struct -/
theorem wpList_store_st {P : Program} {ops : Array Oper} {rest : List Oper} {dst : Option Tmp} {ty : TypeId} {x y : Operand} {typ : TypeId} {pos : String} {af : Array Edge} {g : Option (Nat × Bool)} {a : Act} {w0 w : World} {Q : Exit → Act → World → Prop}
    {b : Nat} {cs : Array Value} {T : TypeId} {L : List Assn} (H : St w0 w (Pt b cs T :: L)) (vs : Array Value) (hw : Region.wanted ⟨dst, .store ty x y, typ, pos, af, g⟩ (yielded ops a.tmps) = true) (hx : a.eval x = .pointer (some ⟨b, 0, none⟩)) (hy : a.eval y = .agg vs) (hs : vs.size = cs.size)
    (hi : (P.info? ty).map (·.size) = some vs.size) (h1 : vs.toList.all (·.oneCell') = true)
    (h : ∀ w', St w0 w' (Pt b vs T :: L) → wpList P ops Q rest (a.put dst undef) w') : wpList P ops Q (⟨dst, .store ty x y, typ, pos, af, g⟩ :: rest) a w :=
  wpList_step fun K hK => by
    rw [if_pos hw]
    have hc : ∀ j, j < cs.size → (w.cell? ⟨b, j, none⟩).isSome = true := fun j hj => by rw [H.cell j (Array.getElem?_eq_getElem hj)]; rfl
    refine wp_store_mid ty x y rfl b 0 vs hx hy (fun j hj => ⟨by rw [Nat.zero_add]; exact hc j (by omega), H.frozen _⟩) hi (by rw [← Array.all_toList]; exact h1) (hK _ _ (h _ ?_))
    have := H.setCells 0 vs.toList
    rw [setAll_whole cs vs.toList (by simpa using hs), Array.toArray_toList] at this
    exact this
/-- a store of a whole struct, in a region that draws -/
theorem step_store_st {P : Program} {ops : Array Oper} {o : Oper} {a : Act} {K : Act → World → Prop} {Q : Exit → Act → World → Prop} {E : Prop} (ty : TypeId) (x y : Operand) (ho : o.op = .store ty x y) (hg : o.guard = none) {w0 w : World}
    {b : Nat} {cs : Array Value} {T : TypeId} {L : List Assn} (H : St w0 w (Pt b cs T :: L)) (vs : Array Value) (hx : a.eval x = .pointer (some ⟨b, 0, none⟩)) (hy : a.eval y = .agg vs) (hs : vs.size = cs.size)
    (hi : (P.info? ty).map (·.size) = some vs.size) (h1 : vs.toList.all (·.oneCell') = true)
    (h : ∀ w', St w0 w' (Pt b vs T :: L) → K (a.put o.dst undef) w') :
    if Region.wanted o (yielded ops a.tmps) = true then Oper.wp P o a w K Q else E := by
  have hw : Region.wanted o (yielded ops a.tmps) = true := by simp [Region.wanted, hg]
  rw [if_pos hw]
  have hc : ∀ j, j < cs.size → (w.cell? ⟨b, j, none⟩).isSome = true := fun j hj => by rw [H.cell j (Array.getElem?_eq_getElem hj)]; rfl
  refine wp_store_mid ty x y ho b 0 vs hx hy (fun j hj => ⟨by rw [Nat.zero_add]; exact hc j (by omega), H.frozen _⟩) hi (by rw [← Array.all_toList]; exact h1) (h _ ?_)
  have := H.setCells 0 vs.toList
  rw [setAll_whole cs vs.toList (by simpa using hs), Array.toArray_toList] at this
  exact this
/-- stop here -/
def Hold (p : Prop) : Prop := p
theorem Hold.of {p : Prop} (h : Hold p) : p := h
theorem hold_store {P : Program} {ops : Array Oper} {rest : List Oper} {dst : Option Tmp} {ty : TypeId} {x y : Operand} {typ : TypeId} {pos : String} {af : Array Edge} {g : Option (Nat × Bool)} {a : Act} {w : World} {Q : Exit → Act → World → Prop}
    (h : Hold (wpList P ops Q (⟨dst, .store ty x y, typ, pos, af, g⟩ :: rest) a w)) : wpList P ops Q (⟨dst, .store ty x y, typ, pos, af, g⟩ :: rest) a w := h
theorem hold_load {P : Program} {ops : Array Oper} {rest : List Oper} {dst : Option Tmp} {ty : TypeId} {x : Operand} {typ : TypeId} {pos : String} {af : Array Edge} {g : Option (Nat × Bool)} {a : Act} {w : World} {Q : Exit → Act → World → Prop}
    (h : Hold (wpList P ops Q (⟨dst, .load ty x, typ, pos, af, g⟩ :: rest) a w)) : wpList P ops Q (⟨dst, .load ty x, typ, pos, af, g⟩ :: rest) a w := h
end Go.Proofs.Ytkkpcjpdpjpohaa


/- A whole struct into an element of a row of one's own. -/
import Derived.Test.YtkkpcjpdpjpohaaSLW
namespace Go.Proofs.Ytkkpcjpdpjpohaa
open Go.RowKit

def putAt (xs : List Value) (i : Nat) (vs : List Value) : List Value := xs.take i ++ (vs ++ xs.drop (i + vs.length))
theorem putAt_length (xs : List Value) (i : Nat) (vs : List Value) (h : i + vs.length ≤ xs.length) : (putAt xs i vs).length = xs.length := by
  unfold putAt
  simp only [List.length_append, List.length_take, List.length_drop]; omega
theorem putAt_get (xs : List Value) (i : Nat) (vs : List Value) (h : i + vs.length ≤ xs.length) (q : Nat) : (putAt xs i vs)[q]? = if i ≤ q ∧ q < i + vs.length then vs[q - i]? else xs[q]? := by
  unfold putAt
  have hl : (xs.take i).length = i := by rw [List.length_take]; omega
  by_cases h1 : q < i
  · rw [List.getElem?_append_left (by omega), if_neg (by omega), List.getElem?_take, if_pos h1]
  rw [List.getElem?_append_right (by omega), hl]
  by_cases h2 : q < i + vs.length
  · rw [List.getElem?_append_left (by omega), if_pos (by omega)]
  · rw [List.getElem?_append_right (by omega), if_neg (by omega), List.getElem?_drop]
    congr 1; omega
theorem St.setRow {w0 w : World} {e : TypeId} {g o : Nat} {n c : Nat} {xs : List Value} {L : List Assn} {size : Nat} (H : St w0 w (Row e size (some ⟨g, o, none⟩) n c xs :: L)) (i : Nat) (vs : List Value) (hi : i + vs.length ≤ xs.length) :
    St w0 (w.setCells g (o + i) vs) (Row e size (some ⟨g, o, none⟩) n c (putAt xs i vs) :: L) := by
  have hl := H.row_length
  rcases H.row_cases with ⟨h0, _⟩ | ⟨g', o', cur, fr, hA, H1, h1, h2, h3, h4, h5⟩
  · cases h0
  · injection hA with hA
    injection hA with hg ho
    subst hg ho
    refine (H1.setCells (o + i) vs).toRow (by rw [putAt_length _ _ _ hi]; exact hl) (by rw [setAll_size]; exact h1) h2 h3 (by rw [setAll_size]; exact h4) fun q v hv => ?_
    rw [putAt_get _ _ _ hi] at hv
    split at hv
    · rename_i hq
      have hc : o + i + vs.length ≤ cur.size := by
        by_cases hz : vs.length = 0
        · omega
        have := (List.getElem?_eq_some_iff.1 hv).1
        have h6 := h5 (i + vs.length - 1) _ (List.getElem?_eq_getElem (by omega))
        have := (Array.getElem?_eq_some_iff.1 h6).1
        omega
      have := setAll_in vs (o + i) cur (q - i) v (by omega) hv
      rwa [show o + i + (q - i) = o + q by omega] at this
    · rename_i hq
      rw [setAll_out vs (o + i) cur (o + q) (by omega)]
      exact h5 q v hv
theorem row_there {w0 w : World} {e : TypeId} {g o : Nat} {n c : Nat} {xs : List Value} {L : List Assn} {size : Nat} (H : St w0 w (Row e size (some ⟨g, o, none⟩) n c xs :: L)) (i m : Nat) (hi : i + m ≤ xs.length) (hc : n ≤ c) : w.there g (o + i) m := fun j hj => by
  have hl := H.row_length
  have hlc : n * size ≤ c * size := Nat.mul_le_mul_right _ hc
  refine ⟨?_, ?_⟩
  · rw [Nat.add_assoc, H.row_cell (i + j) (List.getElem?_eq_getElem (by omega))]; rfl
  · rw [Nat.add_assoc]; exact H.row_frozen (i + j) (by omega)
/-- a store of a whole struct into a row, in a region that draws -/
theorem step_store_row {P : Program} {ops : Array Oper} {op : Oper} {a : Act} {K : Act → World → Prop} {Q : Exit → Act → World → Prop} {E : Prop} (ty : TypeId) (x y : Operand) (ho : op.op = .store ty x y) (hg : op.guard = none) {w0 w : World}
    {e : TypeId} {g o : Nat} {n c : Nat} {xs : List Value} {L : List Assn} {size : Nat} (H : St w0 w (Row e size (some ⟨g, o, none⟩) n c xs :: L)) (i : Nat) (vs : Array Value) (hc : n ≤ c) (hi : i + vs.size ≤ xs.length) (hx : a.eval x = .pointer (some ⟨g, o + i, none⟩)) (hy : a.eval y = .agg vs)
    (hinf : (P.info? ty).map (·.size) = some vs.size) (h1 : vs.toList.all (·.oneCell') = true)
    (h : ∀ w', St w0 w' (Row e size (some ⟨g, o, none⟩) n c (putAt xs i vs.toList) :: L) → K (a.put op.dst undef) w') :
    if Region.wanted op (yielded ops a.tmps) = true then Oper.wp P op a w K Q else E := by
  have hw : Region.wanted op (yielded ops a.tmps) = true := by simp [Region.wanted, hg]
  rw [if_pos hw]
  exact wp_store_mid ty x y ho g (o + i) vs hx hy (row_there H i vs.size hi hc) hinf (by rw [← Array.all_toList]; exact h1) (h _ (H.setRow i vs.toList (by simpa using hi)))
end Go.Proofs.Ytkkpcjpdpjpohaa

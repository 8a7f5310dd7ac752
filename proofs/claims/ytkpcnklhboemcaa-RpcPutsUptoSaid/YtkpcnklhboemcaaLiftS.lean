/- A struct of plain fields whose last field is a slice: what a row speaks of, as cells. -/
import Derived.Test.YtkpcnklhboemcaaLiftC
namespace Go.Proofs.Ytkpcnklhboemcaa
open Go.RowKit Go.ChangeShapes Go.WideShapes Go.ChangeAt

theorem ones_flatten {α : Type} (l : List α) : (l.map fun x => [x]).flatten = l := by
  induction l with
  | nil => rfl
  | cons x l ih => rw [List.map_cons, List.flatten_cons, ih]; rfl
theorem trod_struct_slice {H : Type} {enc : TypeId × Value → H} {P : Program} {w : World} {spare : Nat → Bool} {held : Bool} {t e : TypeId} {fs : Array Field} {m fuel : Nat} {ks ks' : List SK} {cs : List Value} {x : DataW H × List MemPlace}
    (ht : P.underlying t = some (.struct fs)) (hn : fs.size = ks.length + 1) (hct : P.cellsOf t = ks.length + 1)
    (hi : ∀ (i : Nat) (k : SK), ks[i]? = some k → ∃ f : Field, fs[i]? = some f ∧ f.offset = i ∧ P.cellsOf f.type = 1 ∧ kindsS P 1 f.type = some [k])
    (hl : ∃ f : Field, fs[ks.length]? = some f ∧ f.offset = ks.length ∧ P.cellsOf f.type = 1 ∧ P.underlying f.type = some (.slice e))
    (hk : kindsS P m e = some ks') (hc : P.cellsOf e = ks'.length) (hpos : 0 < ks'.length) (hx : DataW.trod enc P w 0 spare held fuel t cs = some x) :
    RowS ks (cs.take ks.length) ∧ ∃ A n c rows, cs.drop ks.length = [.slice A n c] ∧ n ≤ maxLen ∧ SlRd w A n ks'.length rows ∧ (∀ row ∈ rows, RowS ks' row) ∧ wts (cs.take ks.length) + (sumW rows + 1) ≤ Rows.uptoBulk x.1 := by
  obtain ⟨xs, n, rfl, rfl, hlen, hxl, hf⟩ := DataW.trod_struct ht hx
  rw [hct] at hlen
  rw [hn] at hxl
  obtain ⟨y, hy⟩ : ∃ y, xs[ks.length]? = some y := ⟨_, List.getElem?_eq_getElem (by omega)⟩
  obtain ⟨f, hf1, hf2, hf3, hf4⟩ := hl
  have h1 := hf _ f hf1
  rw [hf2, hf3, List.take_of_length_le (by rw [List.length_drop]; omega), hy] at h1
  obtain ⟨A, q, c, rows, g1, g2, g3, g4, g5⟩ := trod_slice_flat hf4 hk hc hpos h1
  have hp := pieces (ks.map fun k => [k]) ((xs.take ks.length).map (·.1)) (cs.take ks.length) (by rw [ones_flatten, List.length_take]; omega) (by simp; omega) (fun i k d hki hdi => by
    rw [List.getElem?_map] at hki
    obtain ⟨k0, hk0, rfl⟩ := Option.map_eq_some_iff.1 hki
    have hik := (List.getElem?_eq_some_iff.1 hk0).1
    rw [List.getElem?_map, List.getElem?_take, if_pos hik] at hdi
    obtain ⟨z, hz, rfl⟩ := Option.map_eq_some_iff.1 hdi
    obtain ⟨f, e1, e2, e3, e4⟩ := hi i k0 hk0
    have h2 := hf i f e1
    rw [e2, e3, hz] at h2
    obtain ⟨h3, h4⟩ := trod_flat 1 _ _ e4 _ _ _ h2
    have ht : ((ks.map fun k => [k]).take i).flatten = ks.take i := by rw [← List.map_take, ones_flatten]
    rw [ht, List.length_take, Nat.min_eq_left (Nat.le_of_lt hik), List.drop_take, List.take_take]
    simp only [List.length_cons, List.length_nil]
    rw [Nat.min_eq_left (by omega)]
    exact ⟨h3, h4⟩)
  rw [ones_flatten] at hp
  refine ⟨hp.1, A, q, c, rows, g1, g2, g3, g4, ?_⟩
  have hsum : Rows.uptoBulkAll (xs.map (·.1)) = Rows.uptoBulkAll ((xs.take ks.length).map (·.1)) + Rows.uptoBulkAll ((xs.drop ks.length).map (·.1)) := by
    rw [← bulkAll_append, ← List.map_append, List.take_append_drop]
  have hd : xs.drop ks.length = [y] := by
    apply List.ext_getElem?
    intro j
    rw [List.getElem?_drop]
    cases j with
    | zero => exact hy
    | succ j => rw [List.getElem?_eq_none (by omega)]; rfl
  rw [hd] at hsum
  simp only [List.map_cons, List.map_nil, Rows.uptoBulkAll] at hsum
  simp only [Rows.uptoBulk]
  have := hp.2
  omega
end Go.Proofs.Ytkpcnklhboemcaa

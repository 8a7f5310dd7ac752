/- copy between two rows of one's own. -/
import Derived.Test.YtmlknjgcfplnlaaSLA
import Derived.Laws.CopyRow
import Derived.Laws.IdiomCopy
namespace Go.Proofs.Ytmlknjgcfplnlaa
open Go.RowKit
variable {P : Program} {w : World}

/-- a row's first cells are written -/
theorem St.row_put {w0 w : World} {e : TypeId} {g o n c : Nat} {xs ys : List Value} {L : List Assn} (H : St w0 w (Row e 1 (some ⟨g, o, none⟩) n c xs :: L)) (hl : ys.length = n) : St w0 (w.setCells g o ys) (Row e 1 (some ⟨g, o, none⟩) n c ys :: L) := by
  rcases H.row_cases with ⟨h0, _⟩ | ⟨g', o', cur, fr, hA, H1, h1, h2, h3, h4, h5⟩
  · cases h0
  · injection hA with hA
    injection hA with hg ho
    subst hg ho
    refine (H1.setCells o ys).toRow (by rw [hl, Nat.mul_one]) (by rw [setAll_size]; exact h1) h2 h3 (by rw [setAll_size]; exact h4) fun j u hu => ?_
    exact setAll_in ys o cur j u (by omega) hu
theorem run_copy_rows {w0 w : World} {F : List Assn} (t ty e : TypeId) (ht : P.underlying t = some (.slice e)) (hi : (P.info? e).map (·.size) = some 1)
    (A B : Option Addr) (n c d : Nat) (xs ys : List Value) (H : St w0 w (Row e 1 A n c xs :: Row e 1 B n d ys :: F)) (h1 : ∀ u ∈ ys, u.oneCell' = true) :
    ∃ w', (Builtin.copy_ #[t, t] ty #[.slice A n c, .slice B n d]).run P w = .ok (goInt n) w' ∧ St w0 w' (Row e 1 A n c ys :: Row e 1 B n d ys :: F) := by
  have hxl := H.row_length
  have hyl := H.r2.row_length
  rw [Nat.mul_one] at hxl hyl
  by_cases hn : n = 0
  · subst hn
    obtain rfl := List.eq_nil_of_length_eq_zero hxl
    obtain rfl := List.eq_nil_of_length_eq_zero hyl
    exact ⟨w, run_copy_none w t t ty e A B 0 c 0 d ht hi (by simp), H⟩
  · obtain ⟨g, o, rfl⟩ := H.row_form (by omega)
    obtain ⟨g2, o2, rfl⟩ := H.r2.row_form (by omega)
    have hl := run_loadCells_list (P := P) w ⟨g2, o2, none⟩ ys (fun j v hv => by rw [show (⟨g2, o2, none⟩ : Addr).add j = ⟨g2, o2 + j, none⟩ by unfold Addr.add; split <;> simp_all]; exact H.r2.row_cell j hv)
    have hst := run_storeCells_cells (P := P) g o ys 0 w (by
        intro j hj
        obtain ⟨u, hu⟩ : ∃ u, xs[j]? = some u := ⟨_, List.getElem?_eq_getElem (by omega)⟩
        have := H.row_cell j hu
        simp only [Nat.add_zero] at this ⊢
        rw [this]; rfl) (by
        intro j hj
        have hc : n ≤ c := by
          rcases H.row_cases with ⟨h, _⟩ | ⟨_, _, _, _, _, _, _, h, _⟩
          · cases h
          · exact h
        have := H.row_frozen j (by omega)
        simpa using this) h1
    refine ⟨_, ?_, H.row_put hyl⟩
    cases hq : P.info? e with
    | none => simp [hq] at hi
    | some i =>
      have hsz : i.size = 1 := by simpa [hq] using hi
      rw [hyl] at hl
      simp only [Nat.add_zero] at hst
      simp [Builtin.copy_, run_underlying ht, Builtin.lenOf, Builtin.firstCells, sizeOf, typeInfo, hq, hsz, hl, hst]
theorem step_copy_rows {ops : Array Oper} {o : Oper} {a : Act} {K : Act → World → Prop} {Q : Exit → Act → World → Prop} {E : Prop} (hgd : o.guard = none) (x y : Operand) (t : TypeId)
    (ho : o.op = .call { callee := .builtin .copy, args := #[x, y], argTypes := #[t, t] }) {w0 w : World} {F : List Assn} (e : TypeId) (ht : P.underlying t = some (.slice e)) (hi : (P.info? e).map (·.size) = some 1)
    (A B : Option Addr) (n c d : Nat) (xs ys : List Value) (H : St w0 w (Row e 1 A n c xs :: Row e 1 B n d ys :: F)) (h1 : ∀ u ∈ ys, u.oneCell' = true) (hx : a.eval x = .slice A n c) (hy : a.eval y = .slice B n d)
    (h : ∀ w', St w0 w' (Row e 1 A n c ys :: Row e 1 B n d ys :: F) → K (a.put o.dst (goInt n)) w') :
    if Region.wanted o (yielded ops a.tmps) = true then Oper.wp P o a w K Q else E := by
  have hw : Region.wanted o (yielded ops a.tmps) = true := by simp [Region.wanted, hgd]
  rw [if_pos hw]
  obtain ⟨w', hr, h2⟩ := run_copy_rows (P := P) t o.type e ht hi A B n c d xs ys H h1
  unfold Oper.wp execOp
  simp only [ho, resolve, invoke, builtin, Sem.run_bind, Sem.run_pure, Result.andThen_ok, List.map_toArray, List.map_cons, List.map_nil, hx, hy, hr]
  exact h w' h2
end Go.Proofs.Ytmlknjgcfplnlaa

/- append of whatever slice, a nil one too. -/
import Derived.Test.YtkkpcjpdpjpohaaSL
namespace Go.Proofs.Ytkkpcjpdpjpohaa
open Go.RowKit
variable {P : Program} {w : World}

/-- what may stand behind a slice that is appended -/
def Src (w : World) (As : Option Addr) (m : Nat) (news : List Value) : Prop := (∃ ad, As = some ad ∧ ∀ j u, news[j]? = some u → w.cell? (ad.add j) = some u) ∨ (As = none ∧ m = 0)
theorem run_append_any {w0 w : World} {F : List Assn} (t ty : TypeId) (e : TypeId) (i : TypeInfo) (z : Value) (size bytes : Nat) (ht : P.underlying t = some (.slice e)) (hi : P.info? e = some i) (hz : i.zero = some z)
    (hsize : i.size = size) (hby : i.bytes = bytes) (hzs : z.cells.size = size) (hsz : 0 < size)
    (A : Option Addr) (n c : Nat) (xs : List Value) (H : St w0 w (Row e size A n c xs :: F))
    (As : Option Addr) (m d : Nat) (news : List Value) (hl : news.length = m * size) (hnews : Src w As m news) (h1 : ∀ u ∈ news, u.oneCell' = true)
    (h63 : n + m ≤ maxLen) (hbytes : (n + m) * bytes ≤ 140737488355328) :
    ∃ A' c' w', (Builtin.append_ #[t, t] ty #[.slice A n c, .slice As m d]).run P w = .ok (.slice A' (n + m) c') w' ∧ St w0 w' (Row e size A' (n + m) c' (xs ++ news) :: F) := by
  rcases hnews with ⟨ad, rfl, hnews⟩ | ⟨rfl, rfl⟩
  · exact run_append_st t ty e i z size bytes ht hi hz hsize hby hzs hsz A n c xs H ad m d news hl hnews h1 h63 hbytes
  · obtain rfl : news = [] := List.eq_nil_of_length_eq_zero (by simpa using hl)
    refine ⟨A, c, w, ?_, by simpa using H⟩
    rcases H.row_cases with ⟨rfl, rfl, rfl, rfl⟩ | ⟨g, o, cur, fr, rfl, H1, hf, hnc, hcm, hfit, hxs⟩
    · simp [Builtin.append_, run_underlying ht, sizeOf, typeInfo, hi, Builtin.lenOf, Builtin.firstCells]
    · simp [Builtin.append_, run_underlying ht, sizeOf, typeInfo, hi, Builtin.lenOf, Builtin.firstCells, hnc, storeCells]
theorem wp_append_any {o : Oper} {a : Act} {K : Act → World → Prop} {Q : Exit → Act → World → Prop} (s x : Operand) (t : TypeId)
    (ho : o.op = .call { callee := .builtin .append, args := #[s, x], argTypes := #[t, t] }) {w0 w : World} {F : List Assn}
    (e : TypeId) (i : TypeInfo) (z : Value) (size bytes : Nat) (ht : P.underlying t = some (.slice e)) (hi : P.info? e = some i) (hz : i.zero = some z)
    (hsize : i.size = size) (hby : i.bytes = bytes) (hzs : z.cells.size = size) (hsz : 0 < size)
    (A : Option Addr) (n c : Nat) (xs : List Value) (H : St w0 w (Row e size A n c xs :: F)) (hs : a.eval s = .slice A n c)
    (As : Option Addr) (m d : Nat) (news : List Value) (hx : a.eval x = .slice As m d) (hl : news.length = m * size) (hnews : Src w As m news) (h1 : ∀ u ∈ news, u.oneCell' = true)
    (h63 : n + m ≤ maxLen) (hbytes : (n + m) * bytes ≤ 140737488355328)
    (h : ∀ A' c' w', St w0 w' (Row e size A' (n + m) c' (xs ++ news) :: F) → K (a.put o.dst (.slice A' (n + m) c')) w') : o.wp P a w K Q := by
  obtain ⟨A', c', w', hr, h2⟩ := run_append_any (P := P) t o.type e i z size bytes ht hi hz hsize hby hzs hsz A n c xs H As m d news hl hnews h1 h63 hbytes
  unfold Oper.wp execOp
  simp only [ho, resolve, invoke, builtin, Sem.run_bind, Sem.run_pure, Result.andThen_ok, List.map_toArray, List.map_cons, List.map_nil, hs, hx, hr]
  exact h A' c' w' h2
theorem wpList_append_any {ops : Array Oper} {rest : List Oper} {o : Oper} {a : Act} {Q : Exit → Act → World → Prop} (hgd : o.guard = none) (s x : Operand) (t : TypeId)
    (ho : o.op = .call { callee := .builtin .append, args := #[s, x], argTypes := #[t, t] }) {w0 w : World} {F : List Assn}
    (e : TypeId) (i : TypeInfo) (z : Value) (size bytes : Nat) (ht : P.underlying t = some (.slice e)) (hi : P.info? e = some i) (hz : i.zero = some z)
    (hsize : i.size = size) (hby : i.bytes = bytes) (hzs : z.cells.size = size) (hsz : 0 < size)
    (A : Option Addr) (n c : Nat) (xs : List Value) (H : St w0 w (Row e size A n c xs :: F)) (hs : a.eval s = .slice A n c)
    (As : Option Addr) (m d : Nat) (news : List Value) (hx : a.eval x = .slice As m d) (hl : news.length = m * size) (hnews : Src w As m news) (h1 : ∀ u ∈ news, u.oneCell' = true)
    (h63 : n + m ≤ maxLen) (hbytes : (n + m) * bytes ≤ 140737488355328)
    (h : ∀ A' c' w', St w0 w' (Row e size A' (n + m) c' (xs ++ news) :: F) → wpList P ops Q rest (a.put o.dst (.slice A' (n + m) c')) w') : wpList P ops Q (o :: rest) a w :=
  wpList_plain hgd fun _ hK => wp_append_any s x t ho e i z size bytes ht hi hz hsize hby hzs hsz A n c xs H hs As m d news hx hl hnews h1 h63 hbytes fun A' c' w' h2 => hK _ _ (h A' c' w' h2)
theorem step_append_any {ops : Array Oper} {o : Oper} {a : Act} {K : Act → World → Prop} {Q : Exit → Act → World → Prop} {E : Prop} (hgd : o.guard = none) (s x : Operand) (t : TypeId)
    (ho : o.op = .call { callee := .builtin .append, args := #[s, x], argTypes := #[t, t] }) {w0 w : World} {F : List Assn}
    (e : TypeId) (i : TypeInfo) (z : Value) (size bytes : Nat) (ht : P.underlying t = some (.slice e)) (hi : P.info? e = some i) (hz : i.zero = some z)
    (hsize : i.size = size) (hby : i.bytes = bytes) (hzs : z.cells.size = size) (hsz : 0 < size)
    (A : Option Addr) (n c : Nat) (xs : List Value) (H : St w0 w (Row e size A n c xs :: F)) (hs : a.eval s = .slice A n c)
    (As : Option Addr) (m d : Nat) (news : List Value) (hx : a.eval x = .slice As m d) (hl : news.length = m * size) (hnews : Src w As m news) (h1 : ∀ u ∈ news, u.oneCell' = true)
    (h63 : n + m ≤ maxLen) (hbytes : (n + m) * bytes ≤ 140737488355328)
    (h : ∀ A' c' w', St w0 w' (Row e size A' (n + m) c' (xs ++ news) :: F) → K (a.put o.dst (.slice A' (n + m) c')) w') :
    if Region.wanted o (yielded ops a.tmps) = true then Oper.wp P o a w K Q else E := by
  have hw : Region.wanted o (yielded ops a.tmps) = true := by simp [Region.wanted, hgd]
  rw [if_pos hw]
  exact wp_append_any s x t ho e i z size bytes ht hi hz hsize hby hzs hsz A n c xs H hs As m d news hx hl hnews h1 h63 hbytes h
theorem Src.of {w : World} {A : Option Addr} {n : Nat} {news : List Value} (hl : news.length = n) (h : ∀ j u, news[j]? = some u → ∃ b o, A = some ⟨b, o, none⟩ ∧ w.cell? ⟨b, o + j, none⟩ = some u) : Src w A n news := by
  cases A with
  | none =>
    refine .inr ⟨rfl, ?_⟩
    cases news with
    | nil => exact hl.symm
    | cons x r => obtain ⟨b, o, h1, _⟩ := h 0 x rfl; cases h1
  | some ad =>
    refine .inl ⟨ad, rfl, fun j u hu => ?_⟩
    obtain ⟨b, o, h1, h2⟩ := h j u hu
    injection h1 with h1; subst h1
    rwa [show (⟨b, o, none⟩ : Addr).add j = ⟨b, o + j, none⟩ by unfold Addr.add; split <;> simp_all]
/-- a new slice of nothing -/
theorem St.emptyRow {w0 w : World} {e : TypeId} {size b : Nat} {L : List Assn} (H : St w0 w (Pt b #[] e :: L)) : St w0 w (Row e size (some ⟨b, 0, none⟩) 0 0 [] :: L) :=
  St.toRow (fr := (0, 0)) H (by simp) (.inl (Nat.le_refl _)) (Nat.le_refl _) (by decide) (by simp) (fun j u h => by simp at h)
end Go.Proofs.Ytkkpcjpdpjpohaa


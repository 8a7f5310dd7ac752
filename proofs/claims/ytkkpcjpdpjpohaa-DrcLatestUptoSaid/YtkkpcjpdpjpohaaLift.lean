/- From the data that a row speaks of to the values and cells that a walk meets; and back. -/
import Derived.Test.YtkkpcjpdpjpohaaRows
import Derived.Test.YtkkpcjpdpjpohaaSL
import Derived.ProofKit
import Derived.OpenShut
import Derived.JoinedCond
import Derived.Carry
import Derived.Deep.Slices
namespace Go.Proofs.Ytkkpcjpdpjpohaa
open Go.RowKit Go.ChangeShapes Go.WideShapes Go.ChangeAt

/-! ### kinds of cells -/
inductive SK where
  | int (k : IntKind)
  | bool
  | str
def SK.good : SK → Value → Prop
  | .int k, v => ∃ n, v = .int k n ∧ (Lit.int k n).wf = true
  | .bool, v => ∃ b, v = .bool b
  | .str, v => ∃ s : ByteArray, v = .string s ∧ s.size ≤ maxLen
def wt : Value → Nat
  | .string s => s.size + 1
  | _ => 1
def wts : List Value → Nat
  | [] => 0
  | v :: r => wt v + wts r
theorem wts_append (a b : List Value) : wts (a ++ b) = wts a + wts b := by
  induction a with
  | nil => simp [wts]
  | cons x a ih => simp only [List.cons_append, wts, ih]; omega
def RowS : List SK → List Value → Prop
  | [], [] => True
  | k :: ks, v :: vs => k.good v ∧ RowS ks vs
  | _, _ => False
theorem RowS_length : ∀ {ks : List SK} {vs : List Value}, RowS ks vs → vs.length = ks.length
  | [], [], _ => rfl
  | _ :: _, _ :: _, h => by simp [RowS_length h.2]
  | [], _ :: _, h => h.elim
  | _ :: _, [], h => h.elim
theorem RowS_append : ∀ {ks ks' : List SK} {vs vs' : List Value}, RowS ks vs → RowS ks' vs' → RowS (ks ++ ks') (vs ++ vs')
  | [], _, [], _, _, h' => h'
  | _ :: _, _, _ :: _, _, h, h' => ⟨h.1, RowS_append h.2 h'⟩
  | [], _, _ :: _, _, h, _ => h.elim
  | _ :: _, _, [], _, h, _ => h.elim
/-- the kinds of a type's cells -/
def kindsS (P : Program) : Nat → TypeId → Option (List SK)
  | 0, _ => none
  | m + 1, t =>
    match P.underlying t with
    | some .bool => some [.bool]
    | some (.int k) => some [.int k]
    | some .string => some [.str]
    | some (.struct fs) => (fs.toList.mapM fun f => (kindsS P m f.type).bind fun ks => if P.cellsOf f.type = ks.length then some ks else none).bind fun kss =>
        if P.cellsOf t = kss.flatten.length ∧ (fs.toList.map (·.offset)) = (List.range kss.length).map (fun i => ((kss.take i).flatten).length) then some kss.flatten else none
    | some (.array n e) => (kindsS P m e).bind fun ks => if P.cellsOf e = ks.length ∧ P.cellsOf t = n * ks.length then some (List.replicate n ks).flatten else none
    | _ => none

theorem bulkAll_append {H : Type} (l r : List (DataW H)) : Rows.uptoBulkAll (l ++ r) = Rows.uptoBulkAll l + Rows.uptoBulkAll r := by
  induction l with
  | nil => simp [Rows.uptoBulkAll]
  | cons x l ih => simp only [List.cons_append, Rows.uptoBulkAll, ih]; omega
theorem mapM_some {α β : Type} {f : α → Option β} : ∀ {l : List α} {r : List β}, l.mapM f = some r → r.length = l.length ∧ ∀ (i : Nat) (a : α), l[i]? = some a → ∃ b, f a = some b ∧ r[i]? = some b
  | [], r, h => by simp at h; subst h; exact ⟨rfl, fun i a h => by simp at h⟩
  | a :: l, r, h => by
    rw [List.mapM_cons] at h
    cases hf : f a with
    | none => simp [hf] at h
    | some b =>
      cases hm : l.mapM f with
      | none => simp [hf, hm] at h
      | some bs =>
        simp [hf, hm] at h
        subst h
        obtain ⟨h1, h2⟩ := mapM_some hm
        refine ⟨by simp [h1], fun i x hx => ?_⟩
        cases i with
        | zero => simp at hx; subst hx; exact ⟨b, hf, rfl⟩
        | succ i => simpa using h2 i x (by simpa using hx)
/-- pieces of a row, one behind the other -/
theorem pieces {H : Type} (kss : List (List SK)) (xs : List (DataW H)) (cs : List Value) (hl : cs.length = kss.flatten.length) (hx : xs.length = kss.length)
    (h : ∀ i ks d, kss[i]? = some ks → xs[i]? = some d → RowS ks ((cs.drop ((kss.take i).flatten).length).take ks.length) ∧ wts ((cs.drop ((kss.take i).flatten).length).take ks.length) ≤ Rows.uptoBulk d) :
    RowS kss.flatten cs ∧ wts cs ≤ Rows.uptoBulkAll xs := by
  induction kss generalizing xs cs with
  | nil =>
    have : cs = [] := List.eq_nil_of_length_eq_zero (by simpa using hl)
    subst this
    exact ⟨trivial, by simp [wts]⟩
  | cons ks kss ih =>
    match xs, hx with
    | d :: xs, hx =>
      obtain ⟨h1, h2⟩ := h 0 ks d rfl rfl
      simp only [List.take_zero, List.flatten_nil, List.length_nil, List.drop_zero] at h1 h2
      have hl' : cs.length = ks.length + kss.flatten.length := by simpa using hl
      obtain ⟨h3, h4⟩ := ih xs (cs.drop ks.length) (by rw [List.length_drop]; omega) (by simpa using hx) (fun i ks' d' hk hd => by
        have := h (i + 1) ks' d' (by simpa using hk) (by simpa using hd)
        simpa [List.take_succ_cons, List.flatten_cons, List.drop_drop] using this)
      have e : cs = cs.take ks.length ++ cs.drop ks.length := (List.take_append_drop _ _).symm
      refine ⟨?_, ?_⟩
      · rw [e, List.flatten_cons]; exact RowS_append h1 h3
      · rw [e, wts_append]; simp only [Rows.uptoBulkAll]; omega

theorem trod_flat {H : Type} {enc : TypeId × Value → H} {P : Program} {w : World} {base : Nat} {spare : Nat → Bool} {held : Bool} : ∀ (m : Nat) (t : TypeId) (ks : List SK), kindsS P m t = some ks →
    ∀ (fuel : Nat) (cs : List Value) (x : DataW H × List MemPlace), DataW.trod enc P w base spare held fuel t cs = some x → RowS ks cs ∧ wts cs ≤ Rows.uptoBulk x.1 := by
  intro m
  induction m with
  | zero => intro t ks h; simp [kindsS] at h
  | succ m ih =>
    intro t ks h fuel cs x hx
    rw [kindsS] at h
    split at h
    · rename_i ht
      injection h with h; subst h
      obtain ⟨b, rfl, rfl⟩ := DataW.trod_bool ht hx
      exact ⟨⟨⟨b, rfl⟩, trivial⟩, by simp [wts, wt, Rows.uptoBulk]⟩
    · rename_i k ht
      injection h with h; subst h
      obtain ⟨n, rfl, rfl, hw⟩ := DataW.trod_int ht hx
      exact ⟨⟨⟨n, rfl, hw⟩, trivial⟩, by simp [wts, wt, Rows.uptoBulk]⟩
    · rename_i ht
      injection h with h; subst h
      obtain ⟨s, rfl, rfl, hs⟩ := DataW.trod_string ht hx
      refine ⟨⟨⟨s, rfl, hs⟩, trivial⟩, ?_⟩
      have : s.data.toList.length = s.size := by rw [Array.length_toList]; rfl
      simp only [wts, wt, Rows.uptoBulk, this]; omega
    · rename_i fs ht
      obtain ⟨kss, hk, h⟩ := Option.bind_eq_some_iff.1 h
      split at h
      · rename_i hc
        injection h with h; subst h
        obtain ⟨hc1, hc2⟩ := hc
        obtain ⟨xs, n, rfl, rfl, hl, hlen, hf⟩ := DataW.trod_struct ht hx
        obtain ⟨hkl, hkk⟩ := mapM_some hk
        have hxl : (xs.map (·.1)).length = kss.length := by rw [List.length_map, hlen, hkl]; simp
        obtain ⟨h1, h2⟩ := pieces kss (xs.map (·.1)) cs (by rw [hl, hc1]) hxl (fun i ks d hki hdi => by
          have hi : i < fs.size := by
            have := (List.getElem?_eq_some_iff.1 hki).1
            rw [hkl] at this; simpa using this
          obtain ⟨b, hb, hbi⟩ := hkk i fs[i] (by simp [hi])
          rw [hki] at hbi
          injection hbi with hbi; subst hbi
          obtain ⟨ks', hks', hif⟩ := Option.bind_eq_some_iff.1 hb
          split at hif
          · rename_i hcell
            injection hif with hif; subst hif
            have hoff : fs[i].offset = ((kss.take i).flatten).length := by
              have h3 := congrArg (fun l : List Nat => l[i]?) hc2
              have hik : i < kss.length := (List.getElem?_eq_some_iff.1 hki).1
              simp [hi, hik] at h3
              simpa using h3
            have hfi := hf i fs[i] (by simp [hi])
            rw [hoff, hcell] at hfi
            rw [List.getElem?_map] at hdi
            obtain ⟨y, hy, rfl⟩ := Option.map_eq_some_iff.1 hdi
            exact ih _ _ hks' _ _ _ (hfi.trans hy)
          · cases hif)
        refine ⟨h1, ?_⟩
        simp only [Rows.uptoBulk]; omega
      · cases h
    · rename_i n e ht
      obtain ⟨ks0, hk, h⟩ := Option.bind_eq_some_iff.1 h
      split at h
      · rename_i hc
        injection h with h; subst h
        obtain ⟨hc1, hc2⟩ := hc
        obtain ⟨xs, q, rfl, rfl, hl, hlen, hf⟩ := DataW.trod_array ht hx
        have hfl : ∀ i, i ≤ n → (((List.replicate n ks0).take i).flatten).length = i * ks0.length := by
          intro i hi
          rw [List.take_replicate, Nat.min_eq_left hi]
          simp
        obtain ⟨h1, h2⟩ := pieces (List.replicate n ks0) (xs.map (·.1)) cs (by rw [hl, hc2]; simp) (by rw [List.length_map, hlen]; simp) (fun i ks d hki hdi => by
          have hi : i < n := by
            have := (List.getElem?_eq_some_iff.1 hki).1
            simpa using this
          have : ks = ks0 := by rw [List.getElem?_replicate, if_pos hi] at hki; injection hki with hki; exact hki.symm
          subst this
          have hfi := hf i hi
          rw [hc1] at hfi
          rw [List.getElem?_map] at hdi
          obtain ⟨y, hy, rfl⟩ := Option.map_eq_some_iff.1 hdi
          rw [hfl i (Nat.le_of_lt hi)]
          exact ih _ _ hk _ _ _ (hfi.trans hy))
        refine ⟨h1, ?_⟩
        simp only [Rows.uptoBulk]; omega
      · cases h
    · cases h

/-! ### slices of such -/
/-- a slice that reads as these rows -/
def SlRd (w : World) (A : Option Addr) (n size : Nat) (rows : List (List Value)) : Prop :=
  rows.length = n ∧ ∀ (i : Nat) (row : List Value), rows[i]? = some row → ∃ b o, A = some ⟨b, o, none⟩ ∧ b < w.heap.size ∧ ∀ (j : Nat) (u : Value), row[j]? = some u → w.cell? ⟨b, o + (i * size + j), none⟩ = some u
def sumW : List (List Value) → Nat
  | [] => 0
  | r :: l => wts r + sumW l
theorem addr_add (b o k : Nat) : (⟨b, o, none⟩ : Addr).add k = ⟨b, o + k, none⟩ := by unfold Addr.add; split <;> simp_all
theorem trod_slice_flat {H : Type} {enc : TypeId × Value → H} {P : Program} {w : World} {spare : Nat → Bool} {held : Bool} {t e : TypeId} {m fuel : Nat} {ks : List SK} {cs : List Value} {x : DataW H × List MemPlace}
    (ht : P.underlying t = some (.slice e)) (hk : kindsS P m e = some ks) (hc : P.cellsOf e = ks.length) (hpos : 0 < ks.length) (hx : DataW.trod enc P w 0 spare held fuel t cs = some x) :
    ∃ A n c rows, cs = [.slice A n c] ∧ n ≤ maxLen ∧ SlRd w A n ks.length rows ∧ (∀ row ∈ rows, RowS ks row) ∧ sumW rows + 1 ≤ Rows.uptoBulk x.1 := by
  rcases DataW.trod_slice ht hx with ⟨rfl, rfl⟩ | ⟨a, len, cap, elems, rest, n, rfl, rfl, rfl, hb, hlc, hcm, hel, hread, _, _⟩
  · exact ⟨none, 0, 0, [], rfl, Nat.zero_le _, ⟨rfl, fun i row h => by simp at h⟩, fun row h => by simp at h, by simp [sumW, Rows.uptoBulk]⟩
  · have hrow : ∀ i, i < len → ∃ row y, elems[i]? = some y ∧ w.cells? 0 (a.add (i * ks.length)) ks.length = some row ∧ RowS ks row ∧ wts row ≤ Rows.uptoBulk y.1 := by
      intro i hi
      obtain ⟨y, hy⟩ : ∃ y, elems[i]? = some y := ⟨_, List.getElem?_eq_getElem (by omega)⟩
      have h1 := hread i hi
      rw [hy, hc] at h1
      obtain ⟨row, h2, h3⟩ := Option.bind_eq_some_iff.1 h1
      obtain ⟨h4, h5⟩ := trod_flat m e ks hk _ _ _ h3
      exact ⟨row, y, hy, h2, h4, h5⟩
    obtain ⟨f, hf⟩ := Deep.choose_lt hrow
    have hfy : ∀ i, i < len → ∃ y, elems[i]? = some y ∧ w.cells? 0 (a.add (i * ks.length)) ks.length = some (f i) ∧ RowS ks (f i) ∧ wts (f i) ≤ Rows.uptoBulk y.1 := hf
    refine ⟨some a, len, cap, (List.range len).map f, rfl, by omega, ⟨by simp, ?_⟩, ?_, ?_⟩
    · intro i row hi
      rw [List.getElem?_map] at hi
      obtain ⟨i', hi', rfl⟩ := Option.map_eq_some_iff.1 hi
      have hlt : i < len := by have := (List.getElem?_eq_some_iff.1 hi').1; simpa using this
      rw [List.getElem?_range hlt] at hi'
      injection hi' with hi'; subst hi'
      -- the first cell of the first element shows that the address is a plain one
      have h0 : ∃ u, w.cell? a = some u := by
        obtain ⟨y, _, h2, h3, _⟩ := hfy 0 (by omega)
        simp only [World.cells?, Nat.zero_le, if_true] at h2
        obtain ⟨hl2, hm2⟩ := mapM_some h2
        obtain ⟨b, hb1, hb2⟩ := hm2 0 0 (by rw [List.getElem?_range hpos])
        refine ⟨b, ?_⟩
        simpa [Addr.add] using hb1
      obtain ⟨u0, h0⟩ := h0
      obtain ⟨b, o, sp⟩ := a
      have hsp : sp = none := by
        cases sp with
        | none => rfl
        | some q =>
          simp only [World.cell?] at h0
          split at h0
          · simp at h0
          · cases h0
      subst hsp
      refine ⟨b, o, rfl, World.block_lt_of_cell? w _ h0, fun j u hu => ?_⟩
      obtain ⟨y, _, h2, h3, _⟩ := hfy i hlt
      simp only [World.cells?, Nat.zero_le, if_true] at h2
      obtain ⟨hl2, hm2⟩ := mapM_some h2
      have hj : j < ks.length := by
        have := (List.getElem?_eq_some_iff.1 hu).1
        rw [hl2] at this; simpa using this
      obtain ⟨v, hv1, hv2⟩ := hm2 j j (by rw [List.getElem?_range hj])
      rw [hu] at hv2
      injection hv2 with hv2; subst hv2
      rw [addr_add, addr_add] at hv1
      rw [← Nat.add_assoc]; exact hv1
    · intro row hr
      obtain ⟨i, hi, rfl⟩ := List.mem_map.1 hr
      exact (hfy i (by simpa using hi)).choose_spec.2.2.1
    · simp only [Rows.uptoBulk]
      have key : ∀ (k : Nat), k ≤ len → sumW ((List.range k).map f) ≤ Rows.uptoBulkAll ((elems.take k).map (·.1)) := by
        intro k
        induction k with
        | zero => intro _; simp [sumW]
        | succ k ihk =>
          intro hk'
          obtain ⟨y, hy, _, _, hw⟩ := hfy k (by omega)
          have hs : ∀ l r, sumW (l ++ r) = sumW l + sumW r := by
            intro l r
            induction l with
            | nil => simp [sumW]
            | cons q l il => simp only [List.cons_append, sumW, il]; omega
          rw [List.range_succ, List.map_append, hs, List.take_add_one, hy, List.map_append, bulkAll_append]
          have := ihk (by omega)
          simp only [List.map_cons, List.map_nil, sumW, Option.toList, Rows.uptoBulkAll]
          omega
      have h1 := key len (Nat.le_refl _)
      rw [List.take_of_length_le (by omega)] at h1
      omega
theorem wts_ge : ∀ (row : List Value), row.length ≤ wts row
  | [] => Nat.le_refl _
  | v :: r => by
    have := wts_ge r
    have h1 : 1 ≤ wt v := by unfold wt; split <;> omega
    simp only [List.length_cons, wts]; omega
theorem len_le_sum {ks : List SK} : ∀ (rows : List (List Value)), (∀ row ∈ rows, RowS ks row) → 0 < ks.length → rows.length ≤ sumW rows
  | [], _, _ => Nat.le_refl _
  | r :: rows, h, hp => by
    have h1 := len_le_sum rows (fun row hr => h row (List.mem_cons_of_mem _ hr)) hp
    have h2 := RowS_length (h r (List.mem_cons_self ..))
    have h3 := wts_ge r
    simp only [List.length_cons, sumW]; omega
theorem sumW_mem : ∀ {rows : List (List Value)} {row : List Value}, row ∈ rows → wts row ≤ sumW rows
  | r :: rows, row, h => by
    simp only [sumW]
    rcases List.mem_cons.1 h with rfl | h
    · omega
    · have := sumW_mem h; omega
/-- rows as data -/
theorem rows_map {α : Type} (cells : α → List Value) (ok : α → Prop) : ∀ (rows : List (List Value)), (∀ row ∈ rows, ∃ x, row = cells x ∧ ok x) → ∃ l : List α, rows = l.map cells ∧ ∀ x ∈ l, ok x
  | [], _ => ⟨[], rfl, fun x h => by simp at h⟩
  | r :: rows, h => by
    obtain ⟨x, rfl, hx⟩ := h r (List.mem_cons_self ..)
    obtain ⟨l, rfl, hl⟩ := rows_map cells ok rows fun row hr => h row (List.mem_cons_of_mem _ hr)
    refine ⟨x :: l, rfl, fun y hy => ?_⟩
    rcases List.mem_cons.1 hy with rfl | hy
    · exact hx
    · exact hl y hy
/-- the cells of an element, in whatever world keeps what stood -/
theorem SlRd.at {w w' : World} {A : Option Addr} {n size : Nat} {rows : List (List Value)} (h : SlRd w A n size rows) (hb : Below w.heap.size w w') {i : Nat} {row : List Value} (hi : rows[i]? = some row) :
    ∃ b o, A = some ⟨b, o, none⟩ ∧ b < w.heap.size ∧ (∀ u, row[0]? = some u → w'.cell? ⟨b, o + i * size, none⟩ = some u) ∧ ∀ (j : Nat) (u : Value), row[j]? = some u → w'.cell? ⟨b, o + i * size + j, none⟩ = some u := by
  obtain ⟨b, o, h1, h2, h3⟩ := h.2 i row hi
  have key : ∀ (j : Nat) (u : Value), row[j]? = some u → w'.cell? ⟨b, o + i * size + j, none⟩ = some u := fun j u hu => by
    rw [Nat.add_assoc]; exact (hb.cell (p := ⟨b, _, none⟩) h2).trans (h3 j u hu)
  exact ⟨b, o, h1, h2, fun u hu => key 0 u hu, key⟩

theorem wf_i64 {n : Int} (h : (Lit.int .i64 n).wf = true) : -9223372036854775808 ≤ n ∧ n ≤ 9223372036854775807 := by
  simpa [Lit.wf, IntKind.min, IntKind.max, IntKind.signed, IntKind.bits] using h
theorem wf_u64 {n : Int} (h : (Lit.int .u64 n).wf = true) : 0 ≤ n ∧ n ≤ 18446744073709551615 := by
  simpa [Lit.wf, IntKind.min, IntKind.max, IntKind.signed, IntKind.bits] using h

/-- a slice of one-cell elements, as what is appended -/
theorem SlRd.src {w w' : World} {A : Option Addr} {n : Nat} {α : Type} {l : List α} {f : α → Value} (h : SlRd w A n 1 (l.map fun x => [f x])) (hb : Below w.heap.size w w') :
    l.length = n ∧ ∀ j u, (l.map f)[j]? = some u → ∃ b o, A = some ⟨b, o, none⟩ ∧ w'.cell? ⟨b, o + j, none⟩ = some u := by
  have hl : l.length = n := by simpa using h.1
  refine ⟨hl, fun j u hu => ?_⟩
  rw [List.getElem?_map] at hu
  obtain ⟨x, hx, rfl⟩ := Option.map_eq_some_iff.1 hu
  obtain ⟨b, o, hA, _, hc, _⟩ := SlRd.at h hb (i := j) (row := [f x]) (by rw [List.getElem?_map, hx]; rfl)
  exact ⟨b, o, hA, by simpa using hc _ rfl⟩

theorem okWide_array {P : Program} {w : World} {r : Reach} {base : Nat} {t : TypeId} {v : Value} {n : Nat} {e : TypeId} (ht : P.underlying t = some (.array n e)) (h : Value.okWide P w r base t v) : ∃ cs, v = .agg cs ∧ cs.size = P.cellsOf t := by
  simp only [Value.okWide, ht] at h
  obtain ⟨cs, h1, h2, _⟩ := h
  exact ⟨cs, h1, h2⟩

theorem of_row_int : ∀ row : List Value, RowS [.int .i64] row → ∃ x : Int, row = [.int .i64 x] ∧ -9223372036854775808 ≤ x ∧ x ≤ 9223372036854775807 := by
  intro row h
  have hl := RowS_length h
  match row, hl, h with
  | [v], _, h =>
    obtain ⟨⟨x, rfl, hx⟩, _⟩ := h
    exact ⟨x, rfl, wf_i64 hx⟩
theorem of_row_u64 : ∀ row : List Value, RowS [.int .u64] row → ∃ x : Int, row = [.int .u64 x] ∧ 0 ≤ x ∧ x ≤ 18446744073709551615 := by
  intro row h
  have hl := RowS_length h
  match row, hl, h with
  | [v], _, h =>
    obtain ⟨⟨x, rfl, hx⟩, _⟩ := h
    exact ⟨x, rfl, wf_u64 hx⟩
theorem of_row_str : ∀ row : List Value, RowS [.str] row → ∃ x : ByteArray, row = [.string x] ∧ x.size ≤ maxLen := by
  intro row h
  have hl := RowS_length h
  match row, hl, h with
  | [v], _, h =>
    obtain ⟨⟨x, rfl, hx⟩, _⟩ := h
    exact ⟨x, rfl, hx⟩

/-! ### the way back -/
theorem Below.trodAll {H : Type} {enc : TypeId × Value → H} {P : Program} (hl : laidOutB P = true) {W W' : World} (hb : Below W.heap.size W W') : ∀ (ts : List TypeId) (vs : List Value) (ds : List (DataW H)) (ps : List MemPlace),
    (∀ t ∈ ts, P.readableRec t = true ∧ t < P.types.size) → (∀ x ∈ ps, x.block < W.heap.size) → DataW.TrodAll enc P W 0 (fun _ => true) true ts vs ds ps → DataW.TrodAll enc P W' 0 (fun b => decide (b < W.heap.size)) true ts vs ds ps
  | [], [], [], _, _, _, h => h
  | t :: ts, v :: vs, d :: ds, ps, hr, hlt, ⟨p, q, h1, h2, e⟩ => by
    subst e
    exact ⟨p, q, Below.trod hl (hr t (List.mem_cons_self ..)).1 (hr t (List.mem_cons_self ..)).2 h1 hb (fun x hx => hlt x (List.mem_append_left _ hx)),
      Below.trodAll hl hb ts vs ds q (fun t ht => hr t (List.mem_cons_of_mem _ ht)) (fun x hx => hlt x (List.mem_append_right _ hx)) h2, rfl⟩
  | [], _ :: _, _, _, _, _, h => h.elim
  | [], [], _ :: _, _, _, _, h => h.elim
  | _ :: _, [], _, _, _, _, h => h.elim
  | _ :: _, _ :: _, [], _, _, _, h => h.elim
/-- a law that answers true and leaves alone what stood -/
theorem law_post {H : Type} {enc : TypeId × Value → H} {P : Program} {f : Func} {s : ChangeSpec} {tb : TypeId} {W W' : World} {args : Array Value} {ds gs : List (DataW H)} {before : List MemPlace}
    (hl : laidOutB P = true) (hr : ∀ t ∈ f.params.toList, P.readableRec t = true ∧ t < P.types.size) (hb1 : f.resultTypes = #[tb]) (hb2 : P.underlying tb = some .bool) (hv : s.vars = [])
    (hW : DataW.Whole enc P f.params.toList s.vars false W args.toList ds gs before)
    (h1 : (s.fn H (ds ++ gs)).results = [.lit (.bool true)]) (h2 : (s.fn H (ds ++ gs)).args = ds) (h3 : (s.fn H (ds ++ gs)).vars = [])
    (hb : Below W.heap.size W W') : s.post enc P f false true false false W args (.bool true) W' := by
  obtain ⟨p, q, hA, hV, rfl, hfz, hnd⟩ := hW
  have hW' : DataW.Whole enc P f.params.toList s.vars false W args.toList ds gs (p ++ q) := ⟨p, q, hA, hV, rfl, hfz, hnd⟩
  rw [hv] at hV
  obtain ⟨rfl, rfl⟩ := trodVars_none hV
  rw [List.append_nil] at hW' h1 h2 h3
  have hlt : ∀ x ∈ p, x.block < W.heap.size := fun x hx => by simpa using hW'.lt x hx
  refine ⟨ds, [], p, [], p, [], hW', ?_, ?_, ?_, hb.frame _, fun h => by cases h⟩
  · rw [List.append_nil, h1, hb1]
    exact trodAll_mk1 (shut_bool hb2 true)
  · rw [List.append_nil, h2]
    exact Below.trodAll hl hb _ _ _ _ hr hlt hA
  · rw [List.append_nil, h3, hv]
    rfl
end Go.Proofs.Ytkkpcjpdpjpohaa

/- Maps in the separation logic: a block that is a map, told as a function from key values to element values. -/
import Derived.Test.YtnehdcaobkedpaaSL
import Derived.Maps.Own
import Derived.Maps.OwnSet
import Derived.Maps.Views
import Derived.Maps.RangeWalk
import Derived.Lib.SlMapFilter
import Derived.DeepKeys5
namespace Go.Proofs.Ytnehdcaobkedpaa
open Go.RowKit Go.ChangeMaps Go.MapKept
open Go.WideElems (Fit rd rg pl rd_key)
open Go.Maps (Keyed)
open Classical

/-- a block of whatever kind -/
def Po (b : Nat) (o : Obj) : Assn := fun h => h b = some o
theorem St.puto {w0 w w' : World} {b : Nat} {o o' : Obj} {L : List Assn} (H : St w0 w (Po b o :: L))
    (hb : Below b w w') (hsz : w.heap.size ≤ w'.heap.size) (hk : ∀ i, i < w.heap.size → i ≠ b → w'.heap[i]? = w.heap[i]?) (hn : w'.heap[b]? = some o') : St w0 w' (Po b o' :: L) := by
  obtain ⟨hbel, hs, ho⟩ := H
  cases ho with
  | @cons _ h1 _ hs1 ha hsub hb' hd r =>
    have hge := hb' _ _ ha
    refine ⟨⟨hb.os.trans hbel.os, hb.tape.trans hbel.tape, hb.output.trans hbel.output, Nat.le_trans hbel.size hsz, fun i hi => (hb.block i (by omega)).trans (hbel.block i hi)⟩,
      (fun i => if i = b then some o' else none) :: hs1, .cons (by simp [Po]) ?_ ?_ ?_ ?_⟩
    · intro i u hi
      by_cases e : i = b
      · subst e; simp at hi; subst hi; exact hn
      · simp [e] at hi
    · intro i u hi
      by_cases e : i = b
      · subst e; exact hge
      · simp [e] at hi
    · intro k hkm i
      by_cases e : i = b
      · subst e
        rcases hd k hkm i with h | h
        · rw [show h1 i = _ from ha] at h; cases h
        · exact .inr h
      · exact .inl (by simp [e])
    · refine r.far (g := b) (fun i u hi hne => ?_) (fun k hk => ?_)
      · rw [hk i (Array.getElem?_eq_some_iff.1 hi).1 hne]; exact hi
      · rcases hd k hk b with h | h
        · rw [show h1 b = _ from ha] at h; cases h
        · exact h
theorem St.blocko {w0 w : World} {b : Nat} {o : Obj} {L : List Assn} (H : St w0 w (Po b o :: L)) : w.heap[b]? = some o ∧ w0.heap.size ≤ b := by
  obtain ⟨hb, hs, ho⟩ := H
  cases ho with
  | cons ha hs hb' hd r => exact ⟨hs _ _ ha, hb' _ _ ha⟩
theorem St.alloco {w0 w : World} {L : List Assn} (H : St w0 w L) (o : Obj) : St w0 (w.alloc o) (Po w.heap.size o :: L) := by
  have H' := H.more o
  obtain ⟨hb, hs, ho⟩ := H
  have key : ∀ {L : List Assn} {hs : List PH}, Own w0.heap.size w L hs → ∀ k ∈ hs, k w.heap.size = none := by
    intro L hs ho
    induction ho with
    | nil => intro k hk; cases hk
    | cons ha hsub hb' hd r ih =>
      intro k hk
      rcases List.mem_cons.1 hk with rfl | hk
      · cases hq : k w.heap.size with
        | none => rfl
        | some o => have := PH.sub_lt hsub hq; omega
      · exact ih k hk
  refine ⟨H'.below, (fun i => if i = w.heap.size then some o else none) :: hs, .cons (by simp [Po]) ?_ ?_ ?_ ?_⟩
  · intro i u hi
    by_cases e : i = w.heap.size
    · subst e; simp at hi; subst hi; exact heap_alloc_new w _
    · simp [e] at hi
  · intro i u hi
    by_cases e : i = w.heap.size
    · subst e; exact hb.size
    · simp [e] at hi
  · intro k hk i
    by_cases e : i = w.heap.size
    · subst e; exact .inr (key ho k hk)
    · exact .inl (by simp [e])
  · refine ho.move fun i u hi _ => ?_
    rw [Below.heap_alloc _ _ _ (Array.getElem?_eq_some_iff.1 hi).1]; exact hi

/-- an element stands for itself -/
noncomputable def R0 (sh : Value → Prop) (v : Value) : Option (DataW Value × List MemPlace) := if sh v then some (.held v, []) else none
theorem R0_some {sh : Value → Prop} {v : Value} {y : DataW Value × List MemPlace} (h : R0 sh v = some y) : sh v ∧ y = (.held v, []) := by
  unfold R0 at h
  split at h
  · rename_i e; cases h; exact ⟨e, rfl⟩
  · cases h
theorem R0_of {sh : Value → Prop} {v : Value} (h : sh v) : R0 sh v = some (.held v, []) := if_pos h
/-- what a map holds at a key -/
def lk (D : DataW Value) (k : Lit) : Option Value := match D.atKey k .nil with | .held v => some v | _ => none
theorem lk_put {D : DataW Value} (hD : Maps.IsMap D) {k : Lit} (hk : WideAt.IsKeyLit k) (v : Value) (k' : Lit) : lk (D.put k (.held v)) k' = if k' = k then some v else lk D k' := by
  unfold lk
  by_cases h : k' = k
  · subst h; rw [Maps.atKey_put_same hD hk, if_pos rfl]
  · rw [Maps.atKey_put_other h, if_neg h]
theorem lk_del {D : DataW Value} (k k' : Lit) : lk (D.del k) k' = if k' = k then none else lk D k' := by
  unfold lk
  by_cases h : k' = k
  · subst h; rw [Maps.atKey_del_same, if_pos rfl]
  · rw [Maps.atKey_del_other h, if_neg h]
/-- a map's block: at most 'n' entries, 'm' what stands at a key -/
def Mp (P : Program) (k : TypeId) (sh : Value → Prop) (b n : Nat) (m : Value → Option Value) : Assn := fun h => ∃ es clock, h b = some (.map es clock) ∧ Fit P k (R0 sh) es clock ∧ es.size ≤ n ∧
  ∀ key kl, keyOf P k key = some kl → lk (.map ((es.toList.map (rg P k (R0 sh))).foldr DataW.insert [])) kl = m key
section
variable {P : Program} {k : TypeId} {sh : Value → Prop} {w0 w : World} {b n : Nat} {m : Value → Option Value} {L : List Assn}
theorem St.mp_out (H : St w0 w (Mp P k sh b n m :: L)) : ∃ es clock, St w0 w (Po b (.map es clock) :: L) ∧ Fit P k (R0 sh) es clock ∧ es.size ≤ n ∧
    ∀ key kl, keyOf P k key = some kl → lk (.map ((es.toList.map (rg P k (R0 sh))).foldr DataW.insert [])) kl = m key := by
  obtain ⟨hb, hs, ho⟩ := H
  cases ho with
  | cons ha hs hb' hd r =>
    obtain ⟨es, clock, h1, h2, h3, h4⟩ := ha
    exact ⟨es, clock, ⟨hb, _, .cons h1 hs hb' hd r⟩, h2, h3, h4⟩
theorem St.mp_owns (H : St w0 w (Mp P k sh b n m :: L)) : ∃ D, w.ownsMap P k (R0 sh) b n D ∧ ∀ key kl, keyOf P k key = some kl → lk D kl = m key := by
  obtain ⟨es, clock, H, h2, h3, h4⟩ := H.mp_out
  exact ⟨_, ⟨es, clock, H.blocko.1, h2, h3, rfl⟩, h4⟩
theorem St.mp_ge (H : St w0 w (Mp P k sh b n m :: L)) : w0.heap.size ≤ b ∧ b < w.heap.size := by
  obtain ⟨es, clock, H, h2, h3, h4⟩ := H.mp_out
  exact ⟨H.blocko.2, (Array.getElem?_eq_some_iff.1 H.blocko.1).1⟩
theorem St.mp_in {w' : World} {n' : Nat} {m' : Value → Option Value} {D : DataW Value} (H : St w0 w (Mp P k sh b n m :: L)) (hown : w'.ownsMap P k (R0 sh) b n' D) (hl : ∀ key kl, keyOf P k key = some kl → lk D kl = m' key)
    (hg : w.grownBy w' (some b)) : St w0 w' (Mp P k sh b n' m' :: L) := by
  obtain ⟨es, clock, H, h2, h3, h4⟩ := H.mp_out
  obtain ⟨es', clock', g1, g2, g3, rfl⟩ := hown
  have hlt : b < w.heap.size := (Array.getElem?_eq_some_iff.1 H.blocko.1).1
  refine (H.puto (o' := .map es' clock') ⟨hg.os, hg.tape, hg.output, by have := hg.size; omega, fun i hi => hg.block i (by omega) (by intro e; cases e; omega)⟩ hg.size (fun i hi hne => hg.block i hi (by intro e; cases e; exact hne rfl)) g1).imp ?_
  exact fun p hp => ⟨es', clock', hp, g2, g3, hl⟩
/-- a map that was made -/
theorem St.mp_made (H : St w0 w L) : St w0 (w.alloc (.map #[] 0)) (Mp P k sh w.heap.size 0 (fun _ => none) :: L) := by
  refine (H.alloco (.map #[] 0)).imp fun p hp => ⟨#[], 0, hp, ?_, Nat.le_refl _, fun _ _ _ => rfl⟩
  obtain ⟨es, clock, h1, h2, h3, h4⟩ := World.ownsMap_made w P k (R0 sh)
  have := heap_alloc_new w (.map #[] 0)
  rw [this] at h1
  cases h1
  exact h2
theorem lk_some {D : DataW Value} {kl : Lit} {v : Value} (h : ∀ zd, D.atKey kl zd = .held v) : lk D kl = some v := by unfold lk; rw [h]
theorem lk_none {D : DataW Value} {kl : Lit} (h : ∀ zd, D.atKey kl zd = zd) : lk D kl = none := by unfold lk; rw [h]
/-- what a look gives -/
def lookV (c : Bool) (z : Value) (o : Option Value) : Value := if c then .tuple #[o.getD z, .bool o.isSome] else o.getD z
theorem St.mp_look (c : Bool) (H : St w0 w (Mp P k sh b n m :: L)) (K : Keyed P k) {t e : TypeId} (ht : P.underlying t = some (.map k e)) {z : Value} (hz : (zeroValue e).run P w = .ok z w) {key : Value} {kl : Lit} (hkey : keyOf P k key = some kl) :
    (Instr.lookup t (.map (some b)) key c).run P w = .ok (lookV c z (m key)) w := by
  obtain ⟨es, clock, H, F, h3, h4⟩ := H.mp_out
  have e1 := h4 key kl hkey
  rcases Maps.fit_look c K ht hz H.blocko.1 F hkey with ⟨hr, _, hat⟩ | ⟨e0, y, _, _, hr, hy, hat, _⟩
  · rw [lk_none hat] at e1
    rw [hr, ← e1]; rfl
  · obtain ⟨_, rfl⟩ := R0_some hy
    rw [lk_some hat] at e1
    rw [hr, ← e1]; rfl
end
noncomputable def mset (m : Value → Option Value) (k v : Value) : Value → Option Value := fun x => if x = k then some v else m x
noncomputable def mdel (m : Value → Option Value) (k : Value) : Value → Option Value := fun x => if x = k then none else m x
theorem mset_same (m : Value → Option Value) (k v : Value) : mset m k v k = some v := by unfold mset; rw [if_pos rfl]
theorem mset_ne (m : Value → Option Value) {k x : Value} (v : Value) (h : x ≠ k) : mset m k v x = m x := by unfold mset; rw [if_neg h]
theorem mdel_same (m : Value → Option Value) (k : Value) : mdel m k k = none := by unfold mdel; rw [if_pos rfl]
theorem mdel_ne (m : Value → Option Value) {k x : Value} (h : x ≠ k) : mdel m k x = m x := by unfold mdel; rw [if_neg h]
theorem wpList_mapUpdate_st {P : Program} (w0 w : World) {ops : Array Oper} {rest : List Oper} {o : Oper} {a : Act} {Q : Exit → Act → World → Prop} {L : List Assn}
    (hg : o.guard = none) (M x v : Operand) (t : TypeId) (hop : o.op = Op.mapUpdate t M x v)
    (k e : TypeId) (K : Keyed P k) (ht : P.underlying t = some (.map k e)) (sh : Value → Prop) (b n : Nat) (m : Value → Option Value)
    (hm : a.eval M = .map (some b)) (H : St w0 w (Mp P k sh b n m :: L)) (hn : n < maxLen) (key val : Value) (hx : a.eval x = key) (hv : a.eval v = val) (kl : Lit) (hkey : keyOf P k key = some kl) (hsh : sh val)
    (hK : ∀ w', St w0 w' (Mp P k sh b (n + 1) (mset m key val) :: L) → wpList P ops Q rest (a.put o.dst undef) w') :
    wpList P ops Q (o :: rest) a w := by
  obtain ⟨D, hown, hl⟩ := H.mp_owns
  refine wpList_mapUpdate_own w hg M x v t hop k e K ht (R0 sh) b n D hm hown hn key val kl hx hv hkey (.held val) [] (R0_of hsh) fun w' h1 h2 => hK w' (H.mp_in h1 (fun key' kl' hk' => ?_) h2)
  obtain ⟨es0, rfl, _, _⟩ := hown.entries K
  rw [lk_put ⟨_, rfl⟩ (K.key hkey), hl _ _ hk']
  by_cases h : kl' = kl
  · subst h
    have := K.inj hk' hkey
    subst this
    rw [if_pos rfl, mset_same]
  · rw [if_neg h, mset_ne]
    rintro rfl
    rw [hkey] at hk'
    exact h (Option.some.inj hk').symm
theorem wpList_delete_st {P : Program} (w0 w : World) {ops : Array Oper} {rest : List Oper} {o : Oper} {a : Act} {Q : Exit → Act → World → Prop} {L : List Assn}
    (hg : o.guard = none) (M x : Operand) (t k : TypeId) (hop : o.op = Op.call { callee := Callee.builtin Builtin.delete, args := #[M, x], argTypes := #[t, k] })
    (e : TypeId) (K : Keyed P k) (ht : P.underlying t = some (.map k e)) (sh : Value → Prop) (b n : Nat) (m : Value → Option Value)
    (hm : a.eval M = .map (some b)) (H : St w0 w (Mp P k sh b n m :: L)) (key : Value) (hx : a.eval x = key) (kl : Lit) (hkey : keyOf P k key = some kl)
    (hK : ∀ w', St w0 w' (Mp P k sh b n (mdel m key) :: L) → wpList P ops Q rest (a.put o.dst (.tuple #[])) w') :
    wpList P ops Q (o :: rest) a w := by
  obtain ⟨D, hown, hl⟩ := H.mp_owns
  refine wpList_delete_own w hg M x t k hop e K ht (R0 sh) b n D hm hown key kl hx hkey fun w' h1 h2 => hK w' (H.mp_in h1 (fun key' kl' hk' => ?_) h2.grown)
  rw [lk_del, hl _ _ hk']
  by_cases h : kl' = kl
  · subst h
    have := K.inj hk' hkey
    subst this
    rw [if_pos rfl, mdel_same]
  · rw [if_neg h, mdel_ne]
    rintro rfl
    rw [hkey] at hk'
    exact h (Option.some.inj hk').symm
/-- a store into a map, in a region that draws -/
theorem step_map_st {P : Program} {ops : Array Oper} {o : Oper} {a : Act} {K : Act → World → Prop} {Q : Exit → Act → World → Prop} {E : Prop} (t : TypeId) (M x v : Operand) (ho : o.op = .mapUpdate t M x v) (hg : o.guard = none) {w0 w : World} {L : List Assn}
    (k e : TypeId) (K' : Keyed P k) (ht : P.underlying t = some (.map k e)) {sh : Value → Prop} {b n : Nat} {m : Value → Option Value} (H : St w0 w (Mp P k sh b n m :: L)) (hm : a.eval M = .map (some b)) (hn : n < maxLen) (key val : Value) (hx : a.eval x = key) (hv : a.eval v = val) (kl : Lit) (hkey : keyOf P k key = some kl) (hsh : sh val)
    (h : ∀ w', St w0 w' (Mp P k sh b (n + 1) (mset m key val) :: L) → K (a.put o.dst undef) w') :
    if Region.wanted o (yielded ops a.tmps) = true then Oper.wp P o a w K Q else E := by
  have hw : Region.wanted o (yielded ops a.tmps) = true := by simp [Region.wanted, hg]
  rw [if_pos hw]
  obtain ⟨D, hown, hl⟩ := H.mp_owns
  obtain ⟨w', hrun, h1, h2⟩ := hown.update K' ht hn hkey (d := .held val) (ps := []) (R0_of hsh)
  have H' := h w' (H.mp_in h1 (fun key' kl' hk' => ?_) h2)
  · unfold Oper.wp
    simp [execOp, ho, hm, hx, hv, hrun, Result.andThen]
    exact H'
  obtain ⟨es0, rfl, _, _⟩ := hown.entries K'
  rw [lk_put ⟨_, rfl⟩ (K'.key hkey), hl _ _ hk']
  by_cases hq : kl' = kl
  · subst hq
    have := K'.inj hk' hkey
    subst this
    rw [if_pos rfl, mset_same]
  · rw [if_neg hq, mset_ne]
    rintro rfl
    rw [hkey] at hk'
    exact hq (Option.some.inj hk').symm
/-- a delete, in a region that draws -/
theorem step_delete_st {P : Program} {ops : Array Oper} {o : Oper} {a : Act} {K : Act → World → Prop} {Q : Exit → Act → World → Prop} {E : Prop} (t k : TypeId) (M x : Operand) (ho : o.op = Op.call { callee := Callee.builtin Builtin.delete, args := #[M, x], argTypes := #[t, k] }) (hg : o.guard = none) {w0 w : World} {L : List Assn}
    (e : TypeId) (K' : Keyed P k) (ht : P.underlying t = some (.map k e)) {sh : Value → Prop} {b n : Nat} {m : Value → Option Value} (H : St w0 w (Mp P k sh b n m :: L)) (hm : a.eval M = .map (some b)) (key : Value) (hx : a.eval x = key) (kl : Lit) (hkey : keyOf P k key = some kl)
    (h : ∀ w', St w0 w' (Mp P k sh b n (mdel m key) :: L) → K (a.put o.dst (.tuple #[])) w') :
    if Region.wanted o (yielded ops a.tmps) = true then Oper.wp P o a w K Q else E := by
  have hw : Region.wanted o (yielded ops a.tmps) = true := by simp [Region.wanted, hg]
  rw [if_pos hw]
  obtain ⟨D, hown, hl⟩ := H.mp_owns
  obtain ⟨w', hrun, h1, h2⟩ := hown.drop K' ht hkey o.type
  have H' := h w' (H.mp_in h1 (fun key' kl' hk' => ?_) h2.grown)
  · unfold Oper.wp
    simp [execOp, ho, resolve, invoke, builtin, hm, hx, hrun, Result.andThen]
    exact H'
  rw [lk_del, hl _ _ hk']
  by_cases hq : kl' = kl
  · subst hq
    have := K'.inj hk' hkey
    subst this
    rw [if_pos rfl, mdel_same]
  · rw [if_neg hq, mdel_ne]
    rintro rfl
    rw [hkey] at hk'
    exact hq (Option.some.inj hk').symm
/-- what is left behind a striking -/
noncomputable def mstrike (m : Value → Option Value) (pd : Value → Value → Bool) : Value → Option Value := fun x => match m x with | some v => if pd x v = true then none else some v | none => none
theorem find_strike {k : Lit} (q : Lit × DataW Value → Bool) : ∀ (es : List (Lit × DataW Value)), es.Pairwise (fun p q => p.1 ≠ q.1) →
    (es.filter q).find? (fun p => p.1.sameKey k) = (es.find? (fun p => p.1.sameKey k)).filter q
  | [], _ => rfl
  | x :: r, h => by
    obtain ⟨h1, h2⟩ := List.pairwise_cons.1 h
    have ih := find_strike (k := k) q r h2
    cases hx : x.1.sameKey k with
    | false =>
      rw [List.find?_cons_of_neg (by simp [hx])]
      cases hq : q x with
      | false => rw [List.filter_cons_of_neg (by simp [hq]), ih]
      | true => rw [List.filter_cons_of_pos hq, List.find?_cons_of_neg (by simp [hx]), ih]
    | true =>
      rw [List.find?_cons_of_pos (by simp [hx])]
      cases hq : q x with
      | true => rw [List.filter_cons_of_pos hq, List.find?_cons_of_pos (by simp [hx])]; simp [Option.filter, hq]
      | false =>
        rw [List.filter_cons_of_neg (by simp [hq]), ih]
        have : r.find? (fun p => p.1.sameKey k) = none := by
          refine List.find?_eq_none.2 fun p hp hk => h1 p hp ?_
          rw [WideAt.sameKey_eq hx, WideAt.sameKey_eq hk]
        rw [this]; simp [Option.filter, hq]
theorem lk_strike {es : List (Lit × DataW Value)} (h : es.Pairwise (fun p q => p.1 ≠ q.1)) (pd : Lit → DataW Value → Bool) (k : Lit) :
    lk (Lib.deleteFuncD pd (.map es)) k = match lk (.map es) k with | some v => if pd k (.held v) = true then none else some v | none => none := by
  unfold lk Lib.deleteFuncD DataW.atKey
  dsimp only
  rw [find_strike _ es h]
  cases hf : es.find? (fun p => p.1.sameKey k) with
  | none => rfl
  | some p =>
    have hk : p.1 = k := WideAt.sameKey_eq (by simpa using List.find?_some hf)
    dsimp only
    cases hp : pd p.1 p.2 with
    | false =>
      rw [show Option.filter (fun p : Lit × DataW Value => !pd p.1 p.2) (some p) = some p by simp [Option.filter, hp]]
      dsimp only
      cases hv : p.2 with
      | held v => dsimp only; rw [hv, hk] at hp; simp [hp]
      | _ => rfl
    | true =>
      rw [show Option.filter (fun p : Lit × DataW Value => !pd p.1 p.2) (some p) = none by simp [Option.filter, hp]]
      dsimp only
      cases hv : p.2 with
      | held v => dsimp only; rw [hv, hk] at hp; simp [hp]
      | _ => rfl
noncomputable def pdL (P : Program) (k : TypeId) (pd : Value → Value → Bool) (kl : Lit) (yd : DataW Value) : Bool := decide (∃ key v, keyOf P k key = some kl ∧ yd = .held v ∧ pd key v = true)
theorem pdL_at {P : Program} {k : TypeId} (K : Keyed P k) (pd : Value → Value → Bool) {key v : Value} {kl : Lit} (hkey : keyOf P k key = some kl) : pdL P k pd kl (.held v) = pd key v := by
  unfold pdL
  cases hp : pd key v with
  | true => exact decide_eq_true ⟨key, v, hkey, rfl, hp⟩
  | false =>
    refine decide_eq_false ?_
    rintro ⟨key', v', h1, h2, h3⟩
    cases h2
    have := K.inj h1 hkey
    subst this
    rw [hp] at h3; cases h3
theorem St.mp_strike {P : Program} {k : TypeId} {sh : Value → Prop} {w0 w w' : World} {b n : Nat} {m : Value → Option Value} {L : List Assn} {D : DataW Value} (K : Keyed P k) (pd : Value → Value → Bool) (H : St w0 w (Mp P k sh b n m :: L))
    (hown : w.ownsMap P k (R0 sh) b n D) (hl : ∀ key kl, keyOf P k key = some kl → lk D kl = m key) (hown' : w'.ownsMap P k (R0 sh) b n (Lib.deleteFuncD (pdL P k pd) D)) (hg : w.grownBy w' (some b)) : St w0 w' (Mp P k sh b n (mstrike m pd) :: L) := by
  refine H.mp_in hown' (fun key kl hk => ?_) hg
  obtain ⟨es, rfl, hap, _⟩ := hown.entries K
  rw [lk_strike hap, hl _ _ hk]
  unfold mstrike
  cases m key with
  | none => rfl
  | some v => dsimp only; rw [pdL_at K pd hk]
end Go.Proofs.Ytnehdcaobkedpaa

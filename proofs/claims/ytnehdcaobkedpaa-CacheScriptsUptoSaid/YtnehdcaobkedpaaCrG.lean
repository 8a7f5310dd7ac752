/- Layer 20: both caches tell the same. -/
import Derived.Test.YtnehdcaobkedpaaCrF
import Derived.Test.YtnehdcaobkedpaaSLW
namespace Go.Proofs.Ytnehdcaobkedpaa.Ca
open Go.Proofs.Ytnehdcaobkedpaa
open Go.RowKit

def FR.fv (x : FR) : FV := ⟨x.size, x.id, x.s, x.n, x.now⟩
/-- both tell the same -/
structure Rel (C : CS) (r : RC) : Prop where
  age : C.age = r.age
  f : ∀ h, C.fm h = (lastOf (isH h) r.fl).map FR.fv
  n : ∀ d s, C.nm d s = (lastOf (isN d s) r.nl).map fun x => (x.h, x.now)
  p : ∀ h k, C.pm h k = (lastOf (isP h k) r.pl).map PR.x
  rf : ∀ x ∈ r.fl, inI x.now
  rn : ∀ x ∈ r.nl, inI x.now
theorem lastOf_cons {α : Type} (p : α → Bool) (x : α) (l : List α) : lastOf p (x :: l) = match lastOf p l with | some y => some y | none => if p x = true then some x else none := by
  unfold lastOf
  rw [List.reverse_cons, List.find?_append]
  cases l.reverse.find? p with
  | some y => rfl
  | none =>
    show (List.find? p [x]) = _
    rw [List.find?_cons]
    cases p x <;> rfl
theorem isN_eq {d s : ByteArray} {x : NR} (h : isN d s x = true) : x.d = d ∧ x.s = s := by
  unfold isN at h
  simpa using h
theorem lastOf_keepN (h d s : ByteArray) : ∀ l : List NR, lastOf (isN d s) (keepN h l) = match lastOf (isN d s) l with | some q => if q.d = h ∨ q.h = h then none else some q | none => none
  | [] => rfl
  | x :: rest => by
    have ih := lastOf_keepN h d s rest
    rw [lastOf_cons]
    show lastOf (isN d s) (if okN h x rest = true then x :: keepN h rest else keepN h rest) = _
    cases hr : lastOf (isN d s) rest with
    | some y =>
      rw [hr] at ih
      dsimp only at ih ⊢
      obtain ⟨hy1, hy2⟩ := lastOf_some hr
      obtain ⟨e1, e2⟩ := isN_eq hy2
      by_cases hok : okN h x rest = true
      · have hpx : isN d s x = false := by
          cases hp : isN d s x with
          | false => rfl
          | true =>
            obtain ⟨g1, g2⟩ := isN_eq hp
            unfold okN at hok
            simp only [Bool.and_eq_true] at hok
            have := List.all_eq_true.1 hok.1 y hy1
            unfold notN isN at this
            rw [g1, g2, e1, e2] at this
            simp at this
        rw [if_pos hok, lastOf_cons, ih]
        split <;> rename_i hq
        · rw [← hq]
        · rw [hpx]; rw [hq]; rfl
      · rw [if_neg hok, ih]
    | none =>
      rw [hr] at ih
      dsimp only at ih ⊢
      cases hp : isN d s x with
      | true =>
        obtain ⟨g1, g2⟩ := isN_eq hp
        have hall : rest.all (notN x.d x.s) = true := List.all_eq_true.2 fun y hy => by
          unfold notN
          rw [g1, g2]
          cases hq : isN d s y with
          | false => rfl
          | true =>
            have h1 : lastOf (isN d s) rest = none := hr
            unfold lastOf at h1
            have := List.find?_eq_none.1 h1 y (List.mem_reverse.2 hy)
            rw [hq] at this; exact absurd rfl this
        by_cases hb : x.d = h ∨ x.h = h
        · have hok : okN h x rest = false := by
            unfold okN
            rw [hall]
            rcases hb with e | e <;> simp [e]
          rw [hok, if_neg (by decide), ih]
          simp [hb]
        · have hok : okN h x rest = true := by
            unfold okN
            rw [hall]
            simp only [not_or] at hb
            simp [hb.1, hb.2]
          rw [hok, if_pos rfl, lastOf_cons, ih]
          simp [hp, hb]
      | false =>
        simp only [Bool.false_eq_true, if_false]
        by_cases hok : okN h x rest = true
        · rw [if_pos hok, lastOf_cons, ih]
          simp [hp]
        · rw [if_neg hok, ih]
theorem keepN_mem (h : ByteArray) : ∀ (l : List NR) (x : NR), x ∈ keepN h l → x ∈ l
  | [], x, hx => by cases hx
  | y :: l, x, hx => by
    unfold keepN at hx
    split at hx
    · rcases List.mem_cons.1 hx with rfl | hx
      · exact List.mem_cons_self ..
      · exact List.mem_cons_of_mem _ (keepN_mem h l x hx)
    · exact List.mem_cons_of_mem _ (keepN_mem h l x hx)
theorem Rel.bind {C : CS} {r : RC} (R : Rel C r) (d s h : ByteArray) (now : Int) (hn : inI now) : Rel { C with nn := C.nn + 1, nm := C.nm.set d s (h, now) } { r with nl := r.nl ++ [⟨d, s, h, now⟩] } := by
  refine ⟨R.age, R.f, fun d' s' => ?_, R.p, R.rf, fun x hx => ?_⟩
  · show NM.set C.nm d s (h, now) d' s' = _
    rw [lastOf_snoc]
    unfold NM.set
    by_cases e : d' = d ∧ s' = s
    · rw [if_pos e, if_pos (by unfold isN; simp [e.1, e.2])]; rfl
    · rw [if_neg e, if_neg (by unfold isN; simp; intro a b; exact e ⟨a.symm, b.symm⟩)]; exact R.n d' s'
  · rcases List.mem_append.1 hx with hx | hx
    · exact R.rn x hx
    · rw [List.mem_singleton] at hx; subst hx; exact hn
theorem Rel.hold {C : CS} {r : RC} (R : Rel C r) (h : ByteArray) (k : Int) (x : ByteArray) : Rel { C with np := C.np + 1, pm := C.pm.set h k x } { r with pl := r.pl ++ [⟨h, k, x⟩] } := by
  refine ⟨R.age, R.f, R.n, fun h' k' => ?_, R.rf, R.rn⟩
  show PM.set C.pm h k x h' k' = _
  rw [lastOf_snoc]
  unfold PM.set
  by_cases e : h' = h ∧ k' = k
  · rw [if_pos e, if_pos (by unfold isP; simp [e.1, e.2])]; rfl
  · rw [if_neg e, if_neg (by unfold isP; simp; intro a b; exact e ⟨a.symm, b.symm⟩)]; exact R.p h' k'
theorem Rel.loose {C : CS} {r : RC} (R : Rel C r) (d s : ByteArray) : Rel { C with nm := C.nm.del d s } { r with nl := r.nl.filter (notN d s) } := by
  refine ⟨R.age, R.f, fun d' s' => ?_, R.p, R.rf, fun x hx => R.rn x (List.mem_filter.1 hx).1⟩
  show NM.del C.nm d s d' s' = _
  unfold NM.del
  by_cases e : d' = d ∧ s' = s
  · rw [if_pos e, lastOf_none fun x hx => ?_]
    · rfl
    · have := (List.mem_filter.1 hx).2
      unfold notN at this
      rw [e.1, e.2]; simpa using this
  · rw [if_neg e, lastOf_filter _ _ _ fun x hx => ?_]
    · exact R.n d' s'
    · obtain ⟨e1, e2⟩ := isN_eq hx
      unfold notN isN
      rw [e1, e2]
      simp
      rcases Classical.em (d' = d) with a | a
      · exact .inr fun b => e ⟨a, b⟩
      · exact .inl a
theorem lastOf_notP (h h' : ByteArray) (k : Int) (l : List PR) : lastOf (isP h' k) (l.filter (notP h)) = if h' = h then none else lastOf (isP h' k) l := by
  by_cases e : h' = h
  · rw [if_pos e, lastOf_none fun x hx => ?_]
    have := (List.mem_filter.1 hx).2
    unfold notP at this
    unfold isP
    rw [e]
    simp at this ⊢
    intro a; exact absurd a this
  · rw [if_neg e, lastOf_filter _ _ _ fun x hx => ?_]
    unfold isP at hx
    unfold notP
    simp at hx ⊢
    rw [hx.1]; exact e
theorem lastOf_notF (h h' : ByteArray) (l : List FR) : lastOf (isH h') (l.filter (notF h)) = if h' = h then none else lastOf (isH h') l := by
  by_cases e : h' = h
  · rw [if_pos e, lastOf_none fun x hx => ?_]
    have := (List.mem_filter.1 hx).2
    unfold notF at this
    rw [e]; simpa using this
  · rw [if_neg e, lastOf_filter _ _ _ fun x hx => ?_]
    unfold isH at hx
    unfold notF isH
    simp at hx ⊢
    rw [hx]; exact e
theorem Rel.drop {C : CS} {r : RC} (R : Rel C r) (h : ByteArray) : ∀ h' k, C.pm.drop h h' k = (lastOf (isP h' k) (r.pl.filter (notP h))).map PR.x := fun h' k => by
  rw [lastOf_notP]
  unfold PM.drop
  by_cases e : h' = h
  · rw [if_pos e, if_pos e]; rfl
  · rw [if_neg e, if_neg e]; exact R.p h' k
theorem Rel.forget {C : CS} {r : RC} (R : Rel C r) (h : ByteArray) : Rel { C with fm := C.fm.del h, nm := C.nm.drop h, pm := C.pm.drop h } ⟨r.b, r.age, r.fl.filter (notF h), keepN h r.nl, r.pl.filter (notP h)⟩ := by
  refine ⟨R.age, fun h' => ?_, fun d s => ?_, R.drop h, fun x hx => R.rf x (List.mem_filter.1 hx).1, fun x hx => R.rn x (keepN_mem h _ x hx)⟩
  · show FM.del C.fm h h' = _
    rw [lastOf_notF]
    unfold FM.del
    by_cases e : h' = h
    · rw [if_pos e, if_pos e]; rfl
    · rw [if_neg e, if_neg e]; exact R.f h'
  · show NM.drop C.nm h d s = _
    dsimp only
    rw [lastOf_keepN]
    unfold NM.drop
    rw [R.n d s]
    cases hl : lastOf (isN d s) r.nl with
    | none => rfl
    | some q =>
      obtain ⟨e1, e2⟩ := isN_eq (lastOf_some hl).2
      simp only [Option.map_some]
      rw [e1]
      by_cases hb : d = h ∨ q.h = h
      · rw [if_pos hb, if_pos hb]; rfl
      · rw [if_neg hb, if_neg hb]; rfl
/-- did the bytes change, in the document -/
def RC.chd (r : RC) (f : FR) : Bool := match lastOf (isH f.h) r.fl with | some x => !(decide (x.size = f.size) && (decide (x.s = f.s) && decide (x.n = f.n))) | none => false
def RC.learn (r : RC) (f : FR) : RC := { r with fl := r.fl ++ [f], pl := if r.chd f = true then r.pl.filter (notP f.h) else r.pl }
theorem Rel.chd {C : CS} {r : RC} (R : Rel C r) (f : FR) : changed (C.fm f.h) f.size f.s f.n = r.chd f := by
  rw [R.f f.h]
  unfold changed RC.chd
  cases lastOf (isH f.h) r.fl <;> rfl
theorem Rel.learn {C : CS} {r : RC} (R : Rel C r) (f : FR) (hn : inI f.now) : Rel (C.learn f.h f.size f.id f.s f.n f.now) (r.learn f) := by
  refine ⟨R.age, fun h => ?_, R.n, fun h k => ?_, fun x hx => ?_, R.rn⟩
  · show FM.set C.fm f.h _ h = (lastOf (isH h) (r.fl ++ [f])).map FR.fv
    rw [lastOf_snoc]
    unfold FM.set
    by_cases e : h = f.h
    · rw [if_pos e, if_pos (by unfold isH; simp [e])]; rfl
    · rw [if_neg e, if_neg (by unfold isH; simp; exact fun a => e a.symm)]; exact R.f h
  · show (if changed (C.fm f.h) f.size f.s f.n = true then C.pm.drop f.h else C.pm) h k = (lastOf (isP h k) (if r.chd f = true then r.pl.filter (notP f.h) else r.pl)).map PR.x
    rw [R.chd f]
    by_cases e : r.chd f = true
    · rw [if_pos e, if_pos e]; exact R.drop f.h h k
    · rw [if_neg e, if_neg e]; exact R.p h k
  · rcases List.mem_append.1 (show x ∈ r.fl ++ [f] from hx) with hx | hx
    · exact R.rf x hx
    · rw [List.mem_singleton] at hx; subst hx; exact hn
theorem Rel.attr {C : CS} {r : RC} (R : Rel C r) (h : ByteArray) (now : Int) : (C.attrOf h now).2 = (r.attr h now).2 ∧ (C.attrOf h now).1 = if (r.attr h now).2 = true then attrC (r.attr h now).1.size (r.attr h now).1.id (r.attr h now).1.s (r.attr h now).1.n else attrC 0 0 0 0 := by
  unfold CS.attrOf RC.attr
  rw [R.f h, R.age]
  cases lastOf (isH h) r.fl with
  | none => exact ⟨rfl, rfl⟩
  | some x =>
    simp only [Option.map_some]
    show (if freshB r.age now x.now = true then _ else _ : Array Value × Bool).2 = _ ∧ _
    cases hf : freshB r.age now x.now with
    | true => exact ⟨rfl, by rw [show freshB r.age now x.fv.now = true from hf]; rfl⟩
    | false => exact ⟨rfl, by rw [show freshB r.age now x.fv.now = false from hf]; rfl⟩
theorem Rel.name {C : CS} {r : RC} (R : Rel C r) (d s : ByteArray) (now : Int) : C.nameOf d s now = r.look d s now := by
  unfold CS.nameOf RC.look
  rw [R.n d s, R.age]
  cases lastOf (isN d s) r.nl with
  | none => rfl
  | some x => rfl
theorem Rel.piece {C : CS} {r : RC} (R : Rel C r) (h : ByteArray) (k : Int) : ((C.pm h k).getD ByteArray.empty, (C.pm h k).isSome) = r.get h k := by
  unfold RC.get
  rw [R.p h k]
  cases lastOf (isP h k) r.pl <;> rfl
set_option maxRecDepth 100000 in
set_option maxHeartbeats 8000000 in
theorem reflearn_ok (r : RC) (f : FR) (hn : inI f.now) (ha : 0 ≤ r.age) (ha2 : inI r.age) (hm : ∀ x ∈ r.fl, inI x.now) (hfl : r.fl.length ≤ 1000000000000) (hpp : r.pl.length ≤ 1000000000000) {w0 w : World} {F : List Assn} (H : St w0 w (RCx r :: F)) :
    Calls Try.prog 17 #[.pointer (some ⟨r.b, 0, none⟩), .agg f.cells.toArray] w fun e w' => e = .returned (.bool (r.chd f)) ∧ St w0 w' (RCx (r.learn f) :: F) := by
  have H1 := (H.alloc f.cells.toArray 48).r2
  have q0 := H1.r2.cell 0 (v := .string f.h) rfl
  have q5 := H1.r2.cell 5 (v := .int .i64 f.now) rfl
  have hat := refattr_ok r f.h f.now hn ha ha2 hm H1
  obtain ⟨at_, hatt⟩ : ∃ a, a = r.attr f.h f.now := ⟨_, rfl⟩
  rw [← hatt] at hat
  have hnone : decide (at_.1.h = f.h) = false → r.chd f = false := fun he => by
    unfold RC.chd
    cases hl : lastOf (isH f.h) r.fl with
    | none => rfl
    | some x =>
      exfalso
      have hx : at_.1 = x := by rw [hatt]; unfold RC.attr; rw [hl]
      have := (lastOf_some hl).2
      unfold isH at this
      rw [hx, this] at he
      cases he
  have hany : r.fl.any (isH f.h) = false → r.chd f = false := fun he => by
    unfold RC.chd
    rw [lastOf_none fun x hx => ?_]
    cases hp : isH f.h x with
    | false => rfl
    | true => rw [List.any_eq_true.2 ⟨x, hx, hp⟩] at he; cases he
  have hsom : r.fl.any (isH f.h) = true → r.chd f = !(decide (at_.1.size = f.size) && (decide (at_.1.s = f.s) && decide (at_.1.n = f.n))) := fun he => by
    unfold RC.chd
    cases hl : lastOf (isH f.h) r.fl with
    | none =>
      exfalso
      obtain ⟨x, hx, hp⟩ := List.any_eq_true.1 he
      unfold lastOf at hl
      exact List.find?_eq_none.1 hl x (List.mem_reverse.2 hx) hp
    | some x =>
      have hx : at_.1 = x := by rw [hatt]; unfold RC.attr; rw [hl]
      rw [hx]
  have HAT := Lib.hid hat; have HNONE := Lib.hid hnone; have HANY := Lib.hid hany; have HSOME := Lib.hid hsom; clear hat hatt hnone hany hsom
  obtain ⟨i0, hi, hz0, hz1, hz2⟩ := info_parts infoF
  go_enter Try.func17, Try.ntmps17
  go_wp2_with (fail)
  refine HAT.out.mono ?_
  clear HAT q0 q5
  rintro e w1 ⟨rfl, H2⟩
  have HZ := H2.alloc zC 48
  go_wp2_with (with_reducible refine hold_store ?_)
  unfold Hold
  with_reducible refine wpList_store_st (ty := 48) (HZ) (at_.1.cells.toArray) ?_ ?_ ?_ ?_ ?_ ?_ ?_
  rfl
  rfl
  rfl
  rfl
  kernel_rfl
  rfl
  intro w2 H3
  clear HZ H2
  generalize w.heap.size = b6 at *
  generalize w1.heap.size = b5 at *
  have H4 := H3.r2
  clear H3
  have z0 := H4.r2.cell 0 (v := .string at_.1.h) rfl
  have y0 := H4.r3.cell 0 (v := .string f.h) rfl
  have ht := tl at_.1.h f.h
  cases he : decide (at_.1.h = f.h) with
  | false =>
    rw [he] at ht
    go_wp2_with (fail)
    have hchd : r.chd f = false := HNONE.out he
    have hle : r.learn f = { r with fl := r.fl ++ [f], pl := if false = true then r.pl.filter (notP f.h) else r.pl } := by unfold RC.learn; rw [hchd]
    try rw [if_neg (by decide)] at hle
    try rw [if_pos rfl] at hle
    have HCH := Lib.hid hchd; have HLE := Lib.hid hle; clear hchd hle
    obtain ⟨A1, c1, A2, c2, A3, c3, H5⟩ := St.openR H4
    clear H4
    refine wp_region_held_drew (S := fun w' => w'.rangeAt b6 0 [.string f.h, .int .i64 f.size, .int .i64 f.s, .int .i64 f.n, .int .i64 f.id, .int .i64 f.now]) (by kernel_rfl) (show _ from (H5.ord 6 [5, 0, 1, 2, 3, 4]).range) (fun hHeld => ?_)
    have H6 := H5.drew
    clear H5
    generalize w2.drew = wa at *
    refine rg_take (i := 0) (v := ?_) rfl (by kernel_rfl) (by kernel_rfl) (by kernel_rfl) (fun _ _ _ h => h) (Or.inl ⟨by kernel_rfl, ?_⟩) (by assumption) ?_
    rotate_left 1
    · intro w' hSw
      try dsimp only at hSw
      go_simp
      first | done | with_reducible rfl
    simp only [Act.put, List.setIfInBounds_toArray, List.set_cons_zero, List.set_cons_succ]
    refine rg_take (i := 1) (v := ?_) rfl (by kernel_rfl) (by kernel_rfl) (by kernel_rfl) (fun _ _ _ h => h) (Or.inl ⟨by kernel_rfl, ?_⟩) (by assumption) ?_
    rotate_left 1
    · intro w' hSw
      try dsimp only at hSw
      go_simp
      first | done | with_reducible rfl
    simp only [Act.put, List.setIfInBounds_toArray, List.set_cons_zero, List.set_cons_succ]
    refine rg_take (i := 2) (v := ?_) rfl (by kernel_rfl) (by kernel_rfl) (by kernel_rfl) (fun _ _ _ h => h) (Or.inl ⟨by kernel_rfl, ?_⟩) (by assumption) ?_
    rotate_left 1
    · intro w' hSw
      try dsimp only at hSw
      go_simp
      first | done | with_reducible rfl
    simp only [Act.put, List.setIfInBounds_toArray, List.set_cons_zero, List.set_cons_succ]
    refine rg_take (i := 3) (v := ?_) rfl (by kernel_rfl) (by kernel_rfl) (by kernel_rfl) (fun _ _ _ h => h) (Or.inl ⟨by kernel_rfl, ?_⟩) (by assumption) ?_
    rotate_left 1
    · intro w' hSw
      try dsimp only at hSw
      go_simp
      first | done | with_reducible rfl
    simp only [Act.put, List.setIfInBounds_toArray, List.set_cons_zero, List.set_cons_succ]
    refine rg_take (i := 5) (v := _) rfl (by kernel_rfl) (by kernel_rfl) (by kernel_rfl) (fun _ _ _ h => h) (yieldsIf_load_mid (by kernel_rfl) 48 _ rfl b6 0 rfl [.string f.h, .int .i64 f.size, .int .i64 f.s, .int .i64 f.n, .int .i64 f.id, .int .i64 f.now] _ (fun w' h => h) Try.underlying48 rfl (by kernel_rfl)) hHeld ?_
    simp only [Act.put, List.setIfInBounds_toArray, List.set_cons_zero, List.set_cons_succ]
    refine wpAnyH_ready (rs := [4, 6]) (by kernel_rfl) (by simp) ?_
    refine rg_cons rfl (fun K hK => ?_) (rg_cons rfl (fun K hK => ?_) AllReadyH.nil)
    · have p1 := H6.cell 1 (v := .slice A1 r.fl.length c1) rfl
      go_simp
      refine hK.out _ _ hHeld (fun hHeld => ?_)
      clear hK
      try simp only [Act.put, List.setIfInBounds_toArray, List.set_cons_zero, List.set_cons_succ]
      clear p1
      refine wpAnyH_ready (rs := [6]) (by kernel_rfl) (by simp) ?_
      refine rg_cons rfl (fun K hK => ?_) AllReadyH.nil
      have H7 := H6.more (.cells #[.string f.h, .int .i64 f.size, .int .i64 f.s, .int .i64 f.n, .int .i64 f.id, .int .i64 f.now] 48)
      have hnw : (wa.alloc (.cells #[.string f.h, .int .i64 f.size, .int .i64 f.s, .int .i64 f.n, .int .i64 f.id, .int .i64 f.now] 48)).heap[wa.heap.size]? = some (.cells #[.string f.h, .int .i64 f.size, .int .i64 f.s, .int .i64 f.n, .int .i64 f.id, .int .i64 f.now] 48) := heap_alloc_new _ _
      go_simp
      refine hK.out _ _ (show _ from (H7.ord 6 [5, 0, 1, 2, 3, 4]).range) (fun hHeld => ?_)
      generalize wa.heap.size = x8 at *
      generalize wa.alloc (.cells #[.string f.h, .int .i64 f.size, .int .i64 f.s, .int .i64 f.n, .int .i64 f.id, .int .i64 f.now] 48) = wb at *
      clear hK
      try simp only [Act.put, List.setIfInBounds_toArray, List.set_cons_zero, List.set_cons_succ]
      clear H6
      refine wpAnyH_ready (rs := [7]) (by kernel_rfl) (by simp) ?_
      refine rg_cons rfl (fun K hK => ?_) AllReadyH.nil
      have hnws := World.news_of_block hnw
      refine step_append_st rfl _ _ _ rfl 48 i0 (.agg #[.string ⟨#[]⟩, .int .i64 0, .int .i64 0, .int .i64 0, .int .i64 0, .int .i64 0]) 6 56 Try.underlying53 hi hz0 hz1 hz2 rfl (by decide) A1 r.fl.length c1 (r.fl.flatMap FR.cells) H7.r2 rfl ⟨x8, 0, none⟩ 1 1 f.cells rfl rfl hnws (fun u hu => by simp [FR.cells] at hu; rcases hu with rfl | rfl | rfl | rfl | rfl | rfl <;> rfl) (by unfold maxLen; omega) (by omega) ?_
      intro A5 c5 wc H8
      rw [← flat_snoc] at H8
      refine hK.out _ _ (show _ from (H8.ord 6 [5, 0, 1, 2, 3, 4]).range) (fun hHeld => ?_)
      clear hK
      try simp only [Act.put, List.setIfInBounds_toArray, List.set_cons_zero, List.set_cons_succ]
      refine rg_take (i := 8) (v := ?_) rfl (by kernel_rfl) (by kernel_rfl) (by kernel_rfl) (fun _ _ _ h => h) (Or.inl ⟨by kernel_rfl, ?_⟩) (by assumption) ?_
      rotate_left 1
      · intro w' hSw
        try dsimp only at hSw
        go_simp
        first | done | with_reducible rfl
      simp only [Act.put, List.setIfInBounds_toArray, List.set_cons_zero, List.set_cons_succ]
      refine rg_take (i := 9) (v := ?_) rfl (by kernel_rfl) (by kernel_rfl) (by kernel_rfl) (fun _ _ _ h => h) (Or.inl ⟨by kernel_rfl, ?_⟩) (by assumption) ?_
      rotate_left 1
      · intro w' hSw
        try dsimp only at hSw
        go_simp
        first | done | with_reducible rfl
      simp only [Act.put, List.setIfInBounds_toArray, List.set_cons_zero, List.set_cons_succ]
      refine wpAnyH_ready (rs := [10]) (by kernel_rfl) (by simp) ?_
      refine rg_cons rfl (fun K hK => ?_) AllReadyH.nil
      have p1 := H8.r2.cell 1 (v := .slice A1 r.fl.length c1) rfl
      have f1 := H8.r2.frozen 1
      have H9 := H8.r2.set 1 (.slice A5 (r.fl.length + 1) c5)
      go_simp
      refine hK.out _ _ (show _ from (H9.ord 6 [5, 0, 1, 2, 3, 4]).range) (fun hHeld => ?_)
      clear hK
      try simp only [Act.put, List.setIfInBounds_toArray, List.set_cons_zero, List.set_cons_succ]
      refine wpAnyH_done (by kernel_rfl) ?_ _
      clear hHeld
      have H10 : St w0 _ (RCx { r with fl := r.fl ++ [f] } :: Pt b5 at_.1.cells.toArray 48 :: Pt b6 f.cells.toArray 48 :: F) := St.shutR (r := { r with fl := r.fl ++ [f] }) (n1 := r.fl.length + 1) (by simp) rfl rfl H9
      generalize wc.setCell ⟨r.b, 1, none⟩ (.slice A5 (r.fl.length + 1) c5) = wd at *
      clear p1 f1 H9 H8 H7 hnw hnws
      have q0 := H10.r3.cell 0 (v := .string f.h) rfl
      have q1 := H10.r3.cell 1 (v := .int .i64 f.size) rfl
      have q2 := H10.r3.cell 2 (v := .int .i64 f.s) rfl
      have q3 := H10.r3.cell 3 (v := .int .i64 f.n) rfl
      have z1 := H10.r2.cell 1 (v := .int .i64 at_.1.size) rfl
      have z2 := H10.r2.cell 2 (v := .int .i64 at_.1.s) rfl
      have z3 := H10.r2.cell 3 (v := .int .i64 at_.1.n) rfl
      go_wp2_with (fail)
      go_ret
      exact ⟨by rw [HCH.out]; rfl, by rw [HLE.out]; exact (H10.ord 3 [1, 2, 0]).tail.tail⟩
    · have H7 := H6.more (.cells #[.string f.h, .int .i64 f.size, .int .i64 f.s, .int .i64 f.n, .int .i64 f.id, .int .i64 f.now] 48)
      have hnw : (wa.alloc (.cells #[.string f.h, .int .i64 f.size, .int .i64 f.s, .int .i64 f.n, .int .i64 f.id, .int .i64 f.now] 48)).heap[wa.heap.size]? = some (.cells #[.string f.h, .int .i64 f.size, .int .i64 f.s, .int .i64 f.n, .int .i64 f.id, .int .i64 f.now] 48) := heap_alloc_new _ _
      go_simp
      refine hK.out _ _ (show _ from (H7.ord 6 [5, 0, 1, 2, 3, 4]).range) (fun hHeld => ?_)
      generalize wa.heap.size = x8 at *
      generalize wa.alloc (.cells #[.string f.h, .int .i64 f.size, .int .i64 f.s, .int .i64 f.n, .int .i64 f.id, .int .i64 f.now] 48) = wb at *
      clear hK
      try simp only [Act.put, List.setIfInBounds_toArray, List.set_cons_zero, List.set_cons_succ]
      clear H6
      refine wpAnyH_ready (rs := [4]) (by kernel_rfl) (by simp) ?_
      refine rg_cons rfl (fun K hK => ?_) AllReadyH.nil
      have p1 := H7.cell 1 (v := .slice A1 r.fl.length c1) rfl
      go_simp
      refine hK.out _ _ hHeld (fun hHeld => ?_)
      clear hK
      try simp only [Act.put, List.setIfInBounds_toArray, List.set_cons_zero, List.set_cons_succ]
      clear p1
      refine wpAnyH_ready (rs := [7]) (by kernel_rfl) (by simp) ?_
      refine rg_cons rfl (fun K hK => ?_) AllReadyH.nil
      have hnws := World.news_of_block hnw
      refine step_append_st rfl _ _ _ rfl 48 i0 (.agg #[.string ⟨#[]⟩, .int .i64 0, .int .i64 0, .int .i64 0, .int .i64 0, .int .i64 0]) 6 56 Try.underlying53 hi hz0 hz1 hz2 rfl (by decide) A1 r.fl.length c1 (r.fl.flatMap FR.cells) H7.r2 rfl ⟨x8, 0, none⟩ 1 1 f.cells rfl rfl hnws (fun u hu => by simp [FR.cells] at hu; rcases hu with rfl | rfl | rfl | rfl | rfl | rfl <;> rfl) (by unfold maxLen; omega) (by omega) ?_
      intro A5 c5 wc H8
      rw [← flat_snoc] at H8
      refine hK.out _ _ (show _ from (H8.ord 6 [5, 0, 1, 2, 3, 4]).range) (fun hHeld => ?_)
      clear hK
      try simp only [Act.put, List.setIfInBounds_toArray, List.set_cons_zero, List.set_cons_succ]
      refine rg_take (i := 8) (v := ?_) rfl (by kernel_rfl) (by kernel_rfl) (by kernel_rfl) (fun _ _ _ h => h) (Or.inl ⟨by kernel_rfl, ?_⟩) (by assumption) ?_
      rotate_left 1
      · intro w' hSw
        try dsimp only at hSw
        go_simp
        first | done | with_reducible rfl
      simp only [Act.put, List.setIfInBounds_toArray, List.set_cons_zero, List.set_cons_succ]
      refine rg_take (i := 9) (v := ?_) rfl (by kernel_rfl) (by kernel_rfl) (by kernel_rfl) (fun _ _ _ h => h) (Or.inl ⟨by kernel_rfl, ?_⟩) (by assumption) ?_
      rotate_left 1
      · intro w' hSw
        try dsimp only at hSw
        go_simp
        first | done | with_reducible rfl
      simp only [Act.put, List.setIfInBounds_toArray, List.set_cons_zero, List.set_cons_succ]
      refine wpAnyH_ready (rs := [10]) (by kernel_rfl) (by simp) ?_
      refine rg_cons rfl (fun K hK => ?_) AllReadyH.nil
      have p1 := H8.r2.cell 1 (v := .slice A1 r.fl.length c1) rfl
      have f1 := H8.r2.frozen 1
      have H9 := H8.r2.set 1 (.slice A5 (r.fl.length + 1) c5)
      go_simp
      refine hK.out _ _ (show _ from (H9.ord 6 [5, 0, 1, 2, 3, 4]).range) (fun hHeld => ?_)
      clear hK
      try simp only [Act.put, List.setIfInBounds_toArray, List.set_cons_zero, List.set_cons_succ]
      refine wpAnyH_done (by kernel_rfl) ?_ _
      clear hHeld
      have H10 : St w0 _ (RCx { r with fl := r.fl ++ [f] } :: Pt b5 at_.1.cells.toArray 48 :: Pt b6 f.cells.toArray 48 :: F) := St.shutR (r := { r with fl := r.fl ++ [f] }) (n1 := r.fl.length + 1) (by simp) rfl rfl H9
      generalize wc.setCell ⟨r.b, 1, none⟩ (.slice A5 (r.fl.length + 1) c5) = wd at *
      clear p1 f1 H9 H8 H7 hnw hnws
      have q0 := H10.r3.cell 0 (v := .string f.h) rfl
      have q1 := H10.r3.cell 1 (v := .int .i64 f.size) rfl
      have q2 := H10.r3.cell 2 (v := .int .i64 f.s) rfl
      have q3 := H10.r3.cell 3 (v := .int .i64 f.n) rfl
      have z1 := H10.r2.cell 1 (v := .int .i64 at_.1.size) rfl
      have z2 := H10.r2.cell 2 (v := .int .i64 at_.1.s) rfl
      have z3 := H10.r2.cell 3 (v := .int .i64 at_.1.n) rfl
      go_wp2_with (fail)
      go_ret
      exact ⟨by rw [HCH.out]; rfl, by rw [HLE.out]; exact (H10.ord 3 [1, 2, 0]).tail.tail⟩
  | true =>
    rw [he] at ht
    have hkn := known_ok r f.h H4
    obtain ⟨kb, hkb⟩ : ∃ kb, kb = r.fl.any (isH f.h) := ⟨_, rfl⟩
    rw [← hkb] at hkn
    have HKN := Lib.hid hkn; have HKB := Lib.hid hkb; clear hkn hkb
    go_wp2_with (fail)
    refine HKN.out.mono ?_
    clear HKN
    rintro e w3 ⟨rfl, rfl⟩
    cases kb with
    | false =>
      go_wp2_with (fail)
      have hchd : r.chd f = false := HANY.out HKB.out.symm
      have hle : r.learn f = { r with fl := r.fl ++ [f], pl := if false = true then r.pl.filter (notP f.h) else r.pl } := by unfold RC.learn; rw [hchd]
      try rw [if_neg (by decide)] at hle
      try rw [if_pos rfl] at hle
      have HCH := Lib.hid hchd; have HLE := Lib.hid hle; clear hchd hle
      obtain ⟨A1, c1, A2, c2, A3, c3, H5⟩ := St.openR H4
      clear H4
      refine wp_region_held_drew (S := fun w' => w'.rangeAt b6 0 [.string f.h, .int .i64 f.size, .int .i64 f.s, .int .i64 f.n, .int .i64 f.id, .int .i64 f.now]) (by kernel_rfl) (show _ from (H5.ord 6 [5, 0, 1, 2, 3, 4]).range) (fun hHeld => ?_)
      have H6 := H5.drew
      clear H5
      generalize w3.drew = wa at *
      refine rg_take (i := 0) (v := ?_) rfl (by kernel_rfl) (by kernel_rfl) (by kernel_rfl) (fun _ _ _ h => h) (Or.inl ⟨by kernel_rfl, ?_⟩) (by assumption) ?_
      rotate_left 1
      · intro w' hSw
        try dsimp only at hSw
        go_simp
        first | done | with_reducible rfl
      simp only [Act.put, List.setIfInBounds_toArray, List.set_cons_zero, List.set_cons_succ]
      refine rg_take (i := 1) (v := ?_) rfl (by kernel_rfl) (by kernel_rfl) (by kernel_rfl) (fun _ _ _ h => h) (Or.inl ⟨by kernel_rfl, ?_⟩) (by assumption) ?_
      rotate_left 1
      · intro w' hSw
        try dsimp only at hSw
        go_simp
        first | done | with_reducible rfl
      simp only [Act.put, List.setIfInBounds_toArray, List.set_cons_zero, List.set_cons_succ]
      refine rg_take (i := 2) (v := ?_) rfl (by kernel_rfl) (by kernel_rfl) (by kernel_rfl) (fun _ _ _ h => h) (Or.inl ⟨by kernel_rfl, ?_⟩) (by assumption) ?_
      rotate_left 1
      · intro w' hSw
        try dsimp only at hSw
        go_simp
        first | done | with_reducible rfl
      simp only [Act.put, List.setIfInBounds_toArray, List.set_cons_zero, List.set_cons_succ]
      refine rg_take (i := 3) (v := ?_) rfl (by kernel_rfl) (by kernel_rfl) (by kernel_rfl) (fun _ _ _ h => h) (Or.inl ⟨by kernel_rfl, ?_⟩) (by assumption) ?_
      rotate_left 1
      · intro w' hSw
        try dsimp only at hSw
        go_simp
        first | done | with_reducible rfl
      simp only [Act.put, List.setIfInBounds_toArray, List.set_cons_zero, List.set_cons_succ]
      refine rg_take (i := 5) (v := _) rfl (by kernel_rfl) (by kernel_rfl) (by kernel_rfl) (fun _ _ _ h => h) (yieldsIf_load_mid (by kernel_rfl) 48 _ rfl b6 0 rfl [.string f.h, .int .i64 f.size, .int .i64 f.s, .int .i64 f.n, .int .i64 f.id, .int .i64 f.now] _ (fun w' h => h) Try.underlying48 rfl (by kernel_rfl)) hHeld ?_
      simp only [Act.put, List.setIfInBounds_toArray, List.set_cons_zero, List.set_cons_succ]
      refine wpAnyH_ready (rs := [4, 6]) (by kernel_rfl) (by simp) ?_
      refine rg_cons rfl (fun K hK => ?_) (rg_cons rfl (fun K hK => ?_) AllReadyH.nil)
      · have p1 := H6.cell 1 (v := .slice A1 r.fl.length c1) rfl
        go_simp
        refine hK.out _ _ hHeld (fun hHeld => ?_)
        clear hK
        try simp only [Act.put, List.setIfInBounds_toArray, List.set_cons_zero, List.set_cons_succ]
        clear p1
        refine wpAnyH_ready (rs := [6]) (by kernel_rfl) (by simp) ?_
        refine rg_cons rfl (fun K hK => ?_) AllReadyH.nil
        have H7 := H6.more (.cells #[.string f.h, .int .i64 f.size, .int .i64 f.s, .int .i64 f.n, .int .i64 f.id, .int .i64 f.now] 48)
        have hnw : (wa.alloc (.cells #[.string f.h, .int .i64 f.size, .int .i64 f.s, .int .i64 f.n, .int .i64 f.id, .int .i64 f.now] 48)).heap[wa.heap.size]? = some (.cells #[.string f.h, .int .i64 f.size, .int .i64 f.s, .int .i64 f.n, .int .i64 f.id, .int .i64 f.now] 48) := heap_alloc_new _ _
        go_simp
        refine hK.out _ _ (show _ from (H7.ord 6 [5, 0, 1, 2, 3, 4]).range) (fun hHeld => ?_)
        generalize wa.heap.size = x8 at *
        generalize wa.alloc (.cells #[.string f.h, .int .i64 f.size, .int .i64 f.s, .int .i64 f.n, .int .i64 f.id, .int .i64 f.now] 48) = wb at *
        clear hK
        try simp only [Act.put, List.setIfInBounds_toArray, List.set_cons_zero, List.set_cons_succ]
        clear H6
        refine wpAnyH_ready (rs := [7]) (by kernel_rfl) (by simp) ?_
        refine rg_cons rfl (fun K hK => ?_) AllReadyH.nil
        have hnws := World.news_of_block hnw
        refine step_append_st rfl _ _ _ rfl 48 i0 (.agg #[.string ⟨#[]⟩, .int .i64 0, .int .i64 0, .int .i64 0, .int .i64 0, .int .i64 0]) 6 56 Try.underlying53 hi hz0 hz1 hz2 rfl (by decide) A1 r.fl.length c1 (r.fl.flatMap FR.cells) H7.r2 rfl ⟨x8, 0, none⟩ 1 1 f.cells rfl rfl hnws (fun u hu => by simp [FR.cells] at hu; rcases hu with rfl | rfl | rfl | rfl | rfl | rfl <;> rfl) (by unfold maxLen; omega) (by omega) ?_
        intro A5 c5 wc H8
        rw [← flat_snoc] at H8
        refine hK.out _ _ (show _ from (H8.ord 6 [5, 0, 1, 2, 3, 4]).range) (fun hHeld => ?_)
        clear hK
        try simp only [Act.put, List.setIfInBounds_toArray, List.set_cons_zero, List.set_cons_succ]
        refine rg_take (i := 8) (v := ?_) rfl (by kernel_rfl) (by kernel_rfl) (by kernel_rfl) (fun _ _ _ h => h) (Or.inl ⟨by kernel_rfl, ?_⟩) (by assumption) ?_
        rotate_left 1
        · intro w' hSw
          try dsimp only at hSw
          go_simp
          first | done | with_reducible rfl
        simp only [Act.put, List.setIfInBounds_toArray, List.set_cons_zero, List.set_cons_succ]
        refine rg_take (i := 9) (v := ?_) rfl (by kernel_rfl) (by kernel_rfl) (by kernel_rfl) (fun _ _ _ h => h) (Or.inl ⟨by kernel_rfl, ?_⟩) (by assumption) ?_
        rotate_left 1
        · intro w' hSw
          try dsimp only at hSw
          go_simp
          first | done | with_reducible rfl
        simp only [Act.put, List.setIfInBounds_toArray, List.set_cons_zero, List.set_cons_succ]
        refine wpAnyH_ready (rs := [10]) (by kernel_rfl) (by simp) ?_
        refine rg_cons rfl (fun K hK => ?_) AllReadyH.nil
        have p1 := H8.r2.cell 1 (v := .slice A1 r.fl.length c1) rfl
        have f1 := H8.r2.frozen 1
        have H9 := H8.r2.set 1 (.slice A5 (r.fl.length + 1) c5)
        go_simp
        refine hK.out _ _ (show _ from (H9.ord 6 [5, 0, 1, 2, 3, 4]).range) (fun hHeld => ?_)
        clear hK
        try simp only [Act.put, List.setIfInBounds_toArray, List.set_cons_zero, List.set_cons_succ]
        refine wpAnyH_done (by kernel_rfl) ?_ _
        clear hHeld
        have H10 : St w0 _ (RCx { r with fl := r.fl ++ [f] } :: Pt b5 at_.1.cells.toArray 48 :: Pt b6 f.cells.toArray 48 :: F) := St.shutR (r := { r with fl := r.fl ++ [f] }) (n1 := r.fl.length + 1) (by simp) rfl rfl H9
        generalize wc.setCell ⟨r.b, 1, none⟩ (.slice A5 (r.fl.length + 1) c5) = wd at *
        clear p1 f1 H9 H8 H7 hnw hnws
        have q0 := H10.r3.cell 0 (v := .string f.h) rfl
        have q1 := H10.r3.cell 1 (v := .int .i64 f.size) rfl
        have q2 := H10.r3.cell 2 (v := .int .i64 f.s) rfl
        have q3 := H10.r3.cell 3 (v := .int .i64 f.n) rfl
        have z1 := H10.r2.cell 1 (v := .int .i64 at_.1.size) rfl
        have z2 := H10.r2.cell 2 (v := .int .i64 at_.1.s) rfl
        have z3 := H10.r2.cell 3 (v := .int .i64 at_.1.n) rfl
        go_wp2_with (fail)
        go_ret
        exact ⟨by rw [HCH.out]; rfl, by rw [HLE.out]; exact (H10.ord 3 [1, 2, 0]).tail.tail⟩
      · have H7 := H6.more (.cells #[.string f.h, .int .i64 f.size, .int .i64 f.s, .int .i64 f.n, .int .i64 f.id, .int .i64 f.now] 48)
        have hnw : (wa.alloc (.cells #[.string f.h, .int .i64 f.size, .int .i64 f.s, .int .i64 f.n, .int .i64 f.id, .int .i64 f.now] 48)).heap[wa.heap.size]? = some (.cells #[.string f.h, .int .i64 f.size, .int .i64 f.s, .int .i64 f.n, .int .i64 f.id, .int .i64 f.now] 48) := heap_alloc_new _ _
        go_simp
        refine hK.out _ _ (show _ from (H7.ord 6 [5, 0, 1, 2, 3, 4]).range) (fun hHeld => ?_)
        generalize wa.heap.size = x8 at *
        generalize wa.alloc (.cells #[.string f.h, .int .i64 f.size, .int .i64 f.s, .int .i64 f.n, .int .i64 f.id, .int .i64 f.now] 48) = wb at *
        clear hK
        try simp only [Act.put, List.setIfInBounds_toArray, List.set_cons_zero, List.set_cons_succ]
        clear H6
        refine wpAnyH_ready (rs := [4]) (by kernel_rfl) (by simp) ?_
        refine rg_cons rfl (fun K hK => ?_) AllReadyH.nil
        have p1 := H7.cell 1 (v := .slice A1 r.fl.length c1) rfl
        go_simp
        refine hK.out _ _ hHeld (fun hHeld => ?_)
        clear hK
        try simp only [Act.put, List.setIfInBounds_toArray, List.set_cons_zero, List.set_cons_succ]
        clear p1
        refine wpAnyH_ready (rs := [7]) (by kernel_rfl) (by simp) ?_
        refine rg_cons rfl (fun K hK => ?_) AllReadyH.nil
        have hnws := World.news_of_block hnw
        refine step_append_st rfl _ _ _ rfl 48 i0 (.agg #[.string ⟨#[]⟩, .int .i64 0, .int .i64 0, .int .i64 0, .int .i64 0, .int .i64 0]) 6 56 Try.underlying53 hi hz0 hz1 hz2 rfl (by decide) A1 r.fl.length c1 (r.fl.flatMap FR.cells) H7.r2 rfl ⟨x8, 0, none⟩ 1 1 f.cells rfl rfl hnws (fun u hu => by simp [FR.cells] at hu; rcases hu with rfl | rfl | rfl | rfl | rfl | rfl <;> rfl) (by unfold maxLen; omega) (by omega) ?_
        intro A5 c5 wc H8
        rw [← flat_snoc] at H8
        refine hK.out _ _ (show _ from (H8.ord 6 [5, 0, 1, 2, 3, 4]).range) (fun hHeld => ?_)
        clear hK
        try simp only [Act.put, List.setIfInBounds_toArray, List.set_cons_zero, List.set_cons_succ]
        refine rg_take (i := 8) (v := ?_) rfl (by kernel_rfl) (by kernel_rfl) (by kernel_rfl) (fun _ _ _ h => h) (Or.inl ⟨by kernel_rfl, ?_⟩) (by assumption) ?_
        rotate_left 1
        · intro w' hSw
          try dsimp only at hSw
          go_simp
          first | done | with_reducible rfl
        simp only [Act.put, List.setIfInBounds_toArray, List.set_cons_zero, List.set_cons_succ]
        refine rg_take (i := 9) (v := ?_) rfl (by kernel_rfl) (by kernel_rfl) (by kernel_rfl) (fun _ _ _ h => h) (Or.inl ⟨by kernel_rfl, ?_⟩) (by assumption) ?_
        rotate_left 1
        · intro w' hSw
          try dsimp only at hSw
          go_simp
          first | done | with_reducible rfl
        simp only [Act.put, List.setIfInBounds_toArray, List.set_cons_zero, List.set_cons_succ]
        refine wpAnyH_ready (rs := [10]) (by kernel_rfl) (by simp) ?_
        refine rg_cons rfl (fun K hK => ?_) AllReadyH.nil
        have p1 := H8.r2.cell 1 (v := .slice A1 r.fl.length c1) rfl
        have f1 := H8.r2.frozen 1
        have H9 := H8.r2.set 1 (.slice A5 (r.fl.length + 1) c5)
        go_simp
        refine hK.out _ _ (show _ from (H9.ord 6 [5, 0, 1, 2, 3, 4]).range) (fun hHeld => ?_)
        clear hK
        try simp only [Act.put, List.setIfInBounds_toArray, List.set_cons_zero, List.set_cons_succ]
        refine wpAnyH_done (by kernel_rfl) ?_ _
        clear hHeld
        have H10 : St w0 _ (RCx { r with fl := r.fl ++ [f] } :: Pt b5 at_.1.cells.toArray 48 :: Pt b6 f.cells.toArray 48 :: F) := St.shutR (r := { r with fl := r.fl ++ [f] }) (n1 := r.fl.length + 1) (by simp) rfl rfl H9
        generalize wc.setCell ⟨r.b, 1, none⟩ (.slice A5 (r.fl.length + 1) c5) = wd at *
        clear p1 f1 H9 H8 H7 hnw hnws
        have q0 := H10.r3.cell 0 (v := .string f.h) rfl
        have q1 := H10.r3.cell 1 (v := .int .i64 f.size) rfl
        have q2 := H10.r3.cell 2 (v := .int .i64 f.s) rfl
        have q3 := H10.r3.cell 3 (v := .int .i64 f.n) rfl
        have z1 := H10.r2.cell 1 (v := .int .i64 at_.1.size) rfl
        have z2 := H10.r2.cell 2 (v := .int .i64 at_.1.s) rfl
        have z3 := H10.r2.cell 3 (v := .int .i64 at_.1.n) rfl
        go_wp2_with (fail)
        go_ret
        exact ⟨by rw [HCH.out]; rfl, by rw [HLE.out]; exact (H10.ord 3 [1, 2, 0]).tail.tail⟩
    | true =>
      have hsome := HSOME.out HKB.out.symm
      have HSO := Lib.hid hsome; clear hsome
      by_cases e1 : at_.1.size = f.size
      · by_cases e2 : at_.1.s = f.s
        · by_cases e3 : at_.1.n = f.n
          · go_wp2_with (fail)
            have hchd : r.chd f = false := by rw [HSO.out, decide_eq_true e1, decide_eq_true e2, decide_eq_true e3]; rfl
            have hle : r.learn f = { r with fl := r.fl ++ [f], pl := if false = true then r.pl.filter (notP f.h) else r.pl } := by unfold RC.learn; rw [hchd]
            try rw [if_neg (by decide)] at hle
            try rw [if_pos rfl] at hle
            have HCH := Lib.hid hchd; have HLE := Lib.hid hle; clear hchd hle
            obtain ⟨A1, c1, A2, c2, A3, c3, H5⟩ := St.openR H4
            clear H4
            refine wp_region_held_drew (S := fun w' => w'.rangeAt b6 0 [.string f.h, .int .i64 f.size, .int .i64 f.s, .int .i64 f.n, .int .i64 f.id, .int .i64 f.now]) (by kernel_rfl) (show _ from (H5.ord 6 [5, 0, 1, 2, 3, 4]).range) (fun hHeld => ?_)
            have H6 := H5.drew
            clear H5
            generalize w3.drew = wa at *
            refine rg_take (i := 0) (v := ?_) rfl (by kernel_rfl) (by kernel_rfl) (by kernel_rfl) (fun _ _ _ h => h) (Or.inl ⟨by kernel_rfl, ?_⟩) (by assumption) ?_
            rotate_left 1
            · intro w' hSw
              try dsimp only at hSw
              go_simp
              first | done | with_reducible rfl
            simp only [Act.put, List.setIfInBounds_toArray, List.set_cons_zero, List.set_cons_succ]
            refine rg_take (i := 1) (v := ?_) rfl (by kernel_rfl) (by kernel_rfl) (by kernel_rfl) (fun _ _ _ h => h) (Or.inl ⟨by kernel_rfl, ?_⟩) (by assumption) ?_
            rotate_left 1
            · intro w' hSw
              try dsimp only at hSw
              go_simp
              first | done | with_reducible rfl
            simp only [Act.put, List.setIfInBounds_toArray, List.set_cons_zero, List.set_cons_succ]
            refine rg_take (i := 2) (v := ?_) rfl (by kernel_rfl) (by kernel_rfl) (by kernel_rfl) (fun _ _ _ h => h) (Or.inl ⟨by kernel_rfl, ?_⟩) (by assumption) ?_
            rotate_left 1
            · intro w' hSw
              try dsimp only at hSw
              go_simp
              first | done | with_reducible rfl
            simp only [Act.put, List.setIfInBounds_toArray, List.set_cons_zero, List.set_cons_succ]
            refine rg_take (i := 3) (v := ?_) rfl (by kernel_rfl) (by kernel_rfl) (by kernel_rfl) (fun _ _ _ h => h) (Or.inl ⟨by kernel_rfl, ?_⟩) (by assumption) ?_
            rotate_left 1
            · intro w' hSw
              try dsimp only at hSw
              go_simp
              first | done | with_reducible rfl
            simp only [Act.put, List.setIfInBounds_toArray, List.set_cons_zero, List.set_cons_succ]
            refine rg_take (i := 5) (v := _) rfl (by kernel_rfl) (by kernel_rfl) (by kernel_rfl) (fun _ _ _ h => h) (yieldsIf_load_mid (by kernel_rfl) 48 _ rfl b6 0 rfl [.string f.h, .int .i64 f.size, .int .i64 f.s, .int .i64 f.n, .int .i64 f.id, .int .i64 f.now] _ (fun w' h => h) Try.underlying48 rfl (by kernel_rfl)) hHeld ?_
            simp only [Act.put, List.setIfInBounds_toArray, List.set_cons_zero, List.set_cons_succ]
            refine wpAnyH_ready (rs := [4, 6]) (by kernel_rfl) (by simp) ?_
            refine rg_cons rfl (fun K hK => ?_) (rg_cons rfl (fun K hK => ?_) AllReadyH.nil)
            · have p1 := H6.cell 1 (v := .slice A1 r.fl.length c1) rfl
              go_simp
              refine hK.out _ _ hHeld (fun hHeld => ?_)
              clear hK
              try simp only [Act.put, List.setIfInBounds_toArray, List.set_cons_zero, List.set_cons_succ]
              clear p1
              refine wpAnyH_ready (rs := [6]) (by kernel_rfl) (by simp) ?_
              refine rg_cons rfl (fun K hK => ?_) AllReadyH.nil
              have H7 := H6.more (.cells #[.string f.h, .int .i64 f.size, .int .i64 f.s, .int .i64 f.n, .int .i64 f.id, .int .i64 f.now] 48)
              have hnw : (wa.alloc (.cells #[.string f.h, .int .i64 f.size, .int .i64 f.s, .int .i64 f.n, .int .i64 f.id, .int .i64 f.now] 48)).heap[wa.heap.size]? = some (.cells #[.string f.h, .int .i64 f.size, .int .i64 f.s, .int .i64 f.n, .int .i64 f.id, .int .i64 f.now] 48) := heap_alloc_new _ _
              go_simp
              refine hK.out _ _ (show _ from (H7.ord 6 [5, 0, 1, 2, 3, 4]).range) (fun hHeld => ?_)
              generalize wa.heap.size = x8 at *
              generalize wa.alloc (.cells #[.string f.h, .int .i64 f.size, .int .i64 f.s, .int .i64 f.n, .int .i64 f.id, .int .i64 f.now] 48) = wb at *
              clear hK
              try simp only [Act.put, List.setIfInBounds_toArray, List.set_cons_zero, List.set_cons_succ]
              clear H6
              refine wpAnyH_ready (rs := [7]) (by kernel_rfl) (by simp) ?_
              refine rg_cons rfl (fun K hK => ?_) AllReadyH.nil
              have hnws := World.news_of_block hnw
              refine step_append_st rfl _ _ _ rfl 48 i0 (.agg #[.string ⟨#[]⟩, .int .i64 0, .int .i64 0, .int .i64 0, .int .i64 0, .int .i64 0]) 6 56 Try.underlying53 hi hz0 hz1 hz2 rfl (by decide) A1 r.fl.length c1 (r.fl.flatMap FR.cells) H7.r2 rfl ⟨x8, 0, none⟩ 1 1 f.cells rfl rfl hnws (fun u hu => by simp [FR.cells] at hu; rcases hu with rfl | rfl | rfl | rfl | rfl | rfl <;> rfl) (by unfold maxLen; omega) (by omega) ?_
              intro A5 c5 wc H8
              rw [← flat_snoc] at H8
              refine hK.out _ _ (show _ from (H8.ord 6 [5, 0, 1, 2, 3, 4]).range) (fun hHeld => ?_)
              clear hK
              try simp only [Act.put, List.setIfInBounds_toArray, List.set_cons_zero, List.set_cons_succ]
              refine rg_take (i := 8) (v := ?_) rfl (by kernel_rfl) (by kernel_rfl) (by kernel_rfl) (fun _ _ _ h => h) (Or.inl ⟨by kernel_rfl, ?_⟩) (by assumption) ?_
              rotate_left 1
              · intro w' hSw
                try dsimp only at hSw
                go_simp
                first | done | with_reducible rfl
              simp only [Act.put, List.setIfInBounds_toArray, List.set_cons_zero, List.set_cons_succ]
              refine rg_take (i := 9) (v := ?_) rfl (by kernel_rfl) (by kernel_rfl) (by kernel_rfl) (fun _ _ _ h => h) (Or.inl ⟨by kernel_rfl, ?_⟩) (by assumption) ?_
              rotate_left 1
              · intro w' hSw
                try dsimp only at hSw
                go_simp
                first | done | with_reducible rfl
              simp only [Act.put, List.setIfInBounds_toArray, List.set_cons_zero, List.set_cons_succ]
              refine wpAnyH_ready (rs := [10]) (by kernel_rfl) (by simp) ?_
              refine rg_cons rfl (fun K hK => ?_) AllReadyH.nil
              have p1 := H8.r2.cell 1 (v := .slice A1 r.fl.length c1) rfl
              have f1 := H8.r2.frozen 1
              have H9 := H8.r2.set 1 (.slice A5 (r.fl.length + 1) c5)
              go_simp
              refine hK.out _ _ (show _ from (H9.ord 6 [5, 0, 1, 2, 3, 4]).range) (fun hHeld => ?_)
              clear hK
              try simp only [Act.put, List.setIfInBounds_toArray, List.set_cons_zero, List.set_cons_succ]
              refine wpAnyH_done (by kernel_rfl) ?_ _
              clear hHeld
              have H10 : St w0 _ (RCx { r with fl := r.fl ++ [f] } :: Pt b5 at_.1.cells.toArray 48 :: Pt b6 f.cells.toArray 48 :: F) := St.shutR (r := { r with fl := r.fl ++ [f] }) (n1 := r.fl.length + 1) (by simp) rfl rfl H9
              generalize wc.setCell ⟨r.b, 1, none⟩ (.slice A5 (r.fl.length + 1) c5) = wd at *
              clear p1 f1 H9 H8 H7 hnw hnws
              have q0 := H10.r3.cell 0 (v := .string f.h) rfl
              have q1 := H10.r3.cell 1 (v := .int .i64 f.size) rfl
              have q2 := H10.r3.cell 2 (v := .int .i64 f.s) rfl
              have q3 := H10.r3.cell 3 (v := .int .i64 f.n) rfl
              have z1 := H10.r2.cell 1 (v := .int .i64 at_.1.size) rfl
              have z2 := H10.r2.cell 2 (v := .int .i64 at_.1.s) rfl
              have z3 := H10.r2.cell 3 (v := .int .i64 at_.1.n) rfl
              go_wp2_with (fail)
              go_ret
              exact ⟨by rw [HCH.out]; rfl, by rw [HLE.out]; exact (H10.ord 3 [1, 2, 0]).tail.tail⟩
            · have H7 := H6.more (.cells #[.string f.h, .int .i64 f.size, .int .i64 f.s, .int .i64 f.n, .int .i64 f.id, .int .i64 f.now] 48)
              have hnw : (wa.alloc (.cells #[.string f.h, .int .i64 f.size, .int .i64 f.s, .int .i64 f.n, .int .i64 f.id, .int .i64 f.now] 48)).heap[wa.heap.size]? = some (.cells #[.string f.h, .int .i64 f.size, .int .i64 f.s, .int .i64 f.n, .int .i64 f.id, .int .i64 f.now] 48) := heap_alloc_new _ _
              go_simp
              refine hK.out _ _ (show _ from (H7.ord 6 [5, 0, 1, 2, 3, 4]).range) (fun hHeld => ?_)
              generalize wa.heap.size = x8 at *
              generalize wa.alloc (.cells #[.string f.h, .int .i64 f.size, .int .i64 f.s, .int .i64 f.n, .int .i64 f.id, .int .i64 f.now] 48) = wb at *
              clear hK
              try simp only [Act.put, List.setIfInBounds_toArray, List.set_cons_zero, List.set_cons_succ]
              clear H6
              refine wpAnyH_ready (rs := [4]) (by kernel_rfl) (by simp) ?_
              refine rg_cons rfl (fun K hK => ?_) AllReadyH.nil
              have p1 := H7.cell 1 (v := .slice A1 r.fl.length c1) rfl
              go_simp
              refine hK.out _ _ hHeld (fun hHeld => ?_)
              clear hK
              try simp only [Act.put, List.setIfInBounds_toArray, List.set_cons_zero, List.set_cons_succ]
              clear p1
              refine wpAnyH_ready (rs := [7]) (by kernel_rfl) (by simp) ?_
              refine rg_cons rfl (fun K hK => ?_) AllReadyH.nil
              have hnws := World.news_of_block hnw
              refine step_append_st rfl _ _ _ rfl 48 i0 (.agg #[.string ⟨#[]⟩, .int .i64 0, .int .i64 0, .int .i64 0, .int .i64 0, .int .i64 0]) 6 56 Try.underlying53 hi hz0 hz1 hz2 rfl (by decide) A1 r.fl.length c1 (r.fl.flatMap FR.cells) H7.r2 rfl ⟨x8, 0, none⟩ 1 1 f.cells rfl rfl hnws (fun u hu => by simp [FR.cells] at hu; rcases hu with rfl | rfl | rfl | rfl | rfl | rfl <;> rfl) (by unfold maxLen; omega) (by omega) ?_
              intro A5 c5 wc H8
              rw [← flat_snoc] at H8
              refine hK.out _ _ (show _ from (H8.ord 6 [5, 0, 1, 2, 3, 4]).range) (fun hHeld => ?_)
              clear hK
              try simp only [Act.put, List.setIfInBounds_toArray, List.set_cons_zero, List.set_cons_succ]
              refine rg_take (i := 8) (v := ?_) rfl (by kernel_rfl) (by kernel_rfl) (by kernel_rfl) (fun _ _ _ h => h) (Or.inl ⟨by kernel_rfl, ?_⟩) (by assumption) ?_
              rotate_left 1
              · intro w' hSw
                try dsimp only at hSw
                go_simp
                first | done | with_reducible rfl
              simp only [Act.put, List.setIfInBounds_toArray, List.set_cons_zero, List.set_cons_succ]
              refine rg_take (i := 9) (v := ?_) rfl (by kernel_rfl) (by kernel_rfl) (by kernel_rfl) (fun _ _ _ h => h) (Or.inl ⟨by kernel_rfl, ?_⟩) (by assumption) ?_
              rotate_left 1
              · intro w' hSw
                try dsimp only at hSw
                go_simp
                first | done | with_reducible rfl
              simp only [Act.put, List.setIfInBounds_toArray, List.set_cons_zero, List.set_cons_succ]
              refine wpAnyH_ready (rs := [10]) (by kernel_rfl) (by simp) ?_
              refine rg_cons rfl (fun K hK => ?_) AllReadyH.nil
              have p1 := H8.r2.cell 1 (v := .slice A1 r.fl.length c1) rfl
              have f1 := H8.r2.frozen 1
              have H9 := H8.r2.set 1 (.slice A5 (r.fl.length + 1) c5)
              go_simp
              refine hK.out _ _ (show _ from (H9.ord 6 [5, 0, 1, 2, 3, 4]).range) (fun hHeld => ?_)
              clear hK
              try simp only [Act.put, List.setIfInBounds_toArray, List.set_cons_zero, List.set_cons_succ]
              refine wpAnyH_done (by kernel_rfl) ?_ _
              clear hHeld
              have H10 : St w0 _ (RCx { r with fl := r.fl ++ [f] } :: Pt b5 at_.1.cells.toArray 48 :: Pt b6 f.cells.toArray 48 :: F) := St.shutR (r := { r with fl := r.fl ++ [f] }) (n1 := r.fl.length + 1) (by simp) rfl rfl H9
              generalize wc.setCell ⟨r.b, 1, none⟩ (.slice A5 (r.fl.length + 1) c5) = wd at *
              clear p1 f1 H9 H8 H7 hnw hnws
              have q0 := H10.r3.cell 0 (v := .string f.h) rfl
              have q1 := H10.r3.cell 1 (v := .int .i64 f.size) rfl
              have q2 := H10.r3.cell 2 (v := .int .i64 f.s) rfl
              have q3 := H10.r3.cell 3 (v := .int .i64 f.n) rfl
              have z1 := H10.r2.cell 1 (v := .int .i64 at_.1.size) rfl
              have z2 := H10.r2.cell 2 (v := .int .i64 at_.1.s) rfl
              have z3 := H10.r2.cell 3 (v := .int .i64 at_.1.n) rfl
              go_wp2_with (fail)
              go_ret
              exact ⟨by rw [HCH.out]; rfl, by rw [HLE.out]; exact (H10.ord 3 [1, 2, 0]).tail.tail⟩
          · go_wp2_with (fail)
            have hchd : r.chd f = true := by rw [HSO.out, decide_eq_true e1, decide_eq_true e2, decide_eq_false e3]; rfl
            have hle : r.learn f = { r with fl := r.fl ++ [f], pl := if true = true then r.pl.filter (notP f.h) else r.pl } := by unfold RC.learn; rw [hchd]
            try rw [if_neg (by decide)] at hle
            try rw [if_pos rfl] at hle
            have HCH := Lib.hid hchd; have HLE := Lib.hid hle; clear hchd hle
            obtain ⟨A1, c1, A2, c2, A3, c3, H5⟩ := St.openR H4
            clear H4
            refine wp_region_held_drew (S := fun w' => w'.rangeAt b6 0 [.string f.h, .int .i64 f.size, .int .i64 f.s, .int .i64 f.n, .int .i64 f.id, .int .i64 f.now]) (by kernel_rfl) (show _ from (H5.ord 6 [5, 0, 1, 2, 3, 4]).range) (fun hHeld => ?_)
            have H6 := H5.drew
            clear H5
            generalize w3.drew = wa at *
            refine rg_take (i := 0) (v := ?_) rfl (by kernel_rfl) (by kernel_rfl) (by kernel_rfl) (fun _ _ _ h => h) (Or.inl ⟨by kernel_rfl, ?_⟩) (by assumption) ?_
            rotate_left 1
            · intro w' hSw
              try dsimp only at hSw
              go_simp
              first | done | with_reducible rfl
            simp only [Act.put, List.setIfInBounds_toArray, List.set_cons_zero, List.set_cons_succ]
            refine rg_take (i := 1) (v := ?_) rfl (by kernel_rfl) (by kernel_rfl) (by kernel_rfl) (fun _ _ _ h => h) (Or.inl ⟨by kernel_rfl, ?_⟩) (by assumption) ?_
            rotate_left 1
            · intro w' hSw
              try dsimp only at hSw
              go_simp
              first | done | with_reducible rfl
            simp only [Act.put, List.setIfInBounds_toArray, List.set_cons_zero, List.set_cons_succ]
            refine rg_take (i := 2) (v := ?_) rfl (by kernel_rfl) (by kernel_rfl) (by kernel_rfl) (fun _ _ _ h => h) (Or.inl ⟨by kernel_rfl, ?_⟩) (by assumption) ?_
            rotate_left 1
            · intro w' hSw
              try dsimp only at hSw
              go_simp
              first | done | with_reducible rfl
            simp only [Act.put, List.setIfInBounds_toArray, List.set_cons_zero, List.set_cons_succ]
            refine rg_take (i := 3) (v := ?_) rfl (by kernel_rfl) (by kernel_rfl) (by kernel_rfl) (fun _ _ _ h => h) (Or.inl ⟨by kernel_rfl, ?_⟩) (by assumption) ?_
            rotate_left 1
            · intro w' hSw
              try dsimp only at hSw
              go_simp
              first | done | with_reducible rfl
            simp only [Act.put, List.setIfInBounds_toArray, List.set_cons_zero, List.set_cons_succ]
            refine rg_take (i := 5) (v := _) rfl (by kernel_rfl) (by kernel_rfl) (by kernel_rfl) (fun _ _ _ h => h) (yieldsIf_load_mid (by kernel_rfl) 48 _ rfl b6 0 rfl [.string f.h, .int .i64 f.size, .int .i64 f.s, .int .i64 f.n, .int .i64 f.id, .int .i64 f.now] _ (fun w' h => h) Try.underlying48 rfl (by kernel_rfl)) hHeld ?_
            simp only [Act.put, List.setIfInBounds_toArray, List.set_cons_zero, List.set_cons_succ]
            refine wpAnyH_ready (rs := [4, 6]) (by kernel_rfl) (by simp) ?_
            refine rg_cons rfl (fun K hK => ?_) (rg_cons rfl (fun K hK => ?_) AllReadyH.nil)
            · have p1 := H6.cell 1 (v := .slice A1 r.fl.length c1) rfl
              go_simp
              refine hK.out _ _ hHeld (fun hHeld => ?_)
              clear hK
              try simp only [Act.put, List.setIfInBounds_toArray, List.set_cons_zero, List.set_cons_succ]
              clear p1
              refine wpAnyH_ready (rs := [6]) (by kernel_rfl) (by simp) ?_
              refine rg_cons rfl (fun K hK => ?_) AllReadyH.nil
              have H7 := H6.more (.cells #[.string f.h, .int .i64 f.size, .int .i64 f.s, .int .i64 f.n, .int .i64 f.id, .int .i64 f.now] 48)
              have hnw : (wa.alloc (.cells #[.string f.h, .int .i64 f.size, .int .i64 f.s, .int .i64 f.n, .int .i64 f.id, .int .i64 f.now] 48)).heap[wa.heap.size]? = some (.cells #[.string f.h, .int .i64 f.size, .int .i64 f.s, .int .i64 f.n, .int .i64 f.id, .int .i64 f.now] 48) := heap_alloc_new _ _
              go_simp
              refine hK.out _ _ (show _ from (H7.ord 6 [5, 0, 1, 2, 3, 4]).range) (fun hHeld => ?_)
              generalize wa.heap.size = x8 at *
              generalize wa.alloc (.cells #[.string f.h, .int .i64 f.size, .int .i64 f.s, .int .i64 f.n, .int .i64 f.id, .int .i64 f.now] 48) = wb at *
              clear hK
              try simp only [Act.put, List.setIfInBounds_toArray, List.set_cons_zero, List.set_cons_succ]
              clear H6
              refine wpAnyH_ready (rs := [7]) (by kernel_rfl) (by simp) ?_
              refine rg_cons rfl (fun K hK => ?_) AllReadyH.nil
              have hnws := World.news_of_block hnw
              refine step_append_st rfl _ _ _ rfl 48 i0 (.agg #[.string ⟨#[]⟩, .int .i64 0, .int .i64 0, .int .i64 0, .int .i64 0, .int .i64 0]) 6 56 Try.underlying53 hi hz0 hz1 hz2 rfl (by decide) A1 r.fl.length c1 (r.fl.flatMap FR.cells) H7.r2 rfl ⟨x8, 0, none⟩ 1 1 f.cells rfl rfl hnws (fun u hu => by simp [FR.cells] at hu; rcases hu with rfl | rfl | rfl | rfl | rfl | rfl <;> rfl) (by unfold maxLen; omega) (by omega) ?_
              intro A5 c5 wc H8
              rw [← flat_snoc] at H8
              refine hK.out _ _ (show _ from (H8.ord 6 [5, 0, 1, 2, 3, 4]).range) (fun hHeld => ?_)
              clear hK
              try simp only [Act.put, List.setIfInBounds_toArray, List.set_cons_zero, List.set_cons_succ]
              refine rg_take (i := 8) (v := ?_) rfl (by kernel_rfl) (by kernel_rfl) (by kernel_rfl) (fun _ _ _ h => h) (Or.inl ⟨by kernel_rfl, ?_⟩) (by assumption) ?_
              rotate_left 1
              · intro w' hSw
                try dsimp only at hSw
                go_simp
                first | done | with_reducible rfl
              simp only [Act.put, List.setIfInBounds_toArray, List.set_cons_zero, List.set_cons_succ]
              refine rg_take (i := 9) (v := ?_) rfl (by kernel_rfl) (by kernel_rfl) (by kernel_rfl) (fun _ _ _ h => h) (Or.inl ⟨by kernel_rfl, ?_⟩) (by assumption) ?_
              rotate_left 1
              · intro w' hSw
                try dsimp only at hSw
                go_simp
                first | done | with_reducible rfl
              simp only [Act.put, List.setIfInBounds_toArray, List.set_cons_zero, List.set_cons_succ]
              refine wpAnyH_ready (rs := [10]) (by kernel_rfl) (by simp) ?_
              refine rg_cons rfl (fun K hK => ?_) AllReadyH.nil
              have p1 := H8.r2.cell 1 (v := .slice A1 r.fl.length c1) rfl
              have f1 := H8.r2.frozen 1
              have H9 := H8.r2.set 1 (.slice A5 (r.fl.length + 1) c5)
              go_simp
              refine hK.out _ _ (show _ from (H9.ord 6 [5, 0, 1, 2, 3, 4]).range) (fun hHeld => ?_)
              clear hK
              try simp only [Act.put, List.setIfInBounds_toArray, List.set_cons_zero, List.set_cons_succ]
              refine wpAnyH_done (by kernel_rfl) ?_ _
              clear hHeld
              have H10 : St w0 _ (RCx { r with fl := r.fl ++ [f] } :: Pt b5 at_.1.cells.toArray 48 :: Pt b6 f.cells.toArray 48 :: F) := St.shutR (r := { r with fl := r.fl ++ [f] }) (n1 := r.fl.length + 1) (by simp) rfl rfl H9
              generalize wc.setCell ⟨r.b, 1, none⟩ (.slice A5 (r.fl.length + 1) c5) = wd at *
              clear p1 f1 H9 H8 H7 hnw hnws
              have q0 := H10.r3.cell 0 (v := .string f.h) rfl
              have q1 := H10.r3.cell 1 (v := .int .i64 f.size) rfl
              have q2 := H10.r3.cell 2 (v := .int .i64 f.s) rfl
              have q3 := H10.r3.cell 3 (v := .int .i64 f.n) rfl
              have z1 := H10.r2.cell 1 (v := .int .i64 at_.1.size) rfl
              have z2 := H10.r2.cell 2 (v := .int .i64 at_.1.s) rfl
              have z3 := H10.r2.cell 3 (v := .int .i64 at_.1.n) rfl
              go_wp2_with (fail)
              refine (refdrop_ok { r with fl := r.fl ++ [f] } f.h hpp H10).mono ?_
              rintro e we ⟨rfl, H11⟩
              go_wp2_with (fail)
              go_ret
              exact ⟨by rw [HCH.out]; rfl, by rw [HLE.out]; exact (H11.ord 3 [1, 2, 0]).tail.tail⟩
            · have H7 := H6.more (.cells #[.string f.h, .int .i64 f.size, .int .i64 f.s, .int .i64 f.n, .int .i64 f.id, .int .i64 f.now] 48)
              have hnw : (wa.alloc (.cells #[.string f.h, .int .i64 f.size, .int .i64 f.s, .int .i64 f.n, .int .i64 f.id, .int .i64 f.now] 48)).heap[wa.heap.size]? = some (.cells #[.string f.h, .int .i64 f.size, .int .i64 f.s, .int .i64 f.n, .int .i64 f.id, .int .i64 f.now] 48) := heap_alloc_new _ _
              go_simp
              refine hK.out _ _ (show _ from (H7.ord 6 [5, 0, 1, 2, 3, 4]).range) (fun hHeld => ?_)
              generalize wa.heap.size = x8 at *
              generalize wa.alloc (.cells #[.string f.h, .int .i64 f.size, .int .i64 f.s, .int .i64 f.n, .int .i64 f.id, .int .i64 f.now] 48) = wb at *
              clear hK
              try simp only [Act.put, List.setIfInBounds_toArray, List.set_cons_zero, List.set_cons_succ]
              clear H6
              refine wpAnyH_ready (rs := [4]) (by kernel_rfl) (by simp) ?_
              refine rg_cons rfl (fun K hK => ?_) AllReadyH.nil
              have p1 := H7.cell 1 (v := .slice A1 r.fl.length c1) rfl
              go_simp
              refine hK.out _ _ hHeld (fun hHeld => ?_)
              clear hK
              try simp only [Act.put, List.setIfInBounds_toArray, List.set_cons_zero, List.set_cons_succ]
              clear p1
              refine wpAnyH_ready (rs := [7]) (by kernel_rfl) (by simp) ?_
              refine rg_cons rfl (fun K hK => ?_) AllReadyH.nil
              have hnws := World.news_of_block hnw
              refine step_append_st rfl _ _ _ rfl 48 i0 (.agg #[.string ⟨#[]⟩, .int .i64 0, .int .i64 0, .int .i64 0, .int .i64 0, .int .i64 0]) 6 56 Try.underlying53 hi hz0 hz1 hz2 rfl (by decide) A1 r.fl.length c1 (r.fl.flatMap FR.cells) H7.r2 rfl ⟨x8, 0, none⟩ 1 1 f.cells rfl rfl hnws (fun u hu => by simp [FR.cells] at hu; rcases hu with rfl | rfl | rfl | rfl | rfl | rfl <;> rfl) (by unfold maxLen; omega) (by omega) ?_
              intro A5 c5 wc H8
              rw [← flat_snoc] at H8
              refine hK.out _ _ (show _ from (H8.ord 6 [5, 0, 1, 2, 3, 4]).range) (fun hHeld => ?_)
              clear hK
              try simp only [Act.put, List.setIfInBounds_toArray, List.set_cons_zero, List.set_cons_succ]
              refine rg_take (i := 8) (v := ?_) rfl (by kernel_rfl) (by kernel_rfl) (by kernel_rfl) (fun _ _ _ h => h) (Or.inl ⟨by kernel_rfl, ?_⟩) (by assumption) ?_
              rotate_left 1
              · intro w' hSw
                try dsimp only at hSw
                go_simp
                first | done | with_reducible rfl
              simp only [Act.put, List.setIfInBounds_toArray, List.set_cons_zero, List.set_cons_succ]
              refine rg_take (i := 9) (v := ?_) rfl (by kernel_rfl) (by kernel_rfl) (by kernel_rfl) (fun _ _ _ h => h) (Or.inl ⟨by kernel_rfl, ?_⟩) (by assumption) ?_
              rotate_left 1
              · intro w' hSw
                try dsimp only at hSw
                go_simp
                first | done | with_reducible rfl
              simp only [Act.put, List.setIfInBounds_toArray, List.set_cons_zero, List.set_cons_succ]
              refine wpAnyH_ready (rs := [10]) (by kernel_rfl) (by simp) ?_
              refine rg_cons rfl (fun K hK => ?_) AllReadyH.nil
              have p1 := H8.r2.cell 1 (v := .slice A1 r.fl.length c1) rfl
              have f1 := H8.r2.frozen 1
              have H9 := H8.r2.set 1 (.slice A5 (r.fl.length + 1) c5)
              go_simp
              refine hK.out _ _ (show _ from (H9.ord 6 [5, 0, 1, 2, 3, 4]).range) (fun hHeld => ?_)
              clear hK
              try simp only [Act.put, List.setIfInBounds_toArray, List.set_cons_zero, List.set_cons_succ]
              refine wpAnyH_done (by kernel_rfl) ?_ _
              clear hHeld
              have H10 : St w0 _ (RCx { r with fl := r.fl ++ [f] } :: Pt b5 at_.1.cells.toArray 48 :: Pt b6 f.cells.toArray 48 :: F) := St.shutR (r := { r with fl := r.fl ++ [f] }) (n1 := r.fl.length + 1) (by simp) rfl rfl H9
              generalize wc.setCell ⟨r.b, 1, none⟩ (.slice A5 (r.fl.length + 1) c5) = wd at *
              clear p1 f1 H9 H8 H7 hnw hnws
              have q0 := H10.r3.cell 0 (v := .string f.h) rfl
              have q1 := H10.r3.cell 1 (v := .int .i64 f.size) rfl
              have q2 := H10.r3.cell 2 (v := .int .i64 f.s) rfl
              have q3 := H10.r3.cell 3 (v := .int .i64 f.n) rfl
              have z1 := H10.r2.cell 1 (v := .int .i64 at_.1.size) rfl
              have z2 := H10.r2.cell 2 (v := .int .i64 at_.1.s) rfl
              have z3 := H10.r2.cell 3 (v := .int .i64 at_.1.n) rfl
              go_wp2_with (fail)
              refine (refdrop_ok { r with fl := r.fl ++ [f] } f.h hpp H10).mono ?_
              rintro e we ⟨rfl, H11⟩
              go_wp2_with (fail)
              go_ret
              exact ⟨by rw [HCH.out]; rfl, by rw [HLE.out]; exact (H11.ord 3 [1, 2, 0]).tail.tail⟩
        · go_wp2_with (fail)
          have hchd : r.chd f = true := by rw [HSO.out, decide_eq_true e1, decide_eq_false e2]; rfl
          have hle : r.learn f = { r with fl := r.fl ++ [f], pl := if true = true then r.pl.filter (notP f.h) else r.pl } := by unfold RC.learn; rw [hchd]
          try rw [if_neg (by decide)] at hle
          try rw [if_pos rfl] at hle
          have HCH := Lib.hid hchd; have HLE := Lib.hid hle; clear hchd hle
          obtain ⟨A1, c1, A2, c2, A3, c3, H5⟩ := St.openR H4
          clear H4
          refine wp_region_held_drew (S := fun w' => w'.rangeAt b6 0 [.string f.h, .int .i64 f.size, .int .i64 f.s, .int .i64 f.n, .int .i64 f.id, .int .i64 f.now]) (by kernel_rfl) (show _ from (H5.ord 6 [5, 0, 1, 2, 3, 4]).range) (fun hHeld => ?_)
          have H6 := H5.drew
          clear H5
          generalize w3.drew = wa at *
          refine rg_take (i := 0) (v := ?_) rfl (by kernel_rfl) (by kernel_rfl) (by kernel_rfl) (fun _ _ _ h => h) (Or.inl ⟨by kernel_rfl, ?_⟩) (by assumption) ?_
          rotate_left 1
          · intro w' hSw
            try dsimp only at hSw
            go_simp
            first | done | with_reducible rfl
          simp only [Act.put, List.setIfInBounds_toArray, List.set_cons_zero, List.set_cons_succ]
          refine rg_take (i := 1) (v := ?_) rfl (by kernel_rfl) (by kernel_rfl) (by kernel_rfl) (fun _ _ _ h => h) (Or.inl ⟨by kernel_rfl, ?_⟩) (by assumption) ?_
          rotate_left 1
          · intro w' hSw
            try dsimp only at hSw
            go_simp
            first | done | with_reducible rfl
          simp only [Act.put, List.setIfInBounds_toArray, List.set_cons_zero, List.set_cons_succ]
          refine rg_take (i := 2) (v := ?_) rfl (by kernel_rfl) (by kernel_rfl) (by kernel_rfl) (fun _ _ _ h => h) (Or.inl ⟨by kernel_rfl, ?_⟩) (by assumption) ?_
          rotate_left 1
          · intro w' hSw
            try dsimp only at hSw
            go_simp
            first | done | with_reducible rfl
          simp only [Act.put, List.setIfInBounds_toArray, List.set_cons_zero, List.set_cons_succ]
          refine rg_take (i := 3) (v := ?_) rfl (by kernel_rfl) (by kernel_rfl) (by kernel_rfl) (fun _ _ _ h => h) (Or.inl ⟨by kernel_rfl, ?_⟩) (by assumption) ?_
          rotate_left 1
          · intro w' hSw
            try dsimp only at hSw
            go_simp
            first | done | with_reducible rfl
          simp only [Act.put, List.setIfInBounds_toArray, List.set_cons_zero, List.set_cons_succ]
          refine rg_take (i := 5) (v := _) rfl (by kernel_rfl) (by kernel_rfl) (by kernel_rfl) (fun _ _ _ h => h) (yieldsIf_load_mid (by kernel_rfl) 48 _ rfl b6 0 rfl [.string f.h, .int .i64 f.size, .int .i64 f.s, .int .i64 f.n, .int .i64 f.id, .int .i64 f.now] _ (fun w' h => h) Try.underlying48 rfl (by kernel_rfl)) hHeld ?_
          simp only [Act.put, List.setIfInBounds_toArray, List.set_cons_zero, List.set_cons_succ]
          refine wpAnyH_ready (rs := [4, 6]) (by kernel_rfl) (by simp) ?_
          refine rg_cons rfl (fun K hK => ?_) (rg_cons rfl (fun K hK => ?_) AllReadyH.nil)
          · have p1 := H6.cell 1 (v := .slice A1 r.fl.length c1) rfl
            go_simp
            refine hK.out _ _ hHeld (fun hHeld => ?_)
            clear hK
            try simp only [Act.put, List.setIfInBounds_toArray, List.set_cons_zero, List.set_cons_succ]
            clear p1
            refine wpAnyH_ready (rs := [6]) (by kernel_rfl) (by simp) ?_
            refine rg_cons rfl (fun K hK => ?_) AllReadyH.nil
            have H7 := H6.more (.cells #[.string f.h, .int .i64 f.size, .int .i64 f.s, .int .i64 f.n, .int .i64 f.id, .int .i64 f.now] 48)
            have hnw : (wa.alloc (.cells #[.string f.h, .int .i64 f.size, .int .i64 f.s, .int .i64 f.n, .int .i64 f.id, .int .i64 f.now] 48)).heap[wa.heap.size]? = some (.cells #[.string f.h, .int .i64 f.size, .int .i64 f.s, .int .i64 f.n, .int .i64 f.id, .int .i64 f.now] 48) := heap_alloc_new _ _
            go_simp
            refine hK.out _ _ (show _ from (H7.ord 6 [5, 0, 1, 2, 3, 4]).range) (fun hHeld => ?_)
            generalize wa.heap.size = x8 at *
            generalize wa.alloc (.cells #[.string f.h, .int .i64 f.size, .int .i64 f.s, .int .i64 f.n, .int .i64 f.id, .int .i64 f.now] 48) = wb at *
            clear hK
            try simp only [Act.put, List.setIfInBounds_toArray, List.set_cons_zero, List.set_cons_succ]
            clear H6
            refine wpAnyH_ready (rs := [7]) (by kernel_rfl) (by simp) ?_
            refine rg_cons rfl (fun K hK => ?_) AllReadyH.nil
            have hnws := World.news_of_block hnw
            refine step_append_st rfl _ _ _ rfl 48 i0 (.agg #[.string ⟨#[]⟩, .int .i64 0, .int .i64 0, .int .i64 0, .int .i64 0, .int .i64 0]) 6 56 Try.underlying53 hi hz0 hz1 hz2 rfl (by decide) A1 r.fl.length c1 (r.fl.flatMap FR.cells) H7.r2 rfl ⟨x8, 0, none⟩ 1 1 f.cells rfl rfl hnws (fun u hu => by simp [FR.cells] at hu; rcases hu with rfl | rfl | rfl | rfl | rfl | rfl <;> rfl) (by unfold maxLen; omega) (by omega) ?_
            intro A5 c5 wc H8
            rw [← flat_snoc] at H8
            refine hK.out _ _ (show _ from (H8.ord 6 [5, 0, 1, 2, 3, 4]).range) (fun hHeld => ?_)
            clear hK
            try simp only [Act.put, List.setIfInBounds_toArray, List.set_cons_zero, List.set_cons_succ]
            refine rg_take (i := 8) (v := ?_) rfl (by kernel_rfl) (by kernel_rfl) (by kernel_rfl) (fun _ _ _ h => h) (Or.inl ⟨by kernel_rfl, ?_⟩) (by assumption) ?_
            rotate_left 1
            · intro w' hSw
              try dsimp only at hSw
              go_simp
              first | done | with_reducible rfl
            simp only [Act.put, List.setIfInBounds_toArray, List.set_cons_zero, List.set_cons_succ]
            refine rg_take (i := 9) (v := ?_) rfl (by kernel_rfl) (by kernel_rfl) (by kernel_rfl) (fun _ _ _ h => h) (Or.inl ⟨by kernel_rfl, ?_⟩) (by assumption) ?_
            rotate_left 1
            · intro w' hSw
              try dsimp only at hSw
              go_simp
              first | done | with_reducible rfl
            simp only [Act.put, List.setIfInBounds_toArray, List.set_cons_zero, List.set_cons_succ]
            refine wpAnyH_ready (rs := [10]) (by kernel_rfl) (by simp) ?_
            refine rg_cons rfl (fun K hK => ?_) AllReadyH.nil
            have p1 := H8.r2.cell 1 (v := .slice A1 r.fl.length c1) rfl
            have f1 := H8.r2.frozen 1
            have H9 := H8.r2.set 1 (.slice A5 (r.fl.length + 1) c5)
            go_simp
            refine hK.out _ _ (show _ from (H9.ord 6 [5, 0, 1, 2, 3, 4]).range) (fun hHeld => ?_)
            clear hK
            try simp only [Act.put, List.setIfInBounds_toArray, List.set_cons_zero, List.set_cons_succ]
            refine wpAnyH_done (by kernel_rfl) ?_ _
            clear hHeld
            have H10 : St w0 _ (RCx { r with fl := r.fl ++ [f] } :: Pt b5 at_.1.cells.toArray 48 :: Pt b6 f.cells.toArray 48 :: F) := St.shutR (r := { r with fl := r.fl ++ [f] }) (n1 := r.fl.length + 1) (by simp) rfl rfl H9
            generalize wc.setCell ⟨r.b, 1, none⟩ (.slice A5 (r.fl.length + 1) c5) = wd at *
            clear p1 f1 H9 H8 H7 hnw hnws
            have q0 := H10.r3.cell 0 (v := .string f.h) rfl
            have q1 := H10.r3.cell 1 (v := .int .i64 f.size) rfl
            have q2 := H10.r3.cell 2 (v := .int .i64 f.s) rfl
            have q3 := H10.r3.cell 3 (v := .int .i64 f.n) rfl
            have z1 := H10.r2.cell 1 (v := .int .i64 at_.1.size) rfl
            have z2 := H10.r2.cell 2 (v := .int .i64 at_.1.s) rfl
            have z3 := H10.r2.cell 3 (v := .int .i64 at_.1.n) rfl
            go_wp2_with (fail)
            refine (refdrop_ok { r with fl := r.fl ++ [f] } f.h hpp H10).mono ?_
            rintro e we ⟨rfl, H11⟩
            go_wp2_with (fail)
            go_ret
            exact ⟨by rw [HCH.out]; rfl, by rw [HLE.out]; exact (H11.ord 3 [1, 2, 0]).tail.tail⟩
          · have H7 := H6.more (.cells #[.string f.h, .int .i64 f.size, .int .i64 f.s, .int .i64 f.n, .int .i64 f.id, .int .i64 f.now] 48)
            have hnw : (wa.alloc (.cells #[.string f.h, .int .i64 f.size, .int .i64 f.s, .int .i64 f.n, .int .i64 f.id, .int .i64 f.now] 48)).heap[wa.heap.size]? = some (.cells #[.string f.h, .int .i64 f.size, .int .i64 f.s, .int .i64 f.n, .int .i64 f.id, .int .i64 f.now] 48) := heap_alloc_new _ _
            go_simp
            refine hK.out _ _ (show _ from (H7.ord 6 [5, 0, 1, 2, 3, 4]).range) (fun hHeld => ?_)
            generalize wa.heap.size = x8 at *
            generalize wa.alloc (.cells #[.string f.h, .int .i64 f.size, .int .i64 f.s, .int .i64 f.n, .int .i64 f.id, .int .i64 f.now] 48) = wb at *
            clear hK
            try simp only [Act.put, List.setIfInBounds_toArray, List.set_cons_zero, List.set_cons_succ]
            clear H6
            refine wpAnyH_ready (rs := [4]) (by kernel_rfl) (by simp) ?_
            refine rg_cons rfl (fun K hK => ?_) AllReadyH.nil
            have p1 := H7.cell 1 (v := .slice A1 r.fl.length c1) rfl
            go_simp
            refine hK.out _ _ hHeld (fun hHeld => ?_)
            clear hK
            try simp only [Act.put, List.setIfInBounds_toArray, List.set_cons_zero, List.set_cons_succ]
            clear p1
            refine wpAnyH_ready (rs := [7]) (by kernel_rfl) (by simp) ?_
            refine rg_cons rfl (fun K hK => ?_) AllReadyH.nil
            have hnws := World.news_of_block hnw
            refine step_append_st rfl _ _ _ rfl 48 i0 (.agg #[.string ⟨#[]⟩, .int .i64 0, .int .i64 0, .int .i64 0, .int .i64 0, .int .i64 0]) 6 56 Try.underlying53 hi hz0 hz1 hz2 rfl (by decide) A1 r.fl.length c1 (r.fl.flatMap FR.cells) H7.r2 rfl ⟨x8, 0, none⟩ 1 1 f.cells rfl rfl hnws (fun u hu => by simp [FR.cells] at hu; rcases hu with rfl | rfl | rfl | rfl | rfl | rfl <;> rfl) (by unfold maxLen; omega) (by omega) ?_
            intro A5 c5 wc H8
            rw [← flat_snoc] at H8
            refine hK.out _ _ (show _ from (H8.ord 6 [5, 0, 1, 2, 3, 4]).range) (fun hHeld => ?_)
            clear hK
            try simp only [Act.put, List.setIfInBounds_toArray, List.set_cons_zero, List.set_cons_succ]
            refine rg_take (i := 8) (v := ?_) rfl (by kernel_rfl) (by kernel_rfl) (by kernel_rfl) (fun _ _ _ h => h) (Or.inl ⟨by kernel_rfl, ?_⟩) (by assumption) ?_
            rotate_left 1
            · intro w' hSw
              try dsimp only at hSw
              go_simp
              first | done | with_reducible rfl
            simp only [Act.put, List.setIfInBounds_toArray, List.set_cons_zero, List.set_cons_succ]
            refine rg_take (i := 9) (v := ?_) rfl (by kernel_rfl) (by kernel_rfl) (by kernel_rfl) (fun _ _ _ h => h) (Or.inl ⟨by kernel_rfl, ?_⟩) (by assumption) ?_
            rotate_left 1
            · intro w' hSw
              try dsimp only at hSw
              go_simp
              first | done | with_reducible rfl
            simp only [Act.put, List.setIfInBounds_toArray, List.set_cons_zero, List.set_cons_succ]
            refine wpAnyH_ready (rs := [10]) (by kernel_rfl) (by simp) ?_
            refine rg_cons rfl (fun K hK => ?_) AllReadyH.nil
            have p1 := H8.r2.cell 1 (v := .slice A1 r.fl.length c1) rfl
            have f1 := H8.r2.frozen 1
            have H9 := H8.r2.set 1 (.slice A5 (r.fl.length + 1) c5)
            go_simp
            refine hK.out _ _ (show _ from (H9.ord 6 [5, 0, 1, 2, 3, 4]).range) (fun hHeld => ?_)
            clear hK
            try simp only [Act.put, List.setIfInBounds_toArray, List.set_cons_zero, List.set_cons_succ]
            refine wpAnyH_done (by kernel_rfl) ?_ _
            clear hHeld
            have H10 : St w0 _ (RCx { r with fl := r.fl ++ [f] } :: Pt b5 at_.1.cells.toArray 48 :: Pt b6 f.cells.toArray 48 :: F) := St.shutR (r := { r with fl := r.fl ++ [f] }) (n1 := r.fl.length + 1) (by simp) rfl rfl H9
            generalize wc.setCell ⟨r.b, 1, none⟩ (.slice A5 (r.fl.length + 1) c5) = wd at *
            clear p1 f1 H9 H8 H7 hnw hnws
            have q0 := H10.r3.cell 0 (v := .string f.h) rfl
            have q1 := H10.r3.cell 1 (v := .int .i64 f.size) rfl
            have q2 := H10.r3.cell 2 (v := .int .i64 f.s) rfl
            have q3 := H10.r3.cell 3 (v := .int .i64 f.n) rfl
            have z1 := H10.r2.cell 1 (v := .int .i64 at_.1.size) rfl
            have z2 := H10.r2.cell 2 (v := .int .i64 at_.1.s) rfl
            have z3 := H10.r2.cell 3 (v := .int .i64 at_.1.n) rfl
            go_wp2_with (fail)
            refine (refdrop_ok { r with fl := r.fl ++ [f] } f.h hpp H10).mono ?_
            rintro e we ⟨rfl, H11⟩
            go_wp2_with (fail)
            go_ret
            exact ⟨by rw [HCH.out]; rfl, by rw [HLE.out]; exact (H11.ord 3 [1, 2, 0]).tail.tail⟩
      · go_wp2_with (fail)
        have hchd : r.chd f = true := by rw [HSO.out, decide_eq_false e1]; rfl
        have hle : r.learn f = { r with fl := r.fl ++ [f], pl := if true = true then r.pl.filter (notP f.h) else r.pl } := by unfold RC.learn; rw [hchd]
        try rw [if_neg (by decide)] at hle
        try rw [if_pos rfl] at hle
        have HCH := Lib.hid hchd; have HLE := Lib.hid hle; clear hchd hle
        obtain ⟨A1, c1, A2, c2, A3, c3, H5⟩ := St.openR H4
        clear H4
        refine wp_region_held_drew (S := fun w' => w'.rangeAt b6 0 [.string f.h, .int .i64 f.size, .int .i64 f.s, .int .i64 f.n, .int .i64 f.id, .int .i64 f.now]) (by kernel_rfl) (show _ from (H5.ord 6 [5, 0, 1, 2, 3, 4]).range) (fun hHeld => ?_)
        have H6 := H5.drew
        clear H5
        generalize w3.drew = wa at *
        refine rg_take (i := 0) (v := ?_) rfl (by kernel_rfl) (by kernel_rfl) (by kernel_rfl) (fun _ _ _ h => h) (Or.inl ⟨by kernel_rfl, ?_⟩) (by assumption) ?_
        rotate_left 1
        · intro w' hSw
          try dsimp only at hSw
          go_simp
          first | done | with_reducible rfl
        simp only [Act.put, List.setIfInBounds_toArray, List.set_cons_zero, List.set_cons_succ]
        refine rg_take (i := 1) (v := ?_) rfl (by kernel_rfl) (by kernel_rfl) (by kernel_rfl) (fun _ _ _ h => h) (Or.inl ⟨by kernel_rfl, ?_⟩) (by assumption) ?_
        rotate_left 1
        · intro w' hSw
          try dsimp only at hSw
          go_simp
          first | done | with_reducible rfl
        simp only [Act.put, List.setIfInBounds_toArray, List.set_cons_zero, List.set_cons_succ]
        refine rg_take (i := 2) (v := ?_) rfl (by kernel_rfl) (by kernel_rfl) (by kernel_rfl) (fun _ _ _ h => h) (Or.inl ⟨by kernel_rfl, ?_⟩) (by assumption) ?_
        rotate_left 1
        · intro w' hSw
          try dsimp only at hSw
          go_simp
          first | done | with_reducible rfl
        simp only [Act.put, List.setIfInBounds_toArray, List.set_cons_zero, List.set_cons_succ]
        refine rg_take (i := 3) (v := ?_) rfl (by kernel_rfl) (by kernel_rfl) (by kernel_rfl) (fun _ _ _ h => h) (Or.inl ⟨by kernel_rfl, ?_⟩) (by assumption) ?_
        rotate_left 1
        · intro w' hSw
          try dsimp only at hSw
          go_simp
          first | done | with_reducible rfl
        simp only [Act.put, List.setIfInBounds_toArray, List.set_cons_zero, List.set_cons_succ]
        refine rg_take (i := 5) (v := _) rfl (by kernel_rfl) (by kernel_rfl) (by kernel_rfl) (fun _ _ _ h => h) (yieldsIf_load_mid (by kernel_rfl) 48 _ rfl b6 0 rfl [.string f.h, .int .i64 f.size, .int .i64 f.s, .int .i64 f.n, .int .i64 f.id, .int .i64 f.now] _ (fun w' h => h) Try.underlying48 rfl (by kernel_rfl)) hHeld ?_
        simp only [Act.put, List.setIfInBounds_toArray, List.set_cons_zero, List.set_cons_succ]
        refine wpAnyH_ready (rs := [4, 6]) (by kernel_rfl) (by simp) ?_
        refine rg_cons rfl (fun K hK => ?_) (rg_cons rfl (fun K hK => ?_) AllReadyH.nil)
        · have p1 := H6.cell 1 (v := .slice A1 r.fl.length c1) rfl
          go_simp
          refine hK.out _ _ hHeld (fun hHeld => ?_)
          clear hK
          try simp only [Act.put, List.setIfInBounds_toArray, List.set_cons_zero, List.set_cons_succ]
          clear p1
          refine wpAnyH_ready (rs := [6]) (by kernel_rfl) (by simp) ?_
          refine rg_cons rfl (fun K hK => ?_) AllReadyH.nil
          have H7 := H6.more (.cells #[.string f.h, .int .i64 f.size, .int .i64 f.s, .int .i64 f.n, .int .i64 f.id, .int .i64 f.now] 48)
          have hnw : (wa.alloc (.cells #[.string f.h, .int .i64 f.size, .int .i64 f.s, .int .i64 f.n, .int .i64 f.id, .int .i64 f.now] 48)).heap[wa.heap.size]? = some (.cells #[.string f.h, .int .i64 f.size, .int .i64 f.s, .int .i64 f.n, .int .i64 f.id, .int .i64 f.now] 48) := heap_alloc_new _ _
          go_simp
          refine hK.out _ _ (show _ from (H7.ord 6 [5, 0, 1, 2, 3, 4]).range) (fun hHeld => ?_)
          generalize wa.heap.size = x8 at *
          generalize wa.alloc (.cells #[.string f.h, .int .i64 f.size, .int .i64 f.s, .int .i64 f.n, .int .i64 f.id, .int .i64 f.now] 48) = wb at *
          clear hK
          try simp only [Act.put, List.setIfInBounds_toArray, List.set_cons_zero, List.set_cons_succ]
          clear H6
          refine wpAnyH_ready (rs := [7]) (by kernel_rfl) (by simp) ?_
          refine rg_cons rfl (fun K hK => ?_) AllReadyH.nil
          have hnws := World.news_of_block hnw
          refine step_append_st rfl _ _ _ rfl 48 i0 (.agg #[.string ⟨#[]⟩, .int .i64 0, .int .i64 0, .int .i64 0, .int .i64 0, .int .i64 0]) 6 56 Try.underlying53 hi hz0 hz1 hz2 rfl (by decide) A1 r.fl.length c1 (r.fl.flatMap FR.cells) H7.r2 rfl ⟨x8, 0, none⟩ 1 1 f.cells rfl rfl hnws (fun u hu => by simp [FR.cells] at hu; rcases hu with rfl | rfl | rfl | rfl | rfl | rfl <;> rfl) (by unfold maxLen; omega) (by omega) ?_
          intro A5 c5 wc H8
          rw [← flat_snoc] at H8
          refine hK.out _ _ (show _ from (H8.ord 6 [5, 0, 1, 2, 3, 4]).range) (fun hHeld => ?_)
          clear hK
          try simp only [Act.put, List.setIfInBounds_toArray, List.set_cons_zero, List.set_cons_succ]
          refine rg_take (i := 8) (v := ?_) rfl (by kernel_rfl) (by kernel_rfl) (by kernel_rfl) (fun _ _ _ h => h) (Or.inl ⟨by kernel_rfl, ?_⟩) (by assumption) ?_
          rotate_left 1
          · intro w' hSw
            try dsimp only at hSw
            go_simp
            first | done | with_reducible rfl
          simp only [Act.put, List.setIfInBounds_toArray, List.set_cons_zero, List.set_cons_succ]
          refine rg_take (i := 9) (v := ?_) rfl (by kernel_rfl) (by kernel_rfl) (by kernel_rfl) (fun _ _ _ h => h) (Or.inl ⟨by kernel_rfl, ?_⟩) (by assumption) ?_
          rotate_left 1
          · intro w' hSw
            try dsimp only at hSw
            go_simp
            first | done | with_reducible rfl
          simp only [Act.put, List.setIfInBounds_toArray, List.set_cons_zero, List.set_cons_succ]
          refine wpAnyH_ready (rs := [10]) (by kernel_rfl) (by simp) ?_
          refine rg_cons rfl (fun K hK => ?_) AllReadyH.nil
          have p1 := H8.r2.cell 1 (v := .slice A1 r.fl.length c1) rfl
          have f1 := H8.r2.frozen 1
          have H9 := H8.r2.set 1 (.slice A5 (r.fl.length + 1) c5)
          go_simp
          refine hK.out _ _ (show _ from (H9.ord 6 [5, 0, 1, 2, 3, 4]).range) (fun hHeld => ?_)
          clear hK
          try simp only [Act.put, List.setIfInBounds_toArray, List.set_cons_zero, List.set_cons_succ]
          refine wpAnyH_done (by kernel_rfl) ?_ _
          clear hHeld
          have H10 : St w0 _ (RCx { r with fl := r.fl ++ [f] } :: Pt b5 at_.1.cells.toArray 48 :: Pt b6 f.cells.toArray 48 :: F) := St.shutR (r := { r with fl := r.fl ++ [f] }) (n1 := r.fl.length + 1) (by simp) rfl rfl H9
          generalize wc.setCell ⟨r.b, 1, none⟩ (.slice A5 (r.fl.length + 1) c5) = wd at *
          clear p1 f1 H9 H8 H7 hnw hnws
          have q0 := H10.r3.cell 0 (v := .string f.h) rfl
          have q1 := H10.r3.cell 1 (v := .int .i64 f.size) rfl
          have q2 := H10.r3.cell 2 (v := .int .i64 f.s) rfl
          have q3 := H10.r3.cell 3 (v := .int .i64 f.n) rfl
          have z1 := H10.r2.cell 1 (v := .int .i64 at_.1.size) rfl
          have z2 := H10.r2.cell 2 (v := .int .i64 at_.1.s) rfl
          have z3 := H10.r2.cell 3 (v := .int .i64 at_.1.n) rfl
          go_wp2_with (fail)
          refine (refdrop_ok { r with fl := r.fl ++ [f] } f.h hpp H10).mono ?_
          rintro e we ⟨rfl, H11⟩
          go_wp2_with (fail)
          go_ret
          exact ⟨by rw [HCH.out]; rfl, by rw [HLE.out]; exact (H11.ord 3 [1, 2, 0]).tail.tail⟩
        · have H7 := H6.more (.cells #[.string f.h, .int .i64 f.size, .int .i64 f.s, .int .i64 f.n, .int .i64 f.id, .int .i64 f.now] 48)
          have hnw : (wa.alloc (.cells #[.string f.h, .int .i64 f.size, .int .i64 f.s, .int .i64 f.n, .int .i64 f.id, .int .i64 f.now] 48)).heap[wa.heap.size]? = some (.cells #[.string f.h, .int .i64 f.size, .int .i64 f.s, .int .i64 f.n, .int .i64 f.id, .int .i64 f.now] 48) := heap_alloc_new _ _
          go_simp
          refine hK.out _ _ (show _ from (H7.ord 6 [5, 0, 1, 2, 3, 4]).range) (fun hHeld => ?_)
          generalize wa.heap.size = x8 at *
          generalize wa.alloc (.cells #[.string f.h, .int .i64 f.size, .int .i64 f.s, .int .i64 f.n, .int .i64 f.id, .int .i64 f.now] 48) = wb at *
          clear hK
          try simp only [Act.put, List.setIfInBounds_toArray, List.set_cons_zero, List.set_cons_succ]
          clear H6
          refine wpAnyH_ready (rs := [4]) (by kernel_rfl) (by simp) ?_
          refine rg_cons rfl (fun K hK => ?_) AllReadyH.nil
          have p1 := H7.cell 1 (v := .slice A1 r.fl.length c1) rfl
          go_simp
          refine hK.out _ _ hHeld (fun hHeld => ?_)
          clear hK
          try simp only [Act.put, List.setIfInBounds_toArray, List.set_cons_zero, List.set_cons_succ]
          clear p1
          refine wpAnyH_ready (rs := [7]) (by kernel_rfl) (by simp) ?_
          refine rg_cons rfl (fun K hK => ?_) AllReadyH.nil
          have hnws := World.news_of_block hnw
          refine step_append_st rfl _ _ _ rfl 48 i0 (.agg #[.string ⟨#[]⟩, .int .i64 0, .int .i64 0, .int .i64 0, .int .i64 0, .int .i64 0]) 6 56 Try.underlying53 hi hz0 hz1 hz2 rfl (by decide) A1 r.fl.length c1 (r.fl.flatMap FR.cells) H7.r2 rfl ⟨x8, 0, none⟩ 1 1 f.cells rfl rfl hnws (fun u hu => by simp [FR.cells] at hu; rcases hu with rfl | rfl | rfl | rfl | rfl | rfl <;> rfl) (by unfold maxLen; omega) (by omega) ?_
          intro A5 c5 wc H8
          rw [← flat_snoc] at H8
          refine hK.out _ _ (show _ from (H8.ord 6 [5, 0, 1, 2, 3, 4]).range) (fun hHeld => ?_)
          clear hK
          try simp only [Act.put, List.setIfInBounds_toArray, List.set_cons_zero, List.set_cons_succ]
          refine rg_take (i := 8) (v := ?_) rfl (by kernel_rfl) (by kernel_rfl) (by kernel_rfl) (fun _ _ _ h => h) (Or.inl ⟨by kernel_rfl, ?_⟩) (by assumption) ?_
          rotate_left 1
          · intro w' hSw
            try dsimp only at hSw
            go_simp
            first | done | with_reducible rfl
          simp only [Act.put, List.setIfInBounds_toArray, List.set_cons_zero, List.set_cons_succ]
          refine rg_take (i := 9) (v := ?_) rfl (by kernel_rfl) (by kernel_rfl) (by kernel_rfl) (fun _ _ _ h => h) (Or.inl ⟨by kernel_rfl, ?_⟩) (by assumption) ?_
          rotate_left 1
          · intro w' hSw
            try dsimp only at hSw
            go_simp
            first | done | with_reducible rfl
          simp only [Act.put, List.setIfInBounds_toArray, List.set_cons_zero, List.set_cons_succ]
          refine wpAnyH_ready (rs := [10]) (by kernel_rfl) (by simp) ?_
          refine rg_cons rfl (fun K hK => ?_) AllReadyH.nil
          have p1 := H8.r2.cell 1 (v := .slice A1 r.fl.length c1) rfl
          have f1 := H8.r2.frozen 1
          have H9 := H8.r2.set 1 (.slice A5 (r.fl.length + 1) c5)
          go_simp
          refine hK.out _ _ (show _ from (H9.ord 6 [5, 0, 1, 2, 3, 4]).range) (fun hHeld => ?_)
          clear hK
          try simp only [Act.put, List.setIfInBounds_toArray, List.set_cons_zero, List.set_cons_succ]
          refine wpAnyH_done (by kernel_rfl) ?_ _
          clear hHeld
          have H10 : St w0 _ (RCx { r with fl := r.fl ++ [f] } :: Pt b5 at_.1.cells.toArray 48 :: Pt b6 f.cells.toArray 48 :: F) := St.shutR (r := { r with fl := r.fl ++ [f] }) (n1 := r.fl.length + 1) (by simp) rfl rfl H9
          generalize wc.setCell ⟨r.b, 1, none⟩ (.slice A5 (r.fl.length + 1) c5) = wd at *
          clear p1 f1 H9 H8 H7 hnw hnws
          have q0 := H10.r3.cell 0 (v := .string f.h) rfl
          have q1 := H10.r3.cell 1 (v := .int .i64 f.size) rfl
          have q2 := H10.r3.cell 2 (v := .int .i64 f.s) rfl
          have q3 := H10.r3.cell 3 (v := .int .i64 f.n) rfl
          have z1 := H10.r2.cell 1 (v := .int .i64 at_.1.size) rfl
          have z2 := H10.r2.cell 2 (v := .int .i64 at_.1.s) rfl
          have z3 := H10.r2.cell 3 (v := .int .i64 at_.1.n) rfl
          go_wp2_with (fail)
          refine (refdrop_ok { r with fl := r.fl ++ [f] } f.h hpp H10).mono ?_
          rintro e we ⟨rfl, H11⟩
          go_wp2_with (fail)
          go_ret
          exact ⟨by rw [HCH.out]; rfl, by rw [HLE.out]; exact (H11.ord 3 [1, 2, 0]).tail.tail⟩
end Go.Proofs.Ytnehdcaobkedpaa.Ca

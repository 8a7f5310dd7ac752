/- Layer 3: a call is filled, or refused. -/
import Derived.Test.YtkpcnklhboemcaaRpI
namespace Go.Proofs.Ytkpcnklhboemcaa
open Go.RowKit

abbrev thrown (xid v l h : Int) : Value := .iface 72 (.agg #[.int .i64 xid, .int .i64 v, .int .i64 l, .int .i64 h, .string ⟨#[]⟩])
theorem goodr_ok (b3 rb : Nat) (r : RS) (h6 : r.e ≠ 6) {w0 w : World} {F : List Assn} (H : St w0 w (Rdr rb r :: F)) (c3 : w.cell? ⟨b3, 0, none⟩ = some (.pointer (some ⟨rb, 0, none⟩))) :
    Calls Try.prog 45 #[.pointer (some ⟨b3, 0, none⟩)] w fun x w' => x = .returned (.bool (decide (r.e = 0))) ∧ w = w' := by
  by_cases he : r.e = 0
  · rw [decide_eq_true he]
    have hf : r.fin = 0 ∨ r.fin = 6 := by unfold RS.fin; rw [if_pos he]; split; exact .inl rfl; exact .inr rfl
    have HE := Lib.hid he; clear he h6
    rcases hf with hf | hf
    · have HF := Lib.hid hf; clear hf
      go_enter Try.func45, Try.ntmps45
      go_wp2_with (go_at_call 46; refine (end_ok rb r H).mono ?_; rw [HF.out]; rintro x w1 ⟨rfl, rfl⟩)
      go_ret
      exact ⟨rfl, rfl⟩
    · have HF := Lib.hid hf; clear hf
      go_enter Try.func45, Try.ntmps45
      go_wp2_with (go_at_call 46; refine (end_ok rb r H).mono ?_; rw [HF.out]; rintro x w1 ⟨rfl, rfl⟩)
      go_ret
      exact ⟨rfl, rfl⟩
  · rw [decide_eq_false he]
    have hf : r.fin = r.e := by unfold RS.fin; rw [if_neg he]
    have HF := Lib.hid hf; clear hf
    have a1 : (r.e == 0) = false := beq_eq_false_iff_ne.2 he
    have a2 : (r.e == 6) = false := beq_eq_false_iff_ne.2 h6
    clear he h6
    go_enter Try.func45, Try.ntmps45
    go_wp2_with (go_at_call 46; refine (end_ok rb r H).mono ?_; rw [HF.out]; rintro x w1 ⟨rfl, rfl⟩)
    go_ret
    exact ⟨rfl, rfl⟩
theorem refuse_no (v l h : Int) (b2 : Nat) (w : World) :
    Calls Try.prog 44 #[.bool false, .int .i64 v, .int .i64 l, .int .i64 h, .pointer (some ⟨b2, 0, none⟩)] w fun x w' => x = .returned (.tuple #[]) ∧ w = w' := by
  go_enter Try.func44, Try.ntmps44
  go_wp2_with (fail)
  go_end0
  exact ⟨rfl, rfl⟩
theorem refuse_yes (v l h : Int) (b2 bc : Nat) (xid : Int) (w : World) (c2 : w.cell? ⟨b2, 0, none⟩ = some (.pointer (some ⟨bc, 0, none⟩))) (cx : w.cell? ⟨bc, 0, none⟩ = some (.int .i64 xid)) :
    Calls Try.prog 44 #[.bool true, .int .i64 v, .int .i64 l, .int .i64 h, .pointer (some ⟨b2, 0, none⟩)] w fun x w' => x = .panicked [{ v := thrown xid v l h, recovered := false }] ∧ w = w' := by
  go_enter Try.func44, Try.ntmps44
  go_wp2_with (fail)
  exact ⟨rfl, rfl, rfl⟩
/-- what is filled; left: the refusal's three numbers -/
def fillC (x : Int) (r : RS) : (Int × Int × Int) ⊕ (Cal × RS) :=
  let v := r.nat 4
  if v.2.e ≠ 0 ∨ v.1 ≠ 2 then .inl (6, 2, 2) else
  let p := v.2.nat 4
  let q := p.2.nat 4
  let t := q.2.nat 4
  if t.2.e ≠ 0 then .inl (4, 0, 0) else
  let f := t.2.nat 4
  let b := f.2.opqe 400
  if b.2.e ≠ 0 then .inl (7, 1, 0) else
  if 1 < f.1 then .inl (7, 5, 0) else
  match (if f.1 = 1 then Cre.open b.1 else if b.1 = ByteArray.empty then some ⟨0, ⟨#[]⟩, 0, 0, []⟩ else none) with
  | none => .inl (7, 1, 0)
  | some k =>
    let f2 := b.2.nat 4
    let b2 := f2.2.opqe 400
    if b2.2.e ≠ 0 ∨ f2.1 ≠ 0 ∨ b2.1 ≠ ByteArray.empty ∨ b2.2.s.size % 4 ≠ 0 then .inl (7, 3, 0)
    else .inr (⟨x, p.1, q.1, t.1, decide (f.1 = 1), k.stamp, k.mach, k.uid, k.gid, k.groups, ⟨#[]⟩⟩, b2.2)
theorem RS.fixed_sz (r : RS) (n : Int) : (r.fixed n).1.size ≤ r.s.size := by
  unfold RS.fixed; repeat' split
  all_goals first | exact Nat.zero_le _ | exact Nat.le_trans (extract_le ..) (extract_le ..)
theorem RS.opqe_sz (r : RS) (n : Int) : (r.opqe n).1.size ≤ r.s.size := by
  unfold RS.opqe; split
  · exact Nat.zero_le _
  · exact Nat.le_trans (RS.fixed_sz _ _) (r.nat_le 4)
theorem RS.take_e6 (r : RS) (n : Int) (h : r.e ≠ 6) : (r.take n).2.e ≠ 6 := by
  unfold RS.take; split
  · split <;> (dsimp only; decide)
  · exact h
theorem RS.nat_e6 (r : RS) (n : Int) (h : r.e ≠ 6) : (r.nat n).2.e ≠ 6 := r.take_e6 n h
theorem RS.fixed_e6 (r : RS) (n : Int) (h : r.e ≠ 6) : (r.fixed n).2.e ≠ 6 := by
  unfold RS.fixed; repeat' split
  all_goals first | exact h | (dsimp only; decide)
theorem RS.opqe_e6 (r : RS) (n : Int) (h : r.e ≠ 6) : (r.opqe n).2.e ≠ 6 := by
  unfold RS.opqe; split
  · unfold RS.wrong; dsimp only; split
    · decide
    · exact RS.nat_e6 r 4 h
  · exact RS.fixed_e6 _ _ (RS.nat_e6 r 4 h)
-- §1: what is left of the frame for a refusal, §2: for the end
/-- how it ends -/
def Filled (w0 : World) (F : List Assn) (bc rb : Nat) (xid : Int) (o : (Int × Int × Int) ⊕ (Cal × RS)) (e : Ending) (w' : World) : Prop := match o with
  | .inl k => e = .panicked [{ v := thrown xid k.1 k.2.1 k.2.2, recovered := false }] ∧ ∃ (cs : Array Value) (r' : RS), cs.size = 11 ∧ St w0 w' (Pt bc cs 30 :: Rdr rb r' :: F)
  | .inr k => e = .returned (.tuple #[]) ∧ ∃ A d, St w0 w' (Pt bc (k.1.cells A d) 30 :: Row 3 1 A k.1.groups.length d (ivs k.1.groups) :: Rdr rb k.2 :: F)
set_option maxRecDepth 100000 in
set_option maxHeartbeats 16000000 in
theorem fill_ok (bc rb : Nat) (xid : Int) (r : RS) (hr : r.s.size ≤ 1099511627776) (h6 : r.e ≠ 6) {w0 w : World} {F : List Assn} (H0 : St w0 w (Pt bc (callC xid 0 0 0 false 0 ⟨#[]⟩ 0 0 none 0 0 ⟨#[]⟩) 30 :: Rdr rb r :: F)) :
    Calls Try.prog 31 #[.pointer (some ⟨bc, 0, none⟩), .pointer (some ⟨rb, 0, none⟩)] w (Filled w0 F bc rb xid (fillC xid r)) := by
  have hmf : ∀ (fn : Fn) (first cap : Array Value) (w : World), (Instr.makeFunc fn first cap).run Try.prog w = .ok (.func fn first cap) w := fun _ _ _ _ => rfl
  obtain ⟨res, hres⟩ : ∃ x, x = fillC xid r := ⟨_, rfl⟩
  rw [← hres]
  have HR := Lib.hid hres; clear hres
  have H1 := (H0.alloc #[.pointer (some ⟨bc, 0, none⟩)] 90).alloc #[.pointer (some ⟨rb, 0, none⟩)] 69
  simp only [World.size_alloc] at H1
  obtain ⟨b2, hb2⟩ : ∃ b, b = w.heap.size := ⟨_, rfl⟩
  obtain ⟨b3, hb3⟩ : ∃ b, b = w.heap.size + 1 := ⟨_, rfl⟩
  go_enter Try.func31, Try.ntmps31
  go_upto_region 1 with (fail)
  rw [← hb3] at H1 ⊢
  rw [← hb2] at H1 ⊢
  generalize (w.alloc (.cells #[.pointer (some ⟨bc, 0, none⟩)] 90)).alloc (.cells #[.pointer (some ⟨rb, 0, none⟩)] 69) = w1 at *
  have H := H1.ord 4 [3, 2, 0, 1]
  dsimp only [List.filterMap, List.drop, List.append_nil] at H
  clear H0 H1 hb2 hb3
  have c2 := H.r4.cell 0 rfl
  have c3 := H.r3.cell 0 rfl
  go_wp2_with (fail)
  obtain ⟨v, hv⟩ : ∃ zz, zz = RS.nat (r) 4 := ⟨_, rfl⟩
  have hc := uint_ok rb (r) (by omega) H
  have lv : v.2.s.size ≤ r.s.size := by rw [hv]; exact Nat.le_trans (RS.nat_le _ 4) (by first | omega | exact Nat.le_refl _)
  have nv := RS.nat4 (r)
  have ev : v.2.e ≠ 6 := by rw [hv]; exact RS.nat_e6 _ 4 (by assumption)
  rw [← hv] at hc nv
  have Ev := Lib.hid hv; clear hv
  refine hc.mono ?_
  rintro x w1 ⟨rfl, H'⟩
  clear hc H c2 c3
  have H := H'
  clear H'
  have c2 := H.r4.cell 0 rfl
  have c3 := H.r3.cell 0 rfl
  by_cases h1 : v.2.e = 0
  rotate_left 1
  · go_wp2_with (fail)
    have hg := goodr_ok b3 rb (v.2) (by assumption) H c3
    rw [decide_eq_false h1] at hg
    refine hg.mono ?_
    rintro x w2 ⟨rfl, rfl⟩
    clear hg
    go_wp2_with (fail)
    refine (refuse_yes _ _ _ b2 bc xid _ c2 (H.r2.cell 0 rfl)).mono ?_
    rintro x w2 ⟨rfl, rfl⟩
    refine ⟨rfl, ?_⟩
    have hr' : res = .inl (6, 2, 2) := by
      rw [HR.out]
      unfold fillC
      dsimp only
      rw [← Ev.out, if_pos (.inl h1)]
    rw [hr']
    exact ⟨rfl, _, _, rfl, H.r4.tail.r3.tail.r2⟩
  by_cases h2 : v.1 = 2
  rotate_left 1
  · have h2' : (v.1 != 2) = true := bne_iff_ne.2 h2
    go_wp2_with (fail)
    have hg := goodr_ok b3 rb (v.2) (by assumption) H c3
    rw [decide_eq_true h1] at hg
    refine hg.mono ?_
    rintro x w2 ⟨rfl, rfl⟩
    clear hg
    go_wp2_with (fail)
    refine (refuse_yes _ _ _ b2 bc xid _ c2 (H.r2.cell 0 rfl)).mono ?_
    rintro x w2 ⟨rfl, rfl⟩
    refine ⟨rfl, ?_⟩
    have hr' : res = .inl (6, 2, 2) := by
      rw [HR.out]
      unfold fillC
      dsimp only
      rw [← Ev.out, if_pos (.inr h2)]
    rw [hr']
    exact ⟨rfl, _, _, rfl, H.r4.tail.r3.tail.r2⟩
  have h2' : (v.1 != 2) = false := by rw [h2]; rfl
  have HV : Hid (¬ (v.2.e ≠ 0 ∨ v.1 ≠ 2)) := fun h => h.elim (fun h => h h1) (fun h => h h2)
  go_wp2_with (fail)
  have hg := goodr_ok b3 rb (v.2) (by assumption) H c3
  rw [decide_eq_true h1] at hg
  refine hg.mono ?_
  rintro x w2 ⟨rfl, rfl⟩
  clear hg
  clear h1 h2
  go_wp2_with (fail)
  refine (refuse_no _ _ _ b2 _).mono ?_
  rintro x w2 ⟨rfl, rfl⟩
  clear h2'
  go_upto_region 5 with (fail)
  have H' := H.drew
  refine wp_region_held_drew (S := fun w' => w'.cell? ⟨b2, 0, none⟩ = some (.pointer (some ⟨bc, 0, none⟩)) ∧ w'.cell? ⟨b3, 0, none⟩ = some (.pointer (some ⟨rb, 0, none⟩))) (by kernel_rfl) ⟨H'.r4.cell 0 rfl, H'.r3.cell 0 rfl⟩ (fun hHeld => ?_)
  generalize w1.drew = w1 at *
  clear H c2 c3
  have H := H'
  clear H'
  refine rg_take (i := 0) (v := ?_) rfl (by kernel_rfl) (by kernel_rfl) (by kernel_rfl) (fun _ _ _ h => h) (Or.inl ⟨by kernel_rfl, ?_⟩) (by assumption) ?_
  rotate_left 1
  · intro w' hSw
    try dsimp only at hSw
    go_simp
    first | done | with_reducible rfl
  try simp only [Act.put, List.setIfInBounds_toArray, List.set_cons_zero, List.set_cons_succ]
  refine rg_take (i := 1) (v := ?_) rfl (by kernel_rfl) (by kernel_rfl) (by kernel_rfl) (fun _ _ _ h => h) (Or.inl ⟨by kernel_rfl, ?_⟩) (by assumption) ?_
  rotate_left 1
  · intro w' hSw
    try dsimp only at hSw
    go_simp
    first | done | with_reducible rfl
  try simp only [Act.put, List.setIfInBounds_toArray, List.set_cons_zero, List.set_cons_succ]
  refine rg_take (i := 2) (v := ?_) rfl (by kernel_rfl) (by kernel_rfl) (by kernel_rfl) (fun _ _ _ h => h) (Or.inl ⟨by kernel_rfl, ?_⟩) (by assumption) ?_
  rotate_left 1
  · intro w' hSw
    try dsimp only at hSw
    go_simp
    first | done | with_reducible rfl
  try simp only [Act.put, List.setIfInBounds_toArray, List.set_cons_zero, List.set_cons_succ]
  refine rg_take (i := 3) (v := ?_) rfl (by kernel_rfl) (by kernel_rfl) (by kernel_rfl) (fun _ _ _ h => h) (Or.inl ⟨by kernel_rfl, ?_⟩) (by assumption) ?_
  rotate_left 1
  · intro w' hSw
    try dsimp only at hSw
    go_simp
    first | done | with_reducible rfl
  try simp only [Act.put, List.setIfInBounds_toArray, List.set_cons_zero, List.set_cons_succ]
  refine rg_take (i := 5) (v := ?_) rfl (by kernel_rfl) (by kernel_rfl) (by kernel_rfl) (fun _ _ _ h => h) (Or.inl ⟨by kernel_rfl, ?_⟩) (by assumption) ?_
  rotate_left 1
  · intro w' hSw
    try dsimp only at hSw
    go_simp
    first | done | with_reducible rfl
  try simp only [Act.put, List.setIfInBounds_toArray, List.set_cons_zero, List.set_cons_succ]
  refine rg_take (i := 7) (v := ?_) rfl (by kernel_rfl) (by kernel_rfl) (by kernel_rfl) (fun _ _ _ h => h) (Or.inl ⟨by kernel_rfl, ?_⟩) (by assumption) ?_
  rotate_left 1
  · intro w' hSw
    try dsimp only at hSw
    go_simp
    first | done | with_reducible rfl
  try simp only [Act.put, List.setIfInBounds_toArray, List.set_cons_zero, List.set_cons_succ]
  refine wpAnyH_ready (rs := [4]) (by kernel_rfl) (by simp) ?_
  refine rg_cons rfl (fun K hK => ?_) AllReadyH.nil
  obtain ⟨p, hp⟩ : ∃ zz, zz = RS.nat (v.2) 4 := ⟨_, rfl⟩
  have hc := uint_ok rb (v.2) (by omega) H
  have lp : p.2.s.size ≤ r.s.size := by rw [hp]; exact Nat.le_trans (RS.nat_le _ 4) (by first | omega | exact Nat.le_refl _)
  have np := RS.nat4 (v.2)
  have ep : p.2.e ≠ 6 := by rw [hp]; exact RS.nat_e6 _ 4 (by assumption)
  rw [← hp] at hc np
  have Ep := Lib.hid hp; clear hp
  go_simp
  refine hc.mono ?_
  rintro x w1 ⟨rfl, H'⟩
  clear hc H
  have H := H'
  clear H'
  refine hK.out _ _ ⟨H.r4.cell 0 rfl, H.r3.cell 0 rfl⟩ (fun hHeld' => ?_)
  clear hK hHeld
  have hHeld := hHeld'
  clear hHeld'
  try simp only [Act.put, List.setIfInBounds_toArray, List.set_cons_zero, List.set_cons_succ]
  refine wpAnyH_ready (rs := [6]) (by kernel_rfl) (by simp) ?_
  refine rg_cons rfl (fun K hK => ?_) AllReadyH.nil
  obtain ⟨q, hq⟩ : ∃ zz, zz = RS.nat (p.2) 4 := ⟨_, rfl⟩
  have hc := uint_ok rb (p.2) (by omega) H
  have lq : q.2.s.size ≤ r.s.size := by rw [hq]; exact Nat.le_trans (RS.nat_le _ 4) (by first | omega | exact Nat.le_refl _)
  have nq := RS.nat4 (p.2)
  have eq : q.2.e ≠ 6 := by rw [hq]; exact RS.nat_e6 _ 4 (by assumption)
  rw [← hq] at hc nq
  have Eq := Lib.hid hq; clear hq
  go_simp
  refine hc.mono ?_
  rintro x w1 ⟨rfl, H'⟩
  clear hc H
  have H := H'
  clear H'
  refine hK.out _ _ ⟨H.r4.cell 0 rfl, H.r3.cell 0 rfl⟩ (fun hHeld' => ?_)
  clear hK hHeld
  have hHeld := hHeld'
  clear hHeld'
  try simp only [Act.put, List.setIfInBounds_toArray, List.set_cons_zero, List.set_cons_succ]
  refine wpAnyH_ready (rs := [8]) (by kernel_rfl) (by simp) ?_
  refine rg_cons rfl (fun K hK => ?_) AllReadyH.nil
  obtain ⟨t, ht⟩ : ∃ zz, zz = RS.nat (q.2) 4 := ⟨_, rfl⟩
  have hc := uint_ok rb (q.2) (by omega) H
  have lt : t.2.s.size ≤ r.s.size := by rw [ht]; exact Nat.le_trans (RS.nat_le _ 4) (by first | omega | exact Nat.le_refl _)
  have nt := RS.nat4 (q.2)
  have et : t.2.e ≠ 6 := by rw [ht]; exact RS.nat_e6 _ 4 (by assumption)
  rw [← ht] at hc nt
  have Et := Lib.hid ht; clear ht
  go_simp
  refine hc.mono ?_
  rintro x w1 ⟨rfl, H'⟩
  clear hc H
  have H := H'
  clear H'
  refine hK.out _ _ ⟨H.r4.cell 0 rfl, H.r3.cell 0 rfl⟩ (fun hHeld' => ?_)
  clear hK hHeld
  have hHeld := hHeld'
  clear hHeld'
  try simp only [Act.put, List.setIfInBounds_toArray, List.set_cons_zero, List.set_cons_succ]
  refine rg_take (i := 9) (v := ?_) rfl (by kernel_rfl) (by kernel_rfl) (by kernel_rfl) (fun _ _ _ h => h) (Or.inl ⟨by kernel_rfl, ?_⟩) (by assumption) ?_
  rotate_left 1
  · intro w' hSw
    try dsimp only at hSw
    go_simp
    first | done | with_reducible rfl
  try simp only [Act.put, List.setIfInBounds_toArray, List.set_cons_zero, List.set_cons_succ]
  refine rg_take (i := 10) (v := ?_) rfl (by kernel_rfl) (by kernel_rfl) (by kernel_rfl) (fun _ _ _ h => h) (Or.inl ⟨by kernel_rfl, ?_⟩) (by assumption) ?_
  rotate_left 1
  · intro w' hSw
    try dsimp only at hSw
    go_simp
    first | done | with_reducible rfl
  try simp only [Act.put, List.setIfInBounds_toArray, List.set_cons_zero, List.set_cons_succ]
  refine wpAnyH_ready (rs := [11]) (by kernel_rfl) (by simp) ?_
  refine rg_cons rfl (fun K hK => ?_) AllReadyH.nil
  have c5 := H.r2.cell 1 rfl
  have f5 := H.r2.frozen 1
  have H' := (H.r2.set 1 (.int .i64 p.1)).r2
  go_simp
  refine hK.out _ _ ⟨H'.r4.cell 0 rfl, H'.r3.cell 0 rfl⟩ (fun hHeld' => ?_)
  clear hK hHeld
  have hHeld := hHeld'
  clear hHeld'
  try simp only [Act.put, List.setIfInBounds_toArray, List.set_cons_zero, List.set_cons_succ]
  generalize w1.setCell ⟨bc, 1, none⟩ (.int .i64 p.1) = w1 at *
  clear H c5 f5
  have H := H'
  clear H'
  refine rg_take (i := 12) (v := ?_) rfl (by kernel_rfl) (by kernel_rfl) (by kernel_rfl) (fun _ _ _ h => h) (Or.inl ⟨by kernel_rfl, ?_⟩) (by assumption) ?_
  rotate_left 1
  · intro w' hSw
    try dsimp only at hSw
    go_simp
    first | done | with_reducible rfl
  try simp only [Act.put, List.setIfInBounds_toArray, List.set_cons_zero, List.set_cons_succ]
  refine rg_take (i := 13) (v := ?_) rfl (by kernel_rfl) (by kernel_rfl) (by kernel_rfl) (fun _ _ _ h => h) (Or.inl ⟨by kernel_rfl, ?_⟩) (by assumption) ?_
  rotate_left 1
  · intro w' hSw
    try dsimp only at hSw
    go_simp
    first | done | with_reducible rfl
  try simp only [Act.put, List.setIfInBounds_toArray, List.set_cons_zero, List.set_cons_succ]
  refine wpAnyH_ready (rs := [14]) (by kernel_rfl) (by simp) ?_
  refine rg_cons rfl (fun K hK => ?_) AllReadyH.nil
  have c5 := H.r2.cell 2 rfl
  have f5 := H.r2.frozen 2
  have H' := (H.r2.set 2 (.int .i64 q.1)).r2
  go_simp
  refine hK.out _ _ ⟨H'.r4.cell 0 rfl, H'.r3.cell 0 rfl⟩ (fun hHeld' => ?_)
  clear hK hHeld
  have hHeld := hHeld'
  clear hHeld'
  try simp only [Act.put, List.setIfInBounds_toArray, List.set_cons_zero, List.set_cons_succ]
  generalize w1.setCell ⟨bc, 2, none⟩ (.int .i64 q.1) = w1 at *
  clear H c5 f5
  have H := H'
  clear H'
  refine rg_take (i := 15) (v := ?_) rfl (by kernel_rfl) (by kernel_rfl) (by kernel_rfl) (fun _ _ _ h => h) (Or.inl ⟨by kernel_rfl, ?_⟩) (by assumption) ?_
  rotate_left 1
  · intro w' hSw
    try dsimp only at hSw
    go_simp
    first | done | with_reducible rfl
  try simp only [Act.put, List.setIfInBounds_toArray, List.set_cons_zero, List.set_cons_succ]
  refine rg_take (i := 16) (v := ?_) rfl (by kernel_rfl) (by kernel_rfl) (by kernel_rfl) (fun _ _ _ h => h) (Or.inl ⟨by kernel_rfl, ?_⟩) (by assumption) ?_
  rotate_left 1
  · intro w' hSw
    try dsimp only at hSw
    go_simp
    first | done | with_reducible rfl
  try simp only [Act.put, List.setIfInBounds_toArray, List.set_cons_zero, List.set_cons_succ]
  refine wpAnyH_ready (rs := [17]) (by kernel_rfl) (by simp) ?_
  refine rg_cons rfl (fun K hK => ?_) AllReadyH.nil
  have c5 := H.r2.cell 3 rfl
  have f5 := H.r2.frozen 3
  have H' := (H.r2.set 3 (.int .i64 t.1)).r2
  go_simp
  refine hK.out _ _ ⟨H'.r4.cell 0 rfl, H'.r3.cell 0 rfl⟩ (fun hHeld' => ?_)
  clear hK hHeld
  have hHeld := hHeld'
  clear hHeld'
  try simp only [Act.put, List.setIfInBounds_toArray, List.set_cons_zero, List.set_cons_succ]
  generalize w1.setCell ⟨bc, 3, none⟩ (.int .i64 t.1) = w1 at *
  clear H c5 f5
  have H := H'
  clear H'
  refine wpAnyH_done (by kernel_rfl) ?_ _
  dsimp only [callC, List.setIfInBounds_toArray, List.set_cons_zero, List.set_cons_succ] at H
  clear hHeld
  have c2 := H.r4.cell 0 rfl
  have c3 := H.r3.cell 0 rfl
  by_cases h1 : t.2.e = 0
  rotate_left 1
  · go_wp2_with (fail)
    have hg := goodr_ok b3 rb (t.2) (by assumption) H c3
    rw [decide_eq_false h1] at hg
    refine hg.mono ?_
    rintro x w2 ⟨rfl, rfl⟩
    clear hg
    go_wp2_with (fail)
    refine (refuse_yes _ _ _ b2 bc xid _ c2 (H.r2.cell 0 rfl)).mono ?_
    rintro x w2 ⟨rfl, rfl⟩
    refine ⟨rfl, ?_⟩
    have hr' : res = .inl (4, 0, 0) := by
      rw [HR.out]
      unfold fillC
      dsimp only
      rw [← Ev.out, if_neg HV.out, ← Ep.out, ← Eq.out, ← Et.out, if_pos h1]
    rw [hr']
    exact ⟨rfl, _, _, rfl, H.r4.tail.r3.tail.r2⟩
  go_wp2_with (fail)
  have hg := goodr_ok b3 rb (t.2) (by assumption) H c3
  rw [decide_eq_true h1] at hg
  refine hg.mono ?_
  rintro x w2 ⟨rfl, rfl⟩
  clear hg
  have HT : Hid (¬ t.2.e ≠ 0) := fun h => h h1
  clear h1
  go_wp2_with (fail)
  refine (refuse_no _ _ _ b2 _).mono ?_
  rintro x w2 ⟨rfl, rfl⟩
  go_wp2_with (fail)
  obtain ⟨f, hf⟩ : ∃ zz, zz = RS.nat (t.2) 4 := ⟨_, rfl⟩
  have hc := uint_ok rb (t.2) (by omega) H
  have lf : f.2.s.size ≤ r.s.size := by rw [hf]; exact Nat.le_trans (RS.nat_le _ 4) (by first | omega | exact Nat.le_refl _)
  have nf := RS.nat4 (t.2)
  have ef : f.2.e ≠ 6 := by rw [hf]; exact RS.nat_e6 _ 4 (by assumption)
  rw [← hf] at hc nf
  have Ef := Lib.hid hf; clear hf
  refine hc.mono ?_
  rintro x w1 ⟨rfl, H'⟩
  clear hc H c2 c3
  have H := H'
  clear H'
  have c2 := H.r4.cell 0 rfl
  have c3 := H.r3.cell 0 rfl
  go_wp2_with (fail)
  obtain ⟨b, hb⟩ : ∃ zz, zz = RS.opqe (f.2) 400 := ⟨_, rfl⟩
  have hc := opaque_ok rb (f.2) 400 (by omega) H
  have lb : b.2.s.size ≤ r.s.size := by rw [hb]; exact Nat.le_trans (RS.opqe_le _ 400) (by omega)
  have eb : b.2.e ≠ 6 := by rw [hb]; exact RS.opqe_e6 _ 400 (by assumption)
  rw [← hb] at hc
  have Eb := Lib.hid hb; clear hb
  refine hc.mono ?_
  rintro x w1 ⟨rfl, H'⟩
  clear hc H c2 c3
  have H := H'
  clear H'
  have c2 := H.r4.cell 0 rfl
  have c3 := H.r3.cell 0 rfl
  by_cases h1 : b.2.e = 0
  rotate_left 1
  · go_wp2_with (fail)
    have hg := goodr_ok b3 rb (b.2) (by assumption) H c3
    rw [decide_eq_false h1] at hg
    refine hg.mono ?_
    rintro x w2 ⟨rfl, rfl⟩
    clear hg
    go_wp2_with (fail)
    refine (refuse_yes _ _ _ b2 bc xid _ c2 (H.r2.cell 0 rfl)).mono ?_
    rintro x w2 ⟨rfl, rfl⟩
    refine ⟨rfl, ?_⟩
    have hr' : res = .inl (7, 1, 0) := by
      rw [HR.out]
      unfold fillC
      dsimp only
      rw [← Ev.out, if_neg HV.out, ← Ep.out, ← Eq.out, ← Et.out, if_neg HT.out, ← Ef.out, ← Eb.out, if_pos h1]
    rw [hr']
    exact ⟨rfl, _, _, rfl, H.r4.tail.r3.tail.r2⟩
  go_wp2_with (fail)
  have hg := goodr_ok b3 rb (b.2) (by assumption) H c3
  rw [decide_eq_true h1] at hg
  refine hg.mono ?_
  rintro x w2 ⟨rfl, rfl⟩
  clear hg
  have HB : Hid (¬ b.2.e ≠ 0) := fun h => h h1
  clear h1
  go_wp2_with (fail)
  refine (refuse_no _ _ _ b2 _).mono ?_
  rintro x w2 ⟨rfl, rfl⟩
  by_cases h1 : 1 < f.1
  · have h1' : decide (1 < f.1) = true := decide_eq_true h1
    go_wp2_with (fail)
    refine (refuse_yes _ _ _ b2 bc xid _ c2 (H.r2.cell 0 rfl)).mono ?_
    rintro x w2 ⟨rfl, rfl⟩
    refine ⟨rfl, ?_⟩
    have hr' : res = .inl (7, 5, 0) := by
      rw [HR.out]
      unfold fillC
      dsimp only
      rw [← Ev.out, if_neg HV.out, ← Ep.out, ← Eq.out, ← Et.out, if_neg HT.out, ← Ef.out, ← Eb.out, if_neg HB.out, if_pos h1]
    rw [hr']
    exact ⟨rfl, _, _, rfl, H.r4.tail.r3.tail.r2⟩
  have h1' : decide (1 < f.1) = false := decide_eq_false h1
  have HF : Hid (f.1 ≤ 1) := Int.not_lt.1 h1
  clear h1
  have hf01 : f.1 = 0 ∨ f.1 = 1 := by have := nf; have := HF.out; omega
  go_wp2_with (fail)
  refine (refuse_no _ _ _ b2 _).mono ?_
  rintro x w2 ⟨rfl, rfl⟩
  clear h1'
  have c4 := H.r2.cell 4 rfl
  have f4 := H.r2.frozen 4
  go_upto_region 12 with (fail)
  have H' := (H.r2.set 4 (.bool (f.1 == 1))).r2
  generalize w1.setCell ⟨bc, 4, none⟩ (.bool (f.1 == 1)) = w1 at *
  clear H c2 c3 c4 f4
  have H := H'
  clear H'
  try dsimp only [callC, List.setIfInBounds_toArray, List.set_cons_zero, List.set_cons_succ] at H
  have c2 := H.r4.cell 0 rfl
  have c3 := H.r3.cell 0 rfl
  rcases hf01 with h0 | h0
  · have e0 : (f.1 == 1) = false := by rw [h0]; rfl
    rw [e0] at H
    have HK0 := Lib.hid h0
    clear h0 e0
    have c4 := H.r2.cell 4 rfl
    have he := isEmpty_iff b.1
    by_cases h1 : b.1 = ByteArray.empty
    rotate_left 1
    · have h1' : b.1.toList.isEmpty = false := Bool.eq_false_iff.2 fun h => h1 (he.1 h)
      have HK : Hid ((if f.1 = 1 then Cre.open b.1 else if b.1 = ByteArray.empty then some ⟨0, ⟨#[]⟩, 0, 0, []⟩ else none) = none) := by
        show _ = _
        rw [if_neg (by rw [HK0.out]; decide), if_neg h1]
      clear he
      go_wp2_with (fail)
      refine (refuse_yes _ _ _ b2 bc xid _ c2 (H.r2.cell 0 rfl)).mono ?_
      rintro x w2 ⟨rfl, rfl⟩
      refine ⟨rfl, ?_⟩
      have hr' : res = .inl (7, 1, 0) := by
        rw [HR.out]
        unfold fillC
        dsimp only
        rw [← Ev.out, if_neg HV.out, ← Ep.out, ← Eq.out, ← Et.out, if_neg HT.out, ← Ef.out, ← Eb.out, if_neg HB.out, if_neg (Int.not_lt.2 HF.out), HK.out]
        try rfl
      rw [hr']
      exact ⟨rfl, _, _, rfl, H.r4.tail.r3.tail.r2⟩
    have h1' : b.1.toList.isEmpty = true := he.2 h1
    have HK : Hid ((if f.1 = 1 then Cre.open b.1 else if b.1 = ByteArray.empty then some ⟨0, ⟨#[]⟩, 0, 0, []⟩ else none) = some ⟨0, ⟨#[]⟩, 0, 0, []⟩) := by
      show _ = _
      rw [if_neg (by rw [HK0.out]; decide), if_pos h1]
    clear he h1
    go_wp2_with (fail)
    refine (refuse_no _ _ _ b2 _).mono ?_
    rintro x w2 ⟨rfl, rfl⟩
    clear h1' c4
    go_wp2_with (fail)
    obtain ⟨y, hy⟩ : ∃ zz, zz = RS.nat (b.2) 4 := ⟨_, rfl⟩
    have hc := uint_ok rb (b.2) (by omega) H
    have ly : y.2.s.size ≤ r.s.size := by rw [hy]; exact Nat.le_trans (RS.nat_le _ 4) (by first | omega | exact Nat.le_refl _)
    have ny := RS.nat4 (b.2)
    have ey : y.2.e ≠ 6 := by rw [hy]; exact RS.nat_e6 _ 4 (by assumption)
    rw [← hy] at hc ny
    have Ey := Lib.hid hy; clear hy
    refine hc.mono ?_
    rintro x w1 ⟨rfl, H'⟩
    clear hc H c2 c3
    have H := H'
    clear H'
    have c2 := H.r4.cell 0 rfl
    have c3 := H.r3.cell 0 rfl
    go_wp2_with (fail)
    obtain ⟨z, hz⟩ : ∃ zz, zz = RS.opqe (y.2) 400 := ⟨_, rfl⟩
    have hc := opaque_ok rb (y.2) 400 (by omega) H
    have lz : z.2.s.size ≤ r.s.size := by rw [hz]; exact Nat.le_trans (RS.opqe_le _ 400) (by omega)
    have ez : z.2.e ≠ 6 := by rw [hz]; exact RS.opqe_e6 _ 400 (by assumption)
    rw [← hz] at hc
    have Ez := Lib.hid hz; clear hz
    refine hc.mono ?_
    rintro x w1 ⟨rfl, H'⟩
    clear hc H c2 c3
    have H := H'
    clear H'
    have c2 := H.r4.cell 0 rfl
    have c3 := H.r3.cell 0 rfl
    have he := isEmpty_iff z.1
    by_cases h1 : z.2.e = 0
    rotate_left 1
    · clear he
      go_wp2_with (fail)
      have hg := goodr_ok b3 rb (z.2) (by assumption) H c3
      rw [decide_eq_false h1] at hg
      refine hg.mono ?_
      rintro x w2 ⟨rfl, rfl⟩
      clear hg
      go_wp2_with (fail)
      refine (refuse_yes _ _ _ b2 bc xid _ c2 (H.r2.cell 0 rfl)).mono ?_
      rintro x w2 ⟨rfl, rfl⟩
      refine ⟨rfl, ?_⟩
      have hr' : res = .inl (7, 3, 0) := by
        rw [HR.out]
        unfold fillC
        dsimp only
        rw [← Ev.out, if_neg HV.out, ← Ep.out, ← Eq.out, ← Et.out, if_neg HT.out, ← Ef.out, ← Eb.out, if_neg HB.out, if_neg (Int.not_lt.2 HF.out), HK.out]
        (dsimp only; rw [← Ey.out, ← Ez.out, if_pos (.inl h1)])
      rw [hr']
      exact ⟨rfl, _, _, rfl, H.r4.tail.r3.tail.r2⟩
    by_cases h2 : y.1 = 0
    rotate_left 1
    · have h2' : (y.1 != 0) = true := bne_iff_ne.2 h2
      clear he
      go_wp2_with (fail)
      have hg := goodr_ok b3 rb (z.2) (by assumption) H c3
      rw [decide_eq_true h1] at hg
      refine hg.mono ?_
      rintro x w2 ⟨rfl, rfl⟩
      clear hg
      go_wp2_with (fail)
      refine (refuse_yes _ _ _ b2 bc xid _ c2 (H.r2.cell 0 rfl)).mono ?_
      rintro x w2 ⟨rfl, rfl⟩
      refine ⟨rfl, ?_⟩
      have hr' : res = .inl (7, 3, 0) := by
        rw [HR.out]
        unfold fillC
        dsimp only
        rw [← Ev.out, if_neg HV.out, ← Ep.out, ← Eq.out, ← Et.out, if_neg HT.out, ← Ef.out, ← Eb.out, if_neg HB.out, if_neg (Int.not_lt.2 HF.out), HK.out]
        (dsimp only; rw [← Ey.out, ← Ez.out, if_pos (.inr (.inl h2))])
      rw [hr']
      exact ⟨rfl, _, _, rfl, H.r4.tail.r3.tail.r2⟩
    have h2' : (y.1 != 0) = false := by rw [h2]; rfl
    by_cases h3 : z.1 = ByteArray.empty
    rotate_left 1
    · have h3' : z.1.toList.isEmpty = false := Bool.eq_false_iff.2 fun h => h3 (he.1 h)
      have H2 := Lib.hid h2
      clear he h2
      go_wp2_with (fail)
      have hg := goodr_ok b3 rb (z.2) (by assumption) H c3
      rw [decide_eq_true h1] at hg
      refine hg.mono ?_
      rintro x w2 ⟨rfl, rfl⟩
      clear hg
      go_wp2_with (fail)
      refine (refuse_yes _ _ _ b2 bc xid _ c2 (H.r2.cell 0 rfl)).mono ?_
      rintro x w2 ⟨rfl, rfl⟩
      refine ⟨rfl, ?_⟩
      have hr' : res = .inl (7, 3, 0) := by
        rw [HR.out]
        unfold fillC
        dsimp only
        rw [← Ev.out, if_neg HV.out, ← Ep.out, ← Eq.out, ← Et.out, if_neg HT.out, ← Ef.out, ← Eb.out, if_neg HB.out, if_neg (Int.not_lt.2 HF.out), HK.out]
        (dsimp only; rw [← Ey.out, ← Ez.out, if_pos (.inr (.inr (.inl h3)))])
      rw [hr']
      exact ⟨rfl, _, _, rfl, H.r4.tail.r3.tail.r2⟩
    have h3' : z.1.toList.isEmpty = true := he.2 h3
    have H2 := Lib.hid h2; have H3 := Lib.hid h3
    clear he h2 h3
    by_cases h4 : z.2.s.size % 4 = 0
    rotate_left 1
    · have h4' : ((z.2.s.size : Int) % 4 != 0) = true := by simp; omega
      go_wp2_with (fail)
      have hg := goodr_ok b3 rb (z.2) (by assumption) H c3
      rw [decide_eq_true h1] at hg
      refine hg.mono ?_
      rintro x w2 ⟨rfl, rfl⟩
      clear hg
      go_wp2_with (fail)
      refine (left_ok rb _ H).mono ?_
      rintro x w2 ⟨rfl, rfl⟩
      go_wp2_with (fail)
      refine (refuse_yes _ _ _ b2 bc xid _ c2 (H.r2.cell 0 rfl)).mono ?_
      rintro x w2 ⟨rfl, rfl⟩
      refine ⟨rfl, ?_⟩
      have hr' : res = .inl (7, 3, 0) := by
        rw [HR.out]
        unfold fillC
        dsimp only
        rw [← Ev.out, if_neg HV.out, ← Ep.out, ← Eq.out, ← Et.out, if_neg HT.out, ← Ef.out, ← Eb.out, if_neg HB.out, if_neg (Int.not_lt.2 HF.out), HK.out]
        (dsimp only; rw [← Ey.out, ← Ez.out, if_pos (.inr (.inr (.inr h4)))])
      rw [hr']
      exact ⟨rfl, _, _, rfl, H.r4.tail.r3.tail.r2⟩
    have h4' : ((z.2.s.size : Int) % 4 != 0) = false := by simp; omega
    go_wp2_with (fail)
    have hg := goodr_ok b3 rb (z.2) (by assumption) H c3
    rw [decide_eq_true h1] at hg
    refine hg.mono ?_
    rintro x w2 ⟨rfl, rfl⟩
    clear hg
    have H1 := Lib.hid h1
    clear h1
    go_wp2_with (fail)
    refine (left_ok rb _ H).mono ?_
    rintro x w2 ⟨rfl, rfl⟩
    go_wp2_with (fail)
    refine (refuse_no _ _ _ b2 _).mono ?_
    rintro x w2 ⟨rfl, rfl⟩
    have hr' : res = .inr (⟨xid, p.1, q.1, t.1, false, 0, ⟨#[]⟩, 0, 0, [], ⟨#[]⟩⟩, z.2) := by
      rw [HR.out]
      unfold fillC
      dsimp only
      rw [← Ev.out, if_neg HV.out, ← Ep.out, ← Eq.out, ← Et.out, if_neg HT.out, ← Ef.out, ← Eb.out, if_neg HB.out, if_neg (Int.not_lt.2 HF.out), HK.out]
      dsimp only
      rw [← Ey.out, ← Ez.out, if_neg (by rintro (h | h | h | h); exact h H1.out; exact h H2.out; exact h H3.out; exact h h4)]
      rw [decide_eq_false (by rw [HK0.out]; decide)]
    have HRR := Lib.hid hr'; clear hr'
    go_wp2_with (fail)
    go_end0
    rw [HRR.out]
    exact ⟨rfl, ⟨none, 0, ((H.r4.tail.r3.tail.r2.nilRow _ _).r2)⟩⟩
  · have e0 : (f.1 == 1) = true := by rw [h0]; rfl
    rw [e0] at H
    have HK0 := Lib.hid h0
    clear h0 e0
    have c4 := H.r2.cell 4 rfl
    have hbs : b.1.size ≤ 1099511627776 := by rw [Eb.out]; exact Nat.le_trans (RS.opqe_sz _ 400) (by omega)
    have hco := copen_ok bc b.1 hbs xid p.1 q.1 t.1 H.r2
    obtain ⟨o, ho⟩ : ∃ o, o = Cre.open b.1 := ⟨_, rfl⟩
    rw [← ho] at hco
    have HO := Lib.hid ho; clear ho hbs
    go_wp2_with (fail)
    refine hco.mono ?_
    clear hco
    intro e w2 hce
    clear c2 c3 c4 H
    cases o with
    | none =>
      obtain ⟨rfl, cs, hcs, hc0, H'⟩ := hce
      have HK : Hid ((if f.1 = 1 then Cre.open b.1 else if b.1 = ByteArray.empty then some ⟨0, ⟨#[]⟩, 0, 0, []⟩ else none) = none) := by
        show _ = _
        rw [if_pos HK0.out, ← HO.out]
      have H := H'.r2
      clear H'
      have c2 := H.r4.cell 0 rfl
      have c3 := H.r3.cell 0 rfl
      go_wp2_with (fail)
      refine (refuse_yes _ _ _ b2 bc xid _ c2 (H.r2.cell 0 hc0)).mono ?_
      rintro x w2 ⟨rfl, rfl⟩
      refine ⟨rfl, ?_⟩
      have hr' : res = .inl (7, 1, 0) := by
        rw [HR.out]
        unfold fillC
        dsimp only
        rw [← Ev.out, if_neg HV.out, ← Ep.out, ← Eq.out, ← Et.out, if_neg HT.out, ← Ef.out, ← Eb.out, if_neg HB.out, if_neg (Int.not_lt.2 HF.out), HK.out]
        try rfl
      rw [hr']
      exact ⟨rfl, _, _, hcs, H.r4.tail.r3.tail.r2⟩
    | some K =>
      obtain ⟨rfl, A, d, H'⟩ := hce
      have HK : Hid ((if f.1 = 1 then Cre.open b.1 else if b.1 = ByteArray.empty then some ⟨0, ⟨#[]⟩, 0, 0, []⟩ else none) = some K) := by
        show _ = _
        rw [if_pos HK0.out, ← HO.out]
      have H := H'.ord 5 [2, 0, 3, 4, 1]
      dsimp only [List.filterMap, List.drop, List.append_nil] at H
      clear H'
      have c2 := H.r4.cell 0 rfl
      have c3 := H.r3.cell 0 rfl
      have c4 := H.r2.cell 4 rfl
      obtain ⟨ks, km, ku, kg, kl⟩ := K
      dsimp only at H
      go_wp2_with (fail)
      refine (refuse_no _ _ _ b2 _).mono ?_
      rintro x w2 ⟨rfl, rfl⟩
      clear c4
      go_wp2_with (fail)
      obtain ⟨y, hy⟩ : ∃ zz, zz = RS.nat (b.2) 4 := ⟨_, rfl⟩
      have hc := uint_ok rb (b.2) (by omega) H
      have ly : y.2.s.size ≤ r.s.size := by rw [hy]; exact Nat.le_trans (RS.nat_le _ 4) (by first | omega | exact Nat.le_refl _)
      have ny := RS.nat4 (b.2)
      have ey : y.2.e ≠ 6 := by rw [hy]; exact RS.nat_e6 _ 4 (by assumption)
      rw [← hy] at hc ny
      have Ey := Lib.hid hy; clear hy
      refine hc.mono ?_
      rintro x w1 ⟨rfl, H'⟩
      clear hc H c2 c3
      have H := H'
      clear H'
      have c2 := H.r4.cell 0 rfl
      have c3 := H.r3.cell 0 rfl
      go_wp2_with (fail)
      obtain ⟨z, hz⟩ : ∃ zz, zz = RS.opqe (y.2) 400 := ⟨_, rfl⟩
      have hc := opaque_ok rb (y.2) 400 (by omega) H
      have lz : z.2.s.size ≤ r.s.size := by rw [hz]; exact Nat.le_trans (RS.opqe_le _ 400) (by omega)
      have ez : z.2.e ≠ 6 := by rw [hz]; exact RS.opqe_e6 _ 400 (by assumption)
      rw [← hz] at hc
      have Ez := Lib.hid hz; clear hz
      refine hc.mono ?_
      rintro x w1 ⟨rfl, H'⟩
      clear hc H c2 c3
      have H := H'
      clear H'
      have c2 := H.r4.cell 0 rfl
      have c3 := H.r3.cell 0 rfl
      have he := isEmpty_iff z.1
      by_cases h1 : z.2.e = 0
      rotate_left 1
      · clear he
        go_wp2_with (fail)
        have hg := goodr_ok b3 rb (z.2) (by assumption) H c3
        rw [decide_eq_false h1] at hg
        refine hg.mono ?_
        rintro x w2 ⟨rfl, rfl⟩
        clear hg
        go_wp2_with (fail)
        refine (refuse_yes _ _ _ b2 bc xid _ c2 (H.r2.cell 0 rfl)).mono ?_
        rintro x w2 ⟨rfl, rfl⟩
        refine ⟨rfl, ?_⟩
        have hr' : res = .inl (7, 3, 0) := by
          rw [HR.out]
          unfold fillC
          dsimp only
          rw [← Ev.out, if_neg HV.out, ← Ep.out, ← Eq.out, ← Et.out, if_neg HT.out, ← Ef.out, ← Eb.out, if_neg HB.out, if_neg (Int.not_lt.2 HF.out), HK.out]
          (dsimp only; rw [← Ey.out, ← Ez.out, if_pos (.inl h1)])
        rw [hr']
        exact ⟨rfl, _, _, rfl, H.r4.tail.r3.tail.r3.tail.r2⟩
      by_cases h2 : y.1 = 0
      rotate_left 1
      · have h2' : (y.1 != 0) = true := bne_iff_ne.2 h2
        clear he
        go_wp2_with (fail)
        have hg := goodr_ok b3 rb (z.2) (by assumption) H c3
        rw [decide_eq_true h1] at hg
        refine hg.mono ?_
        rintro x w2 ⟨rfl, rfl⟩
        clear hg
        go_wp2_with (fail)
        refine (refuse_yes _ _ _ b2 bc xid _ c2 (H.r2.cell 0 rfl)).mono ?_
        rintro x w2 ⟨rfl, rfl⟩
        refine ⟨rfl, ?_⟩
        have hr' : res = .inl (7, 3, 0) := by
          rw [HR.out]
          unfold fillC
          dsimp only
          rw [← Ev.out, if_neg HV.out, ← Ep.out, ← Eq.out, ← Et.out, if_neg HT.out, ← Ef.out, ← Eb.out, if_neg HB.out, if_neg (Int.not_lt.2 HF.out), HK.out]
          (dsimp only; rw [← Ey.out, ← Ez.out, if_pos (.inr (.inl h2))])
        rw [hr']
        exact ⟨rfl, _, _, rfl, H.r4.tail.r3.tail.r3.tail.r2⟩
      have h2' : (y.1 != 0) = false := by rw [h2]; rfl
      by_cases h3 : z.1 = ByteArray.empty
      rotate_left 1
      · have h3' : z.1.toList.isEmpty = false := Bool.eq_false_iff.2 fun h => h3 (he.1 h)
        have H2 := Lib.hid h2
        clear he h2
        go_wp2_with (fail)
        have hg := goodr_ok b3 rb (z.2) (by assumption) H c3
        rw [decide_eq_true h1] at hg
        refine hg.mono ?_
        rintro x w2 ⟨rfl, rfl⟩
        clear hg
        go_wp2_with (fail)
        refine (refuse_yes _ _ _ b2 bc xid _ c2 (H.r2.cell 0 rfl)).mono ?_
        rintro x w2 ⟨rfl, rfl⟩
        refine ⟨rfl, ?_⟩
        have hr' : res = .inl (7, 3, 0) := by
          rw [HR.out]
          unfold fillC
          dsimp only
          rw [← Ev.out, if_neg HV.out, ← Ep.out, ← Eq.out, ← Et.out, if_neg HT.out, ← Ef.out, ← Eb.out, if_neg HB.out, if_neg (Int.not_lt.2 HF.out), HK.out]
          (dsimp only; rw [← Ey.out, ← Ez.out, if_pos (.inr (.inr (.inl h3)))])
        rw [hr']
        exact ⟨rfl, _, _, rfl, H.r4.tail.r3.tail.r3.tail.r2⟩
      have h3' : z.1.toList.isEmpty = true := he.2 h3
      have H2 := Lib.hid h2; have H3 := Lib.hid h3
      clear he h2 h3
      by_cases h4 : z.2.s.size % 4 = 0
      rotate_left 1
      · have h4' : ((z.2.s.size : Int) % 4 != 0) = true := by simp; omega
        go_wp2_with (fail)
        have hg := goodr_ok b3 rb (z.2) (by assumption) H c3
        rw [decide_eq_true h1] at hg
        refine hg.mono ?_
        rintro x w2 ⟨rfl, rfl⟩
        clear hg
        go_wp2_with (fail)
        refine (left_ok rb _ H).mono ?_
        rintro x w2 ⟨rfl, rfl⟩
        go_wp2_with (fail)
        refine (refuse_yes _ _ _ b2 bc xid _ c2 (H.r2.cell 0 rfl)).mono ?_
        rintro x w2 ⟨rfl, rfl⟩
        refine ⟨rfl, ?_⟩
        have hr' : res = .inl (7, 3, 0) := by
          rw [HR.out]
          unfold fillC
          dsimp only
          rw [← Ev.out, if_neg HV.out, ← Ep.out, ← Eq.out, ← Et.out, if_neg HT.out, ← Ef.out, ← Eb.out, if_neg HB.out, if_neg (Int.not_lt.2 HF.out), HK.out]
          (dsimp only; rw [← Ey.out, ← Ez.out, if_pos (.inr (.inr (.inr h4)))])
        rw [hr']
        exact ⟨rfl, _, _, rfl, H.r4.tail.r3.tail.r3.tail.r2⟩
      have h4' : ((z.2.s.size : Int) % 4 != 0) = false := by simp; omega
      go_wp2_with (fail)
      have hg := goodr_ok b3 rb (z.2) (by assumption) H c3
      rw [decide_eq_true h1] at hg
      refine hg.mono ?_
      rintro x w2 ⟨rfl, rfl⟩
      clear hg
      have H1 := Lib.hid h1
      clear h1
      go_wp2_with (fail)
      refine (left_ok rb _ H).mono ?_
      rintro x w2 ⟨rfl, rfl⟩
      go_wp2_with (fail)
      refine (refuse_no _ _ _ b2 _).mono ?_
      rintro x w2 ⟨rfl, rfl⟩
      have hr' : res = .inr (⟨xid, p.1, q.1, t.1, true, ks, km, ku, kg, kl, ⟨#[]⟩⟩, z.2) := by
        rw [HR.out]
        unfold fillC
        dsimp only
        rw [← Ev.out, if_neg HV.out, ← Ep.out, ← Eq.out, ← Et.out, if_neg HT.out, ← Ef.out, ← Eb.out, if_neg HB.out, if_neg (Int.not_lt.2 HF.out), HK.out]
        dsimp only
        rw [← Ey.out, ← Ez.out, if_neg (by rintro (h | h | h | h); exact h H1.out; exact h H2.out; exact h H3.out; exact h h4)]
        rw [decide_eq_true HK0.out]
      have HRR := Lib.hid hr'; clear hr'
      go_wp2_with (fail)
      go_end0
      rw [HRR.out]
      exact ⟨rfl, ⟨A, d, (H.r4.tail.r3.tail.r2.r3.r2)⟩⟩
end Go.Proofs.Ytkpcnklhboemcaa

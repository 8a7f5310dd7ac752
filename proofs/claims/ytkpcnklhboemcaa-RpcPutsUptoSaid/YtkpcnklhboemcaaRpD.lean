/- Layer 3: any bytes as a reply, walked. -/
import Derived.Test.YtkpcnklhboemcaaRpC
import Derived.Deep.DeepCutAuto
namespace Go.Proofs.Ytkpcnklhboemcaa
open Go.RowKit

theorem toList_ne {s t : ByteArray} (h : s ≠ t) : (s.toList == t.toList) = false := by
  rw [beq_eq_false_iff_ne, ByteArray.toList_eq, ByteArray.toList_eq]
  exact fun he => h (bl_inj he)
theorem toList_same (s : ByteArray) : (s.toList == s.toList) = true := by simp
theorem results_cell1 {P : Program} {fn : Func} {p t : Tmp} {ty : TypeId} (h : fn.results = #[.cell p ty, .tmp t]) (tmps : Array Value) (w : World) (g : Nat) (T : TypeId) (cs : Array Value) (fr : Nat × Nat) (d : TypeDesc)
    (hp : tmps.getD p undef = .pointer (some ⟨g, 0, none⟩)) (hg : w.heap[g]? = some (.cells cs T fr))
    (hu : P.underlying ty = some d) (hd : (match d with | .struct _ | .array _ _ => true | _ => false) = true) (hi : (P.info? ty).map (·.size) = some cs.size) :
    (results fn tmps).run P w = .ok (.tuple #[.agg cs, tmps.getD t undef]) w := by
  have hp' : tmps[p]?.getD undef = .pointer (some ⟨g, 0, none⟩) := by simpa using hp
  simp [results, h, hp', asAddr, run_loadVar_row w g T ty cs fr d hg hu hd hi]
theorem Rep.zero_cells : Rep.zero.cells = #[.int .i64 0, .int .i64 0, .int .i64 0, .int .i64 0, .string ByteArray.empty] := rfl
abbrev zrep : Array Value := #[.int .i64 0, .int .i64 0, .int .i64 0, .int .i64 0, .string { data := #[] }]
theorem Rep.zero_cells' : Rep.zero.cells = zrep := rfl
set_option maxRecDepth 100000 in
set_option maxHeartbeats 4000000 in
theorem getreply_long (s : ByteArray) (hl : 65536 < s.size) {w0 w : World} {F : List Assn} (H0 : St w0 w F) :
    Calls Try.prog 18 #[.string s] w fun x w' => x = .returned (.tuple #[.agg (Rep.get s).1.cells, .int .i64 (Rep.get s).2]) ∧ St w0 w' F := by
  have e : Rep.get s = (Rep.zero, 2) := by unfold Rep.get; rw [if_pos hl]
  rw [e, Rep.zero_cells']; clear e
  have H := H0.alloc zrep 49
  have hd : decide (65536 < (s.size : Int)) = true := decide_eq_true (by omega)
  obtain ⟨b2, hb2⟩ : ∃ b, b = w.heap.size := ⟨_, rfl⟩
  go_enter Try.func18, Try.ntmps18
  go_upto_region 1 with (fail)
  rw [← hb2] at H ⊢
  generalize w.alloc (.cells zrep 49) = w2 at *
  clear H0 hb2
  go_wp2_with (with_reducible refine hold_store (ty := 49) ?_)
  unfold Hold
  with_reducible refine wpList_store_st (ty := 49) (H) (zrep) ?_ ?_ ?_ ?_ ?_ ?_ ?_
  rfl
  rfl
  rfl
  rfl
  kernel_rfl
  rfl
  intro w8 H8
  go_wp2_with (fail)
  refine bodyPost_ret (results_cell1 rfl _ _ b2 49 (zrep) (0, 0) _ rfl H8.block Try.underlying49 rfl (by kernel_rfl)) rfl ?_
  exact ⟨rfl, H8.tail⟩
set_option maxRecDepth 100000 in
set_option maxHeartbeats 8000000 in
theorem getreply_b (s : ByteArray) (hl : ¬ 65536 < s.size) (hk : ((((⟨s, 0⟩ : RS).nat 4).2.nat 4).2.nat 4).1 ≠ 0) {w0 w : World} {F : List Assn} (H0 : St w0 w F) :
    Calls Try.prog 18 #[.string s] w fun x w' => x = .returned (.tuple #[.agg (Rep.get s).1.cells, .int .i64 (Rep.get s).2]) ∧ St w0 w' F := by
  have HK := Lib.hid hk; clear hk
  have H := H0.alloc zrep 49
  have hd : decide (65536 < (s.size : Int)) = false := decide_eq_false (by omega)
  obtain ⟨b2, hb2⟩ : ∃ b, b = w.heap.size := ⟨_, rfl⟩
  go_enter Try.func18, Try.ntmps18
  go_upto_region 1 with (fail)
  rw [← hb2] at H ⊢
  generalize w.alloc (.cells zrep 49) = w2 at *
  clear H0 hb2
  go_wp2_with (fail)
  refine (open_ok s H).mono ?_
  rintro x w3 ⟨rb, rfl, H'⟩
  clear H
  have H := (H'.alloc zrep 49).r2
  obtain ⟨b5, hb5⟩ : ∃ b, b = w3.heap.size := ⟨_, rfl⟩
  go_wp2_with (fail)
  rw [← hb5] at H ⊢
  generalize w3.alloc (.cells zrep 49) = w2 at *
  clear hb5 H'
  obtain ⟨q1, hq1⟩ : ∃ q, q = RS.nat (⟨s, 0⟩) 4 := ⟨_, rfl⟩
  have hc := uint_ok rb (⟨s, 0⟩) (by first | omega | (dsimp only; omega)) H
  have lq1 : q1.2.s.size ≤ s.size := by rw [hq1]; exact Nat.le_trans (RS.nat_le _ 4) (by first | omega | exact Nat.le_refl _)
  have nq1 := RS.nat4 (⟨s, 0⟩)
  rw [← hq1] at hc nq1
  have Eq1 := Lib.hid hq1; clear hq1
  refine hc.mono ?_
  rintro x w1 ⟨rfl, H'⟩
  clear hc H
  have H := H'
  clear H'
  have c5 := H.r2.cell 0 rfl
  have f5 := H.r2.frozen 0
  go_upto_region 6 with (fail)
  have H' := (H.r2.set 0 (.int .i64 q1.1)).r2
  generalize w1.setCell ⟨b5, 0, none⟩ (.int .i64 q1.1) = w1 at *
  clear H c5 f5
  have H := H'
  clear H'
  try dsimp only [zrep, List.setIfInBounds_toArray, List.set_cons_zero, List.set_cons_succ] at H
  have c1 := H.r2.cell 1 rfl
  go_wp2_with (fail)
  obtain ⟨q2, hq2⟩ : ∃ q, q = RS.nat (q1.2) 4 := ⟨_, rfl⟩
  have hc := uint_ok rb (q1.2) (by first | omega | (dsimp only; omega)) H
  have lq2 : q2.2.s.size ≤ s.size := by rw [hq2]; exact Nat.le_trans (RS.nat_le _ 4) (by first | omega | exact Nat.le_refl _)
  have nq2 := RS.nat4 (q1.2)
  rw [← hq2] at hc nq2
  have Eq2 := Lib.hid hq2; clear hq2
  refine hc.mono ?_
  rintro x w1 ⟨rfl, H'⟩
  clear hc H
  have H := H'
  clear H'
  go_wp2_with (fail)
  obtain ⟨q3, hq3⟩ : ∃ q, q = RS.nat (q2.2) 4 := ⟨_, rfl⟩
  have hc := uint_ok rb (q2.2) (by first | omega | (dsimp only; omega)) H
  have lq3 : q3.2.s.size ≤ s.size := by rw [hq3]; exact Nat.le_trans (RS.nat_le _ 4) (by first | omega | exact Nat.le_refl _)
  have nq3 := RS.nat4 (q2.2)
  rw [← hq3] at hc nq3
  have Eq3 := Lib.hid hq3; clear hq3
  refine hc.mono ?_
  rintro x w1 ⟨rfl, H'⟩
  clear hc H
  have H := H'
  clear H'
  have hk : q3.1 ≠ 0 := by rw [Eq3.out, Eq2.out, Eq1.out]; exact HK.out
  have hk' : (q3.1 == 0) = false := beq_eq_false_iff_ne.2 hk
  go_wp2_with (fail)
  obtain ⟨q4, hq4⟩ : ∃ q, q = RS.nat (q3.2) 4 := ⟨_, rfl⟩
  have hc := uint_ok rb (q3.2) (by first | omega | (dsimp only; omega)) H
  have lq4 : q4.2.s.size ≤ s.size := by rw [hq4]; exact Nat.le_trans (RS.nat_le _ 4) (by first | omega | exact Nat.le_refl _)
  have nq4 := RS.nat4 (q3.2)
  rw [← hq4] at hc nq4
  have Eq4 := Lib.hid hq4; clear hq4
  refine hc.mono ?_
  rintro x w1 ⟨rfl, H'⟩
  clear hc H
  have H := H'
  clear H'
  obtain ⟨v4, r4⟩ := q4
  dsimp only at nq4 lq4 H ⊢
  by_cases h1 : 1 < v4
  · have a1 : decide (7 < 6 + v4) = true := decide_eq_true (by omega)
    have hP : Rep.parse s = none := by
      unfold Rep.parse
      simp only [← Eq1.out, ← Eq2.out, ← Eq3.out, ← Eq4.out]
      rw [if_neg hk, if_pos h1]
    have hr : Rep.get s = (Rep.zero, 4) := by unfold Rep.get; rw [if_neg hl, hP]
    have HE := Lib.hid hr; clear hr hP
    have c5 := H.r2.cell 1 rfl
    have f5 := H.r2.frozen 1
    go_upto_region 14 with (fail)
    have H' := (H.r2.set 1 (.int .i64 (6 + v4))).r2
    generalize w1.setCell ⟨b5, 1, none⟩ (.int .i64 (6 + v4)) = w1 at *
    clear H c5 f5
    have H := H'
    clear H'
    try dsimp only [zrep, List.setIfInBounds_toArray, List.set_cons_zero, List.set_cons_succ] at H
    have c1 := H.r2.cell 1 rfl
    go_wp2_with (with_reducible refine hold_store (ty := 49) ?_)
    unfold Hold
    with_reducible refine wpList_store_st (ty := 49) (H.r3) (zrep) ?_ ?_ ?_ ?_ ?_ ?_ ?_
    rfl
    rfl
    rfl
    rfl
    kernel_rfl
    rfl
    intro w8 H8
    go_wp2_with (fail)
    refine bodyPost_ret (results_cell1 rfl _ _ b2 49 (zrep) (0, 0) _ rfl H8.block Try.underlying49 rfl (by kernel_rfl)) rfl ?_
    rw [HE.out, Rep.zero_cells']
    exact ⟨rfl, H8.tail.tail.tail⟩
  · have h01 : v4 = 0 ∨ v4 = 1 := by omega
    clear h1
    rcases h01 with rfl | rfl
    · have c5 := H.r2.cell 1 rfl
      have f5 := H.r2.frozen 1
      go_upto_region 14 with (fail)
      have H' := (H.r2.set 1 (.int .i64 6)).r2
      generalize w1.setCell ⟨b5, 1, none⟩ (.int .i64 6) = w1 at *
      clear H c5 f5
      have H := H'
      clear H'
      try dsimp only [zrep, List.setIfInBounds_toArray, List.set_cons_zero, List.set_cons_succ] at H
      have c1 := H.r2.cell 1 rfl
      go_wp2_with (fail)
      obtain ⟨q5, hq5⟩ : ∃ q, q = RS.nat (r4) 4 := ⟨_, rfl⟩
      have hc := uint_ok rb (r4) (by first | omega | (dsimp only; omega)) H
      have lq5 : q5.2.s.size ≤ s.size := by rw [hq5]; exact Nat.le_trans (RS.nat_le _ 4) (by first | omega | exact Nat.le_refl _)
      have nq5 := RS.nat4 (r4)
      rw [← hq5] at hc nq5
      have Eq5 := Lib.hid hq5; clear hq5
      refine hc.mono ?_
      rintro x w1 ⟨rfl, H'⟩
      clear hc H
      have H := H'
      clear H'
      go_wp2_with (fail)
      obtain ⟨q6, hq6⟩ : ∃ q, q = RS.nat (q5.2) 4 := ⟨_, rfl⟩
      have hc := uint_ok rb (q5.2) (by first | omega | (dsimp only; omega)) H
      have lq6 : q6.2.s.size ≤ s.size := by rw [hq6]; exact Nat.le_trans (RS.nat_le _ 4) (by first | omega | exact Nat.le_refl _)
      have nq6 := RS.nat4 (q5.2)
      rw [← hq6] at hc nq6
      have Eq6 := Lib.hid hq6; clear hq6
      refine hc.mono ?_
      rintro x w1 ⟨rfl, H'⟩
      clear hc H
      have H := H'
      clear H'
      have c2 := H.r2.cell 2 rfl
      have f2 := H.r2.frozen 2
      have c3 := (H.r2.set 2 (.int .i64 q5.1)).cell 3 rfl
      have f3 := (H.r2.set 2 (.int .i64 q5.1)).frozen 3
      go_upto_region 24 with (fail)
      have H' := ((H.r2.set 2 (.int .i64 q5.1)).set 3 (.int .i64 q6.1)).r2
      generalize (w1.setCell ⟨b5, 2, none⟩ (.int .i64 q5.1)).setCell ⟨b5, 3, none⟩ (.int .i64 q6.1) = w1 at *
      clear H c2 f2 c3 f3
      have H := H'
      clear H'
      have hP : Rep.parse s = some ⟨q1.1, 6, q5.1, q6.1, ⟨#[]⟩⟩ := by
        unfold Rep.parse
        simp only [← Eq1.out, ← Eq2.out, ← Eq3.out, ← Eq4.out]
        rw [if_neg hk]
        simp only [← Eq5.out, ← Eq6.out]
        rfl
      have HP := Lib.hid hP; clear hP
      have c0 := H.r2.cell 0 rfl
      have c1 := H.r2.cell 1 rfl
      have c2 := H.r2.cell 2 rfl
      have c3 := H.r2.cell 3 rfl
      have c4 := H.r2.cell 4 rfl
      go_wp2_with (fail)
      clear c0 c1 c2 c3 c4
      obtain ⟨p, hp⟩ : ∃ p, p = Rep.put ⟨q1.1, 6, q5.1, q6.1, ⟨#[]⟩⟩ := ⟨_, rfl⟩
      have hc := putreply_ok ⟨q1.1, 6, q5.1, q6.1, ⟨#[]⟩⟩ (Nat.zero_le _) H
      rw [← hp] at hc
      have hg : Rep.get s = if p = (s, 0) then (⟨q1.1, 6, q5.1, q6.1, ⟨#[]⟩⟩, 0) else (Rep.zero, 4) := by
        unfold Rep.get
        rw [if_neg hl, HP.out]
        dsimp only
        rw [← hp]
      obtain ⟨t, e⟩ := p
      have HG := Lib.hid hg; clear hg hp
      refine hc.mono ?_
      rintro x w1 ⟨rfl, H'⟩
      clear hc H
      have H := H'
      clear H'
      dsimp only
      by_cases he : e = 0
      · have he' : (e != 0) = false := by simp [he]
        by_cases ht : t = s
        · have ht' : (t.toList == s.toList) = true := by rw [ht]; exact toList_same s
          have hr : Rep.get s = (⟨q1.1, 6, q5.1, q6.1, ⟨#[]⟩⟩, 0) := by rw [HG.out, if_pos (by rw [ht, he])]
          have HT := Lib.hid ht; have HE := Lib.hid hr; clear ht hr he
          have c0 := H.r2.cell 0 rfl
          have c1 := H.r2.cell 1 rfl
          have c2 := H.r2.cell 2 rfl
          have c3 := H.r2.cell 3 rfl
          have c4 := H.r2.cell 4 rfl
          go_wp2_with (with_reducible refine hold_store (ty := 49) ?_)
          unfold Hold
          with_reducible refine wpList_store_st (ty := 49) (H.r3) (Rep.cells ⟨q1.1, 6, q5.1, q6.1, ⟨#[]⟩⟩) ?_ ?_ ?_ ?_ ?_ ?_ ?_
          rfl
          rfl
          rfl
          rfl
          kernel_rfl
          rfl
          intro w8 H8
          go_wp2_with (fail)
          refine bodyPost_ret (results_cell1 rfl _ _ b2 49 (Rep.cells ⟨q1.1, 6, q5.1, q6.1, ⟨#[]⟩⟩) (0, 0) _ rfl H8.block Try.underlying49 rfl (by kernel_rfl)) rfl ?_
          rw [HE.out]
          exact ⟨rfl, H8.tail.tail.tail⟩
        · have ht' : (t.toList == s.toList) = false := toList_ne ht
          have hr : Rep.get s = (Rep.zero, 4) := by rw [HG.out, if_neg (fun h => ht (by injection h))]
          have HE := Lib.hid hr; clear hr he
          go_wp2_with (with_reducible refine hold_store (ty := 49) ?_)
          unfold Hold
          with_reducible refine wpList_store_st (ty := 49) (H.r3) (zrep) ?_ ?_ ?_ ?_ ?_ ?_ ?_
          rfl
          rfl
          rfl
          rfl
          kernel_rfl
          rfl
          intro w8 H8
          go_wp2_with (fail)
          refine bodyPost_ret (results_cell1 rfl _ _ b2 49 (zrep) (0, 0) _ rfl H8.block Try.underlying49 rfl (by kernel_rfl)) rfl ?_
          rw [HE.out, Rep.zero_cells']
          exact ⟨rfl, H8.tail.tail.tail⟩
      · have he' : (e != 0) = true := by simp [he]
        have hr : Rep.get s = (Rep.zero, 4) := by rw [HG.out, if_neg (fun h => he (by injection h))]
        have HE := Lib.hid hr; clear hr
        go_wp2_with (with_reducible refine hold_store (ty := 49) ?_)
        unfold Hold
        with_reducible refine wpList_store_st (ty := 49) (H.r3) (zrep) ?_ ?_ ?_ ?_ ?_ ?_ ?_
        rfl
        rfl
        rfl
        rfl
        kernel_rfl
        rfl
        intro w8 H8
        go_wp2_with (fail)
        refine bodyPost_ret (results_cell1 rfl _ _ b2 49 (zrep) (0, 0) _ rfl H8.block Try.underlying49 rfl (by kernel_rfl)) rfl ?_
        rw [HE.out, Rep.zero_cells']
        exact ⟨rfl, H8.tail.tail.tail⟩
    · have c5 := H.r2.cell 1 rfl
      have f5 := H.r2.frozen 1
      go_upto_region 14 with (fail)
      have H' := (H.r2.set 1 (.int .i64 7)).r2
      generalize w1.setCell ⟨b5, 1, none⟩ (.int .i64 7) = w1 at *
      clear H c5 f5
      have H := H'
      clear H'
      try dsimp only [zrep, List.setIfInBounds_toArray, List.set_cons_zero, List.set_cons_succ] at H
      have c1 := H.r2.cell 1 rfl
      go_wp2_with (fail)
      obtain ⟨q5, hq5⟩ : ∃ q, q = RS.nat (r4) 4 := ⟨_, rfl⟩
      have hc := uint_ok rb (r4) (by first | omega | (dsimp only; omega)) H
      have lq5 : q5.2.s.size ≤ s.size := by rw [hq5]; exact Nat.le_trans (RS.nat_le _ 4) (by first | omega | exact Nat.le_refl _)
      have nq5 := RS.nat4 (r4)
      rw [← hq5] at hc nq5
      have Eq5 := Lib.hid hq5; clear hq5
      refine hc.mono ?_
      rintro x w1 ⟨rfl, H'⟩
      clear hc H
      have H := H'
      clear H'
      have c5 := H.r2.cell 2 rfl
      have f5 := H.r2.frozen 2
      go_upto_region 24 with (fail)
      have H' := (H.r2.set 2 (.int .i64 q5.1)).r2
      generalize w1.setCell ⟨b5, 2, none⟩ (.int .i64 q5.1) = w1 at *
      clear H c5 f5
      have H := H'
      clear H'
      try dsimp only [zrep, List.setIfInBounds_toArray, List.set_cons_zero, List.set_cons_succ] at H
      have c1 := H.r2.cell 1 rfl
      have hP : Rep.parse s = some ⟨q1.1, 7, q5.1, 0, ⟨#[]⟩⟩ := by
        unfold Rep.parse
        simp only [← Eq1.out, ← Eq2.out, ← Eq3.out, ← Eq4.out]
        rw [if_neg hk]
        simp only [← Eq5.out]
        rfl
      have HP := Lib.hid hP; clear hP
      have c0 := H.r2.cell 0 rfl
      have c1 := H.r2.cell 1 rfl
      have c2 := H.r2.cell 2 rfl
      have c3 := H.r2.cell 3 rfl
      have c4 := H.r2.cell 4 rfl
      go_wp2_with (fail)
      clear c0 c1 c2 c3 c4
      obtain ⟨p, hp⟩ : ∃ p, p = Rep.put ⟨q1.1, 7, q5.1, 0, ⟨#[]⟩⟩ := ⟨_, rfl⟩
      have hc := putreply_ok ⟨q1.1, 7, q5.1, 0, ⟨#[]⟩⟩ (Nat.zero_le _) H
      rw [← hp] at hc
      have hg : Rep.get s = if p = (s, 0) then (⟨q1.1, 7, q5.1, 0, ⟨#[]⟩⟩, 0) else (Rep.zero, 4) := by
        unfold Rep.get
        rw [if_neg hl, HP.out]
        dsimp only
        rw [← hp]
      obtain ⟨t, e⟩ := p
      have HG := Lib.hid hg; clear hg hp
      refine hc.mono ?_
      rintro x w1 ⟨rfl, H'⟩
      clear hc H
      have H := H'
      clear H'
      dsimp only
      by_cases he : e = 0
      · have he' : (e != 0) = false := by simp [he]
        by_cases ht : t = s
        · have ht' : (t.toList == s.toList) = true := by rw [ht]; exact toList_same s
          have hr : Rep.get s = (⟨q1.1, 7, q5.1, 0, ⟨#[]⟩⟩, 0) := by rw [HG.out, if_pos (by rw [ht, he])]
          have HT := Lib.hid ht; have HE := Lib.hid hr; clear ht hr he
          have c0 := H.r2.cell 0 rfl
          have c1 := H.r2.cell 1 rfl
          have c2 := H.r2.cell 2 rfl
          have c3 := H.r2.cell 3 rfl
          have c4 := H.r2.cell 4 rfl
          go_wp2_with (with_reducible refine hold_store (ty := 49) ?_)
          unfold Hold
          with_reducible refine wpList_store_st (ty := 49) (H.r3) (Rep.cells ⟨q1.1, 7, q5.1, 0, ⟨#[]⟩⟩) ?_ ?_ ?_ ?_ ?_ ?_ ?_
          rfl
          rfl
          rfl
          rfl
          kernel_rfl
          rfl
          intro w8 H8
          go_wp2_with (fail)
          refine bodyPost_ret (results_cell1 rfl _ _ b2 49 (Rep.cells ⟨q1.1, 7, q5.1, 0, ⟨#[]⟩⟩) (0, 0) _ rfl H8.block Try.underlying49 rfl (by kernel_rfl)) rfl ?_
          rw [HE.out]
          exact ⟨rfl, H8.tail.tail.tail⟩
        · have ht' : (t.toList == s.toList) = false := toList_ne ht
          have hr : Rep.get s = (Rep.zero, 4) := by rw [HG.out, if_neg (fun h => ht (by injection h))]
          have HE := Lib.hid hr; clear hr he
          go_wp2_with (with_reducible refine hold_store (ty := 49) ?_)
          unfold Hold
          with_reducible refine wpList_store_st (ty := 49) (H.r3) (zrep) ?_ ?_ ?_ ?_ ?_ ?_ ?_
          rfl
          rfl
          rfl
          rfl
          kernel_rfl
          rfl
          intro w8 H8
          go_wp2_with (fail)
          refine bodyPost_ret (results_cell1 rfl _ _ b2 49 (zrep) (0, 0) _ rfl H8.block Try.underlying49 rfl (by kernel_rfl)) rfl ?_
          rw [HE.out, Rep.zero_cells']
          exact ⟨rfl, H8.tail.tail.tail⟩
      · have he' : (e != 0) = true := by simp [he]
        have hr : Rep.get s = (Rep.zero, 4) := by rw [HG.out, if_neg (fun h => he (by injection h))]
        have HE := Lib.hid hr; clear hr
        go_wp2_with (with_reducible refine hold_store (ty := 49) ?_)
        unfold Hold
        with_reducible refine wpList_store_st (ty := 49) (H.r3) (zrep) ?_ ?_ ?_ ?_ ?_ ?_ ?_
        rfl
        rfl
        rfl
        rfl
        kernel_rfl
        rfl
        intro w8 H8
        go_wp2_with (fail)
        refine bodyPost_ret (results_cell1 rfl _ _ b2 49 (zrep) (0, 0) _ rfl H8.block Try.underlying49 rfl (by kernel_rfl)) rfl ?_
        rw [HE.out, Rep.zero_cells']
        exact ⟨rfl, H8.tail.tail.tail⟩
set_option maxRecDepth 100000 in
set_option maxHeartbeats 8000000 in
theorem getreply_a (s : ByteArray) (hl : ¬ 65536 < s.size) (hk : ((((⟨s, 0⟩ : RS).nat 4).2.nat 4).2.nat 4).1 = 0) {w0 w : World} {F : List Assn} (H0 : St w0 w F) :
    Calls Try.prog 18 #[.string s] w fun x w' => x = .returned (.tuple #[.agg (Rep.get s).1.cells, .int .i64 (Rep.get s).2]) ∧ St w0 w' F := by
  have HK := Lib.hid hk; clear hk
  have H := H0.alloc zrep 49
  have hd : decide (65536 < (s.size : Int)) = false := decide_eq_false (by omega)
  obtain ⟨b2, hb2⟩ : ∃ b, b = w.heap.size := ⟨_, rfl⟩
  go_enter Try.func18, Try.ntmps18
  go_upto_region 1 with (fail)
  rw [← hb2] at H ⊢
  generalize w.alloc (.cells zrep 49) = w2 at *
  clear H0 hb2
  go_wp2_with (fail)
  refine (open_ok s H).mono ?_
  rintro x w3 ⟨rb, rfl, H'⟩
  clear H
  have H := (H'.alloc zrep 49).r2
  obtain ⟨b5, hb5⟩ : ∃ b, b = w3.heap.size := ⟨_, rfl⟩
  go_wp2_with (fail)
  rw [← hb5] at H ⊢
  generalize w3.alloc (.cells zrep 49) = w2 at *
  clear hb5 H'
  obtain ⟨q1, hq1⟩ : ∃ q, q = RS.nat (⟨s, 0⟩) 4 := ⟨_, rfl⟩
  have hc := uint_ok rb (⟨s, 0⟩) (by first | omega | (dsimp only; omega)) H
  have lq1 : q1.2.s.size ≤ s.size := by rw [hq1]; exact Nat.le_trans (RS.nat_le _ 4) (by first | omega | exact Nat.le_refl _)
  have nq1 := RS.nat4 (⟨s, 0⟩)
  rw [← hq1] at hc nq1
  have Eq1 := Lib.hid hq1; clear hq1
  refine hc.mono ?_
  rintro x w1 ⟨rfl, H'⟩
  clear hc H
  have H := H'
  clear H'
  have c5 := H.r2.cell 0 rfl
  have f5 := H.r2.frozen 0
  go_upto_region 6 with (fail)
  have H' := (H.r2.set 0 (.int .i64 q1.1)).r2
  generalize w1.setCell ⟨b5, 0, none⟩ (.int .i64 q1.1) = w1 at *
  clear H c5 f5
  have H := H'
  clear H'
  try dsimp only [zrep, List.setIfInBounds_toArray, List.set_cons_zero, List.set_cons_succ] at H
  have c1 := H.r2.cell 1 rfl
  go_wp2_with (fail)
  obtain ⟨q2, hq2⟩ : ∃ q, q = RS.nat (q1.2) 4 := ⟨_, rfl⟩
  have hc := uint_ok rb (q1.2) (by first | omega | (dsimp only; omega)) H
  have lq2 : q2.2.s.size ≤ s.size := by rw [hq2]; exact Nat.le_trans (RS.nat_le _ 4) (by first | omega | exact Nat.le_refl _)
  have nq2 := RS.nat4 (q1.2)
  rw [← hq2] at hc nq2
  have Eq2 := Lib.hid hq2; clear hq2
  refine hc.mono ?_
  rintro x w1 ⟨rfl, H'⟩
  clear hc H
  have H := H'
  clear H'
  go_wp2_with (fail)
  obtain ⟨q3, hq3⟩ : ∃ q, q = RS.nat (q2.2) 4 := ⟨_, rfl⟩
  have hc := uint_ok rb (q2.2) (by first | omega | (dsimp only; omega)) H
  have lq3 : q3.2.s.size ≤ s.size := by rw [hq3]; exact Nat.le_trans (RS.nat_le _ 4) (by first | omega | exact Nat.le_refl _)
  have nq3 := RS.nat4 (q2.2)
  rw [← hq3] at hc nq3
  have Eq3 := Lib.hid hq3; clear hq3
  refine hc.mono ?_
  rintro x w1 ⟨rfl, H'⟩
  clear hc H
  have H := H'
  clear H'
  have hk : q3.1 = 0 := by rw [Eq3.out, Eq2.out, Eq1.out]; exact HK.out
  have hk' : (q3.1 == 0) = true := beq_iff_eq.2 hk
  have HK3 := Lib.hid hk; clear hk
  go_wp2_with (fail)
  obtain ⟨q4, hq4⟩ : ∃ q, q = RS.nat (q3.2) 4 := ⟨_, rfl⟩
  have hc := uint_ok rb (q3.2) (by first | omega | (dsimp only; omega)) H
  have lq4 : q4.2.s.size ≤ s.size := by rw [hq4]; exact Nat.le_trans (RS.nat_le _ 4) (by first | omega | exact Nat.le_refl _)
  have nq4 := RS.nat4 (q3.2)
  rw [← hq4] at hc nq4
  have Eq4 := Lib.hid hq4; clear hq4
  refine hc.mono ?_
  rintro x w1 ⟨rfl, H'⟩
  clear hc H
  have H := H'
  clear H'
  go_wp2_with (fail)
  obtain ⟨q5, hq5⟩ : ∃ q, q = RS.opqe q4.2 0 := ⟨_, rfl⟩
  have hc := opaque_ok rb q4.2 0 (by omega) H
  have lq5 : q5.2.s.size ≤ s.size := by rw [hq5]; exact Nat.le_trans (RS.opqe_le _ 0) lq4
  rw [← hq5] at hc
  have Eq5 := Lib.hid hq5; clear hq5
  refine hc.mono ?_
  rintro x w1 ⟨rfl, H'⟩
  clear hc H
  have H := H'
  clear H'
  go_wp2_with (fail)
  obtain ⟨q6, hq6⟩ : ∃ q, q = RS.nat (q5.2) 4 := ⟨_, rfl⟩
  have hc := uint_ok rb (q5.2) (by first | omega | (dsimp only; omega)) H
  have lq6 : q6.2.s.size ≤ s.size := by rw [hq6]; exact Nat.le_trans (RS.nat_le _ 4) (by first | omega | exact Nat.le_refl _)
  have nq6 := RS.nat4 (q5.2)
  rw [← hq6] at hc nq6
  have Eq6 := Lib.hid hq6; clear hq6
  refine hc.mono ?_
  rintro x w1 ⟨rfl, H'⟩
  clear hc H
  have H := H'
  clear H'
  obtain ⟨v6, r6⟩ := q6
  dsimp only at nq6 lq6 H ⊢
  by_cases h1 : 5 < v6
  · have a1 : decide (5 < v6) = true := decide_eq_true h1
    have hP : Rep.parse s = none := by
      unfold Rep.parse
      simp only [← Eq1.out, ← Eq2.out, ← Eq3.out, ← Eq4.out, ← Eq5.out, ← Eq6.out]
      rw [if_pos HK3.out, if_pos h1]
    have hr : Rep.get s = (Rep.zero, 4) := by unfold Rep.get; rw [if_neg hl, hP]
    have HE := Lib.hid hr; clear hr hP
    have c5 := H.r2.cell 1 rfl
    have f5 := H.r2.frozen 1
    go_upto_region 11 with (fail)
    have H' := (H.r2.set 1 (.int .i64 v6)).r2
    generalize w1.setCell ⟨b5, 1, none⟩ (.int .i64 v6) = w1 at *
    clear H c5 f5
    have H := H'
    clear H'
    try dsimp only [zrep, List.setIfInBounds_toArray, List.set_cons_zero, List.set_cons_succ] at H
    have c1 := H.r2.cell 1 rfl
    go_wp2_with (with_reducible refine hold_store (ty := 49) ?_)
    unfold Hold
    with_reducible refine wpList_store_st (ty := 49) (H.r3) (zrep) ?_ ?_ ?_ ?_ ?_ ?_ ?_
    rfl
    rfl
    rfl
    rfl
    kernel_rfl
    rfl
    intro w8 H8
    go_wp2_with (fail)
    refine bodyPost_ret (results_cell1 rfl _ _ b2 49 (zrep) (0, 0) _ rfl H8.block Try.underlying49 rfl (by kernel_rfl)) rfl ?_
    rw [HE.out, Rep.zero_cells']
    exact ⟨rfl, H8.tail.tail.tail⟩
  · have a1 : decide (5 < v6) = false := decide_eq_false h1
    by_cases h2 : v6 = 0
    · subst h2
      have c5 := H.r2.cell 1 rfl
      have f5 := H.r2.frozen 1
      go_upto_region 11 with (fail)
      have H' := (H.r2.set 1 (.int .i64 0)).r2
      generalize w1.setCell ⟨b5, 1, none⟩ (.int .i64 0) = w1 at *
      clear H c5 f5
      have H := H'
      clear H'
      try dsimp only [zrep, List.setIfInBounds_toArray, List.set_cons_zero, List.set_cons_succ] at H
      have c1 := H.r2.cell 1 rfl
      go_wp2_with (fail)
      have hit : ((s.size : Int) - r6.s.size).toNat = s.size - r6.s.size := by omega
      have hi0 : (0 : Int) ≤ (s.size : Int) - r6.s.size := by omega
      have hi1 : (s.size : Int) - r6.s.size ≤ s.size := by omega
      refine (left_ok rb _ H).mono ?_
      rintro x w1 ⟨rfl, rfl⟩
      have c5 := H.r2.cell 4 rfl
      have f5 := H.r2.frozen 4
      go_upto_region 24 with (fail)
      have H' := (H.r2.set 4 (.string (s.extract (s.size - r6.s.size) s.size))).r2
      generalize w1.setCell ⟨b5, 4, none⟩ (.string (s.extract (s.size - r6.s.size) s.size)) = w1 at *
      clear H c5 f5
      have H := H'
      clear H'
      try dsimp only [zrep, List.setIfInBounds_toArray, List.set_cons_zero, List.set_cons_succ] at H
      have c1 := H.r2.cell 1 rfl
      have hP : Rep.parse s = some ⟨q1.1, 0, 0, 0, s.extract (s.size - r6.s.size) s.size⟩ := by
        unfold Rep.parse
        simp only [← Eq1.out, ← Eq2.out, ← Eq3.out, ← Eq4.out, ← Eq5.out, ← Eq6.out]
        rw [if_pos HK3.out]
        rfl
      have HP := Lib.hid hP; clear hP hit hi0 hi1
      have c0 := H.r2.cell 0 rfl
      have c1 := H.r2.cell 1 rfl
      have c2 := H.r2.cell 2 rfl
      have c3 := H.r2.cell 3 rfl
      have c4 := H.r2.cell 4 rfl
      go_wp2_with (fail)
      clear c0 c1 c2 c3 c4
      obtain ⟨p, hp⟩ : ∃ p, p = Rep.put ⟨q1.1, 0, 0, 0, s.extract (s.size - r6.s.size) s.size⟩ := ⟨_, rfl⟩
      have hc := putreply_ok ⟨q1.1, 0, 0, 0, s.extract (s.size - r6.s.size) s.size⟩ (by have := extract_le s (s.size - r6.s.size) s.size; dsimp only; omega) H
      rw [← hp] at hc
      have hg : Rep.get s = if p = (s, 0) then (⟨q1.1, 0, 0, 0, s.extract (s.size - r6.s.size) s.size⟩, 0) else (Rep.zero, 4) := by
        unfold Rep.get
        rw [if_neg hl, HP.out]
        dsimp only
        rw [← hp]
      obtain ⟨t, e⟩ := p
      have HG := Lib.hid hg; clear hg hp
      refine hc.mono ?_
      rintro x w1 ⟨rfl, H'⟩
      clear hc H
      have H := H'
      clear H'
      dsimp only
      by_cases he : e = 0
      · have he' : (e != 0) = false := by simp [he]
        by_cases ht : t = s
        · have ht' : (t.toList == s.toList) = true := by rw [ht]; exact toList_same s
          have hr : Rep.get s = (⟨q1.1, 0, 0, 0, s.extract (s.size - r6.s.size) s.size⟩, 0) := by rw [HG.out, if_pos (by rw [ht, he])]
          have HT := Lib.hid ht; have HE := Lib.hid hr; clear ht hr he
          have c0 := H.r2.cell 0 rfl
          have c1 := H.r2.cell 1 rfl
          have c2 := H.r2.cell 2 rfl
          have c3 := H.r2.cell 3 rfl
          have c4 := H.r2.cell 4 rfl
          go_wp2_with (with_reducible refine hold_store (ty := 49) ?_)
          unfold Hold
          with_reducible refine wpList_store_st (ty := 49) (H.r3) (Rep.cells ⟨q1.1, 0, 0, 0, s.extract (s.size - r6.s.size) s.size⟩) ?_ ?_ ?_ ?_ ?_ ?_ ?_
          rfl
          rfl
          rfl
          rfl
          kernel_rfl
          rfl
          intro w8 H8
          go_wp2_with (fail)
          refine bodyPost_ret (results_cell1 rfl _ _ b2 49 (Rep.cells ⟨q1.1, 0, 0, 0, s.extract (s.size - r6.s.size) s.size⟩) (0, 0) _ rfl H8.block Try.underlying49 rfl (by kernel_rfl)) rfl ?_
          rw [HE.out]
          exact ⟨rfl, H8.tail.tail.tail⟩
        · have ht' : (t.toList == s.toList) = false := toList_ne ht
          have hr : Rep.get s = (Rep.zero, 4) := by rw [HG.out, if_neg (fun h => ht (by injection h))]
          have HE := Lib.hid hr; clear hr he
          go_wp2_with (with_reducible refine hold_store (ty := 49) ?_)
          unfold Hold
          with_reducible refine wpList_store_st (ty := 49) (H.r3) (zrep) ?_ ?_ ?_ ?_ ?_ ?_ ?_
          rfl
          rfl
          rfl
          rfl
          kernel_rfl
          rfl
          intro w8 H8
          go_wp2_with (fail)
          refine bodyPost_ret (results_cell1 rfl _ _ b2 49 (zrep) (0, 0) _ rfl H8.block Try.underlying49 rfl (by kernel_rfl)) rfl ?_
          rw [HE.out, Rep.zero_cells']
          exact ⟨rfl, H8.tail.tail.tail⟩
      · have he' : (e != 0) = true := by simp [he]
        have hr : Rep.get s = (Rep.zero, 4) := by rw [HG.out, if_neg (fun h => he (by injection h))]
        have HE := Lib.hid hr; clear hr
        go_wp2_with (with_reducible refine hold_store (ty := 49) ?_)
        unfold Hold
        with_reducible refine wpList_store_st (ty := 49) (H.r3) (zrep) ?_ ?_ ?_ ?_ ?_ ?_ ?_
        rfl
        rfl
        rfl
        rfl
        kernel_rfl
        rfl
        intro w8 H8
        go_wp2_with (fail)
        refine bodyPost_ret (results_cell1 rfl _ _ b2 49 (zrep) (0, 0) _ rfl H8.block Try.underlying49 rfl (by kernel_rfl)) rfl ?_
        rw [HE.out, Rep.zero_cells']
        exact ⟨rfl, H8.tail.tail.tail⟩
    · by_cases h3 : v6 = 2
      · subst h3
        have c5 := H.r2.cell 1 rfl
        have f5 := H.r2.frozen 1
        go_upto_region 11 with (fail)
        have H' := (H.r2.set 1 (.int .i64 2)).r2
        generalize w1.setCell ⟨b5, 1, none⟩ (.int .i64 2) = w1 at *
        clear H c5 f5
        have H := H'
        clear H'
        try dsimp only [zrep, List.setIfInBounds_toArray, List.set_cons_zero, List.set_cons_succ] at H
        have c1 := H.r2.cell 1 rfl
        go_wp2_with (fail)
        obtain ⟨q7, hq7⟩ : ∃ q, q = RS.nat (r6) 4 := ⟨_, rfl⟩
        have hc := uint_ok rb (r6) (by first | omega | (dsimp only; omega)) H
        have lq7 : q7.2.s.size ≤ s.size := by rw [hq7]; exact Nat.le_trans (RS.nat_le _ 4) (by first | omega | exact Nat.le_refl _)
        have nq7 := RS.nat4 (r6)
        rw [← hq7] at hc nq7
        have Eq7 := Lib.hid hq7; clear hq7
        refine hc.mono ?_
        rintro x w1 ⟨rfl, H'⟩
        clear hc H
        have H := H'
        clear H'
        go_wp2_with (fail)
        obtain ⟨q8, hq8⟩ : ∃ q, q = RS.nat (q7.2) 4 := ⟨_, rfl⟩
        have hc := uint_ok rb (q7.2) (by first | omega | (dsimp only; omega)) H
        have lq8 : q8.2.s.size ≤ s.size := by rw [hq8]; exact Nat.le_trans (RS.nat_le _ 4) (by first | omega | exact Nat.le_refl _)
        have nq8 := RS.nat4 (q7.2)
        rw [← hq8] at hc nq8
        have Eq8 := Lib.hid hq8; clear hq8
        refine hc.mono ?_
        rintro x w1 ⟨rfl, H'⟩
        clear hc H
        have H := H'
        clear H'
        have c2 := H.r2.cell 2 rfl
        have f2 := H.r2.frozen 2
        have c3 := (H.r2.set 2 (.int .i64 q7.1)).cell 3 rfl
        have f3 := (H.r2.set 2 (.int .i64 q7.1)).frozen 3
        go_upto_region 24 with (fail)
        have H' := ((H.r2.set 2 (.int .i64 q7.1)).set 3 (.int .i64 q8.1)).r2
        generalize (w1.setCell ⟨b5, 2, none⟩ (.int .i64 q7.1)).setCell ⟨b5, 3, none⟩ (.int .i64 q8.1) = w1 at *
        clear H c2 f2 c3 f3
        have H := H'
        clear H'
        have hP : Rep.parse s = some ⟨q1.1, 2, q7.1, q8.1, ⟨#[]⟩⟩ := by
          unfold Rep.parse
          simp only [← Eq1.out, ← Eq2.out, ← Eq3.out, ← Eq4.out, ← Eq5.out, ← Eq6.out]
          rw [if_pos HK3.out]
          simp only [← Eq7.out, ← Eq8.out]
          rfl
        have HP := Lib.hid hP; clear hP
        have c0 := H.r2.cell 0 rfl
        have c1 := H.r2.cell 1 rfl
        have c2 := H.r2.cell 2 rfl
        have c3 := H.r2.cell 3 rfl
        have c4 := H.r2.cell 4 rfl
        go_wp2_with (fail)
        clear c0 c1 c2 c3 c4
        obtain ⟨p, hp⟩ : ∃ p, p = Rep.put ⟨q1.1, 2, q7.1, q8.1, ⟨#[]⟩⟩ := ⟨_, rfl⟩
        have hc := putreply_ok ⟨q1.1, 2, q7.1, q8.1, ⟨#[]⟩⟩ (Nat.zero_le _) H
        rw [← hp] at hc
        have hg : Rep.get s = if p = (s, 0) then (⟨q1.1, 2, q7.1, q8.1, ⟨#[]⟩⟩, 0) else (Rep.zero, 4) := by
          unfold Rep.get
          rw [if_neg hl, HP.out]
          dsimp only
          rw [← hp]
        obtain ⟨t, e⟩ := p
        have HG := Lib.hid hg; clear hg hp
        refine hc.mono ?_
        rintro x w1 ⟨rfl, H'⟩
        clear hc H
        have H := H'
        clear H'
        dsimp only
        by_cases he : e = 0
        · have he' : (e != 0) = false := by simp [he]
          by_cases ht : t = s
          · have ht' : (t.toList == s.toList) = true := by rw [ht]; exact toList_same s
            have hr : Rep.get s = (⟨q1.1, 2, q7.1, q8.1, ⟨#[]⟩⟩, 0) := by rw [HG.out, if_pos (by rw [ht, he])]
            have HT := Lib.hid ht; have HE := Lib.hid hr; clear ht hr he
            have c0 := H.r2.cell 0 rfl
            have c1 := H.r2.cell 1 rfl
            have c2 := H.r2.cell 2 rfl
            have c3 := H.r2.cell 3 rfl
            have c4 := H.r2.cell 4 rfl
            go_wp2_with (with_reducible refine hold_store (ty := 49) ?_)
            unfold Hold
            with_reducible refine wpList_store_st (ty := 49) (H.r3) (Rep.cells ⟨q1.1, 2, q7.1, q8.1, ⟨#[]⟩⟩) ?_ ?_ ?_ ?_ ?_ ?_ ?_
            rfl
            rfl
            rfl
            rfl
            kernel_rfl
            rfl
            intro w8 H8
            go_wp2_with (fail)
            refine bodyPost_ret (results_cell1 rfl _ _ b2 49 (Rep.cells ⟨q1.1, 2, q7.1, q8.1, ⟨#[]⟩⟩) (0, 0) _ rfl H8.block Try.underlying49 rfl (by kernel_rfl)) rfl ?_
            rw [HE.out]
            exact ⟨rfl, H8.tail.tail.tail⟩
          · have ht' : (t.toList == s.toList) = false := toList_ne ht
            have hr : Rep.get s = (Rep.zero, 4) := by rw [HG.out, if_neg (fun h => ht (by injection h))]
            have HE := Lib.hid hr; clear hr he
            go_wp2_with (with_reducible refine hold_store (ty := 49) ?_)
            unfold Hold
            with_reducible refine wpList_store_st (ty := 49) (H.r3) (zrep) ?_ ?_ ?_ ?_ ?_ ?_ ?_
            rfl
            rfl
            rfl
            rfl
            kernel_rfl
            rfl
            intro w8 H8
            go_wp2_with (fail)
            refine bodyPost_ret (results_cell1 rfl _ _ b2 49 (zrep) (0, 0) _ rfl H8.block Try.underlying49 rfl (by kernel_rfl)) rfl ?_
            rw [HE.out, Rep.zero_cells']
            exact ⟨rfl, H8.tail.tail.tail⟩
        · have he' : (e != 0) = true := by simp [he]
          have hr : Rep.get s = (Rep.zero, 4) := by rw [HG.out, if_neg (fun h => he (by injection h))]
          have HE := Lib.hid hr; clear hr
          go_wp2_with (with_reducible refine hold_store (ty := 49) ?_)
          unfold Hold
          with_reducible refine wpList_store_st (ty := 49) (H.r3) (zrep) ?_ ?_ ?_ ?_ ?_ ?_ ?_
          rfl
          rfl
          rfl
          rfl
          kernel_rfl
          rfl
          intro w8 H8
          go_wp2_with (fail)
          refine bodyPost_ret (results_cell1 rfl _ _ b2 49 (zrep) (0, 0) _ rfl H8.block Try.underlying49 rfl (by kernel_rfl)) rfl ?_
          rw [HE.out, Rep.zero_cells']
          exact ⟨rfl, H8.tail.tail.tail⟩
      · have a2 : (v6 == 0) = false := beq_eq_false_iff_ne.2 h2
        have a3 : (v6 == 2) = false := beq_eq_false_iff_ne.2 h3
        have a4 : (v6 == 6) = false := beq_eq_false_iff_ne.2 (by omega)
        have a5 : (v6 == 7) = false := beq_eq_false_iff_ne.2 (by omega)
        have c5 := H.r2.cell 1 rfl
        have f5 := H.r2.frozen 1
        go_upto_region 11 with (fail)
        have H' := (H.r2.set 1 (.int .i64 v6)).r2
        generalize w1.setCell ⟨b5, 1, none⟩ (.int .i64 v6) = w1 at *
        clear H c5 f5
        have H := H'
        clear H'
        try dsimp only [zrep, List.setIfInBounds_toArray, List.set_cons_zero, List.set_cons_succ] at H
        have c1 := H.r2.cell 1 rfl
        have hP : Rep.parse s = some ⟨q1.1, v6, 0, 0, ⟨#[]⟩⟩ := by
          unfold Rep.parse
          simp only [← Eq1.out, ← Eq2.out, ← Eq3.out, ← Eq4.out, ← Eq5.out, ← Eq6.out]
          rw [if_pos HK3.out, if_neg h1, if_neg h2, if_neg h3]
          rfl
        have HP := Lib.hid hP; clear hP
        have c0 := H.r2.cell 0 rfl
        have c1 := H.r2.cell 1 rfl
        have c2 := H.r2.cell 2 rfl
        have c3 := H.r2.cell 3 rfl
        have c4 := H.r2.cell 4 rfl
        go_wp2_with (fail)
        clear c0 c1 c2 c3 c4
        obtain ⟨p, hp⟩ : ∃ p, p = Rep.put ⟨q1.1, v6, 0, 0, ⟨#[]⟩⟩ := ⟨_, rfl⟩
        have hc := putreply_ok ⟨q1.1, v6, 0, 0, ⟨#[]⟩⟩ (Nat.zero_le _) H
        rw [← hp] at hc
        have hg : Rep.get s = if p = (s, 0) then (⟨q1.1, v6, 0, 0, ⟨#[]⟩⟩, 0) else (Rep.zero, 4) := by
          unfold Rep.get
          rw [if_neg hl, HP.out]
          dsimp only
          rw [← hp]
        obtain ⟨t, e⟩ := p
        have HG := Lib.hid hg; clear hg hp
        refine hc.mono ?_
        rintro x w1 ⟨rfl, H'⟩
        clear hc H
        have H := H'
        clear H'
        dsimp only
        by_cases he : e = 0
        · have he' : (e != 0) = false := by simp [he]
          by_cases ht : t = s
          · have ht' : (t.toList == s.toList) = true := by rw [ht]; exact toList_same s
            have hr : Rep.get s = (⟨q1.1, v6, 0, 0, ⟨#[]⟩⟩, 0) := by rw [HG.out, if_pos (by rw [ht, he])]
            have HT := Lib.hid ht; have HE := Lib.hid hr; clear ht hr he
            have c0 := H.r2.cell 0 rfl
            have c1 := H.r2.cell 1 rfl
            have c2 := H.r2.cell 2 rfl
            have c3 := H.r2.cell 3 rfl
            have c4 := H.r2.cell 4 rfl
            go_wp2_with (with_reducible refine hold_store (ty := 49) ?_)
            unfold Hold
            with_reducible refine wpList_store_st (ty := 49) (H.r3) (Rep.cells ⟨q1.1, v6, 0, 0, ⟨#[]⟩⟩) ?_ ?_ ?_ ?_ ?_ ?_ ?_
            rfl
            rfl
            rfl
            rfl
            kernel_rfl
            rfl
            intro w8 H8
            go_wp2_with (fail)
            refine bodyPost_ret (results_cell1 rfl _ _ b2 49 (Rep.cells ⟨q1.1, v6, 0, 0, ⟨#[]⟩⟩) (0, 0) _ rfl H8.block Try.underlying49 rfl (by kernel_rfl)) rfl ?_
            rw [HE.out]
            exact ⟨rfl, H8.tail.tail.tail⟩
          · have ht' : (t.toList == s.toList) = false := toList_ne ht
            have hr : Rep.get s = (Rep.zero, 4) := by rw [HG.out, if_neg (fun h => ht (by injection h))]
            have HE := Lib.hid hr; clear hr he
            go_wp2_with (with_reducible refine hold_store (ty := 49) ?_)
            unfold Hold
            with_reducible refine wpList_store_st (ty := 49) (H.r3) (zrep) ?_ ?_ ?_ ?_ ?_ ?_ ?_
            rfl
            rfl
            rfl
            rfl
            kernel_rfl
            rfl
            intro w8 H8
            go_wp2_with (fail)
            refine bodyPost_ret (results_cell1 rfl _ _ b2 49 (zrep) (0, 0) _ rfl H8.block Try.underlying49 rfl (by kernel_rfl)) rfl ?_
            rw [HE.out, Rep.zero_cells']
            exact ⟨rfl, H8.tail.tail.tail⟩
        · have he' : (e != 0) = true := by simp [he]
          have hr : Rep.get s = (Rep.zero, 4) := by rw [HG.out, if_neg (fun h => he (by injection h))]
          have HE := Lib.hid hr; clear hr
          go_wp2_with (with_reducible refine hold_store (ty := 49) ?_)
          unfold Hold
          with_reducible refine wpList_store_st (ty := 49) (H.r3) (zrep) ?_ ?_ ?_ ?_ ?_ ?_ ?_
          rfl
          rfl
          rfl
          rfl
          kernel_rfl
          rfl
          intro w8 H8
          go_wp2_with (fail)
          refine bodyPost_ret (results_cell1 rfl _ _ b2 49 (zrep) (0, 0) _ rfl H8.block Try.underlying49 rfl (by kernel_rfl)) rfl ?_
          rw [HE.out, Rep.zero_cells']
          exact ⟨rfl, H8.tail.tail.tail⟩
theorem getreply_ok (s : ByteArray) {w0 w : World} {F : List Assn} (H0 : St w0 w F) :
    Calls Try.prog 18 #[.string s] w fun x w' => x = .returned (.tuple #[.agg (Rep.get s).1.cells, .int .i64 (Rep.get s).2]) ∧ St w0 w' F := by
  by_cases hl : 65536 < s.size
  · exact getreply_long s hl H0
  · by_cases hk : ((((⟨s, 0⟩ : RS).nat 4).2.nat 4).2.nat 4).1 = 0
    · exact getreply_a s hl hk H0
    · exact getreply_b s hl hk H0
end Go.Proofs.Ytkpcnklhboemcaa

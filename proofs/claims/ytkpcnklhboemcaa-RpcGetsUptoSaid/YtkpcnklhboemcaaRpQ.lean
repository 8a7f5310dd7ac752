/- Layer 3's reference: any bytes as a call. -/
import Derived.Test.YtkpcnklhboemcaaRpK
import Derived.Test.YtkpcnklhboemcaaRpF
namespace Go.Proofs.Ytkpcnklhboemcaa
open Go.RowKit

theorem results_cell_tmp2 {P : Program} {fn : Func} {p t u : Tmp} {ty : TypeId} (h : fn.results = #[.cell p ty, .tmp t, .tmp u]) (tmps : Array Value) (w : World) (g : Nat) (T : TypeId) (cs : Array Value) (fr : Nat × Nat) (d : TypeDesc)
    (hp : tmps.getD p undef = .pointer (some ⟨g, 0, none⟩)) (hg : w.heap[g]? = some (.cells cs T fr))
    (hu : P.underlying ty = some d) (hd : (match d with | .struct _ | .array _ _ => true | _ => false) = true) (hi : (P.info? ty).map (·.size) = some cs.size) :
    (results fn tmps).run P w = .ok (.tuple #[.agg cs, tmps.getD t undef, tmps.getD u undef]) w := by
  have hp' : tmps[p]?.getD undef = .pointer (some ⟨g, 0, none⟩) := by simpa using hp
  simp [results, h, hp', asAddr, run_loadVar_row w g T ty cs fr d hg hu hd hi]
set_option maxRecDepth 100000 in
set_option maxHeartbeats 4000000 in
theorem refrefuse_ok (x v l h : Int) {w0 w : World} {F : List Assn} (H0 : St w0 w F) :
    Calls Try.prog 34 #[.int .i64 x, .int .i64 v, .int .i64 l, .int .i64 h] w fun e w' => e = .returned (.tuple #[.agg zcall, .string (Rep.put ⟨x, v, l, h, ⟨#[]⟩⟩).1, .int .i64 62]) ∧ St w0 w' F := by
  have H1 := H0.alloc zcall 32
  obtain ⟨b2, hb2⟩ : ∃ b, b = w.heap.size := ⟨_, rfl⟩
  go_enter Try.func34, Try.ntmps34
  go_upto_region 1 with (fail)
  rw [← hb2] at H1 ⊢
  generalize w.alloc (.cells zcall 32) = w1 at *
  clear H0 hb2
  go_wp2_with (fail)
  refine (refput_ok ⟨x, v, l, h, ⟨#[]⟩⟩ (Nat.zero_le _) H1).mono ?_
  rintro e w2 ⟨rfl, H2⟩
  dsimp only
  go_wp2_with (with_reducible refine hold_store (ty := 32) ?_)
  unfold Hold
  with_reducible refine wpList_store_st (ty := 32) (H2) (zcall) ?_ ?_ ?_ ?_ ?_ ?_ ?_
  rfl
  rfl
  rfl
  rfl
  kernel_rfl
  rfl
  intro w8 H8
  go_wp2_with (fail)
  refine bodyPost_ret (results_cell_tmp2 rfl _ _ b2 32 zcall (0, 0) _ rfl H8.block Try.underlying32 rfl (by kernel_rfl)) rfl ?_
  exact ⟨rfl, H8.tail⟩
-- the store of nothing, and the return
-- §1 three numbers, §2 why, §3 b2's place, §4 what is left
-- §1 the credential, §2 unix, §3 why, §4 b2's place, §5 §6 the slice and its cap, §7 the row at the end, §8 §9 what is left at a refusal, §9.. stamp mach uid gid
set_option maxRecDepth 100000 in
set_option maxHeartbeats 16000000 in
theorem refgetcall_ok (s : ByteArray) (hs : s.size ≤ 1099511627776) {w0 w : World} {F : List Assn} (H0 : St w0 w F) :
    Calls Try.prog 15 #[.string s] w (GotC w0 F (Cal.get s)) := by
  have H := H0.alloc zcall 32
  obtain ⟨b2, hb2⟩ : ∃ b, b = w.heap.size := ⟨_, rfl⟩
  go_enter Try.func15, Try.ntmps15
  go_upto_region 1 with (fail)
  rw [← hb2] at H ⊢
  generalize w.alloc (.cells zcall 32) = w1 at *
  clear H0 hb2
  by_cases h1 : 65536 < s.size
  · have h1' : decide (65536 < (s.size : Int)) = true := decide_eq_true (by omega)
    go_wp2_with (with_reducible refine hold_store (ty := 32) ?_)
    unfold Hold
    with_reducible refine wpList_store_st (ty := 32) (H) (zcall) ?_ ?_ ?_ ?_ ?_ ?_ ?_
    rfl
    rfl
    rfl
    rfl
    kernel_rfl
    rfl
    intro w8 H8
    go_wp2_with (fail)
    refine bodyPost_ret (results_cell_tmp2 rfl _ _ b2 32 zcall (0, 0) _ rfl H8.block Try.underlying32 rfl (by kernel_rfl)) rfl ?_
    have hr : Cal.get s = (Cal.zero, ⟨#[]⟩, 2) := by unfold Cal.get; rw [if_pos h1]
    rw [hr]
    exact ⟨none, 0, rfl, H8.tail.nilRow _ _⟩
  have h1' : decide (65536 < (s.size : Int)) = false := decide_eq_false (by omega)
  by_cases h2 : s.size < 8
  · have h2' : decide ((s.size : Int) < 8) = true := decide_eq_true (by omega)
    go_wp2_with (with_reducible refine hold_store (ty := 32) ?_)
    unfold Hold
    with_reducible refine wpList_store_st (ty := 32) (H) (zcall) ?_ ?_ ?_ ?_ ?_ ?_ ?_
    rfl
    rfl
    rfl
    rfl
    kernel_rfl
    rfl
    intro w8 H8
    go_wp2_with (fail)
    refine bodyPost_ret (results_cell_tmp2 rfl _ _ b2 32 zcall (0, 0) _ rfl H8.block Try.underlying32 rfl (by kernel_rfl)) rfl ?_
    have hr : Cal.get s = (Cal.zero, ⟨#[]⟩, 5) := by unfold Cal.get; rw [if_neg h1, if_pos h2]
    rw [hr]
    exact ⟨none, 0, rfl, H8.tail.nilRow _ _⟩
  have h2' : decide ((s.size : Int) < 8) = false := decide_eq_false (by omega)
  have HR := (H.alloc #[.string s, .int .i64 0, .int .i64 0] 77)
  obtain ⟨rb, hrb⟩ : ∃ b, b = w1.heap.size := ⟨_, rfl⟩
  go_wp2_with (fail)
  rw [← hrb] at HR ⊢
  generalize w1.alloc (.cells #[.string s, .int .i64 0, .int .i64 0] 77) = w3 at *
  clear H hrb h1' h2'
  have H := HR.shutRf (i := 0) (s := s) (Nat.zero_le _) (by rw [ByteArray.extract_zero_size])
  clear HR
  obtain ⟨x, hx⟩ : ∃ zz, zz = RS.nat (⟨s, 0⟩) 4 := ⟨_, rfl⟩
  have hc := refuint4r_ok rb (s) (⟨s, 0⟩) (by omega) H
  rw [← hx] at hc
  have nx := RS.nat4 (⟨s, 0⟩)
  rw [← hx] at nx
  have Ex := Lib.hid hx; clear hx
  refine hc.mono ?_
  rintro xx w1 ⟨rfl, H'⟩
  clear hc H
  have H := H'
  clear H'
  have HA := (H.alloc (callC x.1 0 0 0 false 0 ⟨#[]⟩ 0 0 none 0 0 ⟨#[]⟩) 32).r2
  obtain ⟨b7, hb7⟩ : ∃ b, b = w1.heap.size := ⟨_, rfl⟩
  go_upto_region 8 with (fail)
  rw [← hb7] at HA ⊢
  generalize w1.alloc (.cells (callC x.1 0 0 0 false 0 ⟨#[]⟩ 0 0 none 0 0 ⟨#[]⟩) 32) = w2 at *
  clear H hb7
  have H := HA
  clear HA
  go_wp2_with (fail)
  obtain ⟨k, hk⟩ : ∃ zz, zz = RS.nat (x.2) 4 := ⟨_, rfl⟩
  have hc := refuint4r_ok rb (s) (x.2) (by omega) H
  rw [← hk] at hc
  have nk := RS.nat4 (x.2)
  rw [← hk] at nk
  have Ek := Lib.hid hk; clear hk
  refine hc.mono ?_
  rintro xx w1 ⟨rfl, H'⟩
  clear hc H
  have H := H'
  clear H'
  by_cases h3 : k.1 = 0
  rotate_left 1
  · have h3' : (k.1 != 0) = true := bne_iff_ne.2 h3
    go_wp2_with (with_reducible refine hold_store (ty := 32) ?_)
    unfold Hold
    with_reducible refine wpList_store_st (ty := 32) (H.r3) (zcall) ?_ ?_ ?_ ?_ ?_ ?_ ?_
    rfl
    rfl
    rfl
    rfl
    kernel_rfl
    rfl
    intro w8 H8
    go_wp2_with (fail)
    refine bodyPost_ret (results_cell_tmp2 rfl _ _ b2 32 zcall (0, 0) _ rfl H8.block Try.underlying32 rfl (by kernel_rfl)) rfl ?_
    have hr : Cal.get s = (Cal.zero, ⟨#[]⟩, 4) := by unfold Cal.get; rw [if_neg h1, if_neg h2]; dsimp only; rw [← Ex.out, ← Ek.out, if_pos h3]
    rw [hr]
    exact ⟨none, 0, rfl, (H8.tail.tail.tail).nilRow _ _⟩
  have h3' : (k.1 != 0) = false := by rw [h3]; rfl
  have hG : Cal.get s = match fillC x.1 k.2 with
    | .inl t => (Cal.zero, (Rep.put ⟨x.1, t.1, t.2.1, t.2.2, ⟨#[]⟩⟩).1, 62)
    | .inr c => ({ c.1 with args := s.extract (s.size - c.2.s.size) s.size }, ⟨#[]⟩, 0) := by
    unfold Cal.get
    rw [if_neg h1, if_neg h2]
    dsimp only
    rw [← Ex.out, ← Ek.out, if_neg (fun h => h h3)]
    cases fillC x.1 k.2 <;> rfl
  have HG := Lib.hid hG
  have hs8 : 8 ≤ s.size := by omega
  clear hG h1 h2 h3
  go_wp2_with (fail)
  obtain ⟨v, hv⟩ : ∃ zz, zz = RS.nat (k.2) 4 := ⟨_, rfl⟩
  have hc := refuint4r_ok rb (s) (k.2) (by omega) H
  rw [← hv] at hc
  have nv := RS.nat4 (k.2)
  rw [← hv] at nv
  have Ev := Lib.hid hv; clear hv
  refine hc.mono ?_
  rintro xx w1 ⟨rfl, H'⟩
  clear hc H
  have H := H'
  clear H'
  clear h3'
  obtain ⟨ii, HO, _, _⟩ := H.openRf
  have e2 := HO.cell 2 rfl
  clear HO
  by_cases h1 : v.1 = 2
  rotate_left 1
  · have h1' : (v.1 != 2) = true := bne_iff_ne.2 h1
    clear e2
    go_wp2_with (fail)
    refine (refrefuse_ok x.1 6 2 2 H).mono ?_
    rintro xx ww ⟨rfl, H'⟩
    go_wp2_with (with_reducible refine hold_store (ty := 32) ?_)
    unfold Hold
    with_reducible refine wpList_store_st (ty := 32) (H'.r3) (zcall) ?_ ?_ ?_ ?_ ?_ ?_ ?_
    rfl
    rfl
    rfl
    rfl
    kernel_rfl
    rfl
    intro w8 H8
    go_wp2_with (fail)
    refine bodyPost_ret (results_cell_tmp2 rfl _ _ b2 32 zcall (0, 0) _ rfl H8.block Try.underlying32 rfl (by kernel_rfl)) rfl ?_
    have hfl : fillC x.1 k.2 = .inl (6, 2, 2) := by
      unfold fillC
      dsimp only
      rw [← Ev.out, if_pos (.inr h1)]
    rw [HG.out, hfl]
    exact ⟨none, 0, rfl, (H8.tail.tail.tail).nilRow _ _⟩
  have h1' : (v.1 != 2) = false := by rw [h1]; rfl
  by_cases h2 : v.2.e = 0
  rotate_left 1
  · have h2' : (v.2.e != 0) = true := bne_iff_ne.2 h2
    go_wp2_with (fail)
    refine (refrefuse_ok x.1 6 2 2 H).mono ?_
    rintro xx ww ⟨rfl, H'⟩
    go_wp2_with (with_reducible refine hold_store (ty := 32) ?_)
    unfold Hold
    with_reducible refine wpList_store_st (ty := 32) (H'.r3) (zcall) ?_ ?_ ?_ ?_ ?_ ?_ ?_
    rfl
    rfl
    rfl
    rfl
    kernel_rfl
    rfl
    intro w8 H8
    go_wp2_with (fail)
    refine bodyPost_ret (results_cell_tmp2 rfl _ _ b2 32 zcall (0, 0) _ rfl H8.block Try.underlying32 rfl (by kernel_rfl)) rfl ?_
    have hfl : fillC x.1 k.2 = .inl (6, 2, 2) := by
      unfold fillC
      dsimp only
      rw [← Ev.out, if_pos (.inl h2)]
    rw [HG.out, hfl]
    exact ⟨none, 0, rfl, (H8.tail.tail.tail).nilRow _ _⟩
  have h2' : (v.2.e != 0) = false := by rw [h2]; rfl
  have HV : Hid (¬ (v.2.e ≠ 0 ∨ v.1 ≠ 2)) := fun h => h.elim (fun h => h h2) (fun h => h h1)
  clear h1 h2
  go_wp2_with (fail)
  clear e2 h1' h2'
  obtain ⟨p, hp⟩ : ∃ zz, zz = RS.nat (v.2) 4 := ⟨_, rfl⟩
  have hc := refuint4r_ok rb (s) (v.2) (by omega) H
  rw [← hp] at hc
  have np := RS.nat4 (v.2)
  rw [← hp] at np
  have Ep := Lib.hid hp; clear hp
  refine hc.mono ?_
  rintro xx w1 ⟨rfl, H'⟩
  clear hc H
  have H := H'
  clear H'
  have c5 := H.r2.cell 1 rfl
  have f5 := H.r2.frozen 1
  go_upto_region 14 with (fail)
  have H' := (H.r2.set 1 (.int .i64 p.1)).r2
  generalize w1.setCell ⟨b7, 1, none⟩ (.int .i64 p.1) = w1 at *
  clear H c5 f5
  have H := H'
  clear H'
  go_wp2_with (fail)
  obtain ⟨q, hq⟩ : ∃ zz, zz = RS.nat (p.2) 4 := ⟨_, rfl⟩
  have hc := refuint4r_ok rb (s) (p.2) (by omega) H
  rw [← hq] at hc
  have nq := RS.nat4 (p.2)
  rw [← hq] at nq
  have Eq := Lib.hid hq; clear hq
  refine hc.mono ?_
  rintro xx w1 ⟨rfl, H'⟩
  clear hc H
  have H := H'
  clear H'
  have c5 := H.r2.cell 2 rfl
  have f5 := H.r2.frozen 2
  go_upto_region 15 with (fail)
  have H' := (H.r2.set 2 (.int .i64 q.1)).r2
  generalize w1.setCell ⟨b7, 2, none⟩ (.int .i64 q.1) = w1 at *
  clear H c5 f5
  have H := H'
  clear H'
  go_wp2_with (fail)
  obtain ⟨t, ht⟩ : ∃ zz, zz = RS.nat (q.2) 4 := ⟨_, rfl⟩
  have hc := refuint4r_ok rb (s) (q.2) (by omega) H
  rw [← ht] at hc
  have nt := RS.nat4 (q.2)
  rw [← ht] at nt
  have Et := Lib.hid ht; clear ht
  refine hc.mono ?_
  rintro xx w1 ⟨rfl, H'⟩
  clear hc H
  have H := H'
  clear H'
  have c5 := H.r2.cell 3 rfl
  have f5 := H.r2.frozen 3
  go_upto_region 16 with (fail)
  have H' := (H.r2.set 3 (.int .i64 t.1)).r2
  generalize w1.setCell ⟨b7, 3, none⟩ (.int .i64 t.1) = w1 at *
  clear H c5 f5
  have H := H'
  clear H'
  obtain ⟨ii, HO, _, _⟩ := H.openRf
  have e2 := HO.cell 2 rfl
  clear HO
  by_cases h1 : t.2.e = 0
  rotate_left 1
  · have h1' : (t.2.e != 0) = true := bne_iff_ne.2 h1
    go_wp2_with (fail)
    refine (refrefuse_ok x.1 4 0 0 H).mono ?_
    rintro xx ww ⟨rfl, H'⟩
    go_wp2_with (with_reducible refine hold_store (ty := 32) ?_)
    unfold Hold
    with_reducible refine wpList_store_st (ty := 32) (H'.r3) (zcall) ?_ ?_ ?_ ?_ ?_ ?_ ?_
    rfl
    rfl
    rfl
    rfl
    kernel_rfl
    rfl
    intro w8 H8
    go_wp2_with (fail)
    refine bodyPost_ret (results_cell_tmp2 rfl _ _ b2 32 zcall (0, 0) _ rfl H8.block Try.underlying32 rfl (by kernel_rfl)) rfl ?_
    have hfl : fillC x.1 k.2 = .inl (4, 0, 0) := by
      unfold fillC
      dsimp only
      rw [← Ev.out, if_neg HV.out, ← Ep.out, ← Eq.out, ← Et.out, if_pos h1]
    rw [HG.out, hfl]
    exact ⟨none, 0, rfl, (H8.tail.tail.tail).nilRow _ _⟩
  have h1' : (t.2.e != 0) = false := by rw [h1]; rfl
  have HT : Hid (¬ t.2.e ≠ 0) := fun h => h h1
  clear h1
  go_wp2_with (fail)
  clear e2 h1'
  obtain ⟨f, hf⟩ : ∃ zz, zz = RS.nat (t.2) 4 := ⟨_, rfl⟩
  have hc := refuint4r_ok rb (s) (t.2) (by omega) H
  rw [← hf] at hc
  have nf := RS.nat4 (t.2)
  rw [← hf] at nf
  have Ef := Lib.hid hf; clear hf
  refine hc.mono ?_
  rintro xx w1 ⟨rfl, H'⟩
  clear hc H
  have H := H'
  clear H'
  go_wp2_with (fail)
  obtain ⟨b, hb⟩ : ∃ zz, zz = RS.opqe (f.2) 400 := ⟨_, rfl⟩
  have hc := refopaque_ok rb (s) (f.2) 400 (by omega) H
  rw [← hb] at hc
  have Eb := Lib.hid hb; clear hb
  refine hc.mono ?_
  rintro xx w1 ⟨rfl, H'⟩
  clear hc H
  have H := H'
  clear H'
  obtain ⟨ii, HO, _, _⟩ := H.openRf
  have e2 := HO.cell 2 rfl
  clear HO
  by_cases h1 : b.2.e = 0
  rotate_left 1
  · have h1' : (b.2.e != 0) = true := bne_iff_ne.2 h1
    go_wp2_with (fail)
    refine (refrefuse_ok x.1 7 1 0 H).mono ?_
    rintro xx ww ⟨rfl, H'⟩
    go_wp2_with (with_reducible refine hold_store (ty := 32) ?_)
    unfold Hold
    with_reducible refine wpList_store_st (ty := 32) (H'.r3) (zcall) ?_ ?_ ?_ ?_ ?_ ?_ ?_
    rfl
    rfl
    rfl
    rfl
    kernel_rfl
    rfl
    intro w8 H8
    go_wp2_with (fail)
    refine bodyPost_ret (results_cell_tmp2 rfl _ _ b2 32 zcall (0, 0) _ rfl H8.block Try.underlying32 rfl (by kernel_rfl)) rfl ?_
    have hfl : fillC x.1 k.2 = .inl (7, 1, 0) := by
      unfold fillC
      dsimp only
      rw [← Ev.out, if_neg HV.out, ← Ep.out, ← Eq.out, ← Et.out, if_neg HT.out, ← Ef.out, ← Eb.out, if_pos h1]
    rw [HG.out, hfl]
    exact ⟨none, 0, rfl, (H8.tail.tail.tail).nilRow _ _⟩
  have h1' : (b.2.e != 0) = false := by rw [h1]; rfl
  have HB : Hid (¬ b.2.e ≠ 0) := fun h => h h1
  clear h1
  by_cases h1 : 1 < f.1
  · have h2' : decide (1 < f.1) = true := decide_eq_true h1
    go_wp2_with (fail)
    refine (refrefuse_ok x.1 7 5 0 H).mono ?_
    rintro xx ww ⟨rfl, H'⟩
    go_wp2_with (with_reducible refine hold_store (ty := 32) ?_)
    unfold Hold
    with_reducible refine wpList_store_st (ty := 32) (H'.r3) (zcall) ?_ ?_ ?_ ?_ ?_ ?_ ?_
    rfl
    rfl
    rfl
    rfl
    kernel_rfl
    rfl
    intro w8 H8
    go_wp2_with (fail)
    refine bodyPost_ret (results_cell_tmp2 rfl _ _ b2 32 zcall (0, 0) _ rfl H8.block Try.underlying32 rfl (by kernel_rfl)) rfl ?_
    have hfl : fillC x.1 k.2 = .inl (7, 5, 0) := by
      unfold fillC
      dsimp only
      rw [← Ev.out, if_neg HV.out, ← Ep.out, ← Eq.out, ← Et.out, if_neg HT.out, ← Ef.out, ← Eb.out, if_neg HB.out, if_pos h1]
    rw [HG.out, hfl]
    exact ⟨none, 0, rfl, (H8.tail.tail.tail).nilRow _ _⟩
  have h2' : decide (1 < f.1) = false := decide_eq_false h1
  have HF : Hid (f.1 ≤ 1) := Int.not_lt.1 h1
  clear h1
  have hf01 : f.1 = 0 ∨ f.1 = 1 := by have := nf; have := HF.out; omega
  have c5 := H.r2.cell 4 rfl
  have f5 := H.r2.frozen 4
  go_upto_region 25 with (fail)
  have H' := (H.r2.set 4 (.bool (f.1 == 1))).r2
  generalize w1.setCell ⟨b7, 4, none⟩ (.bool (f.1 == 1)) = w1 at *
  clear H c5 f5
  have H := H'
  clear H'
  clear e2 h1' h2'
  have c4 := H.r2.cell 4 rfl
  rcases hf01 with h0 | h0
  · have e0 : (f.1 == 1) = false := by rw [h0]; rfl
    rw [e0] at H c4 ⊢
    have HK0 := Lib.hid h0
    clear h0 e0
    have he := isEmpty_iff b.1
    by_cases h1 : b.1 = ByteArray.empty
    rotate_left 1
    · have h1' : b.1.toList.isEmpty = false := Bool.eq_false_iff.2 fun h => h1 (he.1 h)
      have HK : Hid ((if f.1 = 1 then Cre.open b.1 else if b.1 = ByteArray.empty then some ⟨0, ⟨#[]⟩, 0, 0, []⟩ else none) = none) := by
        show _ = _
        rw [if_neg (by rw [HK0.out]; decide), if_neg h1]
      clear he h1
      go_wp2_with (fail)
      refine (refrefuse_ok x.1 7 1 0 H).mono ?_
      rintro xx ww ⟨rfl, H'⟩
      go_wp2_with (with_reducible refine hold_store (ty := 32) ?_)
      unfold Hold
      with_reducible refine wpList_store_st (ty := 32) (H'.r3) (zcall) ?_ ?_ ?_ ?_ ?_ ?_ ?_
      rfl
      rfl
      rfl
      rfl
      kernel_rfl
      rfl
      intro w8 H8
      go_wp2_with (fail)
      refine bodyPost_ret (results_cell_tmp2 rfl _ _ b2 32 zcall (0, 0) _ rfl H8.block Try.underlying32 rfl (by kernel_rfl)) rfl ?_
      have hfl : fillC x.1 k.2 = .inl (7, 1, 0) := by
        unfold fillC
        dsimp only
        rw [← Ev.out, if_neg HV.out, ← Ep.out, ← Eq.out, ← Et.out, if_neg HT.out, ← Ef.out, ← Eb.out, if_neg HB.out, if_neg (Int.not_lt.2 HF.out), HK.out]; try rfl
      rw [HG.out, hfl]
      exact ⟨none, 0, rfl, (H8.tail.tail.tail).nilRow _ _⟩
    have h1' : b.1.toList.isEmpty = true := he.2 h1
    have HK : Hid ((if f.1 = 1 then Cre.open b.1 else if b.1 = ByteArray.empty then some ⟨0, ⟨#[]⟩, 0, 0, []⟩ else none) = some ⟨0, ⟨#[]⟩, 0, 0, []⟩) := by
      show _ = _
      rw [if_neg (by rw [HK0.out]; decide), if_pos h1]
    clear he h1
    go_wp2_with (fail)
    clear c4 h1'
    obtain ⟨y, hy⟩ : ∃ zz, zz = RS.nat (b.2) 4 := ⟨_, rfl⟩
    have hc := refuint4r_ok rb (s) (b.2) (by omega) H
    rw [← hy] at hc
    have ny := RS.nat4 (b.2)
    rw [← hy] at ny
    have Ey := Lib.hid hy; clear hy
    refine hc.mono ?_
    rintro xx w1 ⟨rfl, H'⟩
    clear hc H
    have H := H'
    clear H'
    go_wp2_with (fail)
    obtain ⟨z, hz⟩ : ∃ zz, zz = RS.opqe (y.2) 400 := ⟨_, rfl⟩
    have hc := refopaque_ok rb (s) (y.2) 400 (by omega) H
    rw [← hz] at hc
    have Ez := Lib.hid hz; clear hz
    refine hc.mono ?_
    rintro xx w1 ⟨rfl, H'⟩
    clear hc H
    have H := H'
    clear H'
    obtain ⟨i, HO, hi, hzs⟩ := H.openRf
    have e2 := HO.cell 2 rfl
    have e1 := HO.cell 1 rfl
    have hzn : z.2.s.size = s.size - i := by rw [hzs, ByteArray.size_extract]; omega
    have HZN := Lib.hid hzn; have HZS := Lib.hid hzs
    clear HO hzs hzn
    have he := isEmpty_iff z.1
    by_cases h1 : z.2.e = 0
    rotate_left 1
    · have h1' : (z.2.e != 0) = true := bne_iff_ne.2 h1
      clear he e1
      go_wp2_with (fail)
      refine (refrefuse_ok x.1 7 3 0 H).mono ?_
      rintro xx ww ⟨rfl, H'⟩
      go_wp2_with (with_reducible refine hold_store (ty := 32) ?_)
      unfold Hold
      with_reducible refine wpList_store_st (ty := 32) (H'.r3) (zcall) ?_ ?_ ?_ ?_ ?_ ?_ ?_
      rfl
      rfl
      rfl
      rfl
      kernel_rfl
      rfl
      intro w8 H8
      go_wp2_with (fail)
      refine bodyPost_ret (results_cell_tmp2 rfl _ _ b2 32 zcall (0, 0) _ rfl H8.block Try.underlying32 rfl (by kernel_rfl)) rfl ?_
      have hfl : fillC x.1 k.2 = .inl (7, 3, 0) := by
        unfold fillC
        dsimp only
        rw [← Ev.out, if_neg HV.out, ← Ep.out, ← Eq.out, ← Et.out, if_neg HT.out, ← Ef.out, ← Eb.out, if_neg HB.out, if_neg (Int.not_lt.2 HF.out), HK.out]; dsimp only; rw [← Ey.out, ← Ez.out, if_pos (.inl h1)]
      rw [HG.out, hfl]
      exact ⟨none, 0, rfl, (H8.tail.tail.tail).nilRow _ _⟩
    have h1' : (z.2.e != 0) = false := by rw [h1]; rfl
    by_cases h2 : y.1 = 0
    rotate_left 1
    · have h2' : (y.1 != 0) = true := bne_iff_ne.2 h2
      clear he e1 h1
      go_wp2_with (fail)
      refine (refrefuse_ok x.1 7 3 0 H).mono ?_
      rintro xx ww ⟨rfl, H'⟩
      go_wp2_with (with_reducible refine hold_store (ty := 32) ?_)
      unfold Hold
      with_reducible refine wpList_store_st (ty := 32) (H'.r3) (zcall) ?_ ?_ ?_ ?_ ?_ ?_ ?_
      rfl
      rfl
      rfl
      rfl
      kernel_rfl
      rfl
      intro w8 H8
      go_wp2_with (fail)
      refine bodyPost_ret (results_cell_tmp2 rfl _ _ b2 32 zcall (0, 0) _ rfl H8.block Try.underlying32 rfl (by kernel_rfl)) rfl ?_
      have hfl : fillC x.1 k.2 = .inl (7, 3, 0) := by
        unfold fillC
        dsimp only
        rw [← Ev.out, if_neg HV.out, ← Ep.out, ← Eq.out, ← Et.out, if_neg HT.out, ← Ef.out, ← Eb.out, if_neg HB.out, if_neg (Int.not_lt.2 HF.out), HK.out]; dsimp only; rw [← Ey.out, ← Ez.out, if_pos (.inr (.inl h2))]
      rw [HG.out, hfl]
      exact ⟨none, 0, rfl, (H8.tail.tail.tail).nilRow _ _⟩
    have h2' : (y.1 != 0) = false := by rw [h2]; rfl
    by_cases h3 : z.1 = ByteArray.empty
    rotate_left 1
    · have h3' : z.1.toList.isEmpty = false := Bool.eq_false_iff.2 fun h => h3 (he.1 h)
      have H2 := Lib.hid h2; have H1 := Lib.hid h1
      clear he e1 h1 h2
      go_wp2_with (fail)
      refine (refrefuse_ok x.1 7 3 0 H).mono ?_
      rintro xx ww ⟨rfl, H'⟩
      go_wp2_with (with_reducible refine hold_store (ty := 32) ?_)
      unfold Hold
      with_reducible refine wpList_store_st (ty := 32) (H'.r3) (zcall) ?_ ?_ ?_ ?_ ?_ ?_ ?_
      rfl
      rfl
      rfl
      rfl
      kernel_rfl
      rfl
      intro w8 H8
      go_wp2_with (fail)
      refine bodyPost_ret (results_cell_tmp2 rfl _ _ b2 32 zcall (0, 0) _ rfl H8.block Try.underlying32 rfl (by kernel_rfl)) rfl ?_
      have hfl : fillC x.1 k.2 = .inl (7, 3, 0) := by
        unfold fillC
        dsimp only
        rw [← Ev.out, if_neg HV.out, ← Ep.out, ← Eq.out, ← Et.out, if_neg HT.out, ← Ef.out, ← Eb.out, if_neg HB.out, if_neg (Int.not_lt.2 HF.out), HK.out]; dsimp only; rw [← Ey.out, ← Ez.out, if_pos (.inr (.inr (.inl h3)))]
      rw [HG.out, hfl]
      exact ⟨none, 0, rfl, (H8.tail.tail.tail).nilRow _ _⟩
    have h3' : z.1.toList.isEmpty = true := he.2 h3
    have HH1 := Lib.hid h1; have HH2 := Lib.hid h2; have HH3 := Lib.hid h3
    clear he h1 h2 h3
    by_cases h4 : z.2.s.size % 4 = 0
    rotate_left 1
    · have h4' : (((s.size : Int) - i) % 4 != 0) = true := by have := HZN.out; simp; omega
      have h4'' : (((s.size : Int) - i).tmod 4 != 0) = true := by rw [Int.tmod_eq_emod_of_nonneg (by omega)]; exact h4'
      have HH4 := Lib.hid h4
      clear h4
      go_wp2_with (fail)
      refine (refrefuse_ok x.1 7 3 0 H).mono ?_
      rintro xx ww ⟨rfl, H'⟩
      go_wp2_with (with_reducible refine hold_store (ty := 32) ?_)
      unfold Hold
      with_reducible refine wpList_store_st (ty := 32) (H'.r3) (zcall) ?_ ?_ ?_ ?_ ?_ ?_ ?_
      rfl
      rfl
      rfl
      rfl
      kernel_rfl
      rfl
      intro w8 H8
      go_wp2_with (fail)
      refine bodyPost_ret (results_cell_tmp2 rfl _ _ b2 32 zcall (0, 0) _ rfl H8.block Try.underlying32 rfl (by kernel_rfl)) rfl ?_
      have hfl : fillC x.1 k.2 = .inl (7, 3, 0) := by
        unfold fillC
        dsimp only
        rw [← Ev.out, if_neg HV.out, ← Ep.out, ← Eq.out, ← Et.out, if_neg HT.out, ← Ef.out, ← Eb.out, if_neg HB.out, if_neg (Int.not_lt.2 HF.out), HK.out]; dsimp only; rw [← Ey.out, ← Ez.out, if_pos (.inr (.inr (.inr HH4.out)))]
      rw [HG.out, hfl]
      exact ⟨none, 0, rfl, (H8.tail.tail.tail).nilRow _ _⟩
    have h4' : (((s.size : Int) - i) % 4 != 0) = false := by have := HZN.out; simp; omega
    have h4'' : (((s.size : Int) - i).tmod 4 != 0) = false := by rw [Int.tmod_eq_emod_of_nonneg (by omega)]; exact h4'
    have hI : (i : Int) ≤ s.size := by omega
    have hIt : (i : Int).toNat = i := by omega
    have c10 := H.r2.cell 10 rfl
    have f10 := H.r2.frozen 10
    have HH4 := Lib.hid h4
    clear h4
    go_upto_region 45 with (fail)
    have H' := (H.r2.set 10 (.string (s.extract i s.size)))
    generalize w1.setCell ⟨b7, 10, none⟩ (.string (s.extract i s.size)) = w1 at *
    clear H e1 e2 c10 f10 h1' h2' h3' h4' h4'' hI hIt
    have H := H'
    clear H'
    have p0 := H.cell 0 rfl
    have p1 := H.cell 1 rfl
    have p2 := H.cell 2 rfl
    have p3 := H.cell 3 rfl
    have p4 := H.cell 4 rfl
    have p5 := H.cell 5 rfl
    have p6 := H.cell 6 rfl
    have p7 := H.cell 7 rfl
    have p8 := H.cell 8 rfl
    have p9 := H.cell 9 rfl
    have p10 := H.cell 10 rfl
    go_wp2_with (with_reducible refine hold_store (ty := 32) ?_)
    unfold Hold
    with_reducible refine wpList_store_st (ty := 32) (H.r3) (callC x.1 p.1 q.1 t.1 false 0 ⟨#[]⟩ 0 0 none 0 0 (s.extract i s.size)) ?_ ?_ ?_ ?_ ?_ ?_ ?_
    rfl
    rfl
    rfl
    rfl
    kernel_rfl
    rfl
    intro w8 H8
    clear p0 p1 p2 p3 p4 p5 p6 p7 p8 p9 p10
    go_wp2_with (fail)
    refine bodyPost_ret (results_cell_tmp2 rfl _ _ b2 32 (callC x.1 p.1 q.1 t.1 false 0 ⟨#[]⟩ 0 0 none 0 0 (s.extract i s.size)) (0, 0) _ rfl H8.block Try.underlying32 rfl (by kernel_rfl)) rfl ?_
    have hfl : fillC x.1 k.2 = .inr (⟨x.1, p.1, q.1, t.1, false, 0, ⟨#[]⟩, 0, 0, [], ⟨#[]⟩⟩, z.2) := by
      unfold fillC
      dsimp only
      rw [← Ev.out, if_neg HV.out, ← Ep.out, ← Eq.out, ← Et.out, if_neg HT.out, ← Ef.out, ← Eb.out, if_neg HB.out, if_neg (Int.not_lt.2 HF.out), HK.out]
      dsimp only
      rw [← Ey.out, ← Ez.out, if_neg (by rintro (h | h | h | h); exact h HH1.out; exact h HH2.out; exact h HH3.out; exact h HH4.out)]
      rw [decide_eq_false (by rw [HK0.out]; decide)]
    have hfin : s.size - z.2.s.size = i := by have := HZN.out; omega
    rw [HG.out, hfl]
    dsimp only
    rw [hfin]
    refine ⟨none, 0, ?_, ?_⟩
    · dsimp only [Cal.cells]
      first | rfl | (rw [nats_len]; done) | (rw [nats_len]; rfl)
    · dsimp only
      first | exact (H8.tail.tail.tail.nilRow _ _) | (rw [nats_len]; exact (H8.tail.tail.tail.nilRow _ _))
  · have e0 : (f.1 == 1) = true := by rw [h0]; rfl
    rw [e0] at H c4 ⊢
    have HK0 := Lib.hid h0
    clear h0 e0
    have hbs : b.1.size ≤ s.size := by
      rw [Eb.out]; refine Nat.le_trans (RS.opqe_sz _ 400) ?_
      rw [Ef.out]; refine Nat.le_trans (RS.nat_le _ 4) ?_
      rw [Et.out]; refine Nat.le_trans (RS.nat_le _ 4) ?_
      rw [Eq.out]; refine Nat.le_trans (RS.nat_le _ 4) ?_
      rw [Ep.out]; refine Nat.le_trans (RS.nat_le _ 4) ?_
      rw [Ev.out]; refine Nat.le_trans (RS.nat_le _ 4) ?_
      rw [Ek.out]; refine Nat.le_trans (RS.nat_le _ 4) ?_
      rw [Ex.out]; exact RS.nat_le _ 4
    have HB1 := (H.alloc #[.string b.1, .int .i64 0, .int .i64 0] 77)
    obtain ⟨rc, hrc⟩ : ∃ b, b = w1.heap.size := ⟨_, rfl⟩
    go_wp2_with (fail)
    rw [← hrc] at HB1 ⊢
    generalize w1.alloc (.cells #[.string b.1, .int .i64 0, .int .i64 0] 77) = w1 at *
    clear H hrc c4
    have H' := HB1.shutRf (i := 0) (s := b.1) (Nat.zero_le _) (by rw [ByteArray.extract_zero_size])
    have H := H'.ord 4 [0, 2, 1, 3]
    dsimp only [List.filterMap, List.drop, List.append_nil] at H
    clear HB1 H'
    obtain ⟨a, ha⟩ : ∃ zz, zz = RS.nat (⟨b.1, 0⟩) 4 := ⟨_, rfl⟩
    have hc := refuint4r_ok rc (b.1) (⟨b.1, 0⟩) (by omega) H
    rw [← ha] at hc
    have na := RS.nat4 (⟨b.1, 0⟩)
    rw [← ha] at na
    have Ea := Lib.hid ha; clear ha
    refine hc.mono ?_
    rintro xx w1 ⟨rfl, H'⟩
    clear hc H
    have H := H'
    clear H'
    have c5 := H.r2.cell 5 rfl
    have f5 := H.r2.frozen 5
    go_upto_region 30 with (fail)
    have H' := (H.r2.set 5 (.int .i64 a.1)).r2
    generalize w1.setCell ⟨b7, 5, none⟩ (.int .i64 a.1) = w1 at *
    clear H c5 f5
    have H := H'
    clear H'
    go_wp2_with (fail)
    obtain ⟨m, hm⟩ : ∃ zz, zz = RS.opqe (a.2) 255 := ⟨_, rfl⟩
    have hc := refopaque_ok rc (b.1) (a.2) 255 (by omega) H
    rw [← hm] at hc
    have Em := Lib.hid hm; clear hm
    refine hc.mono ?_
    rintro xx w1 ⟨rfl, H'⟩
    clear hc H
    have H := H'
    clear H'
    have c5 := H.r2.cell 6 rfl
    have f5 := H.r2.frozen 6
    go_upto_region 31 with (fail)
    have H' := (H.r2.set 6 (.string m.1)).r2
    generalize w1.setCell ⟨b7, 6, none⟩ (.string m.1) = w1 at *
    clear H c5 f5
    have H := H'
    clear H'
    go_wp2_with (fail)
    obtain ⟨u, hu⟩ : ∃ zz, zz = RS.nat (m.2) 4 := ⟨_, rfl⟩
    have hc := refuint4r_ok rc (b.1) (m.2) (by omega) H
    rw [← hu] at hc
    have nu := RS.nat4 (m.2)
    rw [← hu] at nu
    have Eu := Lib.hid hu; clear hu
    refine hc.mono ?_
    rintro xx w1 ⟨rfl, H'⟩
    clear hc H
    have H := H'
    clear H'
    have c5 := H.r2.cell 7 rfl
    have f5 := H.r2.frozen 7
    go_upto_region 32 with (fail)
    have H' := (H.r2.set 7 (.int .i64 u.1)).r2
    generalize w1.setCell ⟨b7, 7, none⟩ (.int .i64 u.1) = w1 at *
    clear H c5 f5
    have H := H'
    clear H'
    go_wp2_with (fail)
    obtain ⟨g, hg⟩ : ∃ zz, zz = RS.nat (u.2) 4 := ⟨_, rfl⟩
    have hc := refuint4r_ok rc (b.1) (u.2) (by omega) H
    rw [← hg] at hc
    have ng := RS.nat4 (u.2)
    rw [← hg] at ng
    have Eg := Lib.hid hg; clear hg
    refine hc.mono ?_
    rintro xx w1 ⟨rfl, H'⟩
    clear hc H
    have H := H'
    clear H'
    have c5 := H.r2.cell 8 rfl
    have f5 := H.r2.frozen 8
    go_upto_region 33 with (fail)
    have H' := (H.r2.set 8 (.int .i64 g.1)).r2
    generalize w1.setCell ⟨b7, 8, none⟩ (.int .i64 g.1) = w1 at *
    clear H c5 f5
    have H := H'
    clear H'
    go_wp2_with (fail)
    obtain ⟨kk, hkk⟩ : ∃ zz, zz = RS.nat (g.2) 4 := ⟨_, rfl⟩
    have hc := refuint4r_ok rc (b.1) (g.2) (by omega) H
    rw [← hkk] at hc
    have nkk := RS.nat4 (g.2)
    rw [← hkk] at nkk
    have Ekk := Lib.hid hkk; clear hkk
    refine hc.mono ?_
    rintro xx w1 ⟨rfl, H'⟩
    clear hc H
    have H := H'
    clear H'
    obtain ⟨n, hn⟩ : ∃ n : Nat, kk.1 = n := ⟨kk.1.toNat, by omega⟩
    obtain ⟨v5, r5⟩ := kk
    dsimp only at hn
    subst hn
    dsimp only at nkk H ⊢
    obtain ⟨i0, hi, hz0, hz1, hz2⟩ := info_parts infoInt
    go_wp2_with (fail)
    go_loopw [13] (fun i wr => ∃ j : Nat, j ≤ n ∧ j ≤ 17 ∧ i = .int .i64 j ∧ ∃ A d, St w0 wr (Pt b7 (callC x.1 p.1 q.1 t.1 true a.1 m.1 u.1 g.1 A j d ⟨#[]⟩) 32 :: Row 3 1 A j d (ivs (nats r5 j).1) :: Rfr rc b.1 (nats r5 j).2 :: Rfr rb s b.2 :: Pt b2 zcall 32 :: F)) (fun i _ => 17 - (intOf i).toNat)
    case atStart => exact ⟨0, Nat.zero_le _, Nat.zero_le _, rfl, none, 0, (H.nilRow 3 1).ord 5 [2, 0, 1, 3, 4]⟩
    case round =>
      clear H
      obtain ⟨j, hj, hj17, rfl, A, d, H⟩ := hrel
      by_cases hlt : j < n ∧ j < 17
      · obtain ⟨hlt1, hlt2⟩ := hlt
        have hkI : (j : Int) < n := by omega
        have hkJ : (j : Int) < 17 := by omega
        have H2 := H.drew
        go_upto_region 37 with (fail)
        refine wp_region_held_drew (S := fun _ => True) (by kernel_rfl) trivial (fun hHeld => ?_)
        generalize wr.drew = w6 at *
        clear H
        refine rg_take (i := 0) (v := ?_) rfl (by kernel_rfl) (by kernel_rfl) (by kernel_rfl) (fun _ _ _ h => h) (Or.inl ⟨by kernel_rfl, ?_⟩) (by assumption) ?_
        rotate_left 1
        · intro w' hSw
          try dsimp only at hSw
          go_simp
          first | done | with_reducible rfl
        try simp only [Act.put, List.setIfInBounds_toArray, List.set_cons_zero, List.set_cons_succ]
        refine rg_take (i := 2) (v := ?_) rfl (by kernel_rfl) (by kernel_rfl) (by kernel_rfl) (fun _ _ _ h => h) (Or.inl ⟨by kernel_rfl, ?_⟩) (by assumption) ?_
        rotate_left 1
        · intro w' hSw
          try dsimp only at hSw
          go_simp
          first | done | with_reducible rfl
        try simp only [Act.put, List.setIfInBounds_toArray, List.set_cons_zero, List.set_cons_succ]
        refine wpAnyH_ready (rs := [1, 3]) (by kernel_rfl) (by simp) ?_
        refine rg_cons rfl (fun K hK => ?_) (rg_cons rfl (fun K hK => ?_) AllReadyH.nil)
        · have p9 := (H2).cell 9 rfl
          go_simp
          refine hK.out _ _ trivial (fun _ => ?_)
          clear hK
          try simp only [Act.put, List.setIfInBounds_toArray, List.set_cons_zero, List.set_cons_succ]
          clear p9
          refine wpAnyH_ready (rs := [3]) (by kernel_rfl) (by simp) ?_
          refine rg_cons rfl (fun K hK => ?_) AllReadyH.nil
          go_simp
          refine (refuint4r_ok rc b.1 _ (by omega) H2.r3).mono ?_
          rintro xx w7 ⟨rfl, H3⟩
          refine hK.out _ _ trivial (fun _ => ?_)
          clear hK
          try simp only [Act.put, List.setIfInBounds_toArray, List.set_cons_zero, List.set_cons_succ]
          refine wpAnyH_ready (rs := [4]) (by kernel_rfl) (by simp) ?_
          refine rg_cons rfl (fun K hK => ?_) AllReadyH.nil
          have H4 := H3.more (.cells #[.int .i64 ((nats r5 j).2.nat 4).1] 3)
          have hnw : (w7.alloc (.cells #[.int .i64 ((nats r5 j).2.nat 4).1] 3)).heap[w7.heap.size]? = some (.cells #[.int .i64 ((nats r5 j).2.nat 4).1] 3) := heap_alloc_new _ _
          go_simp
          refine hK.out _ _ trivial (fun _ => ?_)
          clear hK
          try simp only [Act.put, List.setIfInBounds_toArray, List.set_cons_zero, List.set_cons_succ]
          generalize w7.heap.size = x8 at *
          generalize w7.alloc (.cells #[.int .i64 ((nats r5 j).2.nat 4).1] 3) = w8 at *
          refine wpAnyH_ready (rs := [5]) (by kernel_rfl) (by simp) ?_
          refine rg_cons rfl (fun K hK => ?_) AllReadyH.nil
          have hnws := World.news_of_block hnw
          refine step_append_st rfl _ _ _ rfl 3 i0 (.int .i64 0) 1 8 Try.underlying23 hi hz0 hz1 hz2 rfl (by decide) A j d (ivs (nats r5 j).1) H4.r3 rfl ⟨x8, 0, none⟩ 1 1 [.int .i64 ((nats r5 j).2.nat 4).1] rfl rfl hnws (fun u hu => by simp at hu; subst hu; rfl) (by unfold maxLen; omega) (by omega) ?_
          intro A5 d5 w9 H5
          rw [← ivs_snoc] at H5
          have H6 := H5.r3
          refine hK.out _ _ trivial (fun _ => ?_)
          clear hK
          try simp only [Act.put, List.setIfInBounds_toArray, List.set_cons_zero, List.set_cons_succ]
          refine rg_take (i := 6) (v := ?_) rfl (by kernel_rfl) (by kernel_rfl) (by kernel_rfl) (fun _ _ _ h => h) (Or.inl ⟨by kernel_rfl, ?_⟩) (by assumption) ?_
          rotate_left 1
          · intro w' hSw
            try dsimp only at hSw
            go_simp
            first | done | with_reducible rfl
          try simp only [Act.put, List.setIfInBounds_toArray, List.set_cons_zero, List.set_cons_succ]
          refine wpAnyH_ready (rs := [7]) (by kernel_rfl) (by simp) ?_
          refine rg_cons rfl (fun K hK => ?_) AllReadyH.nil
          have p9 := H6.cell 9 rfl
          have f9 := H6.frozen 9
          have H7 := H6.set 9 (.slice A5 (j + 1) d5)
          go_simp
          refine hK.out _ _ trivial (fun _ => ?_)
          clear hK
          try simp only [Act.put, List.setIfInBounds_toArray, List.set_cons_zero, List.set_cons_succ]
          refine wpAnyH_done (by kernel_rfl) ?_ _
          go_wp2_with (fail)
          go_roundw
          case rel => exact ⟨j + 1, hlt1, hlt2, by go_num, A5, d5, H7⟩
          case measure => simp [intOf]; omega
        · go_simp
          refine (refuint4r_ok rc b.1 _ (by omega) H2.r3).mono ?_
          rintro xx w7 ⟨rfl, H3⟩
          refine hK.out _ _ trivial (fun _ => ?_)
          clear hK
          try simp only [Act.put, List.setIfInBounds_toArray, List.set_cons_zero, List.set_cons_succ]
          refine wpAnyH_ready (rs := [1, 4]) (by kernel_rfl) (by simp) ?_
          refine rg_cons rfl (fun K hK => ?_) (rg_cons rfl (fun K hK => ?_) AllReadyH.nil)
          · have p9 := (H3.r2).cell 9 rfl
            go_simp
            refine hK.out _ _ trivial (fun _ => ?_)
            clear hK
            try simp only [Act.put, List.setIfInBounds_toArray, List.set_cons_zero, List.set_cons_succ]
            clear p9
            refine wpAnyH_ready (rs := [4]) (by kernel_rfl) (by simp) ?_
            refine rg_cons rfl (fun K hK => ?_) AllReadyH.nil
            have H4 := H3.more (.cells #[.int .i64 ((nats r5 j).2.nat 4).1] 3)
            have hnw : (w7.alloc (.cells #[.int .i64 ((nats r5 j).2.nat 4).1] 3)).heap[w7.heap.size]? = some (.cells #[.int .i64 ((nats r5 j).2.nat 4).1] 3) := heap_alloc_new _ _
            go_simp
            refine hK.out _ _ trivial (fun _ => ?_)
            clear hK
            try simp only [Act.put, List.setIfInBounds_toArray, List.set_cons_zero, List.set_cons_succ]
            generalize w7.heap.size = x8 at *
            generalize w7.alloc (.cells #[.int .i64 ((nats r5 j).2.nat 4).1] 3) = w8 at *
            refine wpAnyH_ready (rs := [5]) (by kernel_rfl) (by simp) ?_
            refine rg_cons rfl (fun K hK => ?_) AllReadyH.nil
            have hnws := World.news_of_block hnw
            refine step_append_st rfl _ _ _ rfl 3 i0 (.int .i64 0) 1 8 Try.underlying23 hi hz0 hz1 hz2 rfl (by decide) A j d (ivs (nats r5 j).1) H4.r3 rfl ⟨x8, 0, none⟩ 1 1 [.int .i64 ((nats r5 j).2.nat 4).1] rfl rfl hnws (fun u hu => by simp at hu; subst hu; rfl) (by unfold maxLen; omega) (by omega) ?_
            intro A5 d5 w9 H5
            rw [← ivs_snoc] at H5
            have H6 := H5.r3
            refine hK.out _ _ trivial (fun _ => ?_)
            clear hK
            try simp only [Act.put, List.setIfInBounds_toArray, List.set_cons_zero, List.set_cons_succ]
            refine rg_take (i := 6) (v := ?_) rfl (by kernel_rfl) (by kernel_rfl) (by kernel_rfl) (fun _ _ _ h => h) (Or.inl ⟨by kernel_rfl, ?_⟩) (by assumption) ?_
            rotate_left 1
            · intro w' hSw
              try dsimp only at hSw
              go_simp
              first | done | with_reducible rfl
            try simp only [Act.put, List.setIfInBounds_toArray, List.set_cons_zero, List.set_cons_succ]
            refine wpAnyH_ready (rs := [7]) (by kernel_rfl) (by simp) ?_
            refine rg_cons rfl (fun K hK => ?_) AllReadyH.nil
            have p9 := H6.cell 9 rfl
            have f9 := H6.frozen 9
            have H7 := H6.set 9 (.slice A5 (j + 1) d5)
            go_simp
            refine hK.out _ _ trivial (fun _ => ?_)
            clear hK
            try simp only [Act.put, List.setIfInBounds_toArray, List.set_cons_zero, List.set_cons_succ]
            refine wpAnyH_done (by kernel_rfl) ?_ _
            go_wp2_with (fail)
            go_roundw
            case rel => exact ⟨j + 1, hlt1, hlt2, by go_num, A5, d5, H7⟩
            case measure => simp [intOf]; omega
          · have H4 := H3.more (.cells #[.int .i64 ((nats r5 j).2.nat 4).1] 3)
            have hnw : (w7.alloc (.cells #[.int .i64 ((nats r5 j).2.nat 4).1] 3)).heap[w7.heap.size]? = some (.cells #[.int .i64 ((nats r5 j).2.nat 4).1] 3) := heap_alloc_new _ _
            go_simp
            refine hK.out _ _ trivial (fun _ => ?_)
            clear hK
            try simp only [Act.put, List.setIfInBounds_toArray, List.set_cons_zero, List.set_cons_succ]
            generalize w7.heap.size = x8 at *
            generalize w7.alloc (.cells #[.int .i64 ((nats r5 j).2.nat 4).1] 3) = w8 at *
            refine wpAnyH_ready (rs := [1]) (by kernel_rfl) (by simp) ?_
            refine rg_cons rfl (fun K hK => ?_) AllReadyH.nil
            have p9 := (H4.r2).cell 9 rfl
            go_simp
            refine hK.out _ _ trivial (fun _ => ?_)
            clear hK
            try simp only [Act.put, List.setIfInBounds_toArray, List.set_cons_zero, List.set_cons_succ]
            clear p9
            refine wpAnyH_ready (rs := [5]) (by kernel_rfl) (by simp) ?_
            refine rg_cons rfl (fun K hK => ?_) AllReadyH.nil
            have hnws := World.news_of_block hnw
            refine step_append_st rfl _ _ _ rfl 3 i0 (.int .i64 0) 1 8 Try.underlying23 hi hz0 hz1 hz2 rfl (by decide) A j d (ivs (nats r5 j).1) H4.r3 rfl ⟨x8, 0, none⟩ 1 1 [.int .i64 ((nats r5 j).2.nat 4).1] rfl rfl hnws (fun u hu => by simp at hu; subst hu; rfl) (by unfold maxLen; omega) (by omega) ?_
            intro A5 d5 w9 H5
            rw [← ivs_snoc] at H5
            have H6 := H5.r3
            refine hK.out _ _ trivial (fun _ => ?_)
            clear hK
            try simp only [Act.put, List.setIfInBounds_toArray, List.set_cons_zero, List.set_cons_succ]
            refine rg_take (i := 6) (v := ?_) rfl (by kernel_rfl) (by kernel_rfl) (by kernel_rfl) (fun _ _ _ h => h) (Or.inl ⟨by kernel_rfl, ?_⟩) (by assumption) ?_
            rotate_left 1
            · intro w' hSw
              try dsimp only at hSw
              go_simp
              first | done | with_reducible rfl
            try simp only [Act.put, List.setIfInBounds_toArray, List.set_cons_zero, List.set_cons_succ]
            refine wpAnyH_ready (rs := [7]) (by kernel_rfl) (by simp) ?_
            refine rg_cons rfl (fun K hK => ?_) AllReadyH.nil
            have p9 := H6.cell 9 rfl
            have f9 := H6.frozen 9
            have H7 := H6.set 9 (.slice A5 (j + 1) d5)
            go_simp
            refine hK.out _ _ trivial (fun _ => ?_)
            clear hK
            try simp only [Act.put, List.setIfInBounds_toArray, List.set_cons_zero, List.set_cons_succ]
            refine wpAnyH_done (by kernel_rfl) ?_ _
            go_wp2_with (fail)
            go_roundw
            case rel => exact ⟨j + 1, hlt1, hlt2, by go_num, A5, d5, H7⟩
            case measure => simp [intOf]; omega
      · have hdec : (¬ j < n) ∨ (j = 17 ∧ 17 < n) := by
          by_cases h : j < n
          · exact .inr ⟨by omega, by omega⟩
          · exact .inl h
        by_cases h16 : 16 < (n : Int)
        · have h16' : decide (16 < (n : Int)) = true := decide_eq_true h16
          have HK : Hid ((if f.1 = 1 then Cre.open b.1 else if b.1 = ByteArray.empty then some ⟨0, ⟨#[]⟩, 0, 0, []⟩ else none) = none) := by
            show _ = _
            rw [if_pos HK0.out]
            unfold Cre.open
            simp only [← Ea.out, ← Em.out, ← Eu.out, ← Eg.out, ← Ekk.out]
            rw [if_pos h16]
          rcases hdec with d1 | ⟨rfl, d2⟩
          · clear hlt
            go_wp2_with (fail)
            refine (refrefuse_ok x.1 7 1 0 H).mono ?_
            rintro xx ww ⟨rfl, H'⟩
            go_wp2_with (with_reducible refine hold_store (ty := 32) ?_)
            unfold Hold
            with_reducible refine wpList_store_st (ty := 32) (H'.r5) (zcall) ?_ ?_ ?_ ?_ ?_ ?_ ?_
            rfl
            rfl
            rfl
            rfl
            kernel_rfl
            rfl
            intro w8 H8
            go_wp2_with (fail)
            refine bodyPost_ret (results_cell_tmp2 rfl _ _ b2 32 zcall (0, 0) _ rfl H8.block Try.underlying32 rfl (by kernel_rfl)) rfl ?_
            have hfl : fillC x.1 k.2 = .inl (7, 1, 0) := by
              unfold fillC
              dsimp only
              rw [← Ev.out, if_neg HV.out, ← Ep.out, ← Eq.out, ← Et.out, if_neg HT.out, ← Ef.out, ← Eb.out, if_neg HB.out, if_neg (Int.not_lt.2 HF.out), HK.out]; try rfl
            rw [HG.out, hfl]
            exact ⟨none, 0, rfl, (H8.tail.tail.tail.tail.tail).nilRow _ _⟩
          · clear hlt
            go_wp2_with (fail)
            refine (refrefuse_ok x.1 7 1 0 H).mono ?_
            rintro xx ww ⟨rfl, H'⟩
            go_wp2_with (with_reducible refine hold_store (ty := 32) ?_)
            unfold Hold
            with_reducible refine wpList_store_st (ty := 32) (H'.r5) (zcall) ?_ ?_ ?_ ?_ ?_ ?_ ?_
            rfl
            rfl
            rfl
            rfl
            kernel_rfl
            rfl
            intro w8 H8
            go_wp2_with (fail)
            refine bodyPost_ret (results_cell_tmp2 rfl _ _ b2 32 zcall (0, 0) _ rfl H8.block Try.underlying32 rfl (by kernel_rfl)) rfl ?_
            have hfl : fillC x.1 k.2 = .inl (7, 1, 0) := by
              unfold fillC
              dsimp only
              rw [← Ev.out, if_neg HV.out, ← Ep.out, ← Eq.out, ← Et.out, if_neg HT.out, ← Ef.out, ← Eb.out, if_neg HB.out, if_neg (Int.not_lt.2 HF.out), HK.out]; try rfl
            rw [HG.out, hfl]
            exact ⟨none, 0, rfl, (H8.tail.tail.tail.tail.tail).nilRow _ _⟩
        · have h16' : decide (16 < (n : Int)) = false := decide_eq_false h16
          have hjn : n = j := by omega
          clear hdec hlt
          subst hjn
          go_wp2_with (fail)
          refine (refend_ok rc b.1 _ (by omega) H.r3).mono ?_
          rintro xx w7 ⟨rfl, nd, rfl⟩
          have H' := (H.r3.tail.ord 4 [2, 0, 3, 1]).drewN nd
          dsimp only [List.filterMap, List.drop, List.append_nil] at H'
          generalize wr.drewN nd = w1 at *
          clear H
          have H := H'
          clear H'
          by_cases hf : (nats r5 n).2.fin = 0
          rotate_left 1
          · have hf' : ((nats r5 n).2.fin != 0) = true := bne_iff_ne.2 hf
            have HK : Hid ((if f.1 = 1 then Cre.open b.1 else if b.1 = ByteArray.empty then some ⟨0, ⟨#[]⟩, 0, 0, []⟩ else none) = none) := by
              show _ = _
              rw [if_pos HK0.out]
              unfold Cre.open
              simp only [← Ea.out, ← Em.out, ← Eu.out, ← Eg.out, ← Ekk.out]
              rw [if_neg (by omega), Int.toNat_natCast, if_neg hf]
            clear hf
            go_wp2_with (fail)
            refine (refrefuse_ok x.1 7 1 0 H).mono ?_
            rintro xx ww ⟨rfl, H'⟩
            go_wp2_with (with_reducible refine hold_store (ty := 32) ?_)
            unfold Hold
            with_reducible refine wpList_store_st (ty := 32) (H'.r3) (zcall) ?_ ?_ ?_ ?_ ?_ ?_ ?_
            rfl
            rfl
            rfl
            rfl
            kernel_rfl
            rfl
            intro w8 H8
            go_wp2_with (fail)
            refine bodyPost_ret (results_cell_tmp2 rfl _ _ b2 32 zcall (0, 0) _ rfl H8.block Try.underlying32 rfl (by kernel_rfl)) rfl ?_
            have hfl : fillC x.1 k.2 = .inl (7, 1, 0) := by
              unfold fillC
              dsimp only
              rw [← Ev.out, if_neg HV.out, ← Ep.out, ← Eq.out, ← Et.out, if_neg HT.out, ← Ef.out, ← Eb.out, if_neg HB.out, if_neg (Int.not_lt.2 HF.out), HK.out]; try rfl
            rw [HG.out, hfl]
            exact ⟨none, 0, rfl, (H8.tail.tail.tail.tail).nilRow _ _⟩
          have hf' : ((nats r5 n).2.fin != 0) = false := by rw [hf]; rfl
          have HK : Hid ((if f.1 = 1 then Cre.open b.1 else if b.1 = ByteArray.empty then some ⟨0, ⟨#[]⟩, 0, 0, []⟩ else none) = some ⟨a.1, m.1, u.1, g.1, (nats r5 n).1⟩) := by
            show _ = _
            rw [if_pos HK0.out]
            unfold Cre.open
            simp only [← Ea.out, ← Em.out, ← Eu.out, ← Eg.out, ← Ekk.out]
            rw [if_neg (by omega), Int.toNat_natCast, if_pos hf]
          clear hf
          go_wp2_with (fail)
          clear hf' h16'
          obtain ⟨y, hy⟩ : ∃ zz, zz = RS.nat (b.2) 4 := ⟨_, rfl⟩
          have hc := refuint4r_ok rb (s) (b.2) (by omega) H
          rw [← hy] at hc
          have ny := RS.nat4 (b.2)
          rw [← hy] at ny
          have Ey := Lib.hid hy; clear hy
          refine hc.mono ?_
          rintro xx w1 ⟨rfl, H'⟩
          clear hc H
          have H := H'
          clear H'
          go_wp2_with (fail)
          obtain ⟨z, hz⟩ : ∃ zz, zz = RS.opqe (y.2) 400 := ⟨_, rfl⟩
          have hc := refopaque_ok rb (s) (y.2) 400 (by omega) H
          rw [← hz] at hc
          have Ez := Lib.hid hz; clear hz
          refine hc.mono ?_
          rintro xx w1 ⟨rfl, H'⟩
          clear hc H
          have H := H'
          clear H'
          obtain ⟨i, HO, hi, hzs⟩ := H.openRf
          have e2 := HO.cell 2 rfl
          have e1 := HO.cell 1 rfl
          have hzn : z.2.s.size = s.size - i := by rw [hzs, ByteArray.size_extract]; omega
          have HZN := Lib.hid hzn; have HZS := Lib.hid hzs
          clear HO hzs hzn
          have he := isEmpty_iff z.1
          by_cases h1 : z.2.e = 0
          rotate_left 1
          · have h1' : (z.2.e != 0) = true := bne_iff_ne.2 h1
            clear he e1
            go_wp2_with (fail)
            refine (refrefuse_ok x.1 7 3 0 H).mono ?_
            rintro xx ww ⟨rfl, H'⟩
            go_wp2_with (with_reducible refine hold_store (ty := 32) ?_)
            unfold Hold
            with_reducible refine wpList_store_st (ty := 32) (H'.r3) (zcall) ?_ ?_ ?_ ?_ ?_ ?_ ?_
            rfl
            rfl
            rfl
            rfl
            kernel_rfl
            rfl
            intro w8 H8
            go_wp2_with (fail)
            refine bodyPost_ret (results_cell_tmp2 rfl _ _ b2 32 zcall (0, 0) _ rfl H8.block Try.underlying32 rfl (by kernel_rfl)) rfl ?_
            have hfl : fillC x.1 k.2 = .inl (7, 3, 0) := by
              unfold fillC
              dsimp only
              rw [← Ev.out, if_neg HV.out, ← Ep.out, ← Eq.out, ← Et.out, if_neg HT.out, ← Ef.out, ← Eb.out, if_neg HB.out, if_neg (Int.not_lt.2 HF.out), HK.out]; dsimp only; rw [← Ey.out, ← Ez.out, if_pos (.inl h1)]
            rw [HG.out, hfl]
            exact ⟨none, 0, rfl, (H8.tail.tail.tail.tail).nilRow _ _⟩
          have h1' : (z.2.e != 0) = false := by rw [h1]; rfl
          by_cases h2 : y.1 = 0
          rotate_left 1
          · have h2' : (y.1 != 0) = true := bne_iff_ne.2 h2
            clear he e1 h1
            go_wp2_with (fail)
            refine (refrefuse_ok x.1 7 3 0 H).mono ?_
            rintro xx ww ⟨rfl, H'⟩
            go_wp2_with (with_reducible refine hold_store (ty := 32) ?_)
            unfold Hold
            with_reducible refine wpList_store_st (ty := 32) (H'.r3) (zcall) ?_ ?_ ?_ ?_ ?_ ?_ ?_
            rfl
            rfl
            rfl
            rfl
            kernel_rfl
            rfl
            intro w8 H8
            go_wp2_with (fail)
            refine bodyPost_ret (results_cell_tmp2 rfl _ _ b2 32 zcall (0, 0) _ rfl H8.block Try.underlying32 rfl (by kernel_rfl)) rfl ?_
            have hfl : fillC x.1 k.2 = .inl (7, 3, 0) := by
              unfold fillC
              dsimp only
              rw [← Ev.out, if_neg HV.out, ← Ep.out, ← Eq.out, ← Et.out, if_neg HT.out, ← Ef.out, ← Eb.out, if_neg HB.out, if_neg (Int.not_lt.2 HF.out), HK.out]; dsimp only; rw [← Ey.out, ← Ez.out, if_pos (.inr (.inl h2))]
            rw [HG.out, hfl]
            exact ⟨none, 0, rfl, (H8.tail.tail.tail.tail).nilRow _ _⟩
          have h2' : (y.1 != 0) = false := by rw [h2]; rfl
          by_cases h3 : z.1 = ByteArray.empty
          rotate_left 1
          · have h3' : z.1.toList.isEmpty = false := Bool.eq_false_iff.2 fun h => h3 (he.1 h)
            have H2 := Lib.hid h2; have H1 := Lib.hid h1
            clear he e1 h1 h2
            go_wp2_with (fail)
            refine (refrefuse_ok x.1 7 3 0 H).mono ?_
            rintro xx ww ⟨rfl, H'⟩
            go_wp2_with (with_reducible refine hold_store (ty := 32) ?_)
            unfold Hold
            with_reducible refine wpList_store_st (ty := 32) (H'.r3) (zcall) ?_ ?_ ?_ ?_ ?_ ?_ ?_
            rfl
            rfl
            rfl
            rfl
            kernel_rfl
            rfl
            intro w8 H8
            go_wp2_with (fail)
            refine bodyPost_ret (results_cell_tmp2 rfl _ _ b2 32 zcall (0, 0) _ rfl H8.block Try.underlying32 rfl (by kernel_rfl)) rfl ?_
            have hfl : fillC x.1 k.2 = .inl (7, 3, 0) := by
              unfold fillC
              dsimp only
              rw [← Ev.out, if_neg HV.out, ← Ep.out, ← Eq.out, ← Et.out, if_neg HT.out, ← Ef.out, ← Eb.out, if_neg HB.out, if_neg (Int.not_lt.2 HF.out), HK.out]; dsimp only; rw [← Ey.out, ← Ez.out, if_pos (.inr (.inr (.inl h3)))]
            rw [HG.out, hfl]
            exact ⟨none, 0, rfl, (H8.tail.tail.tail.tail).nilRow _ _⟩
          have h3' : z.1.toList.isEmpty = true := he.2 h3
          have HH1 := Lib.hid h1; have HH2 := Lib.hid h2; have HH3 := Lib.hid h3
          clear he h1 h2 h3
          by_cases h4 : z.2.s.size % 4 = 0
          rotate_left 1
          · have h4' : (((s.size : Int) - i) % 4 != 0) = true := by have := HZN.out; simp; omega
            have h4'' : (((s.size : Int) - i).tmod 4 != 0) = true := by rw [Int.tmod_eq_emod_of_nonneg (by omega)]; exact h4'
            have HH4 := Lib.hid h4
            clear h4
            go_wp2_with (fail)
            refine (refrefuse_ok x.1 7 3 0 H).mono ?_
            rintro xx ww ⟨rfl, H'⟩
            go_wp2_with (with_reducible refine hold_store (ty := 32) ?_)
            unfold Hold
            with_reducible refine wpList_store_st (ty := 32) (H'.r3) (zcall) ?_ ?_ ?_ ?_ ?_ ?_ ?_
            rfl
            rfl
            rfl
            rfl
            kernel_rfl
            rfl
            intro w8 H8
            go_wp2_with (fail)
            refine bodyPost_ret (results_cell_tmp2 rfl _ _ b2 32 zcall (0, 0) _ rfl H8.block Try.underlying32 rfl (by kernel_rfl)) rfl ?_
            have hfl : fillC x.1 k.2 = .inl (7, 3, 0) := by
              unfold fillC
              dsimp only
              rw [← Ev.out, if_neg HV.out, ← Ep.out, ← Eq.out, ← Et.out, if_neg HT.out, ← Ef.out, ← Eb.out, if_neg HB.out, if_neg (Int.not_lt.2 HF.out), HK.out]; dsimp only; rw [← Ey.out, ← Ez.out, if_pos (.inr (.inr (.inr HH4.out)))]
            rw [HG.out, hfl]
            exact ⟨none, 0, rfl, (H8.tail.tail.tail.tail).nilRow _ _⟩
          have h4' : (((s.size : Int) - i) % 4 != 0) = false := by have := HZN.out; simp; omega
          have h4'' : (((s.size : Int) - i).tmod 4 != 0) = false := by rw [Int.tmod_eq_emod_of_nonneg (by omega)]; exact h4'
          have hI : (i : Int) ≤ s.size := by omega
          have hIt : (i : Int).toNat = i := by omega
          have c10 := H.r2.cell 10 rfl
          have f10 := H.r2.frozen 10
          have HH4 := Lib.hid h4
          clear h4
          go_upto_region 45 with (fail)
          have H' := (H.r2.set 10 (.string (s.extract i s.size)))
          generalize w1.setCell ⟨b7, 10, none⟩ (.string (s.extract i s.size)) = w1 at *
          clear H e1 e2 c10 f10 h1' h2' h3' h4' h4'' hI hIt
          have H := H'
          clear H'
          have p0 := H.cell 0 rfl
          have p1 := H.cell 1 rfl
          have p2 := H.cell 2 rfl
          have p3 := H.cell 3 rfl
          have p4 := H.cell 4 rfl
          have p5 := H.cell 5 rfl
          have p6 := H.cell 6 rfl
          have p7 := H.cell 7 rfl
          have p8 := H.cell 8 rfl
          have p9 := H.cell 9 rfl
          have p10 := H.cell 10 rfl
          go_wp2_with (with_reducible refine hold_store (ty := 32) ?_)
          unfold Hold
          with_reducible refine wpList_store_st (ty := 32) (H.r3) (callC x.1 p.1 q.1 t.1 true a.1 m.1 u.1 g.1 A n d (s.extract i s.size)) ?_ ?_ ?_ ?_ ?_ ?_ ?_
          rfl
          rfl
          rfl
          rfl
          kernel_rfl
          rfl
          intro w8 H8
          clear p0 p1 p2 p3 p4 p5 p6 p7 p8 p9 p10
          go_wp2_with (fail)
          refine bodyPost_ret (results_cell_tmp2 rfl _ _ b2 32 (callC x.1 p.1 q.1 t.1 true a.1 m.1 u.1 g.1 A n d (s.extract i s.size)) (0, 0) _ rfl H8.block Try.underlying32 rfl (by kernel_rfl)) rfl ?_
          have hfl : fillC x.1 k.2 = .inr (⟨x.1, p.1, q.1, t.1, true, a.1, m.1, u.1, g.1, (nats r5 n).1, ⟨#[]⟩⟩, z.2) := by
            unfold fillC
            dsimp only
            rw [← Ev.out, if_neg HV.out, ← Ep.out, ← Eq.out, ← Et.out, if_neg HT.out, ← Ef.out, ← Eb.out, if_neg HB.out, if_neg (Int.not_lt.2 HF.out), HK.out]
            dsimp only
            rw [← Ey.out, ← Ez.out, if_neg (by rintro (h | h | h | h); exact h HH1.out; exact h HH2.out; exact h HH3.out; exact h HH4.out)]
            rw [decide_eq_true HK0.out]
          have hfin : s.size - z.2.s.size = i := by have := HZN.out; omega
          rw [HG.out, hfl]
          dsimp only
          rw [hfin]
          refine ⟨A, d, ?_, ?_⟩
          · dsimp only [Cal.cells]
            first | rfl | (rw [nats_len]; done) | (rw [nats_len]; rfl)
          · dsimp only
            first | exact H8.tail.tail.tail | (rw [nats_len]; exact H8.tail.tail.tail)
end Go.Proofs.Ytkpcnklhboemcaa

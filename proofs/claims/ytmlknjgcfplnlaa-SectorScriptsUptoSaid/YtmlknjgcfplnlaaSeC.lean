/- Layer 4: the rest of what a disk does. -/
import Derived.Test.YtmlknjgcfplnlaaSeB
import Derived.OwnWalk
namespace Go.Proofs.Ytmlknjgcfplnlaa
open Go.RowKit

theorem repeatL_zero (c : Nat) : Lib.repeatL [0] c = zeros c := by
  induction c with
  | zero => rfl
  | succ c ih => simp [Lib.repeatL, zeros, List.replicate_succ] at ih ⊢; first | exact ih | simp [ih]
set_option maxHeartbeats 1000000 in
theorem read_ok (b : Nat) (d : DS) (n : Int) (N : Nat) (ok : d.ok N) {w0 w : World} {F : List Assn} (H : St w0 w (Dsk b d :: F)) :
    Calls Try.prog 13 #[.pointer (some ⟨b, 0, none⟩), .int .i64 n] w fun r w' => r = .returned (.tuple #[.string (d.read n).1, .int .i64 (d.read n).2]) ∧ St w0 w' (Dsk b d :: F) := by
  obtain ⟨A1, A2, A3, c1, c2, c3, H1⟩ := H.openD
  have d1 := H1.cell 1 rfl
  have d5 := H1.cell 5 rfl
  by_cases hbad : n < 0 ∨ (d.las.length : Int) ≤ n
  · have e : d.read n = (ByteArray.empty, 1) := if_pos hbad
    rw [e]; clear e
    by_cases h0 : n < 0
    · clear hbad
      go_enter Try.func13, Try.ntmps13
      go_wp2_with (fail)
      go_ret2
      exact ⟨rfl, H⟩
    · have h0' : decide (n < 0) = false := decide_eq_false h0
      have h2 : (d.las.length : Int) ≤ n := by omega
      clear hbad
      go_enter Try.func13, Try.ntmps13
      go_wp2_with (fail)
      refine (size_ok b d H).mono ?_
      rintro e w1 ⟨rfl, rfl⟩
      go_wp2_with (fail)
      go_ret2
      exact ⟨rfl, H⟩
  · have h0' : decide (n < 0) = false := decide_eq_false (by omega)
    have h2' : decide ((d.las.length : Int) ≤ n) = false := decide_eq_false (by omega)
    obtain ⟨k, rfl⟩ : ∃ k : Nat, n = k := ⟨n.toNat, by omega⟩
    have hk : k < d.las.length := by omega
    have hkn : decide (d.las.length ≤ k) = false := decide_eq_false (by omega)
    cases hoff : d.off
    · have e : d.read k = (full (d.now.getD k ByteArray.empty), 0) := by
        unfold DS.read
        rw [if_neg hbad, if_neg (by rw [hoff]; decide)]; rfl
      rw [e]
      rw [hoff] at d5
      have hnl : d.now.length = d.las.length := d.now_length
      obtain ⟨y, hy⟩ : ∃ y, d.now[k]? = some y := ⟨_, List.getElem?_eq_getElem (by rw [hnl]; exact hk)⟩
      have hgd : d.now.getD k ByteArray.empty = y := by rw [List.getD_eq_getElem?_getD, hy]; rfl
      rw [hgd]
      have hys : y.size ≤ 256 := lz_mem (fun _ => true) d.q d.las (fun s => s.size ≤ 256) ok.las (fun p hp => (ok.q p hp).2) d.q.length y (List.mem_of_getElem? hy)
      have hkI : (k : Int) < d.las.length := by omega
      obtain ⟨g2, o2, hA⟩ := (H1.r3).row_form (by omega)
      subst hA
      have a3 := H1.r3.row_cell k (strs_get hy)
      have hrep := Try.strings_Repeat ⟨#[0]⟩ (256 - y.size) w (by omega) (by show 1 * _ ≤ _; omega)
      have hfull : full y = y ++ ⟨(Lib.repeatL [0] (256 - y.size)).toArray⟩ := by
        rw [repeatL_zero]; apply bl_inj; rw [full, bl_mkb, bl_append]; rfl
      have hsub : ((256 : Int) - y.size) = ((256 - y.size : Nat) : Int) := by omega
      have hrl : (Lib.repeatL [0] (256 - y.size)).length ≤ 256 := by rw [repeatL_zero]; simp [zeros]
      have hrz : (⟨(Lib.repeatL [0] (256 - y.size)).toArray⟩ : ByteArray).size ≤ 256 := by show (Lib.repeatL [0] (256 - y.size)).toArray.size ≤ 256; simpa using hrl
      rw [← hsub] at hrep
      have HO := Lib.hid hoff; have HB := Lib.hid hbad; have HE := Lib.hid e; have HR := Lib.hid hrep; have HF := Lib.hid hfull; have HSB := Lib.hid hsub; have HNL := Lib.hid hnl
      clear hoff hbad e hgd hrep hfull hy hsub hrl hnl
      go_enter Try.func13, Try.ntmps13
      go_wp2_with (fail)
      refine (size_ok b d H).mono ?_
      rintro e w1 ⟨rfl, rfl⟩
      go_wp2_with (fail)
      refine HR.out.mono ?_
      rintro e w2 ⟨rfl, hb⟩
      change Below _ _ _ at hb
      have H2 := H.keep hb
      have hrz' := hrz
      generalize (⟨(Lib.repeatL [0] (256 - y.size)).toArray⟩ : ByteArray) = z at *
      go_wp2_with (fail)
      go_ret2
      rw [HF.out]
      exact ⟨rfl, H2⟩
    · have e : d.read k = (ByteArray.empty, 20) := by
        unfold DS.read
        rw [if_neg hbad, if_pos hoff]
      rw [e]
      rw [hoff] at d5
      have HO := Lib.hid hoff; clear hoff e hbad
      go_enter Try.func13, Try.ntmps13
      go_wp2_with (fail)
      refine (size_ok b d H).mono ?_
      rintro e w1 ⟨rfl, rfl⟩
      go_wp2_with (fail)
      go_ret2
      exact ⟨rfl, H⟩
set_option maxHeartbeats 1000000 in
theorem flush_ok (b : Nat) (d : DS) (N : Nat) (ok : d.ok N) (hN : N ≤ 549755813888) {w0 w : World} {F : List Assn} (H : St w0 w (Dsk b d :: F)) :
    Calls Try.prog 11 #[.pointer (some ⟨b, 0, none⟩)] w fun r w' => r = .returned (.int .i64 d.flush.1) ∧ St w0 w' (Dsk b d.flush.2 :: F) := by
  obtain ⟨A1, A2, A3, c1, c2, c3, H1⟩ := H.openD
  have d5 := H1.cell 5 rfl
  cases hoff : d.off
  · have e : d.flush = if d.torn.1 = true then (20, d.torn.2.dark) else (0, d.torn.2.flushed) := by
      unfold DS.flush
      rw [if_neg (by rw [hoff]; decide)]
    rw [hoff] at d5
    have htk := torn_ok b d N ok H
    have okt := ok.ok_torn
    have HE := Lib.hid e; have HO := Lib.hid hoff; clear e hoff
    generalize d.torn = t at *
    obtain ⟨tb, d7⟩ := t
    dsimp only at *
    have HT := Lib.hid htk; clear htk
    go_enter Try.func11, Try.ntmps11
    go_wp2_with (fail)
    refine HT.out.mono ?_
    rintro e w7 ⟨rfl, H8⟩
    clear d5 H1
    cases tb
    · have hw : d.flush = (0, d7.flushed) := HE.out.trans (if_neg (by decide))
      have HW := Lib.hid hw; clear hw
      have hfl := okt.fl
      go_wp2_with (fail)
      obtain ⟨A1, A2, A3, c1, c2, c3, H9⟩ := H8.openD
      refine wp_region_held_drew (S := fun w' => w'.cell? ⟨b, 0, none⟩ = some (.slice A1 d7.las.length c1) ∧ w'.cell? ⟨b, 1, none⟩ = some (.slice A2 d7.las.length c2)) (by kernel_rfl) ⟨H9.drew.cell 0 rfl, H9.drew.cell 1 rfl⟩ (fun hHeld => ?_)
      have H10 := H9.drew
      generalize w7.drew = w8 at *
      refine rg_take (i := 0) (v := ?_) rfl (by kernel_rfl) (by kernel_rfl) (by kernel_rfl) (fun _ _ _ h => h) (Or.inl ⟨by kernel_rfl, ?_⟩) (by assumption) ?_
      rotate_left 1
      · intro w' hSw
        try dsimp only at hSw
        go_simp
        first | done | with_reducible rfl
      try simp only [Act.put, List.setIfInBounds_toArray, List.set_cons_zero, List.set_cons_succ]
      refine rg_take (i := 1) (v := ?_) rfl (by kernel_rfl) (by kernel_rfl) (by kernel_rfl) (fun _ _ _ h => h) (Or.inl ⟨by kernel_rfl, ?_⟩) (by assumption) ?_
      rotate_left 1
      · intro w' hSw
        try dsimp only at hSw
        go_simp
        first | done | with_reducible rfl
      try simp only [Act.put, List.setIfInBounds_toArray, List.set_cons_zero, List.set_cons_succ]
      refine rg_take (i := 2) (v := ?_) rfl (by kernel_rfl) (by kernel_rfl) (by kernel_rfl) (fun _ _ _ h => h) (Or.inl ⟨by kernel_rfl, ?_⟩) (by assumption) ?_
      rotate_left 1
      · intro w' hSw
        try dsimp only at hSw
        go_simp
        first | done | with_reducible rfl
      try simp only [Act.put, List.setIfInBounds_toArray, List.set_cons_zero, List.set_cons_succ]
      refine rg_take (i := 3) (v := ?_) rfl (by kernel_rfl) (by kernel_rfl) (by kernel_rfl) (fun _ _ _ h => h) (Or.inl ⟨by kernel_rfl, ?_⟩) (by assumption) ?_
      rotate_left 1
      · intro w' hSw
        try dsimp only at hSw
        go_simp
        first | done | with_reducible rfl
      try simp only [Act.put, List.setIfInBounds_toArray, List.set_cons_zero, List.set_cons_succ]
      refine rg_take (i := 4) (v := ?_) rfl (by kernel_rfl) (by kernel_rfl) (by kernel_rfl) (fun _ _ _ h => h) (Or.inl ⟨by kernel_rfl, ?_⟩) (by assumption) ?_
      rotate_left 1
      · intro w' hSw
        try dsimp only at hSw
        go_simp
        first | done | with_reducible rfl
      try simp only [Act.put, List.setIfInBounds_toArray, List.set_cons_zero, List.set_cons_succ]
      refine rg_take (i := 5) (v := ?_) rfl (by kernel_rfl) (by kernel_rfl) (by kernel_rfl) (fun _ _ _ h => h) (Or.inl ⟨by kernel_rfl, ?_⟩) (by assumption) ?_
      rotate_left 1
      · intro w' hSw
        try dsimp only at hSw
        go_simp
        first | done | with_reducible rfl
      try simp only [Act.put, List.setIfInBounds_toArray, List.set_cons_zero, List.set_cons_succ]
      refine rg_take (i := 6) (v := ?_) rfl (by kernel_rfl) (by kernel_rfl) (by kernel_rfl) (fun _ _ _ h => h) (Or.inl ⟨by kernel_rfl, ?_⟩) (by assumption) ?_
      rotate_left 1
      · intro w' hSw
        try dsimp only at hSw
        go_simp
        first | done | with_reducible rfl
      try simp only [Act.put, List.setIfInBounds_toArray, List.set_cons_zero, List.set_cons_succ]
      refine rg_take (i := 7) (v := ?_) rfl (by kernel_rfl) (by kernel_rfl) (by kernel_rfl) (fun _ _ _ h => h) (Or.inl ⟨by kernel_rfl, ?_⟩) (by assumption) ?_
      rotate_left 1
      · intro w' hSw
        try dsimp only at hSw
        go_simp
        first | done | with_reducible rfl
      try simp only [Act.put, List.setIfInBounds_toArray, List.set_cons_zero, List.set_cons_succ]
      refine wpAnyH_ready (rs := [8]) (by kernel_rfl) (by simp) ?_
      refine rg_cons rfl (fun K hK => ?_) AllReadyH.nil
      refine step_copy_rows rfl _ _ 22 rfl 9 Try.underlying22 (by kernel_rfl) A1 A2 d7.las.length c1 c2 _ _ (H10.ord 3 [1, 2, 0]) (strs_one _) rfl rfl ?_
      intro w9 H11
      have H12 := H11.r3
      refine hK.out _ _ ⟨H12.cell 0 rfl, H12.cell 1 rfl⟩ (fun hHeld => ?_)
      clear hK
      try simp only [Act.put, List.setIfInBounds_toArray, List.set_cons_zero, List.set_cons_succ]
      refine wpAnyH_done (by kernel_rfl) ?_ _
      have e2 := H12.cell 2 rfl
      have f2 := H12.frozen 2
      have e7 := H12.cell 7 rfl
      have f7 := H12.frozen 7
      have H13 := (H12.set 2 (.slice none 0 0)).set 7 (.int .i64 (d7.fl + 1))
      clear hHeld
      go_wp2_with (fail)
      go_ret
      rw [HW.out]
      exact ⟨rfl, St.shutD (A3 := none) (c3 := 0) (n3 := 0) (x3 := []) (by rw [show d7.flushed.las.length = d7.las.length from d7.now_length]; rfl) (d7.now_length).symm (d7.now_length).symm rfl rfl rfl rfl (((H13.ord 4 [3, 0, 1, 2]).tail.nilRow 65 2).ord 4 [1, 2, 3, 0])⟩
    · have hw : d.flush = (20, d7.dark) := HE.out.trans (if_pos rfl)
      have HW := Lib.hid hw; clear hw
      have q0 := keep_cell b d7 H8
      go_wp2_with (fail)
      refine (lose_ok b d7 d7.keep N okt (by omega) H8).mono ?_
      rintro e w8 ⟨rfl, H9⟩
      obtain ⟨q1, q2, H10⟩ := dark_ok b d7 H9
      go_wp2_with (fail)
      go_ret
      rw [HW.out]
      exact ⟨rfl, H10⟩
  · have e : d.flush = (20, d) := if_pos hoff
    rw [e]
    rw [hoff] at d5
    have HO := Lib.hid hoff; clear hoff e
    go_enter Try.func11, Try.ntmps11
    go_wp2_with (fail)
    go_ret
    exact ⟨rfl, H⟩
theorem on_ok (b : Nat) (d : DS) {w0 w : World} {F : List Assn} (H : St w0 w (Dsk b d :: F)) :
    Calls Try.prog 21 #[.pointer (some ⟨b, 0, none⟩)] w fun r w' => r = .returned (.tuple #[]) ∧ St w0 w' (Dsk b d.on :: F) := by
  obtain ⟨A1, A2, A3, c1, c2, c3, H1⟩ := H.openD
  have d5 := H1.cell 5 rfl
  have f5 := H1.frozen 5
  have d3 := H1.cell 3 rfl
  have f3 := H1.frozen 3
  have H2 := (H1.set 5 (.bool false)).set 3 (.int .i64 0)
  go_enter Try.func21, Try.ntmps21
  go_wp2_with (fail)
  go_end0
  exact ⟨rfl, St.shutD (d := d.on) rfl rfl rfl rfl rfl rfl rfl H2⟩
theorem on_nil (w : World) : Calls Try.prog 21 #[.pointer none] w fun r w' => r = .returned (.tuple #[]) ∧ w = w' := by
  go_enter Try.func21, Try.ntmps21
  go_wp2_with (fail)
  go_end0
  exact ⟨rfl, rfl⟩
theorem off_ok (b : Nat) (d : DS) {w0 w : World} {F : List Assn} (H : St w0 w (Dsk b d :: F)) :
    Calls Try.prog 23 #[.pointer (some ⟨b, 0, none⟩)] w fun r w' => r = .returned (.bool d.off) ∧ w = w' := by
  obtain ⟨A1, A2, A3, c1, c2, c3, H1⟩ := H.openD
  have d5 := H1.cell 5 rfl
  go_enter Try.func23, Try.ntmps23
  go_wp2_with (fail)
  go_ret
  exact ⟨rfl, rfl⟩
theorem off_nil (w : World) : Calls Try.prog 23 #[.pointer none] w fun r w' => r = .returned (.bool false) ∧ w = w' := by
  go_enter Try.func23, Try.ntmps23
  go_wp2_with (fail)
  go_ret
  exact ⟨rfl, rfl⟩
theorem counts_ok (b : Nat) (d : DS) {w0 w : World} {F : List Assn} (H : St w0 w (Dsk b d :: F)) :
    Calls Try.prog 22 #[.pointer (some ⟨b, 0, none⟩)] w fun r w' => r = .returned (.tuple #[.int .i64 d.wr, .int .i64 d.fl]) ∧ St w0 w' (Dsk b d :: F) := by
  obtain ⟨A1, A2, A3, c1, c2, c3, H1⟩ := H.openD
  have d6 := H1.cell 6 rfl
  have d7 := H1.cell 7 rfl
  go_enter Try.func22, Try.ntmps22
  go_wp2_with (fail)
  go_quiet (fail)
  go_wp2_with (fail)
  go_ret2
  exact ⟨rfl, H.drewN _⟩
theorem counts_nil (w : World) : Calls Try.prog 22 #[.pointer none] w fun r w' => r = .returned (.tuple #[.int .i64 0, .int .i64 0]) ∧ w = w' := by
  go_enter Try.func22, Try.ntmps22
  go_wp2_with (fail)
  go_ret2
  exact ⟨rfl, rfl⟩
theorem cut_ok (b : Nat) (d : DS) (n k : Int) {w0 w : World} {F : List Assn} (H : St w0 w (Dsk b d :: F)) :
    Calls Try.prog 19 #[.pointer (some ⟨b, 0, none⟩), .int .i64 n, .int .i64 k] w fun r w' => r = .returned (.tuple #[]) ∧ St w0 w' (Dsk b (d.cut n k) :: F) := by
  obtain ⟨A1, A2, A3, c1, c2, c3, H1⟩ := H.openD
  have d3 := H1.cell 3 rfl
  have f3 := H1.frozen 3
  have d4 := H1.cell 4 rfl
  have f4 := H1.frozen 4
  have H2 := (H1.set 3 (.int .i64 (max n 1))).set 4 (.int .i64 k)
  go_enter Try.func19, Try.ntmps19
  go_wp2_with (fail)
  go_end0
  exact ⟨rfl, St.shutD (d := d.cut n k) rfl rfl rfl rfl rfl rfl rfl H2⟩
theorem cut_nil (n k : Int) (w : World) : Calls Try.prog 19 #[.pointer none, .int .i64 n, .int .i64 k] w fun r w' => r = .returned (.tuple #[]) ∧ w = w' := by
  go_enter Try.func19, Try.ntmps19
  go_wp2_with (fail)
  go_end0
  exact ⟨rfl, rfl⟩
theorem crash_ok (b : Nat) (d : DS) (k : Int) (N : Nat) (ok : d.ok N) (hN : N ≤ 549755813888) {w0 w : World} {F : List Assn} (H : St w0 w (Dsk b d :: F)) :
    Calls Try.prog 12 #[.pointer (some ⟨b, 0, none⟩), .int .i64 k] w fun r w' => r = .returned (.tuple #[]) ∧ St w0 w' (Dsk b (d.crash k) :: F) := by
  go_enter Try.func12, Try.ntmps12
  go_wp2_with (fail)
  refine (lose_ok b d k N ok (by omega) H).mono ?_
  rintro e w1 ⟨rfl, H1⟩
  go_wp2_with (fail)
  refine (on_ok b (d.lose k) H1).mono ?_
  rintro e w2 ⟨rfl, H2⟩
  go_wp2_with (fail)
  go_end0
  exact ⟨rfl, H2⟩
theorem crash_nil (k : Int) (w : World) : Calls Try.prog 12 #[.pointer none, .int .i64 k] w fun r w' => r = .returned (.tuple #[]) ∧ w = w' := by
  go_enter Try.func12, Try.ntmps12
  go_wp2_with (fail)
  go_end0
  exact ⟨rfl, rfl⟩
theorem flush_nil (w : World) : Calls Try.prog 11 #[.pointer none] w fun r w' => r = .returned (.int .i64 1) ∧ w = w' := by
  go_enter Try.func11, Try.ntmps11
  go_wp2_with (fail)
  go_ret
  exact ⟨rfl, rfl⟩
theorem write_nil (n : Int) (s : ByteArray) (hs : s.size ≤ 1099511627776) (w : World) : Calls Try.prog 10 #[.pointer none, .int .i64 n, .string s] w fun r w' => r = .returned (.int .i64 1) ∧ w = w' := by
  by_cases h0 : n < 0
  · go_enter Try.func10, Try.ntmps10
    go_wp2_with (fail)
    go_ret
    exact ⟨rfl, rfl⟩
  · have h0' : decide (n < 0) = false := decide_eq_false h0
    have h0'' : 0 ≤ n := by omega
    go_enter Try.func10, Try.ntmps10
    go_wp2_with (fail)
    refine (size_nil _).mono ?_
    rintro e w1 ⟨rfl, rfl⟩
    go_wp2_with (fail)
    go_ret
    exact ⟨rfl, rfl⟩
theorem read_nil (n : Int) (w : World) : Calls Try.prog 13 #[.pointer none, .int .i64 n] w fun r w' => r = .returned (.tuple #[.string ByteArray.empty, .int .i64 1]) ∧ w = w' := by
  by_cases h0 : n < 0
  · go_enter Try.func13, Try.ntmps13
    go_wp2_with (fail)
    go_ret2
    exact ⟨rfl, rfl⟩
  · have h0' : decide (n < 0) = false := decide_eq_false h0
    have h0'' : 0 ≤ n := by omega
    go_enter Try.func13, Try.ntmps13
    go_wp2_with (fail)
    refine (size_nil _).mono ?_
    rintro e w1 ⟨rfl, rfl⟩
    go_wp2_with (fail)
    go_ret2
    exact ⟨rfl, rfl⟩
end Go.Proofs.Ytmlknjgcfplnlaa

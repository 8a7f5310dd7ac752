/- SectorScripts: a disk through every script answers as the document's, and all sectors behind it are the same: scripts of bulk at most 1048576. -/
import Derived.Test.YtmlknjgcfplnlaaSeS
import Derived.Test.YtmlknjgcfplnlaaLift
namespace Go.Proofs.Ytmlknjgcfplnlaa.SectorScripts
open Go.RowKit Go.ChangeShapes Go.WideShapes Go.ChangeAt Go.Proofs.Ytmlknjgcfplnlaa
open Go.ChangeMaps (open_string shut_string)

structure Act where
  what : Int
  a : Int
  b : Int
  dat : ByteArray
def Act.cells (x : Act) : List Value := [.int .i64 x.what, .int .i64 x.a, .int .i64 x.b, .string x.dat]
def Act.ok (x : Act) : Prop := (-9223372036854775808 ≤ x.what ∧ x.what ≤ 9223372036854775807) ∧ (-9223372036854775808 ≤ x.a ∧ x.a ≤ 9223372036854775807) ∧ (-9223372036854775808 ≤ x.b ∧ x.b ≤ 9223372036854775807)
def Act.kinds : List SK := [.int .i64, .int .i64, .int .i64, .str]
theorem Act.of_row : ∀ row : List Value, RowS Act.kinds row → ∃ x : Act, row = x.cells ∧ x.ok := by
  intro row h
  have hl := RowS_length h
  match row, hl, h with
  | [v0, v1, v2, v3], _, h =>
    obtain ⟨⟨x0, rfl, h0⟩, ⟨x1, rfl, h1⟩, ⟨x2, rfl, h2⟩, ⟨x3, rfl, _⟩, _⟩ := h
    exact ⟨⟨x0, x1, x2, x3⟩, rfl, ⟨wf_i64 h0, wf_i64 h1, wf_i64 h2⟩⟩

theorem dat_le {l : List Act} {x : Act} (hx : x ∈ l) (h : sumW (l.map Act.cells) ≤ 1048576) : x.dat.size ≤ 1048576 := by
  have h1 : wts x.cells ≤ sumW (l.map Act.cells) := sumW_mem (List.mem_map.2 ⟨x, hx, rfl⟩)
  simp only [Act.cells, wts, wt] at h1
  omega
theorem mod_eq (m x : Int) (hm : 0 < m) (hm2 : m ≤ 1000) : (wrap64 (x.tmod m + m)).tmod m = x % m := by
  have h1 := Int.lt_tmod_of_pos x hm
  have h2 := Int.tmod_lt_of_pos x hm
  have hw : wrap64 (x.tmod m + m) = x.tmod m + m := by unfold wrap64; omega
  rw [hw, Int.tmod_eq_emod_of_nonneg (a := x.tmod m + m) (by omega), Int.add_emod_right]
  rcases Int.le_total 0 x with h0 | h0
  · rw [Int.tmod_eq_emod_of_nonneg h0, Int.emod_emod]
  · have := Int.tmod_eq_emod_of_nonneg (a := -x) (b := m) (by omega)
    rw [Int.neg_tmod] at this
    have e : x.tmod m = -((-x) % m) := by omega
    rw [e]
    have := Int.emod_add_mul_ediv (-x) m
    rw [show -((-x) % m) = x + m * ((-x) / m) by omega, Int.add_mul_emod_self_left]
theorem quiet_here {P : Program} {f : FuncId} {args : Array Value} {w : World} {n : Nat} {v : Value}
    (h : Calls P f args (w.drewN n) fun e w' => e = .returned v ∧ w.drewN n = w') : Calls P f args (w.drewN n) fun e w' => e = .returned v ∧ ∃ m, w' = w.drewN m :=
  h.mono fun _ _ ⟨he, hw⟩ => ⟨he, n, hw.symm⟩
theorem rleft_ok (b : Nat) (d : DS) (n : Int) {w0 w : World} {F : List Assn} (H : St w0 w (Rdk b d :: F)) : w.cell? ⟨b, 3, none⟩ = some (.int .i64 d.left) ∧ w.frozen? ⟨b, 3, none⟩ = false ∧ St w0 (w.setCell ⟨b, 3, none⟩ (.int .i64 n)) (Rdk b { d with left := n } :: F) := by
  obtain ⟨A1, A2, A3, c1, c2, c3, H1⟩ := H.openR
  exact ⟨H1.cell 3 rfl, H1.frozen 3, St.shutR (d := { d with left := n }) rfl rfl rfl rfl rfl rfl rfl (H1.set 3 (.int .i64 n))⟩
theorem rkeepset_ok (b : Nat) (d : DS) (n : Int) {w0 w : World} {F : List Assn} (H : St w0 w (Rdk b d :: F)) : w.cell? ⟨b, 4, none⟩ = some (.int .i64 d.keep) ∧ w.frozen? ⟨b, 4, none⟩ = false ∧ St w0 (w.setCell ⟨b, 4, none⟩ (.int .i64 n)) (Rdk b { d with keep := n } :: F) := by
  obtain ⟨A1, A2, A3, c1, c2, c3, H1⟩ := H.openR
  exact ⟨H1.cell 4 rfl, H1.frozen 4, St.shutR (d := { d with keep := n }) rfl rfl rfl rfl rfl rfl rfl (H1.set 4 (.int .i64 n))⟩
/-- the document's flags turned -/
theorem ron_ok (b : Nat) (d : DS) {w0 w : World} {F : List Assn} (H : St w0 w (Rdk b d :: F)) : w.cell? ⟨b, 5, none⟩ = some (.bool d.off) ∧ w.frozen? ⟨b, 5, none⟩ = false ∧ w.cell? ⟨b, 3, none⟩ = some (.int .i64 d.left) ∧ w.frozen? ⟨b, 3, none⟩ = false ∧ St w0 ((w.setCell ⟨b, 5, none⟩ (.bool false)).setCell ⟨b, 3, none⟩ (.int .i64 0)) (Rdk b d.on :: F) := by
  obtain ⟨A1, A2, A3, c1, c2, c3, H1⟩ := H.openR
  exact ⟨H1.cell 5 rfl, H1.frozen 5, H1.cell 3 rfl, H1.frozen 3, St.shutR (d := d.on) rfl rfl rfl rfl rfl rfl rfl ((H1.set 5 (.bool false)).set 3 (.int .i64 0))⟩
theorem roff_ok (b : Nat) (d : DS) {w0 w : World} {F : List Assn} (H : St w0 w (Rdk b d :: F)) : w.cell? ⟨b, 5, none⟩ = some (.bool d.off) ∧ w.frozen? ⟨b, 5, none⟩ = false ∧ St w0 (w.setCell ⟨b, 5, none⟩ (.bool false)) (Rdk b { d with off := false } :: F) := by
  obtain ⟨A1, A2, A3, c1, c2, c3, H1⟩ := H.openR
  exact ⟨H1.cell 5 rfl, H1.frozen 5, St.shutR (d := { d with off := false }) rfl rfl rfl rfl rfl rfl rfl (H1.set 5 (.bool false))⟩
theorem rcut_ok (b : Nat) (d : DS) (n k : Int) {w0 w : World} {F : List Assn} (H : St w0 w (Rdk b d :: F)) : w.cell? ⟨b, 3, none⟩ = some (.int .i64 d.left) ∧ w.frozen? ⟨b, 3, none⟩ = false ∧ w.cell? ⟨b, 4, none⟩ = some (.int .i64 d.keep) ∧ w.frozen? ⟨b, 4, none⟩ = false ∧ St w0 ((w.setCell ⟨b, 3, none⟩ (.int .i64 (max n 1))).setCell ⟨b, 4, none⟩ (.int .i64 k)) (Rdk b (d.cut n k) :: F) := by
  obtain ⟨A1, A2, A3, c1, c2, c3, H1⟩ := H.openR
  exact ⟨H1.cell 3 rfl, H1.frozen 3, H1.cell 4 rfl, H1.frozen 4, St.shutR (d := d.cut n k) rfl rfl rfl rfl rfl rfl rfl ((H1.set 3 (.int .i64 (max n 1))).set 4 (.int .i64 k))⟩
theorem rflags (b : Nat) (d : DS) {w0 w : World} {F : List Assn} (H : St w0 w (Rdk b d :: F)) : w.cell? ⟨b, 5, none⟩ = some (.bool d.off) ∧ w.cell? ⟨b, 6, none⟩ = some (.int .i64 d.wr) ∧ w.cell? ⟨b, 7, none⟩ = some (.int .i64 d.fl) ∧ ∃ A c, w.cell? ⟨b, 0, none⟩ = some (.slice A d.las.length c) := by
  obtain ⟨A1, A2, A3, c1, c2, c3, H1⟩ := H.openR
  exact ⟨H1.cell 5 rfl, H1.cell 6 rfl, H1.cell 7 rfl, A1, c1, H1.cell 0 rfl⟩
theorem write_las (d : DS) (n : Int) (s : ByteArray) : (d.write n s).2.las.length = d.las.length := by
  unfold DS.write
  split
  · rfl
  · split
    · rfl
    · have e := ((d.push n.toNat s).torn_las).1
      split
      · show (lz _ _ _ _).length = _
        rw [lz_length, e]; rfl
      · show ((d.push n.toNat s).torn.2.las).length = _
        rw [e]; rfl
theorem flush_las (d : DS) : d.flush.2.las.length = d.las.length := by
  unfold DS.flush
  split
  · rfl
  · have e := d.torn_las.1
    split
    · show (lz _ _ _ _).length = _
      rw [lz_length, e]
    · show (lz _ _ _ _).length = _
      rw [lz_length, e]
theorem crash_las (d : DS) (k : Int) : (d.crash k).las.length = d.las.length := lz_length ..
set_option maxRecDepth 100000 in
set_option maxHeartbeats 40000000 in
theorem walk (w : World) (size : Int) (hsz : -9223372036854775808 ≤ size ∧ size ≤ 9223372036854775807) (B : Option Addr) (m d0 : Nat) (q : List Act) (hrd2 : SlRd w B m 4 (q.map Act.cells)) (hm : m ≤ 1048576) (hsum2 : sumW (q.map Act.cells) ≤ 1048576) (_hok2 : ∀ x ∈ q, x.ok) :
    Calls Try.prog 5 #[.int .i64 size, .slice B m d0] w fun r w' => r = .returned (.bool true) ∧ Below w.heap.size w w' := by
  have H0 := St.init w
  have hlm : q.length = m := by have := hrd2.1; simpa using this
  have HLM := Lib.hid hlm; have HRD2 := Lib.hid hrd2; have HSM := Lib.hid hsum2; have HOK := Lib.hid _hok2
  clear hlm hrd2 hsum2 _hok2
  by_cases hbad : size < 1 ∨ 1026 < size
  · go_enter Try.func5, Try.ntmps5
    go_wp2_with (fail)
    refine (speaks_ok H0).mono ?_
    rintro e w1 ⟨rfl, H1⟩
    go_wp2_with (fail)
    refine (new_bad size hbad H1).mono ?_
    rintro e w2 ⟨rfl, H2⟩
    go_wp2_with (fail)
    refine (rnew_bad size hbad H2).mono ?_
    rintro e w3 ⟨rfl, H3⟩
    go_wp2_with (fail)
    go_ret
    exact ⟨rfl, H3.below⟩
  · obtain ⟨n, rfl⟩ : ∃ n : Nat, size = n := ⟨size.toNat, by omega⟩
    have hn1 : 1 ≤ n := by omega
    have hn2 : n ≤ 1026 := by omega
    clear hbad hsz
    go_enter Try.func5, Try.ntmps5
    go_wp2_with (fail)
    refine (speaks_ok H0).mono ?_
    rintro e w1 ⟨rfl, H1⟩
    go_wp2_with (fail)
    refine (new_ok n hn1 hn2 H1).mono ?_
    rintro e w2 ⟨b, rfl, H2⟩
    go_wp2_with (fail)
    refine (rnew_ok n hn1 hn2 H2).mono ?_
    rintro e w3 ⟨bw, rfl, H3⟩
    go_wp2_with (fail)
    go_loopw [8] (fun i wr => ∃ (k : Nat) (d : DS), k ≤ m ∧ i = .int .i64 k ∧ d.ok k ∧ d.las.length = n ∧ St w wr [Dsk b d, Rdk bw d]) (fun i _ => m - (intOf i).toNat)
    case atStart => exact ⟨0, DS.new n, Nat.zero_le _, rfl, DS.ok_new n, by simp [DS.new], H3.r2⟩
    case round =>
      obtain ⟨k, d, hk, rfl, ok, hln, H5⟩ := hrel
      have HLN := Lib.hid hln; clear hln
      by_cases hlt : k < m
      · obtain ⟨x, hx⟩ : ∃ x, q[k]? = some x := ⟨_, List.getElem?_eq_getElem (by rw [HLM.out]; exact hlt)⟩
        obtain ⟨bq, o, hA, hb, hd0, hcell⟩ := SlRd.at HRD2.out H5.below (i := k) (row := x.cells) (by rw [List.getElem?_map, hx]; rfl)
        have hxt := dat_le (List.mem_of_getElem? hx) HSM.out
        have hxo := HOK.out x (List.mem_of_getElem? hx)
        have hc0 := hd0 _ rfl
        have hc1 := hcell 1 _ rfl
        have hc2 := hcell 2 _ rfl
        have hc3 := hcell 3 _ rfl
        subst hA
        clear hcell hd0 hx
        obtain ⟨xk, xa, xb, xt⟩ := x
        have hxa : xa ≤ 9223372036854775807 := hxo.2.1.2
        clear hxo
        dsimp only at *
        have H6 := H5.alloc #[.int .i64 xk, .int .i64 xa, .int .i64 xb, .string xt] 43
        have hbn : bq ≠ wr.heap.size := by have := H5.size; omega
        obtain ⟨r, hr⟩ : ∃ r, r = xk % 8 := ⟨_, rfl⟩
        have he := mod_eq 8 xk (by decide) (by decide)
        rw [← hr] at he
        have hr8 : r = 0 ∨ r = 1 ∨ r = 2 ∨ r = 3 ∨ r = 4 ∨ r = 5 ∨ r = 6 ∨ r = 7 := by omega
        clear hr
        obtain ⟨bx, hbx⟩ : ∃ bx, bx = wr.heap.size := ⟨_, rfl⟩
        go_upto_region 12 with (fail)
        rw [← hbx] at H6 ⊢
        clear hc0 hc1 hc2 hc3 H5 hbn
        generalize wr.alloc (.cells #[.int .i64 xk, .int .i64 xa, .int .i64 xb, .string xt] 43) = w5 at *
        clear hbx
        have p0 := H6.cell 0 rfl
        have p1 := H6.cell 1 rfl
        have p2 := H6.cell 2 rfl
        rcases hr8 with rfl | rfl | rfl | rfl | rfl | rfl | rfl | rfl
        · as_aux_lemma =>
          go_wp2_with (fail)
          refine wp_region_held_drew (S := fun w' => w'.cell? ⟨bx, 1, none⟩ = some (.int .i64 xa) ∧ w'.cell? ⟨bx, 3, none⟩ = some (.string xt)) (by kernel_rfl) ⟨H6.drew.cell 1 rfl, H6.drew.cell 3 rfl⟩ (fun hHeld => ?_)
          have H7 := H6.drew
          generalize w5.drew = w6 at *
          refine rg_take (i := 0) (v := ?_) rfl (by kernel_rfl) (by kernel_rfl) (by kernel_rfl) (fun _ _ _ h => h) (Or.inl ⟨by kernel_rfl, ?_⟩) (by assumption) ?_
          rotate_left 1
          · intro w' hSw
            try dsimp only at hSw
            go_simp
            first | done | with_reducible rfl
          try simp only [Act.put, List.setIfInBounds_toArray, List.set_cons_zero, List.set_cons_succ]
          refine rg_take (i := 1) (v := ?_) rfl (by kernel_rfl) (by kernel_rfl) (by kernel_rfl) (fun _ _ _ h => h) (Or.inl ⟨by kernel_rfl, ?_⟩) (by assumption) ?_
          rotate_left 1
          · intro w' hSw
            try dsimp only at hSw
            go_simp
            first | done | with_reducible rfl
          try simp only [Act.put, List.setIfInBounds_toArray, List.set_cons_zero, List.set_cons_succ]
          refine rg_take (i := 2) (v := ?_) rfl (by kernel_rfl) (by kernel_rfl) (by kernel_rfl) (fun _ _ _ h => h) (Or.inl ⟨by kernel_rfl, ?_⟩) (by assumption) ?_
          rotate_left 1
          · intro w' hSw
            try dsimp only at hSw
            go_simp
            first | done | with_reducible rfl
          try simp only [Act.put, List.setIfInBounds_toArray, List.set_cons_zero, List.set_cons_succ]
          refine rg_take (i := 3) (v := ?_) rfl (by kernel_rfl) (by kernel_rfl) (by kernel_rfl) (fun _ _ _ h => h) (Or.inl ⟨by kernel_rfl, ?_⟩) (by assumption) ?_
          rotate_left 1
          · intro w' hSw
            try dsimp only at hSw
            go_simp
            first | done | with_reducible rfl
          try simp only [Act.put, List.setIfInBounds_toArray, List.set_cons_zero, List.set_cons_succ]
          refine rg_take (i := 4) (v := ?_) rfl (by kernel_rfl) (by kernel_rfl) (by kernel_rfl) (fun _ _ _ h => h) (Or.inl ⟨by kernel_rfl, ?_⟩) (by assumption) ?_
          rotate_left 1
          · intro w' hSw
            try dsimp only at hSw
            go_simp
            first | done | with_reducible rfl
          try simp only [Act.put, List.setIfInBounds_toArray, List.set_cons_zero, List.set_cons_succ]
          refine rg_take (i := 6) (v := ?_) rfl (by kernel_rfl) (by kernel_rfl) (by kernel_rfl) (fun _ _ _ h => h) (Or.inl ⟨by kernel_rfl, ?_⟩) (by assumption) ?_
          rotate_left 1
          · intro w' hSw
            try dsimp only at hSw
            go_simp
            first | done | with_reducible rfl
          try simp only [Act.put, List.setIfInBounds_toArray, List.set_cons_zero, List.set_cons_succ]
          refine rg_take (i := 7) (v := ?_) rfl (by kernel_rfl) (by kernel_rfl) (by kernel_rfl) (fun _ _ _ h => h) (Or.inl ⟨by kernel_rfl, ?_⟩) (by assumption) ?_
          rotate_left 1
          · intro w' hSw
            try dsimp only at hSw
            go_simp
            first | done | with_reducible rfl
          try simp only [Act.put, List.setIfInBounds_toArray, List.set_cons_zero, List.set_cons_succ]
          refine rg_take (i := 8) (v := ?_) rfl (by kernel_rfl) (by kernel_rfl) (by kernel_rfl) (fun _ _ _ h => h) (Or.inl ⟨by kernel_rfl, ?_⟩) (by assumption) ?_
          rotate_left 1
          · intro w' hSw
            try dsimp only at hSw
            go_simp
            first | done | with_reducible rfl
          try simp only [Act.put, List.setIfInBounds_toArray, List.set_cons_zero, List.set_cons_succ]
          refine rg_take (i := 9) (v := ?_) rfl (by kernel_rfl) (by kernel_rfl) (by kernel_rfl) (fun _ _ _ h => h) (Or.inl ⟨by kernel_rfl, ?_⟩) (by assumption) ?_
          rotate_left 1
          · intro w' hSw
            try dsimp only at hSw
            go_simp
            first | done | with_reducible rfl
          try simp only [Act.put, List.setIfInBounds_toArray, List.set_cons_zero, List.set_cons_succ]
          refine rg_take (i := 10) (v := ?_) rfl (by kernel_rfl) (by kernel_rfl) (by kernel_rfl) (fun _ _ _ h => h) (Or.inl ⟨by kernel_rfl, ?_⟩) (by assumption) ?_
          rotate_left 1
          · intro w' hSw
            try dsimp only at hSw
            go_simp
            first | done | with_reducible rfl
          try simp only [Act.put, List.setIfInBounds_toArray, List.set_cons_zero, List.set_cons_succ]
          refine wpAnyH_ready (rs := [5]) (by kernel_rfl) (by simp) ?_
          refine rg_cons rfl (fun K hK => ?_) AllReadyH.nil
          have hwc := write_ok b d xa xt k ok (by omega) (by omega) H7.r2
          go_simp
          refine hwc.mono ?_
          clear hwc
          rintro e w7 ⟨rfl, H8⟩
          refine hK.out _ _ ⟨H8.r2.cell 1 rfl, H8.r2.cell 3 rfl⟩ (fun hHeld => ?_)
          clear hK
          try simp only [Act.put, List.setIfInBounds_toArray, List.set_cons_zero, List.set_cons_succ]
          refine wpAnyH_ready (rs := [11]) (by kernel_rfl) (by simp) ?_
          refine rg_cons rfl (fun K hK => ?_) AllReadyH.nil
          have hwc := rwrite_ok bw d xa xt k ok (by omega) (by omega) H8.r3
          go_simp
          refine hwc.mono ?_
          clear hwc
          rintro e w8 ⟨rfl, H9⟩
          refine hK.out _ _ ⟨H9.r3.cell 1 rfl, H9.r3.cell 3 rfl⟩ (fun hHeld => ?_)
          clear hK
          try simp only [Act.put, List.setIfInBounds_toArray, List.set_cons_zero, List.set_cons_succ]
          refine rg_take (i := 12) (v := ?_) rfl (by kernel_rfl) (by kernel_rfl) (by kernel_rfl) (fun _ _ _ h => h) (Or.inl ⟨by kernel_rfl, ?_⟩) (by assumption) ?_
          rotate_left 1
          · intro w' hSw
            try dsimp only at hSw
            go_simp
            first | done | with_reducible rfl
          try simp only [Act.put, List.setIfInBounds_toArray, List.set_cons_zero, List.set_cons_succ]
          refine rg_take (i := 13) (v := ?_) rfl (by kernel_rfl) (by kernel_rfl) (by kernel_rfl) (fun _ _ _ h => h) (Or.inl ⟨by kernel_rfl, ?_⟩) (by assumption) ?_
          rotate_left 1
          · intro w' hSw
            try dsimp only at hSw
            go_simp
            first | done | with_reducible rfl
          try simp only [Act.put, List.setIfInBounds_toArray, List.set_cons_zero, List.set_cons_succ]
          refine wpAnyH_done (by kernel_rfl) ?_ _
          have okw := ok.ok_write xa xt
          have hlw := (write_las d xa xt).trans HLN.out
          generalize (d.write xa xt).1 = v1 at *
          generalize (d.write xa xt).2 = d1 at *
          have HLW := Lib.hid hlw; clear hlw
          go_wp2_with (fail)
          refine (counts_ok b d1 H9.r2).mono ?_
          rintro e wz ⟨rfl, HF⟩
          obtain ⟨p5, p6, p7, _⟩ := rflags bw d1 HF.r2
          go_wp2_with (fail)
          go_quiet ((go_at_call 23; exact quiet_here (off_ok b d1 (HF.drewN _))))
          go_wp2_with (fail)
          go_roundw
          case rel => exact ⟨k + 1, d1, by omega, by go_num, okw, HLW.out, ((HF.drewN _).r3).tail⟩
          case measure => simp [intOf]; omega
        · as_aux_lemma =>
          go_wp2_with (fail)
          refine wp_region_held_drew (S := fun w' => w'.cell? ⟨bx, 1, none⟩ = some (.int .i64 xa) ∧ w'.cell? ⟨bx, 3, none⟩ = some (.string xt)) (by kernel_rfl) ⟨H6.drew.cell 1 rfl, H6.drew.cell 3 rfl⟩ (fun hHeld => ?_)
          have H7 := H6.drew
          generalize w5.drew = w6 at *
          refine rg_take (i := 0) (v := ?_) rfl (by kernel_rfl) (by kernel_rfl) (by kernel_rfl) (fun _ _ _ h => h) (Or.inl ⟨by kernel_rfl, ?_⟩) (by assumption) ?_
          rotate_left 1
          · intro w' hSw
            try dsimp only at hSw
            go_simp
            first | done | with_reducible rfl
          try simp only [Act.put, List.setIfInBounds_toArray, List.set_cons_zero, List.set_cons_succ]
          refine rg_take (i := 1) (v := ?_) rfl (by kernel_rfl) (by kernel_rfl) (by kernel_rfl) (fun _ _ _ h => h) (Or.inl ⟨by kernel_rfl, ?_⟩) (by assumption) ?_
          rotate_left 1
          · intro w' hSw
            try dsimp only at hSw
            go_simp
            first | done | with_reducible rfl
          try simp only [Act.put, List.setIfInBounds_toArray, List.set_cons_zero, List.set_cons_succ]
          refine rg_take (i := 2) (v := ?_) rfl (by kernel_rfl) (by kernel_rfl) (by kernel_rfl) (fun _ _ _ h => h) (Or.inl ⟨by kernel_rfl, ?_⟩) (by assumption) ?_
          rotate_left 1
          · intro w' hSw
            try dsimp only at hSw
            go_simp
            first | done | with_reducible rfl
          try simp only [Act.put, List.setIfInBounds_toArray, List.set_cons_zero, List.set_cons_succ]
          refine rg_take (i := 3) (v := ?_) rfl (by kernel_rfl) (by kernel_rfl) (by kernel_rfl) (fun _ _ _ h => h) (Or.inl ⟨by kernel_rfl, ?_⟩) (by assumption) ?_
          rotate_left 1
          · intro w' hSw
            try dsimp only at hSw
            go_simp
            first | done | with_reducible rfl
          try simp only [Act.put, List.setIfInBounds_toArray, List.set_cons_zero, List.set_cons_succ]
          refine rg_take (i := 4) (v := ?_) rfl (by kernel_rfl) (by kernel_rfl) (by kernel_rfl) (fun _ _ _ h => h) (Or.inl ⟨by kernel_rfl, ?_⟩) (by assumption) ?_
          rotate_left 1
          · intro w' hSw
            try dsimp only at hSw
            go_simp
            first | done | with_reducible rfl
          try simp only [Act.put, List.setIfInBounds_toArray, List.set_cons_zero, List.set_cons_succ]
          refine rg_take (i := 6) (v := ?_) rfl (by kernel_rfl) (by kernel_rfl) (by kernel_rfl) (fun _ _ _ h => h) (Or.inl ⟨by kernel_rfl, ?_⟩) (by assumption) ?_
          rotate_left 1
          · intro w' hSw
            try dsimp only at hSw
            go_simp
            first | done | with_reducible rfl
          try simp only [Act.put, List.setIfInBounds_toArray, List.set_cons_zero, List.set_cons_succ]
          refine rg_take (i := 7) (v := ?_) rfl (by kernel_rfl) (by kernel_rfl) (by kernel_rfl) (fun _ _ _ h => h) (Or.inl ⟨by kernel_rfl, ?_⟩) (by assumption) ?_
          rotate_left 1
          · intro w' hSw
            try dsimp only at hSw
            go_simp
            first | done | with_reducible rfl
          try simp only [Act.put, List.setIfInBounds_toArray, List.set_cons_zero, List.set_cons_succ]
          refine rg_take (i := 8) (v := ?_) rfl (by kernel_rfl) (by kernel_rfl) (by kernel_rfl) (fun _ _ _ h => h) (Or.inl ⟨by kernel_rfl, ?_⟩) (by assumption) ?_
          rotate_left 1
          · intro w' hSw
            try dsimp only at hSw
            go_simp
            first | done | with_reducible rfl
          try simp only [Act.put, List.setIfInBounds_toArray, List.set_cons_zero, List.set_cons_succ]
          refine rg_take (i := 9) (v := ?_) rfl (by kernel_rfl) (by kernel_rfl) (by kernel_rfl) (fun _ _ _ h => h) (Or.inl ⟨by kernel_rfl, ?_⟩) (by assumption) ?_
          rotate_left 1
          · intro w' hSw
            try dsimp only at hSw
            go_simp
            first | done | with_reducible rfl
          try simp only [Act.put, List.setIfInBounds_toArray, List.set_cons_zero, List.set_cons_succ]
          refine rg_take (i := 10) (v := ?_) rfl (by kernel_rfl) (by kernel_rfl) (by kernel_rfl) (fun _ _ _ h => h) (Or.inl ⟨by kernel_rfl, ?_⟩) (by assumption) ?_
          rotate_left 1
          · intro w' hSw
            try dsimp only at hSw
            go_simp
            first | done | with_reducible rfl
          try simp only [Act.put, List.setIfInBounds_toArray, List.set_cons_zero, List.set_cons_succ]
          refine wpAnyH_ready (rs := [5]) (by kernel_rfl) (by simp) ?_
          refine rg_cons rfl (fun K hK => ?_) AllReadyH.nil
          have hwc := write_ok b d xa xt k ok (by omega) (by omega) H7.r2
          go_simp
          refine hwc.mono ?_
          clear hwc
          rintro e w7 ⟨rfl, H8⟩
          refine hK.out _ _ ⟨H8.r2.cell 1 rfl, H8.r2.cell 3 rfl⟩ (fun hHeld => ?_)
          clear hK
          try simp only [Act.put, List.setIfInBounds_toArray, List.set_cons_zero, List.set_cons_succ]
          refine wpAnyH_ready (rs := [11]) (by kernel_rfl) (by simp) ?_
          refine rg_cons rfl (fun K hK => ?_) AllReadyH.nil
          have hwc := rwrite_ok bw d xa xt k ok (by omega) (by omega) H8.r3
          go_simp
          refine hwc.mono ?_
          clear hwc
          rintro e w8 ⟨rfl, H9⟩
          refine hK.out _ _ ⟨H9.r3.cell 1 rfl, H9.r3.cell 3 rfl⟩ (fun hHeld => ?_)
          clear hK
          try simp only [Act.put, List.setIfInBounds_toArray, List.set_cons_zero, List.set_cons_succ]
          refine rg_take (i := 12) (v := ?_) rfl (by kernel_rfl) (by kernel_rfl) (by kernel_rfl) (fun _ _ _ h => h) (Or.inl ⟨by kernel_rfl, ?_⟩) (by assumption) ?_
          rotate_left 1
          · intro w' hSw
            try dsimp only at hSw
            go_simp
            first | done | with_reducible rfl
          try simp only [Act.put, List.setIfInBounds_toArray, List.set_cons_zero, List.set_cons_succ]
          refine rg_take (i := 13) (v := ?_) rfl (by kernel_rfl) (by kernel_rfl) (by kernel_rfl) (fun _ _ _ h => h) (Or.inl ⟨by kernel_rfl, ?_⟩) (by assumption) ?_
          rotate_left 1
          · intro w' hSw
            try dsimp only at hSw
            go_simp
            first | done | with_reducible rfl
          try simp only [Act.put, List.setIfInBounds_toArray, List.set_cons_zero, List.set_cons_succ]
          refine wpAnyH_done (by kernel_rfl) ?_ _
          have okw := ok.ok_write xa xt
          have hlw := (write_las d xa xt).trans HLN.out
          generalize (d.write xa xt).1 = v1 at *
          generalize (d.write xa xt).2 = d1 at *
          have HLW := Lib.hid hlw; clear hlw
          go_wp2_with (fail)
          refine (counts_ok b d1 H9.r2).mono ?_
          rintro e wz ⟨rfl, HF⟩
          obtain ⟨p5, p6, p7, _⟩ := rflags bw d1 HF.r2
          go_wp2_with (fail)
          go_quiet ((go_at_call 23; exact quiet_here (off_ok b d1 (HF.drewN _))))
          go_wp2_with (fail)
          go_roundw
          case rel => exact ⟨k + 1, d1, by omega, by go_num, okw, HLW.out, ((HF.drewN _).r3).tail⟩
          case measure => simp [intOf]; omega
        · as_aux_lemma =>
          go_wp2_with (fail)
          refine wp_region_held_drew (S := fun w' => w'.cell? ⟨bx, 1, none⟩ = some (.int .i64 xa) ∧ w'.cell? ⟨bx, 3, none⟩ = some (.string xt)) (by kernel_rfl) ⟨H6.drew.cell 1 rfl, H6.drew.cell 3 rfl⟩ (fun hHeld => ?_)
          have H7 := H6.drew
          generalize w5.drew = w6 at *
          refine rg_take (i := 0) (v := ?_) rfl (by kernel_rfl) (by kernel_rfl) (by kernel_rfl) (fun _ _ _ h => h) (Or.inl ⟨by kernel_rfl, ?_⟩) (by assumption) ?_
          rotate_left 1
          · intro w' hSw
            try dsimp only at hSw
            go_simp
            first | done | with_reducible rfl
          try simp only [Act.put, List.setIfInBounds_toArray, List.set_cons_zero, List.set_cons_succ]
          refine rg_take (i := 1) (v := ?_) rfl (by kernel_rfl) (by kernel_rfl) (by kernel_rfl) (fun _ _ _ h => h) (Or.inl ⟨by kernel_rfl, ?_⟩) (by assumption) ?_
          rotate_left 1
          · intro w' hSw
            try dsimp only at hSw
            go_simp
            first | done | with_reducible rfl
          try simp only [Act.put, List.setIfInBounds_toArray, List.set_cons_zero, List.set_cons_succ]
          refine rg_take (i := 2) (v := ?_) rfl (by kernel_rfl) (by kernel_rfl) (by kernel_rfl) (fun _ _ _ h => h) (Or.inl ⟨by kernel_rfl, ?_⟩) (by assumption) ?_
          rotate_left 1
          · intro w' hSw
            try dsimp only at hSw
            go_simp
            first | done | with_reducible rfl
          try simp only [Act.put, List.setIfInBounds_toArray, List.set_cons_zero, List.set_cons_succ]
          refine rg_take (i := 3) (v := ?_) rfl (by kernel_rfl) (by kernel_rfl) (by kernel_rfl) (fun _ _ _ h => h) (Or.inl ⟨by kernel_rfl, ?_⟩) (by assumption) ?_
          rotate_left 1
          · intro w' hSw
            try dsimp only at hSw
            go_simp
            first | done | with_reducible rfl
          try simp only [Act.put, List.setIfInBounds_toArray, List.set_cons_zero, List.set_cons_succ]
          refine rg_take (i := 4) (v := ?_) rfl (by kernel_rfl) (by kernel_rfl) (by kernel_rfl) (fun _ _ _ h => h) (Or.inl ⟨by kernel_rfl, ?_⟩) (by assumption) ?_
          rotate_left 1
          · intro w' hSw
            try dsimp only at hSw
            go_simp
            first | done | with_reducible rfl
          try simp only [Act.put, List.setIfInBounds_toArray, List.set_cons_zero, List.set_cons_succ]
          refine rg_take (i := 6) (v := ?_) rfl (by kernel_rfl) (by kernel_rfl) (by kernel_rfl) (fun _ _ _ h => h) (Or.inl ⟨by kernel_rfl, ?_⟩) (by assumption) ?_
          rotate_left 1
          · intro w' hSw
            try dsimp only at hSw
            go_simp
            first | done | with_reducible rfl
          try simp only [Act.put, List.setIfInBounds_toArray, List.set_cons_zero, List.set_cons_succ]
          refine rg_take (i := 7) (v := ?_) rfl (by kernel_rfl) (by kernel_rfl) (by kernel_rfl) (fun _ _ _ h => h) (Or.inl ⟨by kernel_rfl, ?_⟩) (by assumption) ?_
          rotate_left 1
          · intro w' hSw
            try dsimp only at hSw
            go_simp
            first | done | with_reducible rfl
          try simp only [Act.put, List.setIfInBounds_toArray, List.set_cons_zero, List.set_cons_succ]
          refine rg_take (i := 8) (v := ?_) rfl (by kernel_rfl) (by kernel_rfl) (by kernel_rfl) (fun _ _ _ h => h) (Or.inl ⟨by kernel_rfl, ?_⟩) (by assumption) ?_
          rotate_left 1
          · intro w' hSw
            try dsimp only at hSw
            go_simp
            first | done | with_reducible rfl
          try simp only [Act.put, List.setIfInBounds_toArray, List.set_cons_zero, List.set_cons_succ]
          refine rg_take (i := 9) (v := ?_) rfl (by kernel_rfl) (by kernel_rfl) (by kernel_rfl) (fun _ _ _ h => h) (Or.inl ⟨by kernel_rfl, ?_⟩) (by assumption) ?_
          rotate_left 1
          · intro w' hSw
            try dsimp only at hSw
            go_simp
            first | done | with_reducible rfl
          try simp only [Act.put, List.setIfInBounds_toArray, List.set_cons_zero, List.set_cons_succ]
          refine rg_take (i := 10) (v := ?_) rfl (by kernel_rfl) (by kernel_rfl) (by kernel_rfl) (fun _ _ _ h => h) (Or.inl ⟨by kernel_rfl, ?_⟩) (by assumption) ?_
          rotate_left 1
          · intro w' hSw
            try dsimp only at hSw
            go_simp
            first | done | with_reducible rfl
          try simp only [Act.put, List.setIfInBounds_toArray, List.set_cons_zero, List.set_cons_succ]
          refine wpAnyH_ready (rs := [5]) (by kernel_rfl) (by simp) ?_
          refine rg_cons rfl (fun K hK => ?_) AllReadyH.nil
          have hwc := write_ok b d xa xt k ok (by omega) (by omega) H7.r2
          go_simp
          refine hwc.mono ?_
          clear hwc
          rintro e w7 ⟨rfl, H8⟩
          refine hK.out _ _ ⟨H8.r2.cell 1 rfl, H8.r2.cell 3 rfl⟩ (fun hHeld => ?_)
          clear hK
          try simp only [Act.put, List.setIfInBounds_toArray, List.set_cons_zero, List.set_cons_succ]
          refine wpAnyH_ready (rs := [11]) (by kernel_rfl) (by simp) ?_
          refine rg_cons rfl (fun K hK => ?_) AllReadyH.nil
          have hwc := rwrite_ok bw d xa xt k ok (by omega) (by omega) H8.r3
          go_simp
          refine hwc.mono ?_
          clear hwc
          rintro e w8 ⟨rfl, H9⟩
          refine hK.out _ _ ⟨H9.r3.cell 1 rfl, H9.r3.cell 3 rfl⟩ (fun hHeld => ?_)
          clear hK
          try simp only [Act.put, List.setIfInBounds_toArray, List.set_cons_zero, List.set_cons_succ]
          refine rg_take (i := 12) (v := ?_) rfl (by kernel_rfl) (by kernel_rfl) (by kernel_rfl) (fun _ _ _ h => h) (Or.inl ⟨by kernel_rfl, ?_⟩) (by assumption) ?_
          rotate_left 1
          · intro w' hSw
            try dsimp only at hSw
            go_simp
            first | done | with_reducible rfl
          try simp only [Act.put, List.setIfInBounds_toArray, List.set_cons_zero, List.set_cons_succ]
          refine rg_take (i := 13) (v := ?_) rfl (by kernel_rfl) (by kernel_rfl) (by kernel_rfl) (fun _ _ _ h => h) (Or.inl ⟨by kernel_rfl, ?_⟩) (by assumption) ?_
          rotate_left 1
          · intro w' hSw
            try dsimp only at hSw
            go_simp
            first | done | with_reducible rfl
          try simp only [Act.put, List.setIfInBounds_toArray, List.set_cons_zero, List.set_cons_succ]
          refine wpAnyH_done (by kernel_rfl) ?_ _
          have okw := ok.ok_write xa xt
          have hlw := (write_las d xa xt).trans HLN.out
          generalize (d.write xa xt).1 = v1 at *
          generalize (d.write xa xt).2 = d1 at *
          have HLW := Lib.hid hlw; clear hlw
          go_wp2_with (fail)
          refine (counts_ok b d1 H9.r2).mono ?_
          rintro e wz ⟨rfl, HF⟩
          obtain ⟨p5, p6, p7, _⟩ := rflags bw d1 HF.r2
          go_wp2_with (fail)
          go_quiet ((go_at_call 23; exact quiet_here (off_ok b d1 (HF.drewN _))))
          go_wp2_with (fail)
          go_roundw
          case rel => exact ⟨k + 1, d1, by omega, by go_num, okw, HLW.out, ((HF.drewN _).r3).tail⟩
          case measure => simp [intOf]; omega
        · as_aux_lemma =>
          go_wp2_with (fail)
          refine (read_ok b d xa k ok H6.r2).mono ?_
          rintro e w6 ⟨rfl, H7⟩
          have p1 := H7.r2.cell 1 rfl
          go_wp2_with (fail)
          refine (rread_ok bw d xa k ok (by omega) H7.r3).mono ?_
          generalize (d.read xa).1 = v1 at *
          generalize (d.read xa).2 = v2 at *
          rintro e w7 ⟨rfl, rfl⟩
          go_wp2_with (fail)
          have HF0 := H7.ord 3 [0, 2, 1]
          refine (counts_ok b d HF0).mono ?_
          rintro e wz ⟨rfl, HF⟩
          obtain ⟨p5, p6, p7, _⟩ := rflags bw d HF.r2
          go_wp2_with (fail)
          go_quiet ((go_at_call 23; exact quiet_here (off_ok b d (HF.drewN _))))
          go_wp2_with (fail)
          go_roundw
          case rel => exact ⟨k + 1, d, by omega, by go_num, (ok.ok_mono (Nat.le_succ k)), HLN.out, ((HF.drewN _).r3).tail⟩
          case measure => simp [intOf]; omega
        · as_aux_lemma =>
          go_wp2_with (fail)
          refine (flush_ok b d k ok (by omega) H6.r2).mono ?_
          rintro e w6 ⟨rfl, H7⟩
          go_wp2_with (fail)
          refine (rflush_ok bw d k ok (by omega) H7.r3).mono ?_
          have okw := ok.ok_flush
          have hlw := (flush_las d).trans HLN.out
          generalize d.flush.1 = v1 at *
          generalize d.flush.2 = d1 at *
          have HLW := Lib.hid hlw; clear hlw
          rintro e w7 ⟨rfl, H8⟩
          go_wp2_with (fail)
          refine (counts_ok b d1 H8.r2).mono ?_
          rintro e wz ⟨rfl, HF⟩
          obtain ⟨p5, p6, p7, _⟩ := rflags bw d1 HF.r2
          go_wp2_with (fail)
          go_quiet ((go_at_call 23; exact quiet_here (off_ok b d1 (HF.drewN _))))
          go_wp2_with (fail)
          go_roundw
          case rel => exact ⟨k + 1, d1, by omega, by go_num, okw, HLW.out, ((HF.drewN _).r3).tail⟩
          case measure => simp [intOf]; omega
        · as_aux_lemma =>
          go_wp2_with (fail)
          refine (cut_ok b d xa xb H6.r2).mono ?_
          rintro e w6 ⟨rfl, H7⟩
          go_wp2_with (fail)
          refine wp_region_held_drew (S := fun w' => w'.cell? ⟨bx, 1, none⟩ = some (.int .i64 xa) ∧ w'.cell? ⟨bx, 2, none⟩ = some (.int .i64 xb)) (by kernel_rfl) ⟨H7.drew.r2.cell 1 rfl, H7.drew.r2.cell 2 rfl⟩ (fun hHeld => ?_)
          have H8 := H7.drew
          generalize w6.drew = w7 at *
          refine rg_take (i := 0) (v := ?_) rfl (by kernel_rfl) (by kernel_rfl) (by kernel_rfl) (fun _ _ _ h => h) (Or.inl ⟨by kernel_rfl, ?_⟩) (by assumption) ?_
          rotate_left 1
          · intro w' hSw
            try dsimp only at hSw
            go_simp
            first | done | with_reducible rfl
          try simp only [Act.put, List.setIfInBounds_toArray, List.set_cons_zero, List.set_cons_succ]
          refine rg_take (i := 1) (v := ?_) rfl (by kernel_rfl) (by kernel_rfl) (by kernel_rfl) (fun _ _ _ h => h) (Or.inl ⟨by kernel_rfl, ?_⟩) (by assumption) ?_
          rotate_left 1
          · intro w' hSw
            try dsimp only at hSw
            go_simp
            first | done | with_reducible rfl
          try simp only [Act.put, List.setIfInBounds_toArray, List.set_cons_zero, List.set_cons_succ]
          refine rg_take (i := 2) (v := ?_) rfl (by kernel_rfl) (by kernel_rfl) (by kernel_rfl) (fun _ _ _ h => h) (Or.inl ⟨by kernel_rfl, ?_⟩) (by assumption) ?_
          rotate_left 1
          · intro w' hSw
            try dsimp only at hSw
            go_simp
            first | done | with_reducible rfl
          try simp only [Act.put, List.setIfInBounds_toArray, List.set_cons_zero, List.set_cons_succ]
          refine rg_take (i := 3) (v := ?_) rfl (by kernel_rfl) (by kernel_rfl) (by kernel_rfl) (fun _ _ _ h => h) (Or.inl ⟨by kernel_rfl, ?_⟩) (by assumption) ?_
          rotate_left 1
          · intro w' hSw
            try dsimp only at hSw
            go_simp
            first | done | with_reducible rfl
          try simp only [Act.put, List.setIfInBounds_toArray, List.set_cons_zero, List.set_cons_succ]
          refine rg_take (i := 4) (v := ?_) rfl (by kernel_rfl) (by kernel_rfl) (by kernel_rfl) (fun _ _ _ h => h) (Or.inl ⟨by kernel_rfl, ?_⟩) (by assumption) ?_
          rotate_left 1
          · intro w' hSw
            try dsimp only at hSw
            go_simp
            first | done | with_reducible rfl
          try simp only [Act.put, List.setIfInBounds_toArray, List.set_cons_zero, List.set_cons_succ]
          refine rg_take (i := 5) (v := ?_) rfl (by kernel_rfl) (by kernel_rfl) (by kernel_rfl) (fun _ _ _ h => h) (Or.inl ⟨by kernel_rfl, ?_⟩) (by assumption) ?_
          rotate_left 1
          · intro w' hSw
            try dsimp only at hSw
            go_simp
            first | done | with_reducible rfl
          try simp only [Act.put, List.setIfInBounds_toArray, List.set_cons_zero, List.set_cons_succ]
          refine rg_take (i := 6) (v := ?_) rfl (by kernel_rfl) (by kernel_rfl) (by kernel_rfl) (fun _ _ _ h => h) (Or.inl ⟨by kernel_rfl, ?_⟩) (by assumption) ?_
          rotate_left 1
          · intro w' hSw
            try dsimp only at hSw
            go_simp
            first | done | with_reducible rfl
          try simp only [Act.put, List.setIfInBounds_toArray, List.set_cons_zero, List.set_cons_succ]
          refine rg_take (i := 7) (v := ?_) rfl (by kernel_rfl) (by kernel_rfl) (by kernel_rfl) (fun _ _ _ h => h) (Or.inl ⟨by kernel_rfl, ?_⟩) (by assumption) ?_
          rotate_left 1
          · intro w' hSw
            try dsimp only at hSw
            go_simp
            first | done | with_reducible rfl
          try simp only [Act.put, List.setIfInBounds_toArray, List.set_cons_zero, List.set_cons_succ]
          refine rg_take (i := 8) (v := ?_) rfl (by kernel_rfl) (by kernel_rfl) (by kernel_rfl) (fun _ _ _ h => h) (Or.inl ⟨by kernel_rfl, ?_⟩) (by assumption) ?_
          rotate_left 1
          · intro w' hSw
            try dsimp only at hSw
            go_simp
            first | done | with_reducible rfl
          try simp only [Act.put, List.setIfInBounds_toArray, List.set_cons_zero, List.set_cons_succ]
          refine wpAnyH_ready (rs := [9]) (by kernel_rfl) (by simp) ?_
          refine rg_cons rfl (fun K hK => ?_) AllReadyH.nil
          obtain ⟨e3, f3, H9⟩ := rleft_ok bw d (max xa 1) H8.r3
          go_simp
          refine hK.out _ _ ⟨H9.r3.cell 1 rfl, H9.r3.cell 2 rfl⟩ (fun hHeld => ?_)
          clear hK e3 f3
          try simp only [Act.put, List.setIfInBounds_toArray, List.set_cons_zero, List.set_cons_succ]
          generalize w7.setCell ⟨bw, 3, none⟩ (.int .i64 (max xa 1)) = w8 at *
          refine rg_take (i := 10) (v := ?_) rfl (by kernel_rfl) (by kernel_rfl) (by kernel_rfl) (fun _ _ _ h => h) (Or.inl ⟨by kernel_rfl, ?_⟩) (by assumption) ?_
          rotate_left 1
          · intro w' hSw
            try dsimp only at hSw
            go_simp
            first | done | with_reducible rfl
          try simp only [Act.put, List.setIfInBounds_toArray, List.set_cons_zero, List.set_cons_succ]
          refine rg_take (i := 11) (v := ?_) rfl (by kernel_rfl) (by kernel_rfl) (by kernel_rfl) (fun _ _ _ h => h) (Or.inl ⟨by kernel_rfl, ?_⟩) (by assumption) ?_
          rotate_left 1
          · intro w' hSw
            try dsimp only at hSw
            go_simp
            first | done | with_reducible rfl
          try simp only [Act.put, List.setIfInBounds_toArray, List.set_cons_zero, List.set_cons_succ]
          refine wpAnyH_ready (rs := [12]) (by kernel_rfl) (by simp) ?_
          refine rg_cons rfl (fun K hK => ?_) AllReadyH.nil
          obtain ⟨e4, f4, H10⟩ := rkeepset_ok bw { d with left := max xa 1 } xb H9
          go_simp
          refine hK.out _ _ ⟨H10.r3.cell 1 rfl, H10.r3.cell 2 rfl⟩ (fun hHeld => ?_)
          clear hK e4 f4
          try simp only [Act.put, List.setIfInBounds_toArray, List.set_cons_zero, List.set_cons_succ]
          generalize w8.setCell ⟨bw, 4, none⟩ (.int .i64 xb) = w9 at *
          refine wpAnyH_done (by kernel_rfl) ?_ _
          have okw := (ok.ok_cut xa xb hxa).ok_mono (Nat.le_succ k)
          have H11 : St w w9 [Dsk b (d.cut xa xb), Rdk bw (d.cut xa xb), Pt bx #[.int .i64 xk, .int .i64 xa, .int .i64 xb, .string xt] 43] := H10.r2
          have hlw : (d.cut xa xb).las.length = n := HLN.out
          generalize d.cut xa xb = d1 at *
          have HLW := Lib.hid hlw; clear hlw
          clear H8 H9 H10 H7 hHeld
          go_wp2_with (fail)
          refine (counts_ok b d1 H11).mono ?_
          rintro e wz ⟨rfl, HF⟩
          obtain ⟨p5, p6, p7, _⟩ := rflags bw d1 HF.r2
          go_wp2_with (fail)
          go_quiet ((go_at_call 23; exact quiet_here (off_ok b d1 (HF.drewN _))))
          go_wp2_with (fail)
          go_roundw
          case rel => exact ⟨k + 1, d1, by omega, by go_num, okw, HLW.out, ((HF.drewN _).r3).tail⟩
          case measure => simp [intOf]; omega
        · as_aux_lemma =>
          go_wp2_with (fail)
          refine (crash_ok b d xb k ok (by omega) H6.r2).mono ?_
          rintro e w6 ⟨rfl, H7⟩
          have p2 := H7.r2.cell 2 rfl
          go_wp2_with (fail)
          refine (rlose_ok bw d xb k ok (by omega) H7.r3).mono ?_
          rintro e w7 ⟨rfl, H8⟩
          obtain ⟨e5, f5, e3, f3, H9⟩ := ron_ok bw (d.lose xb) H8
          go_upto_region 32 with (fail)
          have okw := (ok.ok_crash xb).ok_mono (Nat.le_succ k)
          have hlw := (crash_las d xb).trans HLN.out
          have H10 : St w _ [Dsk b (d.crash xb), Rdk bw (d.crash xb), Pt bx #[.int .i64 xk, .int .i64 xa, .int .i64 xb, .string xt] 43] := H9.r2
          generalize d.crash xb = d1 at *
          have HLW := Lib.hid hlw; clear hlw
          clear H8 H9 H7 e5 f5 e3 f3
          generalize (w7.setCell ⟨bw, 5, none⟩ (.bool false)).setCell ⟨bw, 3, none⟩ (.int .i64 0) = w8 at *
          go_wp2_with (fail)
          refine (counts_ok b d1 H10).mono ?_
          rintro e wz ⟨rfl, HF⟩
          obtain ⟨p5, p6, p7, _⟩ := rflags bw d1 HF.r2
          go_wp2_with (fail)
          go_quiet ((go_at_call 23; exact quiet_here (off_ok b d1 (HF.drewN _))))
          go_wp2_with (fail)
          go_roundw
          case rel => exact ⟨k + 1, d1, by omega, by go_num, okw, HLW.out, ((HF.drewN _).r3).tail⟩
          case measure => simp [intOf]; omega
        · as_aux_lemma =>
          go_wp2_with (fail)
          refine (on_ok b d H6.r2).mono ?_
          rintro e w6 ⟨rfl, H7⟩
          obtain ⟨e5, f5, e3, f3, H9⟩ := ron_ok bw d H7.r3
          go_upto_region 32 with (fail)
          have okw := (ok.ok_on).ok_mono (Nat.le_succ k)
          have hlw : d.on.las.length = n := HLN.out
          have H10 : St w _ [Dsk b d.on, Rdk bw d.on, Pt bx #[.int .i64 xk, .int .i64 xa, .int .i64 xb, .string xt] 43] := H9.r2
          generalize d.on = d1 at *
          have HLW := Lib.hid hlw; clear hlw
          clear H9 H7 e5 f5 e3 f3
          generalize (w6.setCell ⟨bw, 5, none⟩ (.bool false)).setCell ⟨bw, 3, none⟩ (.int .i64 0) = w8 at *
          go_wp2_with (fail)
          refine (counts_ok b d1 H10).mono ?_
          rintro e wz ⟨rfl, HF⟩
          obtain ⟨p5, p6, p7, _⟩ := rflags bw d1 HF.r2
          go_wp2_with (fail)
          go_quiet ((go_at_call 23; exact quiet_here (off_ok b d1 (HF.drewN _))))
          go_wp2_with (fail)
          go_roundw
          case rel => exact ⟨k + 1, d1, by omega, by go_num, okw, HLW.out, ((HF.drewN _).r3).tail⟩
          case measure => simp [intOf]; omega
      · as_aux_lemma =>
        clear H1 H2 H3
        go_wp2_with (fail)
        refine (on_ok b d H5).mono ?_
        rintro e w6 ⟨rfl, H7⟩
        obtain ⟨e5, f5, H8⟩ := roff_ok bw d H7.r2
        go_upto_region 37 with (fail)
        have okn := ok.ok_on
        have hread : ∀ j, j < n → d.on.read j = (full (d.now.getD j ByteArray.empty), 0) := fun j hj => by
          unfold DS.read
          have hl : d.on.las.length = n := HLN.out
          rw [if_neg (by omega), if_neg (by show ¬ (false = true); decide)]; rfl
        have okf : ({ d with off := false } : DS).ok k := ⟨ok.las, ok.q, ok.left, ok.ql, ok.wr, ok.fl⟩
        have hnf : ({ d with off := false } : DS).now = d.now := rfl
        have hlf : ({ d with off := false } : DS).las.length = n := HLN.out
        have hlo : d.on.las.length = n := HLN.out
        generalize ({ d with off := false } : DS) = df at *
        generalize d.on = dn at *
        generalize w6.setCell ⟨bw, 5, none⟩ (.bool false) = w8 at *
        have HRE := Lib.hid hread; have HNF := Lib.hid hnf; have HLF := Lib.hid hlf; have HLO := Lib.hid hlo; clear hread hnf hlf hlo e5 f5 H7 H5
        go_wp2_with (fail)
        go_loopw [17] (fun i wr => ∃ j : Nat, j ≤ n ∧ i = .int .i64 j ∧ St w wr [Rdk bw df, Dsk b dn]) (fun i _ => n - (intOf i).toNat)
        case atStart => exact ⟨0, Nat.zero_le _, rfl, H8⟩
        case round =>
          obtain ⟨j, hj, rfl, H9⟩ := hrel
          obtain ⟨_, _, _, A0, c0, p0⟩ := rflags bw df H9
          rw [HLF.out] at p0
          by_cases hlt2 : j < n
          · have hrj := HRE.out j hlt2
            have hnj := fun (w9 : World) (H : St w w9 [Rdk bw df, Dsk b dn]) => rnow_ok bw df j (by rw [HLF.out]; exact hlt2) k okf (by omega) H
            rw [HNF.out] at hnj
            generalize full (d.now.getD j ByteArray.empty) = tx at *
            have HRJ := Lib.hid hrj; have HNJ := Lib.hid hnj; clear hrj hnj
            have hjI : (j : Int) < n := by omega
            go_wp2_with (fail)
            refine (read_ok b dn j k okn H9.r2).mono ?_
            rw [HRJ.out]
            rintro e w9 ⟨rfl, H10⟩
            go_wp2_with (fail)
            refine (HNJ.out _ H10.r2).mono ?_
            rintro e w10 ⟨rfl, rfl⟩
            go_wp2_with (fail)
            go_roundw
            case rel => exact ⟨j + 1, by omega, by go_num, H10.r2⟩
            case measure => simp [intOf]; omega
          · obtain rfl : n = j := by omega
            go_wp2_with (fail)
            refine (size_ok b dn H9.r2).mono ?_
            rw [HLO.out]
            rintro e w9 ⟨rfl, rfl⟩
            go_wp2_with (fail)
            go_ret
            exact ⟨rfl, H9.below⟩
theorem own : ownKnob Try.prog.godebug = none := by kernel_rfl
theorem laidOut : laidOutB Try.prog = true := by kernel_rfl
theorem readable : ∀ t ∈ Try.f5.params.toList, Try.prog.readableRec t = true ∧ t < Try.prog.types.size := by
  intro t ht
  rw [Try.params5] at ht
  simp only [List.mem_cons, List.not_mem_nil, or_false] at ht
  rcases ht with rfl | rfl
  all_goals exact ⟨by kernel_rfl, of_decide_eq_true (by kernel_rfl)⟩
theorem contract (H : Type) (enc : TypeId × Value → H) (W : World) (base : Nat) (args : Array Value) (ds gs : List (DataW H)) (before : List MemPlace)
    (hval : ∀ (j : Nat) t v, Try.f5.params[j]? = some t → args[j]? = some v → Value.okWide Try.prog W .any base t v)
    (hW : DataW.Whole enc Try.prog Try.f5.params.toList Rows.sectorScriptsSpec.vars false W args.toList ds gs before) (hk : Rows.uptoSmall H (ds ++ gs) = true) :
    Calls Try.prog 5 args W fun e W' => ∃ v, e = .returned v ∧ Rows.sectorScriptsSpec.post enc Try.prog Try.f5 false true false false W args v W' := by
  have hW' := hW
  obtain ⟨p, q, hA0, hV, rfl, _, _⟩ := hW
  have hA : DataW.TrodAll enc Try.prog W 0 (fun _ => true) true Try.f5.params.toList args.toList ds p := hA0
  rw [Try.params5] at hA hval
  obtain ⟨v0, vs0, d0, ds0, p0, q0, hargs, rfl, rfl, h0, r0⟩ := trodAll_cons hA
  obtain ⟨v1, vs1, d1, ds1, p1, q1, rfl, rfl, rfl, h1, r1⟩ := trodAll_cons r0
  obtain ⟨rfl, rfl, rfl⟩ := trodAll_nil r1
  obtain rfl : args = #[v0, v1] := by cases args; simp_all
  obtain ⟨rfl, rfl⟩ := trodVars_none hV
  clear hA0
  have hk2 : Rows.uptoBulkAll _ ≤ 1048576 := of_decide_eq_true hk
  rw [List.append_nil] at hk2
  obtain ⟨size, rfl, rfl, rfl, wsize⟩ := open_int Try.underlying3 (hval 0 3 v0 rfl rfl) h0
  obtain ⟨fuel1, hf1⟩ := h1
  obtain ⟨A1, n1, c1, hv1⟩ := okWide_slice Try.underlying39 (hval 1 39 v1 rfl rfl)
  subst hv1
  obtain ⟨A1', n1', c1', rows1, hc1, hn1, hrd1, hrow1, hbulk1⟩ := trod_slice_flat (ks := Act.kinds) (m := 8) Try.underlying39 (by kernel_rfl) (by kernel_rfl) (by decide) hf1
  dsimp only at hbulk1
  obtain ⟨rfl, rfl, rfl⟩ : A1' = A1 ∧ n1' = n1 ∧ c1' = c1 := by simp [Value.cells] at hc1; simp [hc1]
  obtain ⟨q, rfl, hok1⟩ := rows_map Act.cells Act.ok rows1 (fun row hr => Act.of_row row (hrow1 row hr))
  refine (walk W size (wf_i64 wsize) A1' n1' c1' q hrd1 (by
    have h1 := len_le_sum (ks := Act.kinds) _ hrow1 (by decide)
    have h2 := hrd1.1
    simp only [Rows.uptoBulkAll, Rows.uptoBulk] at hk2
    omega) (by
    simp only [Rows.uptoBulkAll, Rows.uptoBulk] at hk2
    omega) hok1).mono fun e W' ⟨he, hb⟩ => ?_
  exact ⟨_, he, law_post (tb := 4) laidOut readable rfl Try.underlying4 rfl hW' rfl rfl rfl hb⟩
set_option maxRecDepth 100000 in
theorem lifted (os : Os) (started : os.Started) (H : Type) (enc : TypeId × Value → H) (F : Stop.Interp) :
    ReturnsInHanded {} Try.checked os 5 .any ((Rows.OpenSpec.upto Rows.sectorScriptsSpec).pre6 enc Try.prog Try.f5 Rows.sectorScriptsUptoRow.domain false) (((Rows.OpenSpec.upto Rows.sectorScriptsSpec).at F).post enc Try.prog Try.f5 false true false false) := by
  refine returnsInHanded_of_cond (C := Try.checked) (s := Rows.OpenSpec.upto Rows.sectorScriptsSpec) (k := Rows.uptoSmall) rfl own started (by kernel_rfl) Try.func5
    (OpenSpec.witness (enc := enc) (C := Try.checked) (s := Rows.OpenSpec.upto Rows.sectorScriptsSpec) (k := Rows.uptoSmall) rfl false ⟨#[], #[.int .i64 0, .slice none 0 0], []⟩ 8 (by kernel_rfl) (by kernel_rfl) (by kernel_rfl)
      (x := ([.lit (.int .i64 0), .nil], [], [])) (by kernel_rfl) rfl (by kernel_rfl)) ?_
  intro W base args ds gs before hval hW _ hk _
  exact contract H enc W base args ds gs before hval hW hk
theorem proved : Rows.SectorScriptsUptoSaid :=
  OpenClaim.holds_of_cond 5 Try.f5 rfl rfl rfl rfl rfl rfl rfl ⟨rfl, rfl, rfl, rfl, rfl⟩ rfl rfl rfl rfl rfl (by kernel_rfl) Try.func5 (by kernel_rfl)
    (of_decide_eq_true (by kernel_rfl)) (by unfold Func.isWrapper; first | (rw [if_pos (by decide +kernel)]; kernel_rfl) | (rw [if_neg (by decide +kernel)]; exact ⟨rfl, rfl⟩))
    (fun os started H enc _ F => lifted os started H enc F)
#print axioms proved

end Go.Proofs.Ytmlknjgcfplnlaa.SectorScripts

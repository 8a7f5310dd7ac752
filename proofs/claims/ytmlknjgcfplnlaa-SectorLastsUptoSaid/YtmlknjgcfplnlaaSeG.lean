/- Layer 4: the document's disk is flushed; a new one. -/
import Derived.Test.YtmlknjgcfplnlaaSeF
namespace Go.Proofs.Ytmlknjgcfplnlaa
open Go.RowKit

set_option maxHeartbeats 2000000 in
theorem rflush_ok (b : Nat) (d0 : DS) (N : Nat) (ok : d0.ok N) (hN : N ≤ 549755813888) {w0 w : World} {F : List Assn} (H : St w0 w (Rdk b d0 :: F)) :
    Calls Try.prog 18 #[.pointer (some ⟨b, 0, none⟩)] w fun r w' => r = .returned (.int .i64 d0.flush.1) ∧ St w0 w' (Rdk b d0.flush.2 :: F) := by
  obtain ⟨A1, A2, A3, c1, c2, c3, H1⟩ := H.openR
  have d5 := H1.cell 5 rfl
  cases hoff : d0.off
  · have e : d0.flush = if d0.torn.1 = true then (20, d0.torn.2.dark) else (0, d0.torn.2.flushed) := by
      unfold DS.flush
      rw [if_neg (by rw [hoff]; decide)]
    rw [hoff] at d5
    have htk := rtorn_ok b d0 N ok (by omega) H
    have okt := ok.ok_torn
    have hrt : d0.rtorn = if d0.torn.1 = true then d0.torn.2.dark else d0.torn.2 := rfl
    have HE := Lib.hid e; have HO := Lib.hid hoff; have HRT := Lib.hid hrt; clear e hoff hrt
    generalize d0.rtorn = rt at *
    generalize d0.torn = t at *
    obtain ⟨tb, d7⟩ := t
    dsimp only at *
    have HT := Lib.hid htk; clear htk
    go_enter Try.func18, Try.ntmps18
    go_wp2_with (fail)
    refine HT.out.mono ?_
    rintro e w7 ⟨rfl, H8⟩
    clear d5 H1
    cases tb
    · have hr : rt = d7 := HRT.out.trans (if_neg (by decide))
      have hw : d0.flush = (0, d7.flushed) := HE.out.trans (if_neg (by decide))
      have HW := Lib.hid hw; clear hw
      subst hr
      have hfl := okt.fl
      obtain ⟨d, hd⟩ : ∃ d, d = rt := ⟨_, rfl⟩
      subst hd
      obtain ⟨A1, A2, A3, c1, c2, c3, H1⟩ := H8.openR
      have hql := okt.ql
      have hq := okt.q
      have HQ := Lib.hid hq; clear hq
      obtain ⟨m, hm⟩ : ∃ m, m = d.q.length := ⟨_, rfl⟩
      rw [← hm] at hql
      have H2 := H1
      rw [← hm] at H2
      have HM := Lib.hid hm; clear hm H1
      go_wp2_with (fail)
      go_loopw [3] (fun i wr => ∃ k : Nat, k ≤ m ∧ i = .int .i64 k ∧ St w0 wr (Pt b #[.slice A1 d.las.length c1, .slice A2 m c2, .slice A3 m c3, .int .i64 d.left, .int .i64 d.keep, .bool d.off, .int .i64 d.wr, .int .i64 d.fl] 51 :: Row 9 1 A1 d.las.length c1 (strs ((lz (fun _ => true) d.q d.las k).map full)) :: Row 3 1 A2 m c2 (plV d.q) :: Row 9 1 A3 m c3 (txV d.q) :: F)) (fun i _ => m - (intOf i).toNat)
      case atStart => exact ⟨0, Nat.zero_le _, rfl, H2⟩
      case round =>
        obtain ⟨k, hk, rfl, H3⟩ := hrel
        have d1 := H3.cell 1 rfl
        by_cases hlt : k < m
        · obtain ⟨p, hp⟩ : ∃ p, d.q[k]? = some p := ⟨_, List.getElem?_eq_getElem (by rw [← HM.out]; exact hlt)⟩
          obtain ⟨n, s⟩ := p
          obtain ⟨hnl, hsz⟩ := HQ.out _ (List.mem_of_getElem? hp)
          dsimp only at hnl hsz
          have q1 := txV_get hp
          have q0 := plV_get hp
          have hkI : (k : Int) < m := by omega
          have hzl := lz_length (fun _ => true) d.q d.las k
          have hy := lz_yes (f := fun _ => true) (las := d.las) hp rfl
          generalize lz (fun _ => true) d.q d.las k = L at *
          have HZ := Lib.hid hzl; have HY := Lib.hid hy; clear hp hzl hy H2
          go_wp2_with (fail)
          obtain ⟨g1, o1, hA⟩ := (H3.r2).row_form (by omega)
          subst hA
          obtain ⟨g2, o2, hA⟩ := (H3.r3).row_form (by omega)
          subst hA
          obtain ⟨g3, o3, hA⟩ := (H3.r4).row_form (by omega)
          subst hA
          refine wp_region_held_drew (S := fun w' => w'.cell? ⟨b, 0, none⟩ = some (.slice (some ⟨g1, o1, none⟩) d.las.length c1) ∧ w'.cell? ⟨b, 1, none⟩ = some (.slice (some ⟨g2, o2, none⟩) m c2) ∧ w'.cell? ⟨b, 2, none⟩ = some (.slice (some ⟨g3, o3, none⟩) m c3) ∧ w'.cell? ⟨g2, o2 + k, none⟩ = some (.int .i64 n) ∧ w'.cell? ⟨g3, o3 + k, none⟩ = some (.string (full s))) (by kernel_rfl) ⟨H3.drew.cell 0 rfl, H3.drew.cell 1 rfl, H3.drew.cell 2 rfl, H3.drew.r3.row_cell k q0, H3.drew.r4.row_cell k q1⟩ (fun hHeld => ?_)
          have H6 := H3.drew
          generalize wr.drew = wd at *
          obtain ⟨y, hy⟩ : ∃ y, L[n]? = some y := ⟨_, List.getElem?_eq_getElem (by rw [HZ.out]; exact hnl)⟩
          have hnI : (n : Int) < d.las.length := by omega
          have HYY := Lib.hid hy; clear hy d1
          refine rg_take (i := 0) (v := ?_) rfl (by kernel_rfl) (by kernel_rfl) (by kernel_rfl) (fun _ _ _ h => h) (Or.inl ⟨by kernel_rfl, ?_⟩) (by assumption) ?_
          rotate_left 1
          · intro w' hSw
            try dsimp only at hSw
            go_simp
            first | done | with_reducible rfl
          try simp only [Act.put, List.setIfInBounds_toArray, List.set_cons_zero, List.set_cons_succ]
          refine rg_take (i := 1) (v := ?_) rfl (by kernel_rfl) (by kernel_rfl) (by kernel_rfl) (fun _ _ _ h => h) (Or.inl ⟨by kernel_rfl, ?_⟩) (by assumption) ?_
          rotate_left 1
          · intro w' hSw
            try dsimp only at hSw
            go_simp
            first | done | with_reducible rfl
          try simp only [Act.put, List.setIfInBounds_toArray, List.set_cons_zero, List.set_cons_succ]
          refine rg_take (i := 2) (v := ?_) rfl (by kernel_rfl) (by kernel_rfl) (by kernel_rfl) (fun _ _ _ h => h) (Or.inl ⟨by kernel_rfl, ?_⟩) (by assumption) ?_
          rotate_left 1
          · intro w' hSw
            try dsimp only at hSw
            go_simp
            first | done | with_reducible rfl
          try simp only [Act.put, List.setIfInBounds_toArray, List.set_cons_zero, List.set_cons_succ]
          refine rg_take (i := 3) (v := ?_) rfl (by kernel_rfl) (by kernel_rfl) (by kernel_rfl) (fun _ _ _ h => h) (Or.inl ⟨by kernel_rfl, ?_⟩) (by assumption) ?_
          rotate_left 1
          · intro w' hSw
            try dsimp only at hSw
            go_simp
            first | done | with_reducible rfl
          try simp only [Act.put, List.setIfInBounds_toArray, List.set_cons_zero, List.set_cons_succ]
          refine rg_take (i := 4) (v := ?_) rfl (by kernel_rfl) (by kernel_rfl) (by kernel_rfl) (fun _ _ _ h => h) (Or.inl ⟨by kernel_rfl, ?_⟩) (by assumption) ?_
          rotate_left 1
          · intro w' hSw
            try dsimp only at hSw
            go_simp
            first | done | with_reducible rfl
          try simp only [Act.put, List.setIfInBounds_toArray, List.set_cons_zero, List.set_cons_succ]
          refine rg_take (i := 5) (v := ?_) rfl (by kernel_rfl) (by kernel_rfl) (by kernel_rfl) (fun _ _ _ h => h) (Or.inl ⟨by kernel_rfl, ?_⟩) (by assumption) ?_
          rotate_left 1
          · intro w' hSw
            try dsimp only at hSw
            go_simp
            first | done | with_reducible rfl
          try simp only [Act.put, List.setIfInBounds_toArray, List.set_cons_zero, List.set_cons_succ]
          refine rg_take (i := 6) (v := ?_) rfl (by kernel_rfl) (by kernel_rfl) (by kernel_rfl) (fun _ _ _ h => h) (Or.inl ⟨by kernel_rfl, ?_⟩) (by assumption) ?_
          rotate_left 1
          · intro w' hSw
            try dsimp only at hSw
            go_simp
            first | done | with_reducible rfl
          try simp only [Act.put, List.setIfInBounds_toArray, List.set_cons_zero, List.set_cons_succ]
          refine rg_take (i := 7) (v := ?_) rfl (by kernel_rfl) (by kernel_rfl) (by kernel_rfl) (fun _ _ _ h => h) (Or.inl ⟨by kernel_rfl, ?_⟩) (by assumption) ?_
          rotate_left 1
          · intro w' hSw
            try dsimp only at hSw
            go_simp
            first | done | with_reducible rfl
          try simp only [Act.put, List.setIfInBounds_toArray, List.set_cons_zero, List.set_cons_succ]
          refine rg_take (i := 8) (v := ?_) rfl (by kernel_rfl) (by kernel_rfl) (by kernel_rfl) (fun _ _ _ h => h) (Or.inl ⟨by kernel_rfl, ?_⟩) (by assumption) ?_
          rotate_left 1
          · intro w' hSw
            try dsimp only at hSw
            go_simp
            first | done | with_reducible rfl
          try simp only [Act.put, List.setIfInBounds_toArray, List.set_cons_zero, List.set_cons_succ]
          refine rg_take (i := 9) (v := ?_) rfl (by kernel_rfl) (by kernel_rfl) (by kernel_rfl) (fun _ _ _ h => h) (Or.inl ⟨by kernel_rfl, ?_⟩) (by assumption) ?_
          rotate_left 1
          · intro w' hSw
            try dsimp only at hSw
            go_simp
            first | done | with_reducible rfl
          try simp only [Act.put, List.setIfInBounds_toArray, List.set_cons_zero, List.set_cons_succ]
          refine rg_take (i := 10) (v := ?_) rfl (by kernel_rfl) (by kernel_rfl) (by kernel_rfl) (fun _ _ _ h => h) (Or.inl ⟨by kernel_rfl, ?_⟩) (by assumption) ?_
          rotate_left 1
          · intro w' hSw
            try dsimp only at hSw
            go_simp
            first | done | with_reducible rfl
          try simp only [Act.put, List.setIfInBounds_toArray, List.set_cons_zero, List.set_cons_succ]
          refine rg_take (i := 11) (v := ?_) rfl (by kernel_rfl) (by kernel_rfl) (by kernel_rfl) (fun _ _ _ h => h) (Or.inl ⟨by kernel_rfl, ?_⟩) (by assumption) ?_
          rotate_left 1
          · intro w' hSw
            try dsimp only at hSw
            go_simp
            first | done | with_reducible rfl
          try simp only [Act.put, List.setIfInBounds_toArray, List.set_cons_zero, List.set_cons_succ]
          refine rg_take (i := 12) (v := ?_) rfl (by kernel_rfl) (by kernel_rfl) (by kernel_rfl) (fun _ _ _ h => h) (Or.inl ⟨by kernel_rfl, ?_⟩) (by assumption) ?_
          rotate_left 1
          · intro w' hSw
            try dsimp only at hSw
            go_simp
            first | done | with_reducible rfl
          try simp only [Act.put, List.setIfInBounds_toArray, List.set_cons_zero, List.set_cons_succ]
          refine rg_take (i := 13) (v := ?_) rfl (by kernel_rfl) (by kernel_rfl) (by kernel_rfl) (fun _ _ _ h => h) (Or.inl ⟨by kernel_rfl, ?_⟩) (by assumption) ?_
          rotate_left 1
          · intro w' hSw
            try dsimp only at hSw
            go_simp
            first | done | with_reducible rfl
          try simp only [Act.put, List.setIfInBounds_toArray, List.set_cons_zero, List.set_cons_succ]
          refine rg_take (i := 14) (v := ?_) rfl (by kernel_rfl) (by kernel_rfl) (by kernel_rfl) (fun _ _ _ h => h) (Or.inl ⟨by kernel_rfl, ?_⟩) (by assumption) ?_
          rotate_left 1
          · intro w' hSw
            try dsimp only at hSw
            go_simp
            first | done | with_reducible rfl
          try simp only [Act.put, List.setIfInBounds_toArray, List.set_cons_zero, List.set_cons_succ]
          refine rg_take (i := 15) (v := ?_) rfl (by kernel_rfl) (by kernel_rfl) (by kernel_rfl) (fun _ _ _ h => h) (Or.inl ⟨by kernel_rfl, ?_⟩) (by assumption) ?_
          rotate_left 1
          · intro w' hSw
            try dsimp only at hSw
            go_simp
            first | done | with_reducible rfl
          try simp only [Act.put, List.setIfInBounds_toArray, List.set_cons_zero, List.set_cons_succ]
          refine rg_take (i := 16) (v := ?_) rfl (by kernel_rfl) (by kernel_rfl) (by kernel_rfl) (fun _ _ _ h => h) (Or.inl ⟨by kernel_rfl, ?_⟩) (by assumption) ?_
          rotate_left 1
          · intro w' hSw
            try dsimp only at hSw
            go_simp
            first | done | with_reducible rfl
          try simp only [Act.put, List.setIfInBounds_toArray, List.set_cons_zero, List.set_cons_succ]
          refine rg_take (i := 17) (v := ?_) rfl (by kernel_rfl) (by kernel_rfl) (by kernel_rfl) (fun _ _ _ h => h) (Or.inl ⟨by kernel_rfl, ?_⟩) (by assumption) ?_
          rotate_left 1
          · intro w' hSw
            try dsimp only at hSw
            go_simp
            first | done | with_reducible rfl
          try simp only [Act.put, List.setIfInBounds_toArray, List.set_cons_zero, List.set_cons_succ]
          refine rg_take (i := 18) (v := ?_) rfl (by kernel_rfl) (by kernel_rfl) (by kernel_rfl) (fun _ _ _ h => h) (Or.inl ⟨by kernel_rfl, ?_⟩) (by assumption) ?_
          rotate_left 1
          · intro w' hSw
            try dsimp only at hSw
            go_simp
            first | done | with_reducible rfl
          try simp only [Act.put, List.setIfInBounds_toArray, List.set_cons_zero, List.set_cons_succ]
          refine wpAnyH_ready (rs := [19]) (by kernel_rfl) (by simp) ?_
          refine rg_cons rfl (fun K hK => ?_) AllReadyH.nil
          have a3 := H6.r2.row_cell n (fulls_get HYY.out)
          have a4 := H6.r2.row_frozen n (by have := H6.r2.row_cases; rcases this with ⟨h, _⟩ | ⟨_, _, _, _, _, _, _, h, _⟩ <;> omega)
          have H7 := (H6.r2.setCell_row n (by rw [strs_length, List.length_map, HZ.out]; exact hnl) (.string (full s))).r2
          rw [fulls_set, ← HY.out] at H7
          go_simp
          refine hK.out _ _ ⟨H7.cell 0 rfl, H7.cell 1 rfl, H7.cell 2 rfl, H7.r3.row_cell k q0, H7.r4.row_cell k q1⟩ (fun hHeld => ?_)
          clear hK a3 a4
          try simp only [Act.put, List.setIfInBounds_toArray, List.set_cons_zero, List.set_cons_succ]
          refine wpAnyH_done (by kernel_rfl) ?_ _
          go_wp2_with (fail)
          go_roundw
          case rel => exact ⟨k + 1, by omega, by go_num, H7⟩
          case measure => simp [intOf]; omega
        · obtain rfl : m = k := by omega
          have H4 := ((H3.set 1 (.slice none 0 0)).set 2 (.slice none 0 0)).set 7 (.int .i64 (d.fl + 1))
          have d2 := H3.cell 2 rfl
          have f1 := H3.frozen 1
          have f2 := H3.frozen 2
          have d7 := H3.cell 7 rfl
          have f7 := H3.frozen 7
          obtain ⟨L, hL⟩ : ∃ L, L = lz (fun _ => true) d.q d.las m := ⟨_, rfl⟩
          rw [← hL] at H4
          have hfin : d.flushed = ⟨L, [], d.left, d.keep, d.off, d.wr, d.fl + 1⟩ := by rw [hL, HM.out]; rfl
          have hll : L.length = d.las.length := by rw [hL, lz_length]
          have HF := Lib.hid hfin; have HLL := Lib.hid hll; clear hL hfin hll H2 H3
          go_wp2_with (fail)
          go_ret
          rw [HW.out, HF.out]
          exact ⟨rfl, St.shutR (A2 := none) (A3 := none) (c2 := 0) (c3 := 0) (n2 := 0) (n3 := 0) (x2 := []) (x3 := []) (by rw [HLL.out]; rfl) HLL.out.symm rfl rfl rfl rfl rfl (((((H4.ord 4 [2, 3, 0, 1]).tail.tail.nilRow 9 1).nilRow 3 1)).ord 4 [2, 3, 0, 1])⟩
    · have hr : rt = d7.dark := HRT.out.trans (if_pos rfl)
      have hw : d0.flush = (20, d7.dark) := HE.out.trans (if_pos rfl)
      have HW := Lib.hid hw; clear hw
      subst hr
      go_wp2_with (fail)
      go_ret
      rw [HW.out]
      exact ⟨rfl, H8⟩
  · have e : d0.flush = (20, d0) := if_pos hoff
    rw [e]
    rw [hoff] at d5
    have HO := Lib.hid hoff; clear hoff e
    go_enter Try.func18, Try.ntmps18
    go_wp2_with (fail)
    go_ret
    exact ⟨rfl, H⟩
theorem rnew_bad (n : Int) (h : n < 1 ∨ 1026 < n) {w0 w : World} {F : List Assn} (H : St w0 w F) :
    Calls Try.prog 15 #[.int .i64 n] w fun r w' => r = .returned (.pointer none) ∧ St w0 w' F := by
  by_cases h1 : n < 1
  · clear h
    go_enter Try.func15, Try.ntmps15
    go_wp2_with (fail)
    go_ret
    exact ⟨rfl, H⟩
  · have h1' : decide (n < 1) = false := decide_eq_false h1
    have h2 : 1026 < n := by omega
    clear h
    go_enter Try.func15, Try.ntmps15
    go_wp2_with (fail)
    go_ret
    exact ⟨rfl, H⟩
theorem blank_snoc (k : Nat) : strs ((blank (k + 1)).map full) = strs ((blank k).map full) ++ [.string (full ⟨#[]⟩)] := by
  unfold blank strs
  rw [List.replicate_succ', List.map_append, List.map_append]; rfl
set_option maxHeartbeats 2000000 in
theorem rnew_ok (n : Nat) (h1 : 1 ≤ n) (h2 : n ≤ 1026) {w0 w : World} {F : List Assn} (H : St w0 w F) :
    Calls Try.prog 15 #[.int .i64 n] w fun r w' => ∃ b, r = .returned (.pointer (some ⟨b, 0, none⟩)) ∧ St w0 w' (Rdk b (DS.new n) :: F) := by
  obtain ⟨i1, hj, hy0, hy1, hy2⟩ := info_parts infoStr
  have e1 : decide ((n : Int) < 1) = false := decide_eq_false (by omega)
  have e2 : decide (1026 < (n : Int)) = false := decide_eq_false (by omega)
  have e3 : decide (n < 1) = false := decide_eq_false (by omega)
  have e4 : decide (1026 < n) = false := decide_eq_false (by omega)
  have H0 := H.alloc #[.slice none 0 0, .slice none 0 0, .slice none 0 0, .int .i64 0, .int .i64 0, .bool false, .int .i64 0, .int .i64 0] 51
  go_enter Try.func15, Try.ntmps15
  go_wp2_with (fail)
  obtain ⟨b, hb⟩ : ∃ b, b = w.heap.size := ⟨_, rfl⟩
  rw [← hb] at H0 ⊢
  clear hb
  go_loopw [4] (fun i wr => ∃ k : Nat, k ≤ n ∧ i = .int .i64 k ∧ ∃ A1 c1, St w0 wr (Pt b #[.slice A1 k c1, .slice none 0 0, .slice none 0 0, .int .i64 0, .int .i64 0, .bool false, .int .i64 0, .int .i64 0] 51 :: Row 9 1 A1 k c1 (strs ((blank k).map full)) :: F)) (fun i _ => n - (intOf i).toNat)
  case atStart => exact ⟨0, Nat.zero_le _, rfl, none, 0, (H0.nilRow 9 1).r2⟩
  case round =>
    obtain ⟨k, hk, rfl, A1, c1, H3⟩ := hrel
    have HSN := Lib.hid (blank_snoc k)
    by_cases hlt : k < n
    · have hkI : (k : Int) < n := by omega
      go_wp2_with (fail)
      refine wp_region_held_drew (S := fun _ => True) (by kernel_rfl) trivial (fun hHeld => ?_)
      have H6 := H3.drew
      generalize wr.drew = w6 at *
      refine rg_take (i := 0) (v := ?_) rfl (by kernel_rfl) (by kernel_rfl) (by kernel_rfl) (fun _ _ _ h => h) (Or.inl ⟨by kernel_rfl, ?_⟩) (by assumption) ?_
      rotate_left 1
      · intro w' hSw
        try dsimp only at hSw
        go_simp
        first | done | with_reducible rfl
      try simp only [Act.put, List.setIfInBounds_toArray, List.set_cons_zero, List.set_cons_succ]
      refine rg_take (i := 1) (v := ?_) rfl (by kernel_rfl) (by kernel_rfl) (by kernel_rfl) (fun _ _ _ h => h) (Or.inl ⟨by kernel_rfl, ?_⟩) (by assumption) ?_
      rotate_left 1
      · intro w' hSw
        try dsimp only at hSw
        go_simp
        first | done | with_reducible rfl
      try simp only [Act.put, List.setIfInBounds_toArray, List.set_cons_zero, List.set_cons_succ]
      refine rg_take (i := 2) (v := ?_) rfl (by kernel_rfl) (by kernel_rfl) (by kernel_rfl) (fun _ _ _ h => h) (Or.inl ⟨by kernel_rfl, ?_⟩) (by assumption) ?_
      rotate_left 1
      · intro w' hSw
        try dsimp only at hSw
        go_simp
        first | done | with_reducible rfl
      try simp only [Act.put, List.setIfInBounds_toArray, List.set_cons_zero, List.set_cons_succ]
      refine rg_take (i := 3) (v := ?_) rfl (by kernel_rfl) (by kernel_rfl) (by kernel_rfl) (fun _ _ _ h => h) (Or.inl ⟨by kernel_rfl, ?_⟩) (by assumption) ?_
      rotate_left 1
      · intro w' hSw
        try dsimp only at hSw
        go_simp
        first | done | with_reducible rfl
      try simp only [Act.put, List.setIfInBounds_toArray, List.set_cons_zero, List.set_cons_succ]
      refine wpAnyH_ready (rs := [4, 5]) (by kernel_rfl) (by simp) ?_
      refine rg_cons rfl (fun K hK => ?_) (rg_cons rfl (fun K hK => ?_) AllReadyH.nil)
      · as_aux_lemma =>
        have p2 := H6.cell 0 rfl
        go_simp
        refine hK.out _ _ trivial (fun hHeld => ?_)
        clear p2
        clear hK
        try simp only [Act.put, List.setIfInBounds_toArray, List.set_cons_zero, List.set_cons_succ]
        refine wpAnyH_ready (rs := [5]) (by kernel_rfl) (by simp) ?_
        refine rg_cons rfl (fun K hK => ?_) AllReadyH.nil
        have hfl := full_ok ⟨#[]⟩ (by decide) H6
        go_simp
        refine hfl.mono ?_
        clear hfl
        rintro e w7 ⟨rfl, H7⟩
        refine hK.out _ _ trivial (fun hHeld => ?_)
        clear hK
        try simp only [Act.put, List.setIfInBounds_toArray, List.set_cons_zero, List.set_cons_succ]
        refine wpAnyH_ready (rs := [6]) (by kernel_rfl) (by simp) ?_
        refine rg_cons rfl (fun K hK => ?_) AllReadyH.nil
        have H8 := H7.more (.cells #[.string (full ⟨#[]⟩)] 9)
        have hnw : (w7.alloc (.cells #[.string (full ⟨#[]⟩)] 9)).heap[w7.heap.size]? = some (.cells #[.string (full ⟨#[]⟩)] 9) := heap_alloc_new _ _
        go_simp
        refine hK.out _ _ trivial (fun hHeld => ?_)
        generalize w7.heap.size = x8 at *
        generalize w7.alloc (.cells #[.string (full ⟨#[]⟩)] 9) = w8 at *
        clear hK
        try simp only [Act.put, List.setIfInBounds_toArray, List.set_cons_zero, List.set_cons_succ]
        refine wpAnyH_ready (rs := [7]) (by kernel_rfl) (by simp) ?_
        refine rg_cons rfl (fun K hK => ?_) AllReadyH.nil
        have hnws := World.news_of_block hnw
        refine step_append_st rfl _ _ _ rfl 9 i1 (.string ByteArray.empty) 1 16 Try.underlying22 hj hy0 hy1 hy2 rfl (by decide) A1 k c1 (strs ((blank k).map full)) (H8.r2) rfl ⟨x8, 0, none⟩ 1 1 [.string (full ⟨#[]⟩)] rfl rfl hnws (fun u hu => by simp at hu; rcases hu with rfl; rfl) (by unfold maxLen; omega) (by omega) ?_
        intro A5 c5 w9 H9
        rw [← HSN.out] at H9
        refine hK.out _ _ trivial (fun hHeld => ?_)
        clear hK
        try simp only [Act.put, List.setIfInBounds_toArray, List.set_cons_zero, List.set_cons_succ]
        refine rg_take (i := 8) (v := ?_) rfl (by kernel_rfl) (by kernel_rfl) (by kernel_rfl) (fun _ _ _ h => h) (Or.inl ⟨by kernel_rfl, ?_⟩) (by assumption) ?_
        rotate_left 1
        · intro w' hSw
          try dsimp only at hSw
          go_simp
          first | done | with_reducible rfl
        try simp only [Act.put, List.setIfInBounds_toArray, List.set_cons_zero, List.set_cons_succ]
        refine rg_take (i := 9) (v := ?_) rfl (by kernel_rfl) (by kernel_rfl) (by kernel_rfl) (fun _ _ _ h => h) (Or.inl ⟨by kernel_rfl, ?_⟩) (by assumption) ?_
        rotate_left 1
        · intro w' hSw
          try dsimp only at hSw
          go_simp
          first | done | with_reducible rfl
        try simp only [Act.put, List.setIfInBounds_toArray, List.set_cons_zero, List.set_cons_succ]
        refine wpAnyH_ready (rs := [10]) (by kernel_rfl) (by simp) ?_
        refine rg_cons rfl (fun K hK => ?_) AllReadyH.nil
        have p2 := H9.r2.cell 0 rfl
        have f2 := H9.r2.frozen 0
        have H10 := H9.r2.set 0 (.slice A5 (k + 1) c5)
        go_simp
        refine hK.out _ _ trivial (fun hHeld => ?_)
        clear hK
        try simp only [Act.put, List.setIfInBounds_toArray, List.set_cons_zero, List.set_cons_succ]
        refine wpAnyH_done (by kernel_rfl) ?_ _
        go_wp2_with (fail)
        go_roundw
        case rel => exact ⟨k + 1, by omega, by go_num, A5, c5, H10⟩
        case measure => simp [intOf]; omega
      · as_aux_lemma =>
        have hfl := full_ok ⟨#[]⟩ (by decide) H6
        go_simp
        refine hfl.mono ?_
        clear hfl
        rintro e w7 ⟨rfl, H7⟩
        refine hK.out _ _ trivial (fun hHeld => ?_)
        clear hK
        try simp only [Act.put, List.setIfInBounds_toArray, List.set_cons_zero, List.set_cons_succ]
        refine wpAnyH_ready (rs := [4, 6]) (by kernel_rfl) (by simp) ?_
        refine rg_cons rfl (fun K hK => ?_) (rg_cons rfl (fun K hK => ?_) AllReadyH.nil)
        · have p2 := H7.cell 0 rfl
          go_simp
          refine hK.out _ _ trivial (fun hHeld => ?_)
          clear p2
          clear hK
          try simp only [Act.put, List.setIfInBounds_toArray, List.set_cons_zero, List.set_cons_succ]
          refine wpAnyH_ready (rs := [6]) (by kernel_rfl) (by simp) ?_
          refine rg_cons rfl (fun K hK => ?_) AllReadyH.nil
          have H8 := H7.more (.cells #[.string (full ⟨#[]⟩)] 9)
          have hnw : (w7.alloc (.cells #[.string (full ⟨#[]⟩)] 9)).heap[w7.heap.size]? = some (.cells #[.string (full ⟨#[]⟩)] 9) := heap_alloc_new _ _
          go_simp
          refine hK.out _ _ trivial (fun hHeld => ?_)
          generalize w7.heap.size = x8 at *
          generalize w7.alloc (.cells #[.string (full ⟨#[]⟩)] 9) = w8 at *
          clear hK
          try simp only [Act.put, List.setIfInBounds_toArray, List.set_cons_zero, List.set_cons_succ]
          refine wpAnyH_ready (rs := [7]) (by kernel_rfl) (by simp) ?_
          refine rg_cons rfl (fun K hK => ?_) AllReadyH.nil
          have hnws := World.news_of_block hnw
          refine step_append_st rfl _ _ _ rfl 9 i1 (.string ByteArray.empty) 1 16 Try.underlying22 hj hy0 hy1 hy2 rfl (by decide) A1 k c1 (strs ((blank k).map full)) (H8.r2) rfl ⟨x8, 0, none⟩ 1 1 [.string (full ⟨#[]⟩)] rfl rfl hnws (fun u hu => by simp at hu; rcases hu with rfl; rfl) (by unfold maxLen; omega) (by omega) ?_
          intro A5 c5 w9 H9
          rw [← HSN.out] at H9
          refine hK.out _ _ trivial (fun hHeld => ?_)
          clear hK
          try simp only [Act.put, List.setIfInBounds_toArray, List.set_cons_zero, List.set_cons_succ]
          refine rg_take (i := 8) (v := ?_) rfl (by kernel_rfl) (by kernel_rfl) (by kernel_rfl) (fun _ _ _ h => h) (Or.inl ⟨by kernel_rfl, ?_⟩) (by assumption) ?_
          rotate_left 1
          · intro w' hSw
            try dsimp only at hSw
            go_simp
            first | done | with_reducible rfl
          try simp only [Act.put, List.setIfInBounds_toArray, List.set_cons_zero, List.set_cons_succ]
          refine rg_take (i := 9) (v := ?_) rfl (by kernel_rfl) (by kernel_rfl) (by kernel_rfl) (fun _ _ _ h => h) (Or.inl ⟨by kernel_rfl, ?_⟩) (by assumption) ?_
          rotate_left 1
          · intro w' hSw
            try dsimp only at hSw
            go_simp
            first | done | with_reducible rfl
          try simp only [Act.put, List.setIfInBounds_toArray, List.set_cons_zero, List.set_cons_succ]
          refine wpAnyH_ready (rs := [10]) (by kernel_rfl) (by simp) ?_
          refine rg_cons rfl (fun K hK => ?_) AllReadyH.nil
          have p2 := H9.r2.cell 0 rfl
          have f2 := H9.r2.frozen 0
          have H10 := H9.r2.set 0 (.slice A5 (k + 1) c5)
          go_simp
          refine hK.out _ _ trivial (fun hHeld => ?_)
          clear hK
          try simp only [Act.put, List.setIfInBounds_toArray, List.set_cons_zero, List.set_cons_succ]
          refine wpAnyH_done (by kernel_rfl) ?_ _
          go_wp2_with (fail)
          go_roundw
          case rel => exact ⟨k + 1, by omega, by go_num, A5, c5, H10⟩
          case measure => simp [intOf]; omega
        · have H8 := H7.more (.cells #[.string (full ⟨#[]⟩)] 9)
          have hnw : (w7.alloc (.cells #[.string (full ⟨#[]⟩)] 9)).heap[w7.heap.size]? = some (.cells #[.string (full ⟨#[]⟩)] 9) := heap_alloc_new _ _
          go_simp
          refine hK.out _ _ trivial (fun hHeld => ?_)
          generalize w7.heap.size = x8 at *
          generalize w7.alloc (.cells #[.string (full ⟨#[]⟩)] 9) = w8 at *
          clear hK
          try simp only [Act.put, List.setIfInBounds_toArray, List.set_cons_zero, List.set_cons_succ]
          refine wpAnyH_ready (rs := [4]) (by kernel_rfl) (by simp) ?_
          refine rg_cons rfl (fun K hK => ?_) AllReadyH.nil
          have p2 := H8.cell 0 rfl
          go_simp
          refine hK.out _ _ trivial (fun hHeld => ?_)
          clear p2
          clear hK
          try simp only [Act.put, List.setIfInBounds_toArray, List.set_cons_zero, List.set_cons_succ]
          refine wpAnyH_ready (rs := [7]) (by kernel_rfl) (by simp) ?_
          refine rg_cons rfl (fun K hK => ?_) AllReadyH.nil
          have hnws := World.news_of_block hnw
          refine step_append_st rfl _ _ _ rfl 9 i1 (.string ByteArray.empty) 1 16 Try.underlying22 hj hy0 hy1 hy2 rfl (by decide) A1 k c1 (strs ((blank k).map full)) (H8.r2) rfl ⟨x8, 0, none⟩ 1 1 [.string (full ⟨#[]⟩)] rfl rfl hnws (fun u hu => by simp at hu; rcases hu with rfl; rfl) (by unfold maxLen; omega) (by omega) ?_
          intro A5 c5 w9 H9
          rw [← HSN.out] at H9
          refine hK.out _ _ trivial (fun hHeld => ?_)
          clear hK
          try simp only [Act.put, List.setIfInBounds_toArray, List.set_cons_zero, List.set_cons_succ]
          refine rg_take (i := 8) (v := ?_) rfl (by kernel_rfl) (by kernel_rfl) (by kernel_rfl) (fun _ _ _ h => h) (Or.inl ⟨by kernel_rfl, ?_⟩) (by assumption) ?_
          rotate_left 1
          · intro w' hSw
            try dsimp only at hSw
            go_simp
            first | done | with_reducible rfl
          try simp only [Act.put, List.setIfInBounds_toArray, List.set_cons_zero, List.set_cons_succ]
          refine rg_take (i := 9) (v := ?_) rfl (by kernel_rfl) (by kernel_rfl) (by kernel_rfl) (fun _ _ _ h => h) (Or.inl ⟨by kernel_rfl, ?_⟩) (by assumption) ?_
          rotate_left 1
          · intro w' hSw
            try dsimp only at hSw
            go_simp
            first | done | with_reducible rfl
          try simp only [Act.put, List.setIfInBounds_toArray, List.set_cons_zero, List.set_cons_succ]
          refine wpAnyH_ready (rs := [10]) (by kernel_rfl) (by simp) ?_
          refine rg_cons rfl (fun K hK => ?_) AllReadyH.nil
          have p2 := H9.r2.cell 0 rfl
          have f2 := H9.r2.frozen 0
          have H10 := H9.r2.set 0 (.slice A5 (k + 1) c5)
          go_simp
          refine hK.out _ _ trivial (fun hHeld => ?_)
          clear hK
          try simp only [Act.put, List.setIfInBounds_toArray, List.set_cons_zero, List.set_cons_succ]
          refine wpAnyH_done (by kernel_rfl) ?_ _
          go_wp2_with (fail)
          go_roundw
          case rel => exact ⟨k + 1, by omega, by go_num, A5, c5, H10⟩
          case measure => simp [intOf]; omega
    · obtain rfl : n = k := by omega
      go_wp2_with (fail)
      go_ret
      have H4 := ((H3.nilRow 9 1).nilRow 3 1)
      exact ⟨_, rfl, St.shutR (d := DS.new n) (A2 := none) (A3 := none) (c2 := 0) (c3 := 0) (n2 := 0) (n3 := 0) (x2 := []) (x3 := []) (by simp [DS.new]) (by simp [DS.new]) rfl rfl rfl rfl rfl (H4.ord 4 [2, 3, 0, 1])⟩
end Go.Proofs.Ytmlknjgcfplnlaa

/- Layer 4: what the document's disk does. -/
import Derived.Test.YtmlknjgcfplnlaaSeE
import Derived.OwnWalk
namespace Go.Proofs.Ytmlknjgcfplnlaa
open Go.RowKit

def DS.rtorn (d : DS) : DS := if d.torn.1 = true then d.torn.2.dark else d.torn.2
theorem rdark_ok (b : Nat) (d : DS) {w0 w : World} {F : List Assn} (H : St w0 w (Rdk b (d.lose d.keep) :: F)) : w.cell? ⟨b, 5, none⟩ = some (.bool d.off) ∧ w.frozen? ⟨b, 5, none⟩ = false ∧ St w0 (w.setCell ⟨b, 5, none⟩ (.bool true)) (Rdk b d.dark :: F) := by
  obtain ⟨A1, A2, A3, c1, c2, c3, H1⟩ := H.openR
  exact ⟨H1.cell 5 rfl, H1.frozen 5, (H1.set 5 (.bool true)).shutR rfl rfl rfl rfl rfl rfl rfl⟩
theorem rkeep_cell (b : Nat) (d : DS) {w0 w : World} {F : List Assn} (H : St w0 w (Rdk b d :: F)) : w.cell? ⟨b, 4, none⟩ = some (.int .i64 d.keep) := by
  obtain ⟨A1, A2, A3, c1, c2, c3, H1⟩ := H.openR
  exact H1.cell 4 rfl
theorem rwrote_ok (b : Nat) (d : DS) {w0 w : World} {F : List Assn} (H : St w0 w (Rdk b d :: F)) : w.cell? ⟨b, 6, none⟩ = some (.int .i64 d.wr) ∧ w.frozen? ⟨b, 6, none⟩ = false ∧ St w0 (w.setCell ⟨b, 6, none⟩ (.int .i64 (d.wr + 1))) (Rdk b d.wrote :: F) := by
  obtain ⟨A1, A2, A3, c1, c2, c3, H1⟩ := H.openR
  exact ⟨H1.cell 6 rfl, H1.frozen 6, (H1.set 6 (.int .i64 (d.wr + 1))).shutR rfl rfl rfl rfl rfl rfl rfl⟩
set_option maxHeartbeats 1000000 in
theorem rtorn_ok (b : Nat) (d : DS) (N : Nat) (ok : d.ok N) (hN : N ≤ 1099511627776) {w0 w : World} {F : List Assn} (H : St w0 w (Rdk b d :: F)) :
    Calls Try.prog 29 #[.pointer (some ⟨b, 0, none⟩)] w fun r w' => r = .returned (.bool d.torn.1) ∧ St w0 w' (Rdk b d.rtorn :: F) := by
  obtain ⟨A1, A2, A3, c1, c2, c3, H1⟩ := H.openR
  have hl := ok.left
  have f3 := H1.frozen 3
  have d3 := H1.cell 3 rfl
  by_cases h0 : d.left = 0
  · have e : d.torn = (false, d) := if_pos h0
    have e2 : d.rtorn = d := by unfold DS.rtorn; rw [e]; rfl
    rw [e2, e]
    have hb : d.left < 1 := by omega
    have E := Lib.hid e; have E2 := Lib.hid e2; have H0 := Lib.hid h0; clear e h0 e2
    go_enter Try.func29, Try.ntmps29
    go_wp2_with (fail)
    go_ret
    exact ⟨rfl, H⟩
  · have okt := ok.ok_torn
    have e : d.torn = (decide (d.left = 1), { d with left := d.left - 1 }) := if_neg h0
    have hb : decide (d.left < 1) = false := decide_eq_false (by omega)
    have H2 := H1.set 3 (.int .i64 (d.left - 1))
    have d3' := H2.cell 3 rfl
    have H3 : St w0 (w.setCell ⟨b, 3, none⟩ (.int .i64 (d.left - 1))) (Rdk b { d with left := d.left - 1 } :: F) := H2.shutR rfl rfl rfl rfl rfl rfl rfl
    by_cases hl1 : d.left = 1
    · have e2 : d.torn = (true, { d with left := d.left - 1 }) := by rw [e, decide_eq_true hl1]
      have e3 : d.rtorn = ({ d with left := d.left - 1 } : DS).dark := by unfold DS.rtorn; rw [e2]; exact if_pos rfl
      rw [e2] at okt
      rw [e3, e2]
      have hr : decide (0 < d.left - 1) = false := decide_eq_false (by omega)
      have hr2 : decide (1 < d.left) = false := decide_eq_false (by omega)
      have E := Lib.hid e; have H0 := Lib.hid h0; have E2 := Lib.hid e2; have E3 := Lib.hid e3; have HL := Lib.hid hl1; clear e h0 e2 e3 hl1
      generalize ({ d with left := d.left - 1 } : DS) = d7 at *
      go_enter Try.func29, Try.ntmps29
      go_upto_region 6 with (fail)
      generalize w.setCell ⟨b, 3, none⟩ (.int .i64 (d.left - 1)) = w3 at *
      clear d3 d3' f3 H2 H1
      have q0 := rkeep_cell b d7 H3
      go_wp2_with (fail)
      refine (rlose_ok b d7 d7.keep N okt hN H3).mono ?_
      rintro e w8 ⟨rfl, H9⟩
      obtain ⟨q1, q2, H10⟩ := rdark_ok b d7 H9
      go_wp2_with (fail)
      go_ret
      exact ⟨rfl, H10⟩
    · have e2 : d.torn = (false, { d with left := d.left - 1 }) := by rw [e, decide_eq_false hl1]
      have e3 : d.rtorn = { d with left := d.left - 1 } := by unfold DS.rtorn; rw [e2]; rfl
      rw [e3, e2]
      have hr : 0 < d.left - 1 := by omega
      have hr2 : 1 < d.left := by omega
      have E := Lib.hid e; have H0 := Lib.hid h0; have E2 := Lib.hid e2; have E3 := Lib.hid e3; have HL := Lib.hid hl1; clear e h0 e2 e3 hl1
      go_enter Try.func29, Try.ntmps29
      go_wp2_with (fail)
      go_ret
      exact ⟨rfl, H3⟩
theorem set_getD (L : List ByteArray) (n i : Nat) (s : ByteArray) (h : i < L.length) : (L.set n s).getD i ByteArray.empty = if n = i then s else L.getD i ByteArray.empty := by
  rw [List.getD_eq_getElem?_getD, List.getElem?_set, List.getD_eq_getElem?_getD]
  by_cases e : n = i
  · rw [if_pos e, if_pos (by omega), if_pos e]; rfl
  · rw [if_neg e, if_neg e]
set_option maxHeartbeats 1000000 in
theorem rnow_ok (b : Nat) (d : DS) (k : Nat) (hk : k < d.las.length) (N : Nat) (ok : d.ok N) (hN : N ≤ 1099511627776) {w0 w : World} {F : List Assn} (H : St w0 w (Rdk b d :: F)) :
    Calls Try.prog 24 #[.pointer (some ⟨b, 0, none⟩), .int .i64 k] w fun r w' => r = .returned (.string (full (d.now.getD k ByteArray.empty))) ∧ w' = w := by
  obtain ⟨A1, A2, A3, c1, c2, c3, H3⟩ := H.openR
  have d0 := H3.cell 0 rfl
  have d1 := H3.cell 1 rfl
  have d2 := H3.cell 2 rfl
  have hql := ok.ql
  obtain ⟨y, hy⟩ : ∃ y, d.las[k]? = some y := ⟨_, List.getElem?_eq_getElem hk⟩
  obtain ⟨g1, o1, hA⟩ := (H3.r2).row_form (by omega)
  subst hA
  have a3 := H3.r2.row_cell k (fulls_get hy)
  have hkI : (k : Int) < d.las.length := by omega
  have hat : y = (lz (fun _ => true) d.q d.las 0).getD k ByteArray.empty := by rw [List.getD_eq_getElem?_getD]; show y = (d.las[k]?).getD _; rw [hy]; rfl
  have hlen := fun j => lz_length (fun _ => true) d.q d.las j
  obtain ⟨z, hz⟩ : ∃ z, z = d.now.getD k ByteArray.empty := ⟨_, rfl⟩
  rw [← hz]
  obtain ⟨m, hm⟩ : ∃ m, m = d.q.length := ⟨_, rfl⟩
  rw [← hm] at hql d1 d2 H3
  have HM := Lib.hid hm; have HZ := Lib.hid hz; have HAT := Lib.hid hat; have HL := Lib.hid hlen; clear hm hz hat hy hlen
  go_enter Try.func24, Try.ntmps24
  go_wp2_with (fail)
  go_loop [5, 6] (fun s i => ∃ j : Nat, j ≤ m ∧ i = .int .i64 j ∧ ∃ y, s = .string (full y) ∧ y = (lz (fun _ => true) d.q d.las j).getD k ByteArray.empty) (fun _ i => m - (intOf i).toNat)
  case atStart => exact ⟨0, Nat.zero_le _, rfl, y, rfl, HAT.out⟩
  case round =>
    obtain ⟨j, hj, rfl, v, rfl, hv⟩ := hrel
    have HV := Lib.hid hv; clear hv
    by_cases hlt : j < m
    · obtain ⟨p, hp⟩ : ∃ p, d.q[j]? = some p := ⟨_, List.getElem?_eq_getElem (by rw [← HM.out]; exact hlt)⟩
      obtain ⟨n, s⟩ := p
      have hnx := lz_yes (f := fun _ => true) (las := d.las) hp rfl
      have hng := set_getD (lz (fun _ => true) d.q d.las j) n k s (by rw [HL.out]; exact hk)
      rw [← hnx, ← HV.out] at hng
      obtain ⟨g2, o2, hA⟩ := (H3.r3).row_form (by omega)
      subst hA
      obtain ⟨g3, o3, hA⟩ := (H3.r4).row_form (by omega)
      subst hA
      have q0 := H3.r3.row_cell j (plV_get hp)
      have q1 := H3.r4.row_cell j (txV_get hp)
      have hjI : (j : Int) < m := by omega
      have HNG := Lib.hid hng; clear hng hnx hp
      by_cases hnk : n = k
      · subst hnk
        have hb : ((n : Int) == (n : Int)) = true := by simp
        go_wp2_with (fail)
        go_round
        case rel => exact ⟨j + 1, by omega, by go_num, s, rfl, by rw [HNG.out, if_pos rfl]⟩
        case measure => simp [intOf]; omega
      · have hb : ((n : Int) == (k : Int)) = false := by rw [beq_eq_false_iff_ne]; omega
        have HNK := Lib.hid hnk; clear hnk
        go_wp2_with (fail)
        go_round
        case rel => exact ⟨j + 1, by omega, by go_num, v, rfl, by rw [HNG.out, if_neg HNK.out]⟩
        case measure => simp [intOf]; omega
    · obtain rfl : m = j := by omega
      go_wp2_with (fail)
      go_ret
      rw [HZ.out, HV.out]
      unfold DS.now
      rw [← HM.out]
      exact ⟨rfl, rfl⟩
set_option maxHeartbeats 1000000 in
theorem rread_ok (b : Nat) (d : DS) (n : Int) (N : Nat) (ok : d.ok N) (hN : N ≤ 1099511627776) {w0 w : World} {F : List Assn} (H : St w0 w (Rdk b d :: F)) :
    Calls Try.prog 17 #[.pointer (some ⟨b, 0, none⟩), .int .i64 n] w fun r w' => r = .returned (.tuple #[.string (d.read n).1, .int .i64 (d.read n).2]) ∧ w' = w := by
  obtain ⟨A1, A2, A3, c1, c2, c3, H1⟩ := H.openR
  have d0 := H1.cell 0 rfl
  have d5 := H1.cell 5 rfl
  by_cases hbad : n < 0 ∨ (d.las.length : Int) ≤ n
  · have e : d.read n = (ByteArray.empty, 1) := if_pos hbad
    rw [e]; clear e
    by_cases h0 : n < 0
    · clear hbad
      go_enter Try.func17, Try.ntmps17
      go_wp2_with (fail)
      go_ret2
      exact ⟨rfl, rfl⟩
    · have h0' : decide (n < 0) = false := decide_eq_false h0
      have h2 : (d.las.length : Int) ≤ n := by omega
      clear hbad
      go_enter Try.func17, Try.ntmps17
      go_wp2_with (fail)
      go_ret2
      exact ⟨rfl, rfl⟩
  · have h0' : decide (n < 0) = false := decide_eq_false (by omega)
    have h2' : decide ((d.las.length : Int) ≤ n) = false := decide_eq_false (by omega)
    obtain ⟨k, rfl⟩ : ∃ k : Nat, n = k := ⟨n.toNat, by omega⟩
    have hk : k < d.las.length := by omega
    have hkn : decide (d.las.length ≤ k) = false := decide_eq_false (by omega)
    cases hoff : d.off
    · have e : d.read k = (full (d.now.getD k ByteArray.empty), 0) := by
        unfold DS.read
        rw [if_neg hbad, if_neg (by rw [hoff]; decide)]; rfl
      rw [e]
      rw [hoff] at d5
      have HO := Lib.hid hoff; have HE := Lib.hid e; clear hoff e hbad
      go_enter Try.func17, Try.ntmps17
      go_wp2_with (fail)
      refine (rnow_ok b d k hk N ok hN H).mono ?_
      rintro e w1 ⟨rfl, rfl⟩
      go_wp2_with (fail)
      go_ret2
      exact ⟨rfl, rfl⟩
    · have e : d.read k = (ByteArray.empty, 20) := by
        unfold DS.read
        rw [if_neg hbad, if_pos hoff]
      rw [e]
      rw [hoff] at d5
      have HO := Lib.hid hoff; clear hoff e hbad
      go_enter Try.func17, Try.ntmps17
      go_wp2_with (fail)
      go_ret2
      exact ⟨rfl, rfl⟩
set_option maxHeartbeats 2000000 in
theorem rwrite_ok (b : Nat) (d : DS) (n : Int) (s : ByteArray) (N : Nat) (ok : d.ok N) (hN : N ≤ 549755813888) (hs : s.size ≤ 1099511627776) {w0 w : World} {F : List Assn} (H : St w0 w (Rdk b d :: F)) :
    Calls Try.prog 16 #[.pointer (some ⟨b, 0, none⟩), .int .i64 n, .string s] w fun r w' => r = .returned (.int .i64 (d.write n s).1) ∧ St w0 w' (Rdk b (d.write n s).2 :: F) := by
  obtain ⟨i0, hi, hz0, hz1, hz2⟩ := info_parts infoInt
  obtain ⟨i1, hj, hy0, hy1, hy2⟩ := info_parts infoStr
  obtain ⟨A1, A2, A3, c1, c2, c3, H1⟩ := H.openR
  have d0 := H1.cell 0 rfl
  have d5 := H1.cell 5 rfl
  by_cases hbad : n < 0 ∨ (d.las.length : Int) ≤ n ∨ 256 < s.size
  · have e : d.write n s = (1, d) := if_pos hbad
    rw [e]; clear e
    by_cases h0 : n < 0
    · clear hbad
      go_enter Try.func16, Try.ntmps16
      go_wp2_with (fail)
      go_ret
      exact ⟨rfl, H⟩
    · have h0' : decide (n < 0) = false := decide_eq_false h0
      by_cases h2 : (d.las.length : Int) ≤ n
      · clear hbad
        go_enter Try.func16, Try.ntmps16
        go_wp2_with (fail)
        go_ret
        exact ⟨rfl, H⟩
      · have h2' : decide ((d.las.length : Int) ≤ n) = false := decide_eq_false h2
        have h3 : (256 : Int) < s.size := by omega
        clear hbad
        go_enter Try.func16, Try.ntmps16
        go_wp2_with (fail)
        go_ret
        exact ⟨rfl, H⟩
  · have h0' : decide (n < 0) = false := decide_eq_false (by omega)
    have h2' : decide ((d.las.length : Int) ≤ n) = false := decide_eq_false (by omega)
    have h3' : decide ((256 : Int) < s.size) = false := decide_eq_false (by omega)
    obtain ⟨k, rfl⟩ : ∃ k : Nat, n = k := ⟨n.toNat, by omega⟩
    have hk : k < d.las.length := by omega
    have hkn : decide (d.las.length ≤ k) = false := decide_eq_false (by omega)
    have hs2 : s.size ≤ 256 := by omega
    cases hoff : d.off
    · have e : d.write k s = if (d.push k s).torn.1 = true then (20, (d.push k s).torn.2.dark) else (0, (d.push k s).torn.2.wrote) := by
        unfold DS.write
        rw [if_neg hbad, if_neg (by rw [hoff]; decide)]; rfl
      rw [hoff] at d5
      have okp := ok.ok_push k s hk hs2
      have hql := ok.ql
      have hkI : (k : Int) < d.las.length := by omega
      have hps := plV_snoc d.q (k, s)
      have hts := txV_snoc d.q (k, s)
      have HE := Lib.hid e; have HO := Lib.hid hoff; have HPS := Lib.hid hps; have HTS := Lib.hid hts; clear e hoff hps hts hbad
      have d1 := H1.cell 1 rfl
      go_enter Try.func16, Try.ntmps16
      go_upto_region 6 with (at_builtin; refine wpList_append_st (by rfl) _ _ _ (by rfl) 3 i0 (.int .i64 0) 1 8 Try.underlying49 hi hz0 hz1 hz2 rfl (by decide) A2 d.q.length c2 (plV d.q) ((H1.more _).r3) (by rfl) ⟨_, 0, none⟩ 1 1 [.int .i64 k] (by rfl) rfl (World.news_of_block (heap_alloc_new _ _)) (fun u hu => by simp at hu; rcases hu with rfl; rfl) (by unfold maxLen; omega) (by omega) ?_; intro A4 c4 w4 H4; have p2 := H4.r2.cell 1 rfl; have f2 := H4.r2.frozen 1)
      rw [← HPS.out] at H4
      have H5 := H4.r2.set 1 (.slice A4 (d.q.length + 1) c4)
      generalize w4.setCell ⟨b, 1, none⟩ (.slice A4 (d.q.length + 1) c4) = w5 at *
      clear d0 d1 d5 p2 f2 H4
      refine wp_region_held_drew (S := fun _ => True) (by kernel_rfl) trivial (fun hHeld => ?_)
      have H6 := H5.drew
      generalize w5.drew = w6 at *
      refine rg_take (i := 0) (v := ?_) rfl (by kernel_rfl) (by kernel_rfl) (by kernel_rfl) (fun _ _ _ h => h) (Or.inl ⟨by kernel_rfl, ?_⟩) (by assumption) ?_
      rotate_left 1
      · intro w' hSw
        try dsimp only at hSw
        go_simp
        first | done | with_reducible rfl
      try simp only [Act.put, List.setIfInBounds_toArray, List.set_cons_zero, List.set_cons_succ]
      refine rg_take (i := 1) (v := ?_) rfl (by kernel_rfl) (by kernel_rfl) (by kernel_rfl) (fun _ _ _ h => h) (Or.inl ⟨by kernel_rfl, ?_⟩) (by assumption) ?_
      rotate_left 1
      · intro w' hSw
        try dsimp only at hSw
        go_simp
        first | done | with_reducible rfl
      try simp only [Act.put, List.setIfInBounds_toArray, List.set_cons_zero, List.set_cons_succ]
      refine rg_take (i := 2) (v := ?_) rfl (by kernel_rfl) (by kernel_rfl) (by kernel_rfl) (fun _ _ _ h => h) (Or.inl ⟨by kernel_rfl, ?_⟩) (by assumption) ?_
      rotate_left 1
      · intro w' hSw
        try dsimp only at hSw
        go_simp
        first | done | with_reducible rfl
      try simp only [Act.put, List.setIfInBounds_toArray, List.set_cons_zero, List.set_cons_succ]
      refine rg_take (i := 3) (v := ?_) rfl (by kernel_rfl) (by kernel_rfl) (by kernel_rfl) (fun _ _ _ h => h) (Or.inl ⟨by kernel_rfl, ?_⟩) (by assumption) ?_
      rotate_left 1
      · intro w' hSw
        try dsimp only at hSw
        go_simp
        first | done | with_reducible rfl
      try simp only [Act.put, List.setIfInBounds_toArray, List.set_cons_zero, List.set_cons_succ]
      refine rg_take (i := 5) (v := ?_) rfl (by kernel_rfl) (by kernel_rfl) (by kernel_rfl) (fun _ _ _ h => h) (Or.inl ⟨by kernel_rfl, ?_⟩) (by assumption) ?_
      rotate_left 1
      · intro w' hSw
        try dsimp only at hSw
        go_simp
        first | done | with_reducible rfl
      try simp only [Act.put, List.setIfInBounds_toArray, List.set_cons_zero, List.set_cons_succ]
      refine wpAnyH_ready (rs := [4, 6]) (by kernel_rfl) (by simp) ?_
      refine rg_cons rfl (fun K hK => ?_) (rg_cons rfl (fun K hK => ?_) AllReadyH.nil)
      · as_aux_lemma =>
        have p2 := H6.cell 2 rfl
        go_simp
        refine hK.out _ _ trivial (fun hHeld => ?_)
        clear p2
        clear hK
        try simp only [Act.put, List.setIfInBounds_toArray, List.set_cons_zero, List.set_cons_succ]
        refine wpAnyH_ready (rs := [6]) (by kernel_rfl) (by simp) ?_
        refine rg_cons rfl (fun K hK => ?_) AllReadyH.nil
        have hfl := full_ok s hs H6
        go_simp
        refine hfl.mono ?_
        clear hfl
        rintro e w7 ⟨rfl, H7⟩
        refine hK.out _ _ trivial (fun hHeld => ?_)
        clear hK
        try simp only [Act.put, List.setIfInBounds_toArray, List.set_cons_zero, List.set_cons_succ]
        refine wpAnyH_ready (rs := [7]) (by kernel_rfl) (by simp) ?_
        refine rg_cons rfl (fun K hK => ?_) AllReadyH.nil
        have H8 := H7.more (.cells #[.string (full s)] 9)
        have hnw : (w7.alloc (.cells #[.string (full s)] 9)).heap[w7.heap.size]? = some (.cells #[.string (full s)] 9) := heap_alloc_new _ _
        go_simp
        refine hK.out _ _ trivial (fun hHeld => ?_)
        generalize w7.heap.size = x8 at *
        generalize w7.alloc (.cells #[.string (full s)] 9) = w8 at *
        clear hK
        try simp only [Act.put, List.setIfInBounds_toArray, List.set_cons_zero, List.set_cons_succ]
        refine wpAnyH_ready (rs := [8]) (by kernel_rfl) (by simp) ?_
        refine rg_cons rfl (fun K hK => ?_) AllReadyH.nil
        have hnws := World.news_of_block hnw
        refine step_append_st rfl _ _ _ rfl 9 i1 (.string ByteArray.empty) 1 16 Try.underlying22 hj hy0 hy1 hy2 rfl (by decide) A3 d.q.length c3 (txV d.q) (H8.r4) rfl ⟨x8, 0, none⟩ 1 1 [.string (full s)] rfl rfl hnws (fun u hu => by simp at hu; rcases hu with rfl; rfl) (by unfold maxLen; omega) (by omega) ?_
        intro A5 c5 w9 H9
        rw [← HTS.out] at H9
        refine hK.out _ _ trivial (fun hHeld => ?_)
        clear hK
        try simp only [Act.put, List.setIfInBounds_toArray, List.set_cons_zero, List.set_cons_succ]
        refine rg_take (i := 9) (v := ?_) rfl (by kernel_rfl) (by kernel_rfl) (by kernel_rfl) (fun _ _ _ h => h) (Or.inl ⟨by kernel_rfl, ?_⟩) (by assumption) ?_
        rotate_left 1
        · intro w' hSw
          try dsimp only at hSw
          go_simp
          first | done | with_reducible rfl
        try simp only [Act.put, List.setIfInBounds_toArray, List.set_cons_zero, List.set_cons_succ]
        refine rg_take (i := 10) (v := ?_) rfl (by kernel_rfl) (by kernel_rfl) (by kernel_rfl) (fun _ _ _ h => h) (Or.inl ⟨by kernel_rfl, ?_⟩) (by assumption) ?_
        rotate_left 1
        · intro w' hSw
          try dsimp only at hSw
          go_simp
          first | done | with_reducible rfl
        try simp only [Act.put, List.setIfInBounds_toArray, List.set_cons_zero, List.set_cons_succ]
        refine wpAnyH_ready (rs := [11]) (by kernel_rfl) (by simp) ?_
        refine rg_cons rfl (fun K hK => ?_) AllReadyH.nil
        have p2 := H9.r2.cell 2 rfl
        have f2 := H9.r2.frozen 2
        have H10 := H9.r2.set 2 (.slice A5 (d.q.length + 1) c5)
        go_simp
        refine hK.out _ _ trivial (fun hHeld => ?_)
        clear hK
        try simp only [Act.put, List.setIfInBounds_toArray, List.set_cons_zero, List.set_cons_succ]
        refine wpAnyH_done (by kernel_rfl) ?_ _
        have H11' := H10.ord 4 [0, 3, 2, 1]
        have H11 : St w0 (w9.setCell ⟨b, 2, none⟩ (.slice A5 (d.q.length + 1) c5)) (Rdk b (d.push k s) :: F) := St.shutR (A1 := A1) (A2 := A4) (A3 := A5) (c1 := c1) (c2 := c4) (c3 := c5) (n2 := d.q.length + 1) (n3 := d.q.length + 1) (by simp [DS.push]) rfl (by simp [DS.push]) (by simp [DS.push]) rfl rfl rfl H11'
        generalize w9.setCell ⟨b, 2, none⟩ (.slice A5 (d.q.length + 1) c5) = w10 at *
        clear p2 f2 H11' H10 H9 H8 H7 H6 H5 hnw hnws H1
        go_wp2_with (fail)
        refine (rtorn_ok b (d.push k s) (N + 1) okp (by omega) H11).mono ?_
        have okt := okp.ok_torn
        have hrt : (d.push k s).rtorn = if (d.push k s).torn.1 = true then (d.push k s).torn.2.dark else (d.push k s).torn.2 := rfl
        have HRT := Lib.hid hrt; clear hrt
        generalize (d.push k s).rtorn = rt at *
        generalize (d.push k s).torn = t at *
        obtain ⟨tb, d7⟩ := t
        dsimp only at *
        rintro e w11 ⟨rfl, H12⟩
        cases tb
        · have hr : rt = d7 := HRT.out.trans (if_neg (by decide))
          have hw : d.write k s = (0, d7.wrote) := HE.out.trans (if_neg (by decide))
          have HW := Lib.hid hw; clear hw
          subst hr
          have hw7 := okt.wr
          obtain ⟨q1, q2, H13⟩ := rwrote_ok b rt H12
          go_wp2_with (fail)
          go_ret
          rw [HW.out]
          exact ⟨rfl, H13⟩
        · have hr : rt = d7.dark := HRT.out.trans (if_pos rfl)
          have hw : d.write k s = (20, d7.dark) := HE.out.trans (if_pos rfl)
          have HW := Lib.hid hw; clear hw
          subst hr
          go_wp2_with (fail)
          go_ret
          rw [HW.out]
          exact ⟨rfl, H12⟩
      · as_aux_lemma =>
        have hfl := full_ok s hs H6
        go_simp
        refine hfl.mono ?_
        clear hfl
        rintro e w7 ⟨rfl, H7⟩
        refine hK.out _ _ trivial (fun hHeld => ?_)
        clear hK
        try simp only [Act.put, List.setIfInBounds_toArray, List.set_cons_zero, List.set_cons_succ]
        refine wpAnyH_ready (rs := [4, 7]) (by kernel_rfl) (by simp) ?_
        refine rg_cons rfl (fun K hK => ?_) (rg_cons rfl (fun K hK => ?_) AllReadyH.nil)
        · have p2 := H7.cell 2 rfl
          go_simp
          refine hK.out _ _ trivial (fun hHeld => ?_)
          clear p2
          clear hK
          try simp only [Act.put, List.setIfInBounds_toArray, List.set_cons_zero, List.set_cons_succ]
          refine wpAnyH_ready (rs := [7]) (by kernel_rfl) (by simp) ?_
          refine rg_cons rfl (fun K hK => ?_) AllReadyH.nil
          have H8 := H7.more (.cells #[.string (full s)] 9)
          have hnw : (w7.alloc (.cells #[.string (full s)] 9)).heap[w7.heap.size]? = some (.cells #[.string (full s)] 9) := heap_alloc_new _ _
          go_simp
          refine hK.out _ _ trivial (fun hHeld => ?_)
          generalize w7.heap.size = x8 at *
          generalize w7.alloc (.cells #[.string (full s)] 9) = w8 at *
          clear hK
          try simp only [Act.put, List.setIfInBounds_toArray, List.set_cons_zero, List.set_cons_succ]
          refine wpAnyH_ready (rs := [8]) (by kernel_rfl) (by simp) ?_
          refine rg_cons rfl (fun K hK => ?_) AllReadyH.nil
          have hnws := World.news_of_block hnw
          refine step_append_st rfl _ _ _ rfl 9 i1 (.string ByteArray.empty) 1 16 Try.underlying22 hj hy0 hy1 hy2 rfl (by decide) A3 d.q.length c3 (txV d.q) (H8.r4) rfl ⟨x8, 0, none⟩ 1 1 [.string (full s)] rfl rfl hnws (fun u hu => by simp at hu; rcases hu with rfl; rfl) (by unfold maxLen; omega) (by omega) ?_
          intro A5 c5 w9 H9
          rw [← HTS.out] at H9
          refine hK.out _ _ trivial (fun hHeld => ?_)
          clear hK
          try simp only [Act.put, List.setIfInBounds_toArray, List.set_cons_zero, List.set_cons_succ]
          refine rg_take (i := 9) (v := ?_) rfl (by kernel_rfl) (by kernel_rfl) (by kernel_rfl) (fun _ _ _ h => h) (Or.inl ⟨by kernel_rfl, ?_⟩) (by assumption) ?_
          rotate_left 1
          · intro w' hSw
            try dsimp only at hSw
            go_simp
            first | done | with_reducible rfl
          try simp only [Act.put, List.setIfInBounds_toArray, List.set_cons_zero, List.set_cons_succ]
          refine rg_take (i := 10) (v := ?_) rfl (by kernel_rfl) (by kernel_rfl) (by kernel_rfl) (fun _ _ _ h => h) (Or.inl ⟨by kernel_rfl, ?_⟩) (by assumption) ?_
          rotate_left 1
          · intro w' hSw
            try dsimp only at hSw
            go_simp
            first | done | with_reducible rfl
          try simp only [Act.put, List.setIfInBounds_toArray, List.set_cons_zero, List.set_cons_succ]
          refine wpAnyH_ready (rs := [11]) (by kernel_rfl) (by simp) ?_
          refine rg_cons rfl (fun K hK => ?_) AllReadyH.nil
          have p2 := H9.r2.cell 2 rfl
          have f2 := H9.r2.frozen 2
          have H10 := H9.r2.set 2 (.slice A5 (d.q.length + 1) c5)
          go_simp
          refine hK.out _ _ trivial (fun hHeld => ?_)
          clear hK
          try simp only [Act.put, List.setIfInBounds_toArray, List.set_cons_zero, List.set_cons_succ]
          refine wpAnyH_done (by kernel_rfl) ?_ _
          have H11' := H10.ord 4 [0, 3, 2, 1]
          have H11 : St w0 (w9.setCell ⟨b, 2, none⟩ (.slice A5 (d.q.length + 1) c5)) (Rdk b (d.push k s) :: F) := St.shutR (A1 := A1) (A2 := A4) (A3 := A5) (c1 := c1) (c2 := c4) (c3 := c5) (n2 := d.q.length + 1) (n3 := d.q.length + 1) (by simp [DS.push]) rfl (by simp [DS.push]) (by simp [DS.push]) rfl rfl rfl H11'
          generalize w9.setCell ⟨b, 2, none⟩ (.slice A5 (d.q.length + 1) c5) = w10 at *
          clear p2 f2 H11' H10 H9 H8 H7 H6 H5 hnw hnws H1
          go_wp2_with (fail)
          refine (rtorn_ok b (d.push k s) (N + 1) okp (by omega) H11).mono ?_
          have okt := okp.ok_torn
          have hrt : (d.push k s).rtorn = if (d.push k s).torn.1 = true then (d.push k s).torn.2.dark else (d.push k s).torn.2 := rfl
          have HRT := Lib.hid hrt; clear hrt
          generalize (d.push k s).rtorn = rt at *
          generalize (d.push k s).torn = t at *
          obtain ⟨tb, d7⟩ := t
          dsimp only at *
          rintro e w11 ⟨rfl, H12⟩
          cases tb
          · have hr : rt = d7 := HRT.out.trans (if_neg (by decide))
            have hw : d.write k s = (0, d7.wrote) := HE.out.trans (if_neg (by decide))
            have HW := Lib.hid hw; clear hw
            subst hr
            have hw7 := okt.wr
            obtain ⟨q1, q2, H13⟩ := rwrote_ok b rt H12
            go_wp2_with (fail)
            go_ret
            rw [HW.out]
            exact ⟨rfl, H13⟩
          · have hr : rt = d7.dark := HRT.out.trans (if_pos rfl)
            have hw : d.write k s = (20, d7.dark) := HE.out.trans (if_pos rfl)
            have HW := Lib.hid hw; clear hw
            subst hr
            go_wp2_with (fail)
            go_ret
            rw [HW.out]
            exact ⟨rfl, H12⟩
        · have H8 := H7.more (.cells #[.string (full s)] 9)
          have hnw : (w7.alloc (.cells #[.string (full s)] 9)).heap[w7.heap.size]? = some (.cells #[.string (full s)] 9) := heap_alloc_new _ _
          go_simp
          refine hK.out _ _ trivial (fun hHeld => ?_)
          generalize w7.heap.size = x8 at *
          generalize w7.alloc (.cells #[.string (full s)] 9) = w8 at *
          clear hK
          try simp only [Act.put, List.setIfInBounds_toArray, List.set_cons_zero, List.set_cons_succ]
          refine wpAnyH_ready (rs := [4]) (by kernel_rfl) (by simp) ?_
          refine rg_cons rfl (fun K hK => ?_) AllReadyH.nil
          have p2 := H8.cell 2 rfl
          go_simp
          refine hK.out _ _ trivial (fun hHeld => ?_)
          clear p2
          clear hK
          try simp only [Act.put, List.setIfInBounds_toArray, List.set_cons_zero, List.set_cons_succ]
          refine wpAnyH_ready (rs := [8]) (by kernel_rfl) (by simp) ?_
          refine rg_cons rfl (fun K hK => ?_) AllReadyH.nil
          have hnws := World.news_of_block hnw
          refine step_append_st rfl _ _ _ rfl 9 i1 (.string ByteArray.empty) 1 16 Try.underlying22 hj hy0 hy1 hy2 rfl (by decide) A3 d.q.length c3 (txV d.q) (H8.r4) rfl ⟨x8, 0, none⟩ 1 1 [.string (full s)] rfl rfl hnws (fun u hu => by simp at hu; rcases hu with rfl; rfl) (by unfold maxLen; omega) (by omega) ?_
          intro A5 c5 w9 H9
          rw [← HTS.out] at H9
          refine hK.out _ _ trivial (fun hHeld => ?_)
          clear hK
          try simp only [Act.put, List.setIfInBounds_toArray, List.set_cons_zero, List.set_cons_succ]
          refine rg_take (i := 9) (v := ?_) rfl (by kernel_rfl) (by kernel_rfl) (by kernel_rfl) (fun _ _ _ h => h) (Or.inl ⟨by kernel_rfl, ?_⟩) (by assumption) ?_
          rotate_left 1
          · intro w' hSw
            try dsimp only at hSw
            go_simp
            first | done | with_reducible rfl
          try simp only [Act.put, List.setIfInBounds_toArray, List.set_cons_zero, List.set_cons_succ]
          refine rg_take (i := 10) (v := ?_) rfl (by kernel_rfl) (by kernel_rfl) (by kernel_rfl) (fun _ _ _ h => h) (Or.inl ⟨by kernel_rfl, ?_⟩) (by assumption) ?_
          rotate_left 1
          · intro w' hSw
            try dsimp only at hSw
            go_simp
            first | done | with_reducible rfl
          try simp only [Act.put, List.setIfInBounds_toArray, List.set_cons_zero, List.set_cons_succ]
          refine wpAnyH_ready (rs := [11]) (by kernel_rfl) (by simp) ?_
          refine rg_cons rfl (fun K hK => ?_) AllReadyH.nil
          have p2 := H9.r2.cell 2 rfl
          have f2 := H9.r2.frozen 2
          have H10 := H9.r2.set 2 (.slice A5 (d.q.length + 1) c5)
          go_simp
          refine hK.out _ _ trivial (fun hHeld => ?_)
          clear hK
          try simp only [Act.put, List.setIfInBounds_toArray, List.set_cons_zero, List.set_cons_succ]
          refine wpAnyH_done (by kernel_rfl) ?_ _
          have H11' := H10.ord 4 [0, 3, 2, 1]
          have H11 : St w0 (w9.setCell ⟨b, 2, none⟩ (.slice A5 (d.q.length + 1) c5)) (Rdk b (d.push k s) :: F) := St.shutR (A1 := A1) (A2 := A4) (A3 := A5) (c1 := c1) (c2 := c4) (c3 := c5) (n2 := d.q.length + 1) (n3 := d.q.length + 1) (by simp [DS.push]) rfl (by simp [DS.push]) (by simp [DS.push]) rfl rfl rfl H11'
          generalize w9.setCell ⟨b, 2, none⟩ (.slice A5 (d.q.length + 1) c5) = w10 at *
          clear p2 f2 H11' H10 H9 H8 H7 H6 H5 hnw hnws H1
          go_wp2_with (fail)
          refine (rtorn_ok b (d.push k s) (N + 1) okp (by omega) H11).mono ?_
          have okt := okp.ok_torn
          have hrt : (d.push k s).rtorn = if (d.push k s).torn.1 = true then (d.push k s).torn.2.dark else (d.push k s).torn.2 := rfl
          have HRT := Lib.hid hrt; clear hrt
          generalize (d.push k s).rtorn = rt at *
          generalize (d.push k s).torn = t at *
          obtain ⟨tb, d7⟩ := t
          dsimp only at *
          rintro e w11 ⟨rfl, H12⟩
          cases tb
          · have hr : rt = d7 := HRT.out.trans (if_neg (by decide))
            have hw : d.write k s = (0, d7.wrote) := HE.out.trans (if_neg (by decide))
            have HW := Lib.hid hw; clear hw
            subst hr
            have hw7 := okt.wr
            obtain ⟨q1, q2, H13⟩ := rwrote_ok b rt H12
            go_wp2_with (fail)
            go_ret
            rw [HW.out]
            exact ⟨rfl, H13⟩
          · have hr : rt = d7.dark := HRT.out.trans (if_pos rfl)
            have hw : d.write k s = (20, d7.dark) := HE.out.trans (if_pos rfl)
            have HW := Lib.hid hw; clear hw
            subst hr
            go_wp2_with (fail)
            go_ret
            rw [HW.out]
            exact ⟨rfl, H12⟩
    · have e : d.write k s = (20, d) := by
        unfold DS.write
        rw [if_neg hbad, if_pos hoff]
      rw [e]
      rw [hoff] at d5
      have HO := Lib.hid hoff; clear hoff e hbad
      go_enter Try.func16, Try.ntmps16
      go_wp2_with (fail)
      go_ret
      exact ⟨rfl, H⟩
end Go.Proofs.Ytmlknjgcfplnlaa

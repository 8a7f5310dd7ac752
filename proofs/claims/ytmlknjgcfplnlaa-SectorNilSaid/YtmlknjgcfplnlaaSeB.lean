/- Layer 4: what a disk does. -/
import Derived.Test.YtmlknjgcfplnlaaSeA
import Derived.Test.YtmlknjgcfplnlaaSh04
namespace Go.Proofs.Ytmlknjgcfplnlaa
open Go.RowKit

theorem infoWr : (Try.prog.info? 65).map (fun i => (i.zero, i.size, i.bytes)) = some (some (.agg #[.int .i64 0, .string ByteArray.empty]), 2, 24) := by kernel_rfl
theorem dark_ok (b : Nat) (d : DS) {w0 w : World} {F : List Assn} (H : St w0 w (Dsk b (d.lose d.keep) :: F)) : w.cell? ⟨b, 5, none⟩ = some (.bool d.off) ∧ w.frozen? ⟨b, 5, none⟩ = false ∧ St w0 (w.setCell ⟨b, 5, none⟩ (.bool true)) (Dsk b d.dark :: F) := by
  obtain ⟨A1, A2, A3, c1, c2, c3, H1⟩ := H.openD
  exact ⟨H1.cell 5 rfl, H1.frozen 5, (H1.set 5 (.bool true)).shutD rfl rfl rfl rfl rfl rfl rfl⟩
theorem wrote_ok (b : Nat) (d : DS) {w0 w : World} {F : List Assn} (H : St w0 w (Dsk b d :: F)) : w.cell? ⟨b, 6, none⟩ = some (.int .i64 d.wr) ∧ w.frozen? ⟨b, 6, none⟩ = false ∧ St w0 (w.setCell ⟨b, 6, none⟩ (.int .i64 (d.wr + 1))) (Dsk b d.wrote :: F) := by
  obtain ⟨A1, A2, A3, c1, c2, c3, H1⟩ := H.openD
  exact ⟨H1.cell 6 rfl, H1.frozen 6, (H1.set 6 (.int .i64 (d.wr + 1))).shutD rfl rfl rfl rfl rfl rfl rfl⟩
theorem keep_cell (b : Nat) (d : DS) {w0 w : World} {F : List Assn} (H : St w0 w (Dsk b d :: F)) : w.cell? ⟨b, 4, none⟩ = some (.int .i64 d.keep) := by
  obtain ⟨A1, A2, A3, c1, c2, c3, H1⟩ := H.openD
  exact H1.cell 4 rfl
set_option maxHeartbeats 1000000 in
theorem write_ok (b : Nat) (d : DS) (n : Int) (s : ByteArray) (N : Nat) (ok : d.ok N) (hN : N ≤ 549755813888) (hs : s.size ≤ 1099511627776) {w0 w : World} {F : List Assn} (H : St w0 w (Dsk b d :: F)) :
    Calls Try.prog 10 #[.pointer (some ⟨b, 0, none⟩), .int .i64 n, .string s] w fun r w' => r = .returned (.int .i64 (d.write n s).1) ∧ St w0 w' (Dsk b (d.write n s).2 :: F) := by
  obtain ⟨i1, hj, hy0, hy1, hy2⟩ := info_parts infoWr
  obtain ⟨A1, A2, A3, c1, c2, c3, H1⟩ := H.openD
  have d1 := H1.cell 1 rfl
  have d5 := H1.cell 5 rfl
  by_cases hbad : n < 0 ∨ (d.las.length : Int) ≤ n ∨ 256 < s.size
  · have e : d.write n s = (1, d) := if_pos hbad
    rw [e]; clear e
    by_cases h0 : n < 0
    · clear hbad
      go_enter Try.func10, Try.ntmps10
      go_wp2_with (fail)
      go_ret
      exact ⟨rfl, H⟩
    · have h0' : decide (n < 0) = false := decide_eq_false h0
      by_cases h2 : (d.las.length : Int) ≤ n
      · clear hbad
        go_enter Try.func10, Try.ntmps10
        go_wp2_with (fail)
        refine (size_ok b d H).mono ?_
        rintro e w1 ⟨rfl, rfl⟩
        go_wp2_with (fail)
        go_ret
        exact ⟨rfl, H⟩
      · have h2' : decide ((d.las.length : Int) ≤ n) = false := decide_eq_false h2
        have h3 : (256 : Int) < s.size := by omega
        clear hbad
        go_enter Try.func10, Try.ntmps10
        go_wp2_with (fail)
        refine (size_ok b d H).mono ?_
        rintro e w1 ⟨rfl, rfl⟩
        go_wp2_with (fail)
        go_ret
        exact ⟨rfl, H⟩
  · have h0' : decide (n < 0) = false := decide_eq_false (by omega)
    have h2' : decide ((d.las.length : Int) ≤ n) = false := decide_eq_false (by omega)
    have h3' : decide ((256 : Int) < s.size) = false := decide_eq_false (by omega)
    obtain ⟨k, rfl⟩ : ∃ k : Nat, n = k := ⟨n.toNat, by omega⟩
    have hk : k < d.las.length := by omega
    have hkn : decide (d.las.length ≤ k) = false := decide_eq_false (by omega)
    have hs2 : s.size ≤ 256 := by omega
    cases hoff : d.off
    · have e : d.write k s = if (d.push k s).torn.1 = true then (20, (d.push k s).torn.2.dark) else (0, (d.push k s).torn.2.wrote) := by
        unfold DS.write
        rw [if_neg hbad, if_neg (by rw [hoff]; decide)]; rfl
      rw [hoff] at d5
      have okp := ok.ok_push k s hk hs2
      have hql := ok.ql
      have hnl : d.now.length = d.las.length := d.now_length
      have hnp := d.now_push k s
      have hkI : (k : Int) < d.las.length := by omega
      have hqs := qv_snoc d.q (k, s)
      have hwr := ok.wr
      have HE := Lib.hid e; have HO := Lib.hid hoff; have HNL := Lib.hid hnl; have HNP := Lib.hid hnp; have HQS := Lib.hid hqs; clear e hoff hnl hnp hqs hbad
      go_enter Try.func10, Try.ntmps10
      go_wp2_with (fail)
      refine (size_ok b d H).mono ?_
      rintro e w1 ⟨rfl, rfl⟩
      have d2 := H1.cell 2 rfl
      go_upto_region 6 with (at_builtin; refine wpList_append_st (by rfl) _ _ _ (by rfl) 65 i1 (.agg #[.int .i64 0, .string ByteArray.empty]) 2 24 Try.underlying60 hj hy0 hy1 hy2 rfl (by decide) A3 d.q.length c3 (qv d.q) ((H1.more _).r4) (by rfl) ⟨_, 0, none⟩ 1 1 (qC (k, s)) (by rfl) rfl (World.news_of_block (heap_alloc_new _ _)) (fun u hu => by simp [qC] at hu; rcases hu with rfl | rfl <;> rfl) (by unfold maxLen; omega) (by omega) ?_; intro A4 c4 w4 H4; have p2 := H4.r2.cell 2 rfl; have f2 := H4.r2.frozen 2)
      have H5 := H4.r2.set 2 (.slice A4 (d.q.length + 1) c4)
      generalize w4.setCell ⟨b, 2, none⟩ (.slice A4 (d.q.length + 1) c4) = w5 at *
      clear d1 d2 d5 p2 f2 H4
      have p1 := H5.cell 1 rfl
      obtain ⟨g2, o2, hA⟩ := (H5.r4).row_form (by omega)
      subst hA
      obtain ⟨y, hy⟩ : ∃ y, d.now[k]? = some y := ⟨_, List.getElem?_eq_getElem (by rw [HNL.out]; exact hk)⟩
      have a3 := H5.r4.row_cell k (strs_get hy)
      have a4 := H5.r4.row_frozen k (by have := H5.r4.row_cases; rcases this with ⟨h, _⟩ | ⟨_, _, _, _, _, _, _, h, _⟩ <;> omega)
      have H6 := H5.r4.setCell_row k (by rw [strs_length, HNL.out]; exact hk) (.string s)
      rw [strs_set, ← HNP.out, ← HQS.out] at H6
      clear hy
      go_upto_region 7 with (fail)
      have H6' := H6.ord 4 [1, 3, 0, 2]
      have H7 : St w0 (w5.setCell ⟨g2, o2 + k, none⟩ (.string s)) (Dsk b (d.push k s) :: F) := St.shutD (A1 := A1) (A2 := some ⟨g2, o2, none⟩) (A3 := A4) (c1 := c1) (c2 := c2) (c3 := c4) (n3 := d.q.length + 1) (by simp [DS.push]) rfl rfl (by simp [DS.push]) rfl rfl rfl H6'
      generalize w5.setCell ⟨g2, o2 + k, none⟩ (.string s) = w6 at *
      clear p1 a3 a4 H6 H6' H5
      go_wp2_with (fail)
      refine (torn_ok b (d.push k s) (N + 1) okp H7).mono ?_
      have okt := okp.ok_torn
      generalize (d.push k s).torn = t at *
      obtain ⟨tb, d7⟩ := t
      dsimp only at *
      rintro e w7 ⟨rfl, H8⟩
      cases tb
      · have hw : d.write k s = (0, d7.wrote) := HE.out.trans (if_neg (by decide))
        have HW := Lib.hid hw; clear hw
        have hw7 := okt.wr
        obtain ⟨q1, q2, H9⟩ := wrote_ok b d7 H8
        go_wp2_with (fail)
        go_ret
        rw [HW.out]
        exact ⟨rfl, H9⟩
      · have hw : d.write k s = (20, d7.dark) := HE.out.trans (if_pos rfl)
        have HW := Lib.hid hw; clear hw
        have q0 := keep_cell b d7 H8
        go_wp2_with (fail)
        refine (lose_ok b d7 d7.keep (N + 1) okt (by omega) H8).mono ?_
        rintro e w8 ⟨rfl, H9⟩
        obtain ⟨q1, q2, H10⟩ := dark_ok b d7 H9
        go_wp2_with (fail)
        go_ret
        rw [HW.out]
        exact ⟨rfl, H10⟩
    · have e : d.write k s = (20, d) := by
        unfold DS.write
        rw [if_neg hbad, if_pos hoff]
      rw [e]
      rw [hoff] at d5
      have HO := Lib.hid hoff; clear hoff e hbad
      go_enter Try.func10, Try.ntmps10
      go_wp2_with (fail)
      refine (size_ok b d H).mono ?_
      rintro e w1 ⟨rfl, rfl⟩
      go_wp2_with (fail)
      go_ret
      exact ⟨rfl, H⟩
end Go.Proofs.Ytmlknjgcfplnlaa

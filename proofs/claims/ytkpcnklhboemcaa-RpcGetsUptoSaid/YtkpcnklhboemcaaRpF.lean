/- Layer 3's reference: any bytes as a reply, walked. -/
import Derived.Test.YtkpcnklhboemcaaRpE
namespace Go.Proofs.Ytkpcnklhboemcaa
open Go.RowKit

theorem refuint4r_ok (b : Nat) (S : ByteArray) (r : RS) (hS : S.size ≤ 1099511627776) {w0 w : World} {F : List Assn} (H : St w0 w (Rfr b S r :: F)) :
    Calls Try.prog 33 #[.pointer (some ⟨b, 0, none⟩)] w fun x w' => x = .returned (.int .i64 (r.nat 4).1) ∧ St w0 w' (Rfr b S (r.nat 4).2 :: F) := by
  go_enter Try.func33, Try.ntmps33
  go_wp2_with (go_at_call 48; refine (refnum4_ok b S r hS H).mono ?_; rintro x w1 ⟨rfl, H1⟩)
  go_ret
  exact ⟨rfl, H1⟩
theorem nat4_e (s : ByteArray) (h : 4 ≤ s.size) : ((⟨s, 0⟩ : RS).nat 4).2.e = 0 := by
  unfold RS.nat RS.take
  rw [if_pos rfl]
  dsimp only
  rw [if_pos (by omega)]
theorem St.openRf2 {w0 w : World} {b : Nat} {S : ByteArray} {r : RS} {F : List Assn} (H : St w0 w (Rfr b S r :: F)) (he : r.e = 0) :
    ∃ i : Nat, St w0 w (Pt b #[.string S, .int .i64 i, .int .i64 0] 77 :: F) := by
  obtain ⟨i, H, _⟩ := H.openRf
  rw [he] at H
  exact ⟨i, H⟩
theorem not_step {s : ByteArray} {k : Nat} (h : ∀ j : Nat, j < k → ¬ hit s j) (hk : ¬ hit s k) : ∀ j : Nat, j < k + 1 → ¬ hit s j := fun j hj => by
  rcases Nat.lt_or_ge j k with h1 | h1
  · exact h j h1
  · obtain rfl : j = k := by omega
    exact hk
-- §1 k, §2 at, §3 low, §4 high, §5 body, §6 why
-- §1 k, §2 at
set_option maxRecDepth 100000 in
set_option maxHeartbeats 40000000 in
theorem refget_ok (s : ByteArray) (hs : s.size ≤ 1099511627776) {w0 w : World} {F : List Assn} (H0 : St w0 w F) :
    Calls Try.prog 19 #[.string s] w fun x w' => x = .returned (.tuple #[.agg (Rep.get s).1.cells, .bool (decide ((Rep.get s).2 = 0))]) ∧ St w0 w' F := by
  have H := H0.alloc zrep 54
  obtain ⟨b2, hb2⟩ : ∃ b, b = w.heap.size := ⟨_, rfl⟩
  go_enter Try.func19, Try.ntmps19
  go_upto_region 1 with (fail)
  rw [← hb2] at H ⊢
  generalize w.alloc (.cells zrep 54) = w2 at *
  clear H0 hb2
  go_wp2_with (fail)
  go_loopw [4] (fun v wr => ∃ k : Nat, k ≤ 8 ∧ v = .int .i64 k ∧ Hid (∀ j : Nat, j < k → ¬ hit s j) ∧ St w0 wr (Pt b2 zrep 54 :: F)) (fun v _ => 8 - (intOf v).toNat)
  case atStart => exact ⟨0, Nat.zero_le _, rfl, Lib.hid (fun j hj => absurd hj (Nat.not_lt_zero _)), H⟩
  case round =>
    clear H
    obtain ⟨k, hk, rfl, HN, H⟩ := hrel
    have hcase : k = 8 ∨ k = 0 ∨ k = 1 ∨ k = 3 ∨ k = 4 ∨ k = 5 ∨ k = 2 ∨ k = 6 ∨ k = 7 := by omega
    rcases hcase with rfl | rfl | rfl | rfl | rfl | rfl | rfl | rfl | rfl
    · obtain ⟨g1, g2⟩ := get_none HN.out
      have HG := Lib.hid g1; have HG2 := Lib.hid g2; clear g1 g2
      go_wp2_with (with_reducible refine hold_store (ty := 54) ?_)
      unfold Hold
      with_reducible refine wpList_store_st (ty := 54) (H) (zrep) ?_ ?_ ?_ ?_ ?_ ?_ ?_
      rfl
      rfl
      rfl
      rfl
      kernel_rfl
      rfl
      intro w8 H8
      go_wp2_with (fail)
      refine bodyPost_ret (results_cell1 rfl _ _ b2 54 zrep (0, 0) _ rfl H8.block Try.underlying54 rfl (by kernel_rfl)) rfl ?_
      rw [HG.out, Rep.zero_cells', decide_eq_false HG2.out]
      exact ⟨rfl, H8.tail⟩
    · by_cases h1 : s.size < 24
      · have h1' : decide ((s.size : Int) < 24) = true := decide_eq_true (by omega)
        go_wp2_with (fail)
        go_roundw
        case rel => exact ⟨0 + 1, by decide, by rfl, Lib.hid (not_step HN.out (fun h => absurd (show 24 ≤ s.size from h.1) (by omega))), H⟩
        case measure => simp [intOf]
      have h1' : decide ((s.size : Int) < 24) = false := decide_eq_false (by omega)
      by_cases h2 : 65536 < s.size
      · have h2' : decide (65536 < (s.size : Int)) = true := decide_eq_true (by omega)
        go_wp2_with (fail)
        go_roundw
        case rel => exact ⟨0 + 1, by decide, by rfl, Lib.hid (not_step HN.out (fun h => absurd h.2.1 (by omega))), H⟩
        case measure => simp [intOf]
      have h2' : decide (65536 < (s.size : Int)) = false := decide_eq_false (by omega)
      have he1 := nat4_e s (by omega)
      have HR := (H.alloc #[.string s, .int .i64 0, .int .i64 0] 77)
      obtain ⟨rb, hrb⟩ : ∃ b, b = wr.heap.size := ⟨_, rfl⟩
      go_wp2_with (fail)
      rw [← hrb] at HR ⊢
      generalize wr.alloc (.cells #[.string s, .int .i64 0, .int .i64 0] 77) = w3 at *
      clear H hrb
      have H := HR.shutRf (i := 0) (s := s) (Nat.zero_le _) (by rw [ByteArray.extract_zero_size])
      clear HR
      obtain ⟨q1, hq1⟩ : ∃ q, q = RS.nat (⟨s, 0⟩) 4 := ⟨_, rfl⟩
      have hc := refuint4r_ok rb s (⟨s, 0⟩) (by omega) H
      rw [← hq1] at hc
      have Eq1 := Lib.hid hq1; clear hq1
      refine hc.mono ?_
      rintro x w1 ⟨rfl, H'⟩
      clear hc H
      have H := H'
      clear H'
      rw [← Eq1.out] at he1
      have HA := H.alloc zrep 54
      obtain ⟨b7, hb7⟩ : ∃ b, b = w1.heap.size := ⟨_, rfl⟩
      go_wp2_with (with_reducible refine hold_store (ty := 54) ?_)
      unfold Hold
      rw [← hb7] at HA ⊢
      generalize w1.alloc (.cells zrep 54) = w4 at *
      clear H hb7
      with_reducible refine wpList_store_st (ty := 54) (HA) (#[.int .i64 q1.1, .int .i64 0, .int .i64 0, .int .i64 0, .string ⟨#[]⟩]) ?_ ?_ ?_ ?_ ?_ ?_ ?_
      rfl
      rfl
      rfl
      rfl
      kernel_rfl
      rfl
      intro w1 H8
      clear HA
      obtain ⟨i, H9⟩ := H8.r2.openRf2 he1
      have c1 := H9.cell 1 rfl
      have f1 := H9.frozen 1
      go_upto_region 11 with (fail)
      have H := (H9.set 1 (.int .i64 24)).shutRf (i := 24) (s := s.extract 24 s.size) (by omega) rfl
      generalize w1.setCell ⟨rb, 1, none⟩ (.int .i64 24) = w1 at *
      clear H8 H9 c1 f1
      have hi0 : (24 : Int) ≤ s.size := by omega
      have c5 := H.r2.cell 4 rfl
      have f5 := H.r2.frozen 4
      go_upto_region 17 with (fail)
      have H' := (H.r2.set 4 (.string (s.extract 24 s.size))).r2
      generalize w1.setCell ⟨b7, 4, none⟩ (.string (s.extract 24 s.size)) = w1 at *
      clear H c5 f5
      have H := H'
      clear H'
      try dsimp only [List.setIfInBounds_toArray, List.set_cons_zero, List.set_cons_succ] at H
      clear hi0
      have hC : cand s 0 = ⟨q1.1, 0, 0, 0, s.extract 24 s.size⟩ := by unfold cand; rw [← Eq1.out]; rfl
      obtain ⟨p, hp⟩ : ∃ p, p = Rep.put (cand s 0) := ⟨_, rfl⟩
      have hc := refput_ok ⟨q1.1, 0, 0, 0, s.extract 24 s.size⟩ (by first | exact Nat.zero_le _ | (have := extract_le s 24 s.size; dsimp only; omega)) H
      rw [← hC, ← hp] at hc
      have HC := Lib.hid hC; have HP := Lib.hid hp; clear hC hp
      obtain ⟨t, e⟩ := p
      have c0 := H.r2.cell 0 rfl
      have c1 := H.r2.cell 1 rfl
      have c2 := H.r2.cell 2 rfl
      have c3 := H.r2.cell 3 rfl
      have c4 := H.r2.cell 4 rfl
      go_wp2_with (fail)
      clear c0 c1 c2 c3 c4
      rw [HC.out] at hc
      refine hc.mono ?_
      rintro x w1 ⟨rfl, H'⟩
      clear hc H
      have H := H'
      clear H'
      dsimp only
      by_cases he : e = 0
      · have he' : (e == 0) = true := beq_iff_eq.2 he
        by_cases ht : t = s
        · have ht' : (t.toList == s.toList) = true := by rw [ht]; exact toList_same s
          have hh : hit s 0 := ⟨by show 24 ≤ s.size; omega, by omega, by rw [← HP.out, ht, he]⟩
          have hr := get_hit hh
          rw [HC.out] at hr
          have HE := Lib.hid hr; clear hr hh ht he
          have c0 := H.r2.cell 0 rfl
          have c1 := H.r2.cell 1 rfl
          have c2 := H.r2.cell 2 rfl
          have c3 := H.r2.cell 3 rfl
          have c4 := H.r2.cell 4 rfl
          go_wp2_with (with_reducible refine hold_store (ty := 54) ?_)
          unfold Hold
          with_reducible refine wpList_store_st (ty := 54) (H.r3) (Rep.cells ⟨q1.1, 0, 0, 0, s.extract 24 s.size⟩) ?_ ?_ ?_ ?_ ?_ ?_ ?_
          rfl
          rfl
          rfl
          rfl
          kernel_rfl
          rfl
          intro w8 H8
          go_wp2_with (fail)
          refine bodyPost_ret (results_cell1 rfl _ _ b2 54 (Rep.cells ⟨q1.1, 0, 0, 0, s.extract 24 s.size⟩) (0, 0) _ rfl H8.block Try.underlying54 rfl (by kernel_rfl)) rfl ?_
          rw [HE.out]
          exact ⟨rfl, H8.tail.tail.tail⟩
        · have ht' : (t.toList == s.toList) = false := toList_ne ht
          have HT := Lib.hid ht; clear ht he
          go_wp2_with (fail)
          go_roundw
          case rel => exact ⟨0 + 1, by decide, by rfl, Lib.hid (not_step HN.out (fun h => HT.out (by have this : (cand s 0).put = (s, 0) := h.2.2; rw [← HP.out] at this; injection this))), H.tail.tail⟩
          case measure => simp [intOf]
      · have he' : (e == 0) = false := beq_eq_false_iff_ne.2 he
        go_wp2_with (fail)
        go_roundw
        case rel => exact ⟨0 + 1, by decide, by rfl, Lib.hid (not_step HN.out (fun h => he (by have this : (cand s 0).put = (s, 0) := h.2.2; rw [← HP.out] at this; injection this))), H.tail.tail⟩
        case measure => simp [intOf]
    · by_cases h1 : s.size < 24
      · have h1' : decide ((s.size : Int) < 24) = true := decide_eq_true (by omega)
        go_wp2_with (fail)
        go_roundw
        case rel => exact ⟨1 + 1, by decide, by rfl, Lib.hid (not_step HN.out (fun h => absurd (show 24 ≤ s.size from h.1) (by omega))), H⟩
        case measure => simp [intOf]
      have h1' : decide ((s.size : Int) < 24) = false := decide_eq_false (by omega)
      by_cases h2 : 65536 < s.size
      · have h2' : decide (65536 < (s.size : Int)) = true := decide_eq_true (by omega)
        go_wp2_with (fail)
        go_roundw
        case rel => exact ⟨1 + 1, by decide, by rfl, Lib.hid (not_step HN.out (fun h => absurd h.2.1 (by omega))), H⟩
        case measure => simp [intOf]
      have h2' : decide (65536 < (s.size : Int)) = false := decide_eq_false (by omega)
      have he1 := nat4_e s (by omega)
      have HR := (H.alloc #[.string s, .int .i64 0, .int .i64 0] 77)
      obtain ⟨rb, hrb⟩ : ∃ b, b = wr.heap.size := ⟨_, rfl⟩
      go_wp2_with (fail)
      rw [← hrb] at HR ⊢
      generalize wr.alloc (.cells #[.string s, .int .i64 0, .int .i64 0] 77) = w3 at *
      clear H hrb
      have H := HR.shutRf (i := 0) (s := s) (Nat.zero_le _) (by rw [ByteArray.extract_zero_size])
      clear HR
      obtain ⟨q1, hq1⟩ : ∃ q, q = RS.nat (⟨s, 0⟩) 4 := ⟨_, rfl⟩
      have hc := refuint4r_ok rb s (⟨s, 0⟩) (by omega) H
      rw [← hq1] at hc
      have Eq1 := Lib.hid hq1; clear hq1
      refine hc.mono ?_
      rintro x w1 ⟨rfl, H'⟩
      clear hc H
      have H := H'
      clear H'
      rw [← Eq1.out] at he1
      have HA := H.alloc zrep 54
      obtain ⟨b7, hb7⟩ : ∃ b, b = w1.heap.size := ⟨_, rfl⟩
      go_wp2_with (with_reducible refine hold_store (ty := 54) ?_)
      unfold Hold
      rw [← hb7] at HA ⊢
      generalize w1.alloc (.cells zrep 54) = w4 at *
      clear H hb7
      with_reducible refine wpList_store_st (ty := 54) (HA) (#[.int .i64 q1.1, .int .i64 1, .int .i64 0, .int .i64 0, .string ⟨#[]⟩]) ?_ ?_ ?_ ?_ ?_ ?_ ?_
      rfl
      rfl
      rfl
      rfl
      kernel_rfl
      rfl
      intro w1 H8
      clear HA
      obtain ⟨i, H9⟩ := H8.r2.openRf2 he1
      have c1 := H9.cell 1 rfl
      have f1 := H9.frozen 1
      go_upto_region 11 with (fail)
      have H := (H9.set 1 (.int .i64 24)).shutRf (i := 24) (s := s.extract 24 s.size) (by omega) rfl
      generalize w1.setCell ⟨rb, 1, none⟩ (.int .i64 24) = w1 at *
      clear H8 H9 c1 f1
      have hC : cand s 1 = ⟨q1.1, 1, 0, 0, ⟨#[]⟩⟩ := by unfold cand; rw [← Eq1.out]; rfl
      obtain ⟨p, hp⟩ : ∃ p, p = Rep.put (cand s 1) := ⟨_, rfl⟩
      have hc := refput_ok ⟨q1.1, 1, 0, 0, ⟨#[]⟩⟩ (by first | exact Nat.zero_le _ | (have := extract_le s 24 s.size; dsimp only; omega)) H
      rw [← hC, ← hp] at hc
      have HC := Lib.hid hC; have HP := Lib.hid hp; clear hC hp
      obtain ⟨t, e⟩ := p
      have c0 := H.r2.cell 0 rfl
      have c1 := H.r2.cell 1 rfl
      have c2 := H.r2.cell 2 rfl
      have c3 := H.r2.cell 3 rfl
      have c4 := H.r2.cell 4 rfl
      go_wp2_with (fail)
      clear c0 c1 c2 c3 c4
      rw [HC.out] at hc
      refine hc.mono ?_
      rintro x w1 ⟨rfl, H'⟩
      clear hc H
      have H := H'
      clear H'
      dsimp only
      by_cases he : e = 0
      · have he' : (e == 0) = true := beq_iff_eq.2 he
        by_cases ht : t = s
        · have ht' : (t.toList == s.toList) = true := by rw [ht]; exact toList_same s
          have hh : hit s 1 := ⟨by show 24 ≤ s.size; omega, by omega, by rw [← HP.out, ht, he]⟩
          have hr := get_hit hh
          rw [HC.out] at hr
          have HE := Lib.hid hr; clear hr hh ht he
          have c0 := H.r2.cell 0 rfl
          have c1 := H.r2.cell 1 rfl
          have c2 := H.r2.cell 2 rfl
          have c3 := H.r2.cell 3 rfl
          have c4 := H.r2.cell 4 rfl
          go_wp2_with (with_reducible refine hold_store (ty := 54) ?_)
          unfold Hold
          with_reducible refine wpList_store_st (ty := 54) (H.r3) (Rep.cells ⟨q1.1, 1, 0, 0, ⟨#[]⟩⟩) ?_ ?_ ?_ ?_ ?_ ?_ ?_
          rfl
          rfl
          rfl
          rfl
          kernel_rfl
          rfl
          intro w8 H8
          go_wp2_with (fail)
          refine bodyPost_ret (results_cell1 rfl _ _ b2 54 (Rep.cells ⟨q1.1, 1, 0, 0, ⟨#[]⟩⟩) (0, 0) _ rfl H8.block Try.underlying54 rfl (by kernel_rfl)) rfl ?_
          rw [HE.out]
          exact ⟨rfl, H8.tail.tail.tail⟩
        · have ht' : (t.toList == s.toList) = false := toList_ne ht
          have HT := Lib.hid ht; clear ht he
          go_wp2_with (fail)
          go_roundw
          case rel => exact ⟨1 + 1, by decide, by rfl, Lib.hid (not_step HN.out (fun h => HT.out (by have this : (cand s 1).put = (s, 0) := h.2.2; rw [← HP.out] at this; injection this))), H.tail.tail⟩
          case measure => simp [intOf]
      · have he' : (e == 0) = false := beq_eq_false_iff_ne.2 he
        go_wp2_with (fail)
        go_roundw
        case rel => exact ⟨1 + 1, by decide, by rfl, Lib.hid (not_step HN.out (fun h => he (by have this : (cand s 1).put = (s, 0) := h.2.2; rw [← HP.out] at this; injection this))), H.tail.tail⟩
        case measure => simp [intOf]
    · by_cases h1 : s.size < 24
      · have h1' : decide ((s.size : Int) < 24) = true := decide_eq_true (by omega)
        go_wp2_with (fail)
        go_roundw
        case rel => exact ⟨3 + 1, by decide, by rfl, Lib.hid (not_step HN.out (fun h => absurd (show 24 ≤ s.size from h.1) (by omega))), H⟩
        case measure => simp [intOf]
      have h1' : decide ((s.size : Int) < 24) = false := decide_eq_false (by omega)
      by_cases h2 : 65536 < s.size
      · have h2' : decide (65536 < (s.size : Int)) = true := decide_eq_true (by omega)
        go_wp2_with (fail)
        go_roundw
        case rel => exact ⟨3 + 1, by decide, by rfl, Lib.hid (not_step HN.out (fun h => absurd h.2.1 (by omega))), H⟩
        case measure => simp [intOf]
      have h2' : decide (65536 < (s.size : Int)) = false := decide_eq_false (by omega)
      have he1 := nat4_e s (by omega)
      have HR := (H.alloc #[.string s, .int .i64 0, .int .i64 0] 77)
      obtain ⟨rb, hrb⟩ : ∃ b, b = wr.heap.size := ⟨_, rfl⟩
      go_wp2_with (fail)
      rw [← hrb] at HR ⊢
      generalize wr.alloc (.cells #[.string s, .int .i64 0, .int .i64 0] 77) = w3 at *
      clear H hrb
      have H := HR.shutRf (i := 0) (s := s) (Nat.zero_le _) (by rw [ByteArray.extract_zero_size])
      clear HR
      obtain ⟨q1, hq1⟩ : ∃ q, q = RS.nat (⟨s, 0⟩) 4 := ⟨_, rfl⟩
      have hc := refuint4r_ok rb s (⟨s, 0⟩) (by omega) H
      rw [← hq1] at hc
      have Eq1 := Lib.hid hq1; clear hq1
      refine hc.mono ?_
      rintro x w1 ⟨rfl, H'⟩
      clear hc H
      have H := H'
      clear H'
      rw [← Eq1.out] at he1
      have HA := H.alloc zrep 54
      obtain ⟨b7, hb7⟩ : ∃ b, b = w1.heap.size := ⟨_, rfl⟩
      go_wp2_with (with_reducible refine hold_store (ty := 54) ?_)
      unfold Hold
      rw [← hb7] at HA ⊢
      generalize w1.alloc (.cells zrep 54) = w4 at *
      clear H hb7
      with_reducible refine wpList_store_st (ty := 54) (HA) (#[.int .i64 q1.1, .int .i64 3, .int .i64 0, .int .i64 0, .string ⟨#[]⟩]) ?_ ?_ ?_ ?_ ?_ ?_ ?_
      rfl
      rfl
      rfl
      rfl
      kernel_rfl
      rfl
      intro w1 H8
      clear HA
      obtain ⟨i, H9⟩ := H8.r2.openRf2 he1
      have c1 := H9.cell 1 rfl
      have f1 := H9.frozen 1
      go_upto_region 11 with (fail)
      have H := (H9.set 1 (.int .i64 24)).shutRf (i := 24) (s := s.extract 24 s.size) (by omega) rfl
      generalize w1.setCell ⟨rb, 1, none⟩ (.int .i64 24) = w1 at *
      clear H8 H9 c1 f1
      have hC : cand s 3 = ⟨q1.1, 3, 0, 0, ⟨#[]⟩⟩ := by unfold cand; rw [← Eq1.out]; rfl
      obtain ⟨p, hp⟩ : ∃ p, p = Rep.put (cand s 3) := ⟨_, rfl⟩
      have hc := refput_ok ⟨q1.1, 3, 0, 0, ⟨#[]⟩⟩ (by first | exact Nat.zero_le _ | (have := extract_le s 24 s.size; dsimp only; omega)) H
      rw [← hC, ← hp] at hc
      have HC := Lib.hid hC; have HP := Lib.hid hp; clear hC hp
      obtain ⟨t, e⟩ := p
      have c0 := H.r2.cell 0 rfl
      have c1 := H.r2.cell 1 rfl
      have c2 := H.r2.cell 2 rfl
      have c3 := H.r2.cell 3 rfl
      have c4 := H.r2.cell 4 rfl
      go_wp2_with (fail)
      clear c0 c1 c2 c3 c4
      rw [HC.out] at hc
      refine hc.mono ?_
      rintro x w1 ⟨rfl, H'⟩
      clear hc H
      have H := H'
      clear H'
      dsimp only
      by_cases he : e = 0
      · have he' : (e == 0) = true := beq_iff_eq.2 he
        by_cases ht : t = s
        · have ht' : (t.toList == s.toList) = true := by rw [ht]; exact toList_same s
          have hh : hit s 3 := ⟨by show 24 ≤ s.size; omega, by omega, by rw [← HP.out, ht, he]⟩
          have hr := get_hit hh
          rw [HC.out] at hr
          have HE := Lib.hid hr; clear hr hh ht he
          have c0 := H.r2.cell 0 rfl
          have c1 := H.r2.cell 1 rfl
          have c2 := H.r2.cell 2 rfl
          have c3 := H.r2.cell 3 rfl
          have c4 := H.r2.cell 4 rfl
          go_wp2_with (with_reducible refine hold_store (ty := 54) ?_)
          unfold Hold
          with_reducible refine wpList_store_st (ty := 54) (H.r3) (Rep.cells ⟨q1.1, 3, 0, 0, ⟨#[]⟩⟩) ?_ ?_ ?_ ?_ ?_ ?_ ?_
          rfl
          rfl
          rfl
          rfl
          kernel_rfl
          rfl
          intro w8 H8
          go_wp2_with (fail)
          refine bodyPost_ret (results_cell1 rfl _ _ b2 54 (Rep.cells ⟨q1.1, 3, 0, 0, ⟨#[]⟩⟩) (0, 0) _ rfl H8.block Try.underlying54 rfl (by kernel_rfl)) rfl ?_
          rw [HE.out]
          exact ⟨rfl, H8.tail.tail.tail⟩
        · have ht' : (t.toList == s.toList) = false := toList_ne ht
          have HT := Lib.hid ht; clear ht he
          go_wp2_with (fail)
          go_roundw
          case rel => exact ⟨3 + 1, by decide, by rfl, Lib.hid (not_step HN.out (fun h => HT.out (by have this : (cand s 3).put = (s, 0) := h.2.2; rw [← HP.out] at this; injection this))), H.tail.tail⟩
          case measure => simp [intOf]
      · have he' : (e == 0) = false := beq_eq_false_iff_ne.2 he
        go_wp2_with (fail)
        go_roundw
        case rel => exact ⟨3 + 1, by decide, by rfl, Lib.hid (not_step HN.out (fun h => he (by have this : (cand s 3).put = (s, 0) := h.2.2; rw [← HP.out] at this; injection this))), H.tail.tail⟩
        case measure => simp [intOf]
    · by_cases h1 : s.size < 24
      · have h1' : decide ((s.size : Int) < 24) = true := decide_eq_true (by omega)
        go_wp2_with (fail)
        go_roundw
        case rel => exact ⟨4 + 1, by decide, by rfl, Lib.hid (not_step HN.out (fun h => absurd (show 24 ≤ s.size from h.1) (by omega))), H⟩
        case measure => simp [intOf]
      have h1' : decide ((s.size : Int) < 24) = false := decide_eq_false (by omega)
      by_cases h2 : 65536 < s.size
      · have h2' : decide (65536 < (s.size : Int)) = true := decide_eq_true (by omega)
        go_wp2_with (fail)
        go_roundw
        case rel => exact ⟨4 + 1, by decide, by rfl, Lib.hid (not_step HN.out (fun h => absurd h.2.1 (by omega))), H⟩
        case measure => simp [intOf]
      have h2' : decide (65536 < (s.size : Int)) = false := decide_eq_false (by omega)
      have he1 := nat4_e s (by omega)
      have HR := (H.alloc #[.string s, .int .i64 0, .int .i64 0] 77)
      obtain ⟨rb, hrb⟩ : ∃ b, b = wr.heap.size := ⟨_, rfl⟩
      go_wp2_with (fail)
      rw [← hrb] at HR ⊢
      generalize wr.alloc (.cells #[.string s, .int .i64 0, .int .i64 0] 77) = w3 at *
      clear H hrb
      have H := HR.shutRf (i := 0) (s := s) (Nat.zero_le _) (by rw [ByteArray.extract_zero_size])
      clear HR
      obtain ⟨q1, hq1⟩ : ∃ q, q = RS.nat (⟨s, 0⟩) 4 := ⟨_, rfl⟩
      have hc := refuint4r_ok rb s (⟨s, 0⟩) (by omega) H
      rw [← hq1] at hc
      have Eq1 := Lib.hid hq1; clear hq1
      refine hc.mono ?_
      rintro x w1 ⟨rfl, H'⟩
      clear hc H
      have H := H'
      clear H'
      rw [← Eq1.out] at he1
      have HA := H.alloc zrep 54
      obtain ⟨b7, hb7⟩ : ∃ b, b = w1.heap.size := ⟨_, rfl⟩
      go_wp2_with (with_reducible refine hold_store (ty := 54) ?_)
      unfold Hold
      rw [← hb7] at HA ⊢
      generalize w1.alloc (.cells zrep 54) = w4 at *
      clear H hb7
      with_reducible refine wpList_store_st (ty := 54) (HA) (#[.int .i64 q1.1, .int .i64 4, .int .i64 0, .int .i64 0, .string ⟨#[]⟩]) ?_ ?_ ?_ ?_ ?_ ?_ ?_
      rfl
      rfl
      rfl
      rfl
      kernel_rfl
      rfl
      intro w1 H8
      clear HA
      obtain ⟨i, H9⟩ := H8.r2.openRf2 he1
      have c1 := H9.cell 1 rfl
      have f1 := H9.frozen 1
      go_upto_region 11 with (fail)
      have H := (H9.set 1 (.int .i64 24)).shutRf (i := 24) (s := s.extract 24 s.size) (by omega) rfl
      generalize w1.setCell ⟨rb, 1, none⟩ (.int .i64 24) = w1 at *
      clear H8 H9 c1 f1
      have hC : cand s 4 = ⟨q1.1, 4, 0, 0, ⟨#[]⟩⟩ := by unfold cand; rw [← Eq1.out]; rfl
      obtain ⟨p, hp⟩ : ∃ p, p = Rep.put (cand s 4) := ⟨_, rfl⟩
      have hc := refput_ok ⟨q1.1, 4, 0, 0, ⟨#[]⟩⟩ (by first | exact Nat.zero_le _ | (have := extract_le s 24 s.size; dsimp only; omega)) H
      rw [← hC, ← hp] at hc
      have HC := Lib.hid hC; have HP := Lib.hid hp; clear hC hp
      obtain ⟨t, e⟩ := p
      have c0 := H.r2.cell 0 rfl
      have c1 := H.r2.cell 1 rfl
      have c2 := H.r2.cell 2 rfl
      have c3 := H.r2.cell 3 rfl
      have c4 := H.r2.cell 4 rfl
      go_wp2_with (fail)
      clear c0 c1 c2 c3 c4
      rw [HC.out] at hc
      refine hc.mono ?_
      rintro x w1 ⟨rfl, H'⟩
      clear hc H
      have H := H'
      clear H'
      dsimp only
      by_cases he : e = 0
      · have he' : (e == 0) = true := beq_iff_eq.2 he
        by_cases ht : t = s
        · have ht' : (t.toList == s.toList) = true := by rw [ht]; exact toList_same s
          have hh : hit s 4 := ⟨by show 24 ≤ s.size; omega, by omega, by rw [← HP.out, ht, he]⟩
          have hr := get_hit hh
          rw [HC.out] at hr
          have HE := Lib.hid hr; clear hr hh ht he
          have c0 := H.r2.cell 0 rfl
          have c1 := H.r2.cell 1 rfl
          have c2 := H.r2.cell 2 rfl
          have c3 := H.r2.cell 3 rfl
          have c4 := H.r2.cell 4 rfl
          go_wp2_with (with_reducible refine hold_store (ty := 54) ?_)
          unfold Hold
          with_reducible refine wpList_store_st (ty := 54) (H.r3) (Rep.cells ⟨q1.1, 4, 0, 0, ⟨#[]⟩⟩) ?_ ?_ ?_ ?_ ?_ ?_ ?_
          rfl
          rfl
          rfl
          rfl
          kernel_rfl
          rfl
          intro w8 H8
          go_wp2_with (fail)
          refine bodyPost_ret (results_cell1 rfl _ _ b2 54 (Rep.cells ⟨q1.1, 4, 0, 0, ⟨#[]⟩⟩) (0, 0) _ rfl H8.block Try.underlying54 rfl (by kernel_rfl)) rfl ?_
          rw [HE.out]
          exact ⟨rfl, H8.tail.tail.tail⟩
        · have ht' : (t.toList == s.toList) = false := toList_ne ht
          have HT := Lib.hid ht; clear ht he
          go_wp2_with (fail)
          go_roundw
          case rel => exact ⟨4 + 1, by decide, by rfl, Lib.hid (not_step HN.out (fun h => HT.out (by have this : (cand s 4).put = (s, 0) := h.2.2; rw [← HP.out] at this; injection this))), H.tail.tail⟩
          case measure => simp [intOf]
      · have he' : (e == 0) = false := beq_eq_false_iff_ne.2 he
        go_wp2_with (fail)
        go_roundw
        case rel => exact ⟨4 + 1, by decide, by rfl, Lib.hid (not_step HN.out (fun h => he (by have this : (cand s 4).put = (s, 0) := h.2.2; rw [← HP.out] at this; injection this))), H.tail.tail⟩
        case measure => simp [intOf]
    · by_cases h1 : s.size < 24
      · have h1' : decide ((s.size : Int) < 24) = true := decide_eq_true (by omega)
        go_wp2_with (fail)
        go_roundw
        case rel => exact ⟨5 + 1, by decide, by rfl, Lib.hid (not_step HN.out (fun h => absurd (show 24 ≤ s.size from h.1) (by omega))), H⟩
        case measure => simp [intOf]
      have h1' : decide ((s.size : Int) < 24) = false := decide_eq_false (by omega)
      by_cases h2 : 65536 < s.size
      · have h2' : decide (65536 < (s.size : Int)) = true := decide_eq_true (by omega)
        go_wp2_with (fail)
        go_roundw
        case rel => exact ⟨5 + 1, by decide, by rfl, Lib.hid (not_step HN.out (fun h => absurd h.2.1 (by omega))), H⟩
        case measure => simp [intOf]
      have h2' : decide (65536 < (s.size : Int)) = false := decide_eq_false (by omega)
      have he1 := nat4_e s (by omega)
      have HR := (H.alloc #[.string s, .int .i64 0, .int .i64 0] 77)
      obtain ⟨rb, hrb⟩ : ∃ b, b = wr.heap.size := ⟨_, rfl⟩
      go_wp2_with (fail)
      rw [← hrb] at HR ⊢
      generalize wr.alloc (.cells #[.string s, .int .i64 0, .int .i64 0] 77) = w3 at *
      clear H hrb
      have H := HR.shutRf (i := 0) (s := s) (Nat.zero_le _) (by rw [ByteArray.extract_zero_size])
      clear HR
      obtain ⟨q1, hq1⟩ : ∃ q, q = RS.nat (⟨s, 0⟩) 4 := ⟨_, rfl⟩
      have hc := refuint4r_ok rb s (⟨s, 0⟩) (by omega) H
      rw [← hq1] at hc
      have Eq1 := Lib.hid hq1; clear hq1
      refine hc.mono ?_
      rintro x w1 ⟨rfl, H'⟩
      clear hc H
      have H := H'
      clear H'
      rw [← Eq1.out] at he1
      have HA := H.alloc zrep 54
      obtain ⟨b7, hb7⟩ : ∃ b, b = w1.heap.size := ⟨_, rfl⟩
      go_wp2_with (with_reducible refine hold_store (ty := 54) ?_)
      unfold Hold
      rw [← hb7] at HA ⊢
      generalize w1.alloc (.cells zrep 54) = w4 at *
      clear H hb7
      with_reducible refine wpList_store_st (ty := 54) (HA) (#[.int .i64 q1.1, .int .i64 5, .int .i64 0, .int .i64 0, .string ⟨#[]⟩]) ?_ ?_ ?_ ?_ ?_ ?_ ?_
      rfl
      rfl
      rfl
      rfl
      kernel_rfl
      rfl
      intro w1 H8
      clear HA
      obtain ⟨i, H9⟩ := H8.r2.openRf2 he1
      have c1 := H9.cell 1 rfl
      have f1 := H9.frozen 1
      go_upto_region 11 with (fail)
      have H := (H9.set 1 (.int .i64 24)).shutRf (i := 24) (s := s.extract 24 s.size) (by omega) rfl
      generalize w1.setCell ⟨rb, 1, none⟩ (.int .i64 24) = w1 at *
      clear H8 H9 c1 f1
      have hC : cand s 5 = ⟨q1.1, 5, 0, 0, ⟨#[]⟩⟩ := by unfold cand; rw [← Eq1.out]; rfl
      obtain ⟨p, hp⟩ : ∃ p, p = Rep.put (cand s 5) := ⟨_, rfl⟩
      have hc := refput_ok ⟨q1.1, 5, 0, 0, ⟨#[]⟩⟩ (by first | exact Nat.zero_le _ | (have := extract_le s 24 s.size; dsimp only; omega)) H
      rw [← hC, ← hp] at hc
      have HC := Lib.hid hC; have HP := Lib.hid hp; clear hC hp
      obtain ⟨t, e⟩ := p
      have c0 := H.r2.cell 0 rfl
      have c1 := H.r2.cell 1 rfl
      have c2 := H.r2.cell 2 rfl
      have c3 := H.r2.cell 3 rfl
      have c4 := H.r2.cell 4 rfl
      go_wp2_with (fail)
      clear c0 c1 c2 c3 c4
      rw [HC.out] at hc
      refine hc.mono ?_
      rintro x w1 ⟨rfl, H'⟩
      clear hc H
      have H := H'
      clear H'
      dsimp only
      by_cases he : e = 0
      · have he' : (e == 0) = true := beq_iff_eq.2 he
        by_cases ht : t = s
        · have ht' : (t.toList == s.toList) = true := by rw [ht]; exact toList_same s
          have hh : hit s 5 := ⟨by show 24 ≤ s.size; omega, by omega, by rw [← HP.out, ht, he]⟩
          have hr := get_hit hh
          rw [HC.out] at hr
          have HE := Lib.hid hr; clear hr hh ht he
          have c0 := H.r2.cell 0 rfl
          have c1 := H.r2.cell 1 rfl
          have c2 := H.r2.cell 2 rfl
          have c3 := H.r2.cell 3 rfl
          have c4 := H.r2.cell 4 rfl
          go_wp2_with (with_reducible refine hold_store (ty := 54) ?_)
          unfold Hold
          with_reducible refine wpList_store_st (ty := 54) (H.r3) (Rep.cells ⟨q1.1, 5, 0, 0, ⟨#[]⟩⟩) ?_ ?_ ?_ ?_ ?_ ?_ ?_
          rfl
          rfl
          rfl
          rfl
          kernel_rfl
          rfl
          intro w8 H8
          go_wp2_with (fail)
          refine bodyPost_ret (results_cell1 rfl _ _ b2 54 (Rep.cells ⟨q1.1, 5, 0, 0, ⟨#[]⟩⟩) (0, 0) _ rfl H8.block Try.underlying54 rfl (by kernel_rfl)) rfl ?_
          rw [HE.out]
          exact ⟨rfl, H8.tail.tail.tail⟩
        · have ht' : (t.toList == s.toList) = false := toList_ne ht
          have HT := Lib.hid ht; clear ht he
          go_wp2_with (fail)
          go_roundw
          case rel => exact ⟨5 + 1, by decide, by rfl, Lib.hid (not_step HN.out (fun h => HT.out (by have this : (cand s 5).put = (s, 0) := h.2.2; rw [← HP.out] at this; injection this))), H.tail.tail⟩
          case measure => simp [intOf]
      · have he' : (e == 0) = false := beq_eq_false_iff_ne.2 he
        go_wp2_with (fail)
        go_roundw
        case rel => exact ⟨5 + 1, by decide, by rfl, Lib.hid (not_step HN.out (fun h => he (by have this : (cand s 5).put = (s, 0) := h.2.2; rw [← HP.out] at this; injection this))), H.tail.tail⟩
        case measure => simp [intOf]
    · by_cases h1 : s.size < 24
      · have h1' : decide ((s.size : Int) < 24) = true := decide_eq_true (by omega)
        go_wp2_with (fail)
        go_roundw
        case rel => exact ⟨2 + 1, by decide, by rfl, Lib.hid (not_step HN.out (fun h => absurd (show 24 ≤ s.size from h.1) (by omega))), H⟩
        case measure => simp [intOf]
      have h1' : decide ((s.size : Int) < 24) = false := decide_eq_false (by omega)
      by_cases h2 : 65536 < s.size
      · have h2' : decide (65536 < (s.size : Int)) = true := decide_eq_true (by omega)
        go_wp2_with (fail)
        go_roundw
        case rel => exact ⟨2 + 1, by decide, by rfl, Lib.hid (not_step HN.out (fun h => absurd h.2.1 (by omega))), H⟩
        case measure => simp [intOf]
      have h2' : decide (65536 < (s.size : Int)) = false := decide_eq_false (by omega)
      have he1 := nat4_e s (by omega)
      have HR := (H.alloc #[.string s, .int .i64 0, .int .i64 0] 77)
      obtain ⟨rb, hrb⟩ : ∃ b, b = wr.heap.size := ⟨_, rfl⟩
      go_wp2_with (fail)
      rw [← hrb] at HR ⊢
      generalize wr.alloc (.cells #[.string s, .int .i64 0, .int .i64 0] 77) = w3 at *
      clear H hrb
      have H := HR.shutRf (i := 0) (s := s) (Nat.zero_le _) (by rw [ByteArray.extract_zero_size])
      clear HR
      obtain ⟨q1, hq1⟩ : ∃ q, q = RS.nat (⟨s, 0⟩) 4 := ⟨_, rfl⟩
      have hc := refuint4r_ok rb s (⟨s, 0⟩) (by omega) H
      rw [← hq1] at hc
      have Eq1 := Lib.hid hq1; clear hq1
      refine hc.mono ?_
      rintro x w1 ⟨rfl, H'⟩
      clear hc H
      have H := H'
      clear H'
      rw [← Eq1.out] at he1
      have HA := H.alloc zrep 54
      obtain ⟨b7, hb7⟩ : ∃ b, b = w1.heap.size := ⟨_, rfl⟩
      go_wp2_with (with_reducible refine hold_store (ty := 54) ?_)
      unfold Hold
      rw [← hb7] at HA ⊢
      generalize w1.alloc (.cells zrep 54) = w4 at *
      clear H hb7
      with_reducible refine wpList_store_st (ty := 54) (HA) (#[.int .i64 q1.1, .int .i64 2, .int .i64 0, .int .i64 0, .string ⟨#[]⟩]) ?_ ?_ ?_ ?_ ?_ ?_ ?_
      rfl
      rfl
      rfl
      rfl
      kernel_rfl
      rfl
      intro w1 H8
      clear HA
      obtain ⟨i, H9⟩ := H8.r2.openRf2 he1
      have c1 := H9.cell 1 rfl
      have f1 := H9.frozen 1
      go_upto_region 11 with (fail)
      have H := (H9.set 1 (.int .i64 24)).shutRf (i := 24) (s := s.extract 24 s.size) (by omega) rfl
      generalize w1.setCell ⟨rb, 1, none⟩ (.int .i64 24) = w1 at *
      clear H8 H9 c1 f1
      go_wp2_with (fail)
      obtain ⟨q2, hq2⟩ : ∃ q, q = RS.nat (⟨s.extract 24 s.size, 0⟩) 4 := ⟨_, rfl⟩
      have hc := refuint4r_ok rb s (⟨s.extract 24 s.size, 0⟩) (by omega) H
      rw [← hq2] at hc
      have Eq2 := Lib.hid hq2; clear hq2
      refine hc.mono ?_
      rintro x w1 ⟨rfl, H'⟩
      clear hc H
      have H := H'
      clear H'
      have c5 := H.r2.cell 2 rfl
      have f5 := H.r2.frozen 2
      go_upto_region 13 with (fail)
      have H' := (H.r2.set 2 (.int .i64 q2.1)).r2
      generalize w1.setCell ⟨b7, 2, none⟩ (.int .i64 q2.1) = w1 at *
      clear H c5 f5
      have H := H'
      clear H'
      try dsimp only [List.setIfInBounds_toArray, List.set_cons_zero, List.set_cons_succ] at H
      go_wp2_with (fail)
      obtain ⟨q3, hq3⟩ : ∃ q, q = RS.nat (q2.2) 4 := ⟨_, rfl⟩
      have hc := refuint4r_ok rb s (q2.2) (by omega) H
      rw [← hq3] at hc
      have Eq3 := Lib.hid hq3; clear hq3
      refine hc.mono ?_
      rintro x w1 ⟨rfl, H'⟩
      clear hc H
      have H := H'
      clear H'
      have c5 := H.r2.cell 3 rfl
      have f5 := H.r2.frozen 3
      go_upto_region 15 with (fail)
      have H' := (H.r2.set 3 (.int .i64 q3.1)).r2
      generalize w1.setCell ⟨b7, 3, none⟩ (.int .i64 q3.1) = w1 at *
      clear H c5 f5
      have H := H'
      clear H'
      try dsimp only [List.setIfInBounds_toArray, List.set_cons_zero, List.set_cons_succ] at H
      have hC : cand s 2 = ⟨q1.1, 2, q2.1, q3.1, ⟨#[]⟩⟩ := by unfold cand; rw [show atv 2 = 24 from rfl, ← Eq1.out, ← Eq2.out, ← Eq3.out]; rfl
      obtain ⟨p, hp⟩ : ∃ p, p = Rep.put (cand s 2) := ⟨_, rfl⟩
      have hc := refput_ok ⟨q1.1, 2, q2.1, q3.1, ⟨#[]⟩⟩ (by first | exact Nat.zero_le _ | (have := extract_le s 24 s.size; dsimp only; omega)) H
      rw [← hC, ← hp] at hc
      have HC := Lib.hid hC; have HP := Lib.hid hp; clear hC hp
      obtain ⟨t, e⟩ := p
      have c0 := H.r2.cell 0 rfl
      have c1 := H.r2.cell 1 rfl
      have c2 := H.r2.cell 2 rfl
      have c3 := H.r2.cell 3 rfl
      have c4 := H.r2.cell 4 rfl
      go_wp2_with (fail)
      clear c0 c1 c2 c3 c4
      rw [HC.out] at hc
      refine hc.mono ?_
      rintro x w1 ⟨rfl, H'⟩
      clear hc H
      have H := H'
      clear H'
      dsimp only
      by_cases he : e = 0
      · have he' : (e == 0) = true := beq_iff_eq.2 he
        by_cases ht : t = s
        · have ht' : (t.toList == s.toList) = true := by rw [ht]; exact toList_same s
          have hh : hit s 2 := ⟨by show 24 ≤ s.size; omega, by omega, by rw [← HP.out, ht, he]⟩
          have hr := get_hit hh
          rw [HC.out] at hr
          have HE := Lib.hid hr; clear hr hh ht he
          have c0 := H.r2.cell 0 rfl
          have c1 := H.r2.cell 1 rfl
          have c2 := H.r2.cell 2 rfl
          have c3 := H.r2.cell 3 rfl
          have c4 := H.r2.cell 4 rfl
          go_wp2_with (with_reducible refine hold_store (ty := 54) ?_)
          unfold Hold
          with_reducible refine wpList_store_st (ty := 54) (H.r3) (Rep.cells ⟨q1.1, 2, q2.1, q3.1, ⟨#[]⟩⟩) ?_ ?_ ?_ ?_ ?_ ?_ ?_
          rfl
          rfl
          rfl
          rfl
          kernel_rfl
          rfl
          intro w8 H8
          go_wp2_with (fail)
          refine bodyPost_ret (results_cell1 rfl _ _ b2 54 (Rep.cells ⟨q1.1, 2, q2.1, q3.1, ⟨#[]⟩⟩) (0, 0) _ rfl H8.block Try.underlying54 rfl (by kernel_rfl)) rfl ?_
          rw [HE.out]
          exact ⟨rfl, H8.tail.tail.tail⟩
        · have ht' : (t.toList == s.toList) = false := toList_ne ht
          have HT := Lib.hid ht; clear ht he
          go_wp2_with (fail)
          go_roundw
          case rel => exact ⟨2 + 1, by decide, by rfl, Lib.hid (not_step HN.out (fun h => HT.out (by have this : (cand s 2).put = (s, 0) := h.2.2; rw [← HP.out] at this; injection this))), H.tail.tail⟩
          case measure => simp [intOf]
      · have he' : (e == 0) = false := beq_eq_false_iff_ne.2 he
        go_wp2_with (fail)
        go_roundw
        case rel => exact ⟨2 + 1, by decide, by rfl, Lib.hid (not_step HN.out (fun h => he (by have this : (cand s 2).put = (s, 0) := h.2.2; rw [← HP.out] at this; injection this))), H.tail.tail⟩
        case measure => simp [intOf]
    · by_cases h1 : s.size < 16
      · have h1' : decide ((s.size : Int) < 16) = true := decide_eq_true (by omega)
        go_wp2_with (fail)
        go_roundw
        case rel => exact ⟨6 + 1, by decide, by rfl, Lib.hid (not_step HN.out (fun h => absurd (show 16 ≤ s.size from h.1) (by omega))), H⟩
        case measure => simp [intOf]
      have h1' : decide ((s.size : Int) < 16) = false := decide_eq_false (by omega)
      by_cases h2 : 65536 < s.size
      · have h2' : decide (65536 < (s.size : Int)) = true := decide_eq_true (by omega)
        go_wp2_with (fail)
        go_roundw
        case rel => exact ⟨6 + 1, by decide, by rfl, Lib.hid (not_step HN.out (fun h => absurd h.2.1 (by omega))), H⟩
        case measure => simp [intOf]
      have h2' : decide (65536 < (s.size : Int)) = false := decide_eq_false (by omega)
      have he1 := nat4_e s (by omega)
      have HR := (H.alloc #[.string s, .int .i64 0, .int .i64 0] 77)
      obtain ⟨rb, hrb⟩ : ∃ b, b = wr.heap.size := ⟨_, rfl⟩
      go_wp2_with (fail)
      rw [← hrb] at HR ⊢
      generalize wr.alloc (.cells #[.string s, .int .i64 0, .int .i64 0] 77) = w3 at *
      clear H hrb
      have H := HR.shutRf (i := 0) (s := s) (Nat.zero_le _) (by rw [ByteArray.extract_zero_size])
      clear HR
      obtain ⟨q1, hq1⟩ : ∃ q, q = RS.nat (⟨s, 0⟩) 4 := ⟨_, rfl⟩
      have hc := refuint4r_ok rb s (⟨s, 0⟩) (by omega) H
      rw [← hq1] at hc
      have Eq1 := Lib.hid hq1; clear hq1
      refine hc.mono ?_
      rintro x w1 ⟨rfl, H'⟩
      clear hc H
      have H := H'
      clear H'
      rw [← Eq1.out] at he1
      have HA := H.alloc zrep 54
      obtain ⟨b7, hb7⟩ : ∃ b, b = w1.heap.size := ⟨_, rfl⟩
      go_wp2_with (with_reducible refine hold_store (ty := 54) ?_)
      unfold Hold
      rw [← hb7] at HA ⊢
      generalize w1.alloc (.cells zrep 54) = w4 at *
      clear H hb7
      with_reducible refine wpList_store_st (ty := 54) (HA) (#[.int .i64 q1.1, .int .i64 6, .int .i64 0, .int .i64 0, .string ⟨#[]⟩]) ?_ ?_ ?_ ?_ ?_ ?_ ?_
      rfl
      rfl
      rfl
      rfl
      kernel_rfl
      rfl
      intro w1 H8
      clear HA
      obtain ⟨i, H9⟩ := H8.r2.openRf2 he1
      have c1 := H9.cell 1 rfl
      have f1 := H9.frozen 1
      go_upto_region 11 with (fail)
      have H := (H9.set 1 (.int .i64 16)).shutRf (i := 16) (s := s.extract 16 s.size) (by omega) rfl
      generalize w1.setCell ⟨rb, 1, none⟩ (.int .i64 16) = w1 at *
      clear H8 H9 c1 f1
      go_wp2_with (fail)
      obtain ⟨q2, hq2⟩ : ∃ q, q = RS.nat (⟨s.extract 16 s.size, 0⟩) 4 := ⟨_, rfl⟩
      have hc := refuint4r_ok rb s (⟨s.extract 16 s.size, 0⟩) (by omega) H
      rw [← hq2] at hc
      have Eq2 := Lib.hid hq2; clear hq2
      refine hc.mono ?_
      rintro x w1 ⟨rfl, H'⟩
      clear hc H
      have H := H'
      clear H'
      have c5 := H.r2.cell 2 rfl
      have f5 := H.r2.frozen 2
      go_upto_region 13 with (fail)
      have H' := (H.r2.set 2 (.int .i64 q2.1)).r2
      generalize w1.setCell ⟨b7, 2, none⟩ (.int .i64 q2.1) = w1 at *
      clear H c5 f5
      have H := H'
      clear H'
      try dsimp only [List.setIfInBounds_toArray, List.set_cons_zero, List.set_cons_succ] at H
      go_wp2_with (fail)
      obtain ⟨q3, hq3⟩ : ∃ q, q = RS.nat (q2.2) 4 := ⟨_, rfl⟩
      have hc := refuint4r_ok rb s (q2.2) (by omega) H
      rw [← hq3] at hc
      have Eq3 := Lib.hid hq3; clear hq3
      refine hc.mono ?_
      rintro x w1 ⟨rfl, H'⟩
      clear hc H
      have H := H'
      clear H'
      have c5 := H.r2.cell 3 rfl
      have f5 := H.r2.frozen 3
      go_upto_region 15 with (fail)
      have H' := (H.r2.set 3 (.int .i64 q3.1)).r2
      generalize w1.setCell ⟨b7, 3, none⟩ (.int .i64 q3.1) = w1 at *
      clear H c5 f5
      have H := H'
      clear H'
      try dsimp only [List.setIfInBounds_toArray, List.set_cons_zero, List.set_cons_succ] at H
      have hC : cand s 6 = ⟨q1.1, 6, q2.1, q3.1, ⟨#[]⟩⟩ := by unfold cand; rw [show atv 6 = 16 from rfl, ← Eq1.out, ← Eq2.out, ← Eq3.out]; rfl
      obtain ⟨p, hp⟩ : ∃ p, p = Rep.put (cand s 6) := ⟨_, rfl⟩
      have hc := refput_ok ⟨q1.1, 6, q2.1, q3.1, ⟨#[]⟩⟩ (by first | exact Nat.zero_le _ | (have := extract_le s 16 s.size; dsimp only; omega)) H
      rw [← hC, ← hp] at hc
      have HC := Lib.hid hC; have HP := Lib.hid hp; clear hC hp
      obtain ⟨t, e⟩ := p
      have c0 := H.r2.cell 0 rfl
      have c1 := H.r2.cell 1 rfl
      have c2 := H.r2.cell 2 rfl
      have c3 := H.r2.cell 3 rfl
      have c4 := H.r2.cell 4 rfl
      go_wp2_with (fail)
      clear c0 c1 c2 c3 c4
      rw [HC.out] at hc
      refine hc.mono ?_
      rintro x w1 ⟨rfl, H'⟩
      clear hc H
      have H := H'
      clear H'
      dsimp only
      by_cases he : e = 0
      · have he' : (e == 0) = true := beq_iff_eq.2 he
        by_cases ht : t = s
        · have ht' : (t.toList == s.toList) = true := by rw [ht]; exact toList_same s
          have hh : hit s 6 := ⟨by show 16 ≤ s.size; omega, by omega, by rw [← HP.out, ht, he]⟩
          have hr := get_hit hh
          rw [HC.out] at hr
          have HE := Lib.hid hr; clear hr hh ht he
          have c0 := H.r2.cell 0 rfl
          have c1 := H.r2.cell 1 rfl
          have c2 := H.r2.cell 2 rfl
          have c3 := H.r2.cell 3 rfl
          have c4 := H.r2.cell 4 rfl
          go_wp2_with (with_reducible refine hold_store (ty := 54) ?_)
          unfold Hold
          with_reducible refine wpList_store_st (ty := 54) (H.r3) (Rep.cells ⟨q1.1, 6, q2.1, q3.1, ⟨#[]⟩⟩) ?_ ?_ ?_ ?_ ?_ ?_ ?_
          rfl
          rfl
          rfl
          rfl
          kernel_rfl
          rfl
          intro w8 H8
          go_wp2_with (fail)
          refine bodyPost_ret (results_cell1 rfl _ _ b2 54 (Rep.cells ⟨q1.1, 6, q2.1, q3.1, ⟨#[]⟩⟩) (0, 0) _ rfl H8.block Try.underlying54 rfl (by kernel_rfl)) rfl ?_
          rw [HE.out]
          exact ⟨rfl, H8.tail.tail.tail⟩
        · have ht' : (t.toList == s.toList) = false := toList_ne ht
          have HT := Lib.hid ht; clear ht he
          go_wp2_with (fail)
          go_roundw
          case rel => exact ⟨6 + 1, by decide, by rfl, Lib.hid (not_step HN.out (fun h => HT.out (by have this : (cand s 6).put = (s, 0) := h.2.2; rw [← HP.out] at this; injection this))), H.tail.tail⟩
          case measure => simp [intOf]
      · have he' : (e == 0) = false := beq_eq_false_iff_ne.2 he
        go_wp2_with (fail)
        go_roundw
        case rel => exact ⟨6 + 1, by decide, by rfl, Lib.hid (not_step HN.out (fun h => he (by have this : (cand s 6).put = (s, 0) := h.2.2; rw [← HP.out] at this; injection this))), H.tail.tail⟩
        case measure => simp [intOf]
    · by_cases h1 : s.size < 16
      · have h1' : decide ((s.size : Int) < 16) = true := decide_eq_true (by omega)
        go_wp2_with (fail)
        go_roundw
        case rel => exact ⟨7 + 1, by decide, by rfl, Lib.hid (not_step HN.out (fun h => absurd (show 16 ≤ s.size from h.1) (by omega))), H⟩
        case measure => simp [intOf]
      have h1' : decide ((s.size : Int) < 16) = false := decide_eq_false (by omega)
      by_cases h2 : 65536 < s.size
      · have h2' : decide (65536 < (s.size : Int)) = true := decide_eq_true (by omega)
        go_wp2_with (fail)
        go_roundw
        case rel => exact ⟨7 + 1, by decide, by rfl, Lib.hid (not_step HN.out (fun h => absurd h.2.1 (by omega))), H⟩
        case measure => simp [intOf]
      have h2' : decide (65536 < (s.size : Int)) = false := decide_eq_false (by omega)
      have he1 := nat4_e s (by omega)
      have HR := (H.alloc #[.string s, .int .i64 0, .int .i64 0] 77)
      obtain ⟨rb, hrb⟩ : ∃ b, b = wr.heap.size := ⟨_, rfl⟩
      go_wp2_with (fail)
      rw [← hrb] at HR ⊢
      generalize wr.alloc (.cells #[.string s, .int .i64 0, .int .i64 0] 77) = w3 at *
      clear H hrb
      have H := HR.shutRf (i := 0) (s := s) (Nat.zero_le _) (by rw [ByteArray.extract_zero_size])
      clear HR
      obtain ⟨q1, hq1⟩ : ∃ q, q = RS.nat (⟨s, 0⟩) 4 := ⟨_, rfl⟩
      have hc := refuint4r_ok rb s (⟨s, 0⟩) (by omega) H
      rw [← hq1] at hc
      have Eq1 := Lib.hid hq1; clear hq1
      refine hc.mono ?_
      rintro x w1 ⟨rfl, H'⟩
      clear hc H
      have H := H'
      clear H'
      rw [← Eq1.out] at he1
      have HA := H.alloc zrep 54
      obtain ⟨b7, hb7⟩ : ∃ b, b = w1.heap.size := ⟨_, rfl⟩
      go_wp2_with (with_reducible refine hold_store (ty := 54) ?_)
      unfold Hold
      rw [← hb7] at HA ⊢
      generalize w1.alloc (.cells zrep 54) = w4 at *
      clear H hb7
      with_reducible refine wpList_store_st (ty := 54) (HA) (#[.int .i64 q1.1, .int .i64 7, .int .i64 0, .int .i64 0, .string ⟨#[]⟩]) ?_ ?_ ?_ ?_ ?_ ?_ ?_
      rfl
      rfl
      rfl
      rfl
      kernel_rfl
      rfl
      intro w1 H8
      clear HA
      obtain ⟨i, H9⟩ := H8.r2.openRf2 he1
      have c1 := H9.cell 1 rfl
      have f1 := H9.frozen 1
      go_upto_region 11 with (fail)
      have H := (H9.set 1 (.int .i64 16)).shutRf (i := 16) (s := s.extract 16 s.size) (by omega) rfl
      generalize w1.setCell ⟨rb, 1, none⟩ (.int .i64 16) = w1 at *
      clear H8 H9 c1 f1
      go_wp2_with (fail)
      obtain ⟨q2, hq2⟩ : ∃ q, q = RS.nat (⟨s.extract 16 s.size, 0⟩) 4 := ⟨_, rfl⟩
      have hc := refuint4r_ok rb s (⟨s.extract 16 s.size, 0⟩) (by omega) H
      rw [← hq2] at hc
      have Eq2 := Lib.hid hq2; clear hq2
      refine hc.mono ?_
      rintro x w1 ⟨rfl, H'⟩
      clear hc H
      have H := H'
      clear H'
      have c5 := H.r2.cell 2 rfl
      have f5 := H.r2.frozen 2
      go_upto_region 13 with (fail)
      have H' := (H.r2.set 2 (.int .i64 q2.1)).r2
      generalize w1.setCell ⟨b7, 2, none⟩ (.int .i64 q2.1) = w1 at *
      clear H c5 f5
      have H := H'
      clear H'
      try dsimp only [List.setIfInBounds_toArray, List.set_cons_zero, List.set_cons_succ] at H
      have hC : cand s 7 = ⟨q1.1, 7, q2.1, 0, ⟨#[]⟩⟩ := by unfold cand; rw [show atv 7 = 16 from rfl, ← Eq1.out, ← Eq2.out]; rfl
      obtain ⟨p, hp⟩ : ∃ p, p = Rep.put (cand s 7) := ⟨_, rfl⟩
      have hc := refput_ok ⟨q1.1, 7, q2.1, 0, ⟨#[]⟩⟩ (by first | exact Nat.zero_le _ | (have := extract_le s 16 s.size; dsimp only; omega)) H
      rw [← hC, ← hp] at hc
      have HC := Lib.hid hC; have HP := Lib.hid hp; clear hC hp
      obtain ⟨t, e⟩ := p
      have c0 := H.r2.cell 0 rfl
      have c1 := H.r2.cell 1 rfl
      have c2 := H.r2.cell 2 rfl
      have c3 := H.r2.cell 3 rfl
      have c4 := H.r2.cell 4 rfl
      go_wp2_with (fail)
      clear c0 c1 c2 c3 c4
      rw [HC.out] at hc
      refine hc.mono ?_
      rintro x w1 ⟨rfl, H'⟩
      clear hc H
      have H := H'
      clear H'
      dsimp only
      by_cases he : e = 0
      · have he' : (e == 0) = true := beq_iff_eq.2 he
        by_cases ht : t = s
        · have ht' : (t.toList == s.toList) = true := by rw [ht]; exact toList_same s
          have hh : hit s 7 := ⟨by show 16 ≤ s.size; omega, by omega, by rw [← HP.out, ht, he]⟩
          have hr := get_hit hh
          rw [HC.out] at hr
          have HE := Lib.hid hr; clear hr hh ht he
          have c0 := H.r2.cell 0 rfl
          have c1 := H.r2.cell 1 rfl
          have c2 := H.r2.cell 2 rfl
          have c3 := H.r2.cell 3 rfl
          have c4 := H.r2.cell 4 rfl
          go_wp2_with (with_reducible refine hold_store (ty := 54) ?_)
          unfold Hold
          with_reducible refine wpList_store_st (ty := 54) (H.r3) (Rep.cells ⟨q1.1, 7, q2.1, 0, ⟨#[]⟩⟩) ?_ ?_ ?_ ?_ ?_ ?_ ?_
          rfl
          rfl
          rfl
          rfl
          kernel_rfl
          rfl
          intro w8 H8
          go_wp2_with (fail)
          refine bodyPost_ret (results_cell1 rfl _ _ b2 54 (Rep.cells ⟨q1.1, 7, q2.1, 0, ⟨#[]⟩⟩) (0, 0) _ rfl H8.block Try.underlying54 rfl (by kernel_rfl)) rfl ?_
          rw [HE.out]
          exact ⟨rfl, H8.tail.tail.tail⟩
        · have ht' : (t.toList == s.toList) = false := toList_ne ht
          have HT := Lib.hid ht; clear ht he
          go_wp2_with (fail)
          go_roundw
          case rel => exact ⟨7 + 1, by decide, by rfl, Lib.hid (not_step HN.out (fun h => HT.out (by have this : (cand s 7).put = (s, 0) := h.2.2; rw [← HP.out] at this; injection this))), H.tail.tail⟩
          case measure => simp [intOf]
      · have he' : (e == 0) = false := beq_eq_false_iff_ne.2 he
        go_wp2_with (fail)
        go_roundw
        case rel => exact ⟨7 + 1, by decide, by rfl, Lib.hid (not_step HN.out (fun h => he (by have this : (cand s 7).put = (s, 0) := h.2.2; rw [← HP.out] at this; injection this))), H.tail.tail⟩
        case measure => simp [intOf]
end Go.Proofs.Ytkpcnklhboemcaa

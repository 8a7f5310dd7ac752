/- AttrLess: who may do several things may do each; more bits of a mode take nothing away; the superuser may all: every input. -/
import Derived.Test.YthdmklmihhallaaAtD
import Derived.Test.YthdmklmihhallaaAtL
import Derived.Test.YthdmklmihhallaaRgn
import Derived.Test.YthdmklmihhallaaLift
import Derived.Deep.RegionHeld3
import Derived.Outline
import Derived.Deep.QuietTactic
import Derived.BigQuiet
import Derived.Deep.DeepCutAuto
namespace Go.Proofs.Ythdmklmihhallaa.AttrLess
open Go.RowKit Go.ChangeShapes Go.WideShapes Go.ChangeAt Go.Proofs.Ythdmklmihhallaa

theorem keepA {w0 w : World} {b8 b9 bw : Nat} {m M2 o1 g1 u1 g2 : Int} {T T' : TypeId} {L : List Assn} (H : St w0 w (Pt b8 (attrC m o1 g1) T :: Pt b9 (attrC M2 o1 g1) T :: Pt bw #[.int .i64 o1, .int .i64 g1, .int .i64 u1, .int .i64 g2] T' :: L)) : w.cell? ⟨bw, 2, none⟩ = some (.int .i64 u1) ∧ w.cell? ⟨bw, 3, none⟩ = some (.int .i64 g2) ∧ w.cell? ⟨b8, 0, none⟩ = some (.int .i64 0) ∧ w.cell? ⟨b8, 1, none⟩ = some (.int .i64 m) ∧ w.cell? ⟨b8, 2, none⟩ = some (.int .i64 0) ∧ w.cell? ⟨b8, 3, none⟩ = some (.int .i64 o1) ∧ w.cell? ⟨b8, 4, none⟩ = some (.int .i64 g1) ∧ w.cell? ⟨b8, 5, none⟩ = some (.int .i64 0) ∧ w.cell? ⟨b8, 6, none⟩ = some (.int .i64 0) ∧ w.cell? ⟨b8, 7, none⟩ = some (.int .i64 0) ∧ w.cell? ⟨b8, 8, none⟩ = some (.int .i64 0) ∧ w.cell? ⟨b8, 9, none⟩ = some (.int .i64 0) ∧ w.cell? ⟨b8, 10, none⟩ = some (.int .i64 0) ∧ w.cell? ⟨b8, 11, none⟩ = some (.int .i64 0) ∧ w.cell? ⟨b8, 12, none⟩ = some (.int .i64 0) ∧ w.cell? ⟨b8, 13, none⟩ = some (.int .i64 0) ∧ w.cell? ⟨b8, 14, none⟩ = some (.int .i64 0) ∧ w.cell? ⟨b8, 15, none⟩ = some (.int .i64 0) ∧ w.cell? ⟨b8, 16, none⟩ = some (.int .i64 0) :=
  ⟨H.r3.cell 2 rfl, H.r3.cell 3 rfl, H.cell 0 rfl, H.cell 1 rfl, H.cell 2 rfl, H.cell 3 rfl, H.cell 4 rfl, H.cell 5 rfl, H.cell 6 rfl, H.cell 7 rfl, H.cell 8 rfl, H.cell 9 rfl, H.cell 10 rfl, H.cell 11 rfl, H.cell 12 rfl, H.cell 13 rfl, H.cell 14 rfl, H.cell 15 rfl, H.cell 16 rfl⟩
set_option maxRecDepth 100000 in
set_option maxHeartbeats 8000000 in
theorem walk (w : World) (m : Int) (hm : -9223372036854775808 ≤ m ∧ m ≤ 9223372036854775807) (mo : Int) (hmo : -9223372036854775808 ≤ mo ∧ mo ≤ 9223372036854775807) (bt : Int) (hbt : -9223372036854775808 ≤ bt ∧ bt ≤ 9223372036854775807)
    (o1 : Int) (_ho1 : -9223372036854775808 ≤ o1 ∧ o1 ≤ 9223372036854775807) (g1 : Int) (_hg1 : -9223372036854775808 ≤ g1 ∧ g1 ≤ 9223372036854775807) (u1 : Int) (_hu1 : -9223372036854775808 ≤ u1 ∧ u1 ≤ 9223372036854775807) (g2 : Int) (_hg2 : -9223372036854775808 ≤ g2 ∧ g2 ≤ 9223372036854775807) :
    Calls Try.prog 4 #[.agg #[.int .i64 m, .int .i64 mo, .int .i64 bt], .agg #[.int .i64 o1, .int .i64 g1, .int .i64 u1, .int .i64 g2]] w fun r w' => r = .returned (.bool true) ∧ Below w.heap.size w w' := by
  have H0 := ((St.init w).alloc #[.int .i64 m, .int .i64 mo, .int .i64 bt] 33).alloc #[.int .i64 o1, .int .i64 g1, .int .i64 u1, .int .i64 g2] 25
  go_enter Try.func4, Try.ntmps4
  go_wp2_with (first | (go_at_call 8; refine (speaks_ok H0).mono ?_; rintro x w1 ⟨rfl, H1⟩))
  simp only [World.size_alloc] at H1
  have c0 := H1.r2.cell 0 rfl
  have c1 := H1.r2.cell 1 rfl
  have c2 := H1.r2.cell 2 rfl
  have d0 := H1.cell 0 rfl
  have d1 := H1.cell 1 rfl
  obtain ⟨bn, hbn⟩ : ∃ b, b = w.heap.size := ⟨_, rfl⟩
  obtain ⟨bw, hbw⟩ : ∃ b, b = w.heap.size + 1 := ⟨_, rfl⟩
  rw [← hbw] at H1 d0 d1 ⊢
  rw [← hbn] at H1 c0 c1 c2 ⊢
  clear hbn hbw
  go_region_held3 (fun w' => w'.cell? ⟨bn, 0, none⟩ = some (.int .i64 m) ∧ w'.cell? ⟨bn, 1, none⟩ = some (.int .i64 mo) ∧ w'.cell? ⟨bn, 2, none⟩ = some (.int .i64 bt)) (first | exact ⟨c0, c1, c2⟩ | go_keep) (fail)
  go_wp2_with (fail)
  have H2 := H1.drew
  generalize w1.drew = w2 at *
  clear H1 c0 c1 c2 d0 d1
  have e0 := H2.cell 0 rfl
  have e1 := H2.cell 1 rfl
  obtain ⟨M2, hM2⟩ : ∃ x, bits .or .i64 m mo = x := ⟨_, rfl⟩
  have HM2 := Lib.hid hM2
  go_upto_region 4 with (fail)
  go_cut [8, 9] (fun s8 s9 wx => ∃ b8 b9 : Nat, s8 = .pointer (some ⟨b8, 0, none⟩) ∧ s9 = .pointer (some ⟨b9, 0, none⟩) ∧ St w wx [Pt b8 (attrC m o1 g1) 29, Pt b9 (attrC M2 o1 g1) 29, Pt bw #[.int .i64 o1, .int .i64 g1, .int .i64 u1, .int .i64 g2] 25])
  case first => as_aux_lemma =>
    refine wp_region_held_drew (S := fun w' => w'.cell? ⟨bw, 0, none⟩ = some (.int .i64 o1) ∧ w'.cell? ⟨bw, 1, none⟩ = some (.int .i64 g1)) (by kernel_rfl) ⟨H2.drew.cell 0 rfl, H2.drew.cell 1 rfl⟩ (fun hHeld => ?_)
    have H3 := H2.drew
    generalize w2.drew = w3 at *
    refine rg_take (i := 0) (v := ?_) rfl (by kernel_rfl) (by kernel_rfl) (by kernel_rfl) (fun _ _ _ h => h) (Or.inl ⟨by kernel_rfl, ?_⟩) (by assumption) ?_
    rotate_left 1
    · intro w' hSw
      try dsimp only at hSw
      go_simp
      first | done | with_reducible rfl
    simp only [Act.put, List.setIfInBounds_toArray, List.set_cons_zero, List.set_cons_succ]
    refine rg_take (i := 1) (v := ?_) rfl (by kernel_rfl) (by kernel_rfl) (by kernel_rfl) (fun _ _ _ h => h) (Or.inl ⟨by kernel_rfl, ?_⟩) (by assumption) ?_
    rotate_left 1
    · intro w' hSw
      try dsimp only at hSw
      go_simp
      first | done | with_reducible rfl
    simp only [Act.put, List.setIfInBounds_toArray, List.set_cons_zero, List.set_cons_succ]
    refine rg_take (i := 2) (v := ?_) rfl (by kernel_rfl) (by kernel_rfl) (by kernel_rfl) (fun _ _ _ h => h) (Or.inl ⟨by kernel_rfl, ?_⟩) (by assumption) ?_
    rotate_left 1
    · intro w' hSw
      try dsimp only at hSw
      go_simp
      first | done | with_reducible rfl
    simp only [Act.put, List.setIfInBounds_toArray, List.set_cons_zero, List.set_cons_succ]
    refine rg_take (i := 3) (v := ?_) rfl (by kernel_rfl) (by kernel_rfl) (by kernel_rfl) (fun _ _ _ h => h) (Or.inl ⟨by kernel_rfl, ?_⟩) (by assumption) ?_
    rotate_left 1
    · intro w' hSw
      try dsimp only at hSw
      go_simp
      first | done | with_reducible rfl
    simp only [Act.put, List.setIfInBounds_toArray, List.set_cons_zero, List.set_cons_succ]
    refine rg_take (i := 4) (v := ?_) rfl (by kernel_rfl) (by kernel_rfl) (by kernel_rfl) (fun _ _ _ h => h) (Or.inl ⟨by kernel_rfl, ?_⟩) (by assumption) ?_
    rotate_left 1
    · intro w' hSw
      try dsimp only at hSw
      go_simp
      first | done | with_reducible rfl
    simp only [Act.put, List.setIfInBounds_toArray, List.set_cons_zero, List.set_cons_succ]
    refine rg_take (i := 5) (v := ?_) rfl (by kernel_rfl) (by kernel_rfl) (by kernel_rfl) (fun _ _ _ h => h) (Or.inl ⟨by kernel_rfl, ?_⟩) (by assumption) ?_
    rotate_left 1
    · intro w' hSw
      try dsimp only at hSw
      go_simp
      first | done | with_reducible rfl
    simp only [Act.put, List.setIfInBounds_toArray, List.set_cons_zero, List.set_cons_succ]
    refine rg_take (i := 6) (v := ?_) rfl (by kernel_rfl) (by kernel_rfl) (by kernel_rfl) (fun _ _ _ h => h) (Or.inl ⟨by kernel_rfl, ?_⟩) (by assumption) ?_
    rotate_left 1
    · intro w' hSw
      try dsimp only at hSw
      go_simp
      first | done | with_reducible rfl
    simp only [Act.put, List.setIfInBounds_toArray, List.set_cons_zero, List.set_cons_succ]
    refine rg_take (i := 7) (v := ?_) rfl (by kernel_rfl) (by kernel_rfl) (by kernel_rfl) (fun _ _ _ h => h) (Or.inl ⟨by kernel_rfl, ?_⟩) (by assumption) ?_
    rotate_left 1
    · intro w' hSw
      try dsimp only at hSw
      go_simp
      first | done | with_reducible rfl
    simp only [Act.put, List.setIfInBounds_toArray, List.set_cons_zero, List.set_cons_succ]
    refine rg_take (i := 8) (v := ?_) rfl (by kernel_rfl) (by kernel_rfl) (by kernel_rfl) (fun _ _ _ h => h) (Or.inl ⟨by kernel_rfl, ?_⟩) (by assumption) ?_
    rotate_left 1
    · intro w' hSw
      try dsimp only at hSw
      go_simp
      first | done | with_reducible rfl
    simp only [Act.put, List.setIfInBounds_toArray, List.set_cons_zero, List.set_cons_succ]
    refine rg_take (i := 9) (v := ?_) rfl (by kernel_rfl) (by kernel_rfl) (by kernel_rfl) (fun _ _ _ h => h) (Or.inl ⟨by kernel_rfl, ?_⟩) (by assumption) ?_
    rotate_left 1
    · intro w' hSw
      try dsimp only at hSw
      go_simp
      first | done | with_reducible rfl
    simp only [Act.put, List.setIfInBounds_toArray, List.set_cons_zero, List.set_cons_succ]
    refine rg_take (i := 10) (v := ?_) rfl (by kernel_rfl) (by kernel_rfl) (by kernel_rfl) (fun _ _ _ h => h) (Or.inl ⟨by kernel_rfl, ?_⟩) (by assumption) ?_
    rotate_left 1
    · intro w' hSw
      try dsimp only at hSw
      go_simp
      first | done | with_reducible rfl
    simp only [Act.put, List.setIfInBounds_toArray, List.set_cons_zero, List.set_cons_succ]
    refine rg_take (i := 11) (v := ?_) rfl (by kernel_rfl) (by kernel_rfl) (by kernel_rfl) (fun _ _ _ h => h) (Or.inl ⟨by kernel_rfl, ?_⟩) (by assumption) ?_
    rotate_left 1
    · intro w' hSw
      try dsimp only at hSw
      go_simp
      first | done | with_reducible rfl
    simp only [Act.put, List.setIfInBounds_toArray, List.set_cons_zero, List.set_cons_succ]
    refine rg_take (i := 12) (v := ?_) rfl (by kernel_rfl) (by kernel_rfl) (by kernel_rfl) (fun _ _ _ h => h) (Or.inl ⟨by kernel_rfl, ?_⟩) (by assumption) ?_
    rotate_left 1
    · intro w' hSw
      try dsimp only at hSw
      go_simp
      first | done | with_reducible rfl
    simp only [Act.put, List.setIfInBounds_toArray, List.set_cons_zero, List.set_cons_succ]
    refine rg_take (i := 13) (v := ?_) rfl (by kernel_rfl) (by kernel_rfl) (by kernel_rfl) (fun _ _ _ h => h) (Or.inl ⟨by kernel_rfl, ?_⟩) (by assumption) ?_
    rotate_left 1
    · intro w' hSw
      try dsimp only at hSw
      go_simp
      first | done | with_reducible rfl
    simp only [Act.put, List.setIfInBounds_toArray, List.set_cons_zero, List.set_cons_succ]
    refine wpAnyH_ready (rs := [14, 15]) (by kernel_rfl) (by simp) ?_
    refine rg_cons rfl (fun K hK => ?_) (rg_cons rfl (fun K hK => ?_) AllReadyH.nil)
    · have HA := H3.alloc (attrC 0 0 0) 29
      go_simp
      refine hK.out _ _ ⟨HA.r2.cell 0 rfl, HA.r2.cell 1 rfl⟩ (fun hHeld => ?_)
      clear hK
      generalize w3.heap.size = bA at *
      generalize w3.alloc (.cells (attrC 0 0 0) 29) = w4 at *
      try simp only [Act.put, List.setIfInBounds_toArray, List.set_cons_zero, List.set_cons_succ]
      refine wpAnyH_ready (rs := [15]) (by kernel_rfl) (by simp) ?_
      refine rg_cons rfl (fun K2 hK => ?_) AllReadyH.nil
      have HB := HA.alloc (attrC 0 0 0) 29
      go_simp
      refine hK.out _ _ ⟨HB.r3.cell 0 rfl, HB.r3.cell 1 rfl⟩ (fun hHeld => ?_)
      clear hK
      generalize w4.heap.size = bB at *
      generalize w4.alloc (.cells (attrC 0 0 0) 29) = w5 at *
      try simp only [Act.put, List.setIfInBounds_toArray, List.set_cons_zero, List.set_cons_succ]
      refine wpAnyH_ready (rs := [16]) (by kernel_rfl) (by simp) ?_
      refine rg_cons rfl (fun K3 hK => ?_) AllReadyH.nil
      refine step_store_st 29 _ _ rfl rfl (HB.r2) (attrC m o1 g1) rfl rfl rfl (by kernel_rfl) rfl ?_
      intro w6 H6
      refine hK.out _ _ ⟨H6.r3.cell 0 rfl, H6.r3.cell 1 rfl⟩ (fun hHeld => ?_)
      clear hK
      try simp only [Act.put, List.setIfInBounds_toArray, List.set_cons_zero, List.set_cons_succ]
      refine wpAnyH_ready (rs := [17]) (by kernel_rfl) (by simp) ?_
      refine rg_cons rfl (fun K4 hK => ?_) AllReadyH.nil
      refine step_store_st 29 _ _ rfl rfl H6.r2 (attrC M2 o1 g1) rfl rfl rfl (by kernel_rfl) rfl ?_
      intro w7 H7
      refine hK.out _ _ ⟨H7.r3.cell 0 rfl, H7.r3.cell 1 rfl⟩ (fun hHeld => ?_)
      clear hK
      try simp only [Act.put, List.setIfInBounds_toArray, List.set_cons_zero, List.set_cons_succ]
      refine wpAnyH_done (by kernel_rfl) ?_ _
      go_wp2_with (fail)
      go_meet
      exact ⟨_, _, rfl, rfl, H7.r2.r4.tail⟩
    · have HA := H3.alloc (attrC 0 0 0) 29
      go_simp
      refine hK.out _ _ ⟨HA.r2.cell 0 rfl, HA.r2.cell 1 rfl⟩ (fun hHeld => ?_)
      clear hK
      generalize w3.heap.size = bA at *
      generalize w3.alloc (.cells (attrC 0 0 0) 29) = w4 at *
      try simp only [Act.put, List.setIfInBounds_toArray, List.set_cons_zero, List.set_cons_succ]
      refine wpAnyH_ready (rs := [14]) (by kernel_rfl) (by simp) ?_
      refine rg_cons rfl (fun K2 hK => ?_) AllReadyH.nil
      have HB := HA.alloc (attrC 0 0 0) 29
      go_simp
      refine hK.out _ _ ⟨HB.r3.cell 0 rfl, HB.r3.cell 1 rfl⟩ (fun hHeld => ?_)
      clear hK
      generalize w4.heap.size = bB at *
      generalize w4.alloc (.cells (attrC 0 0 0) 29) = w5 at *
      try simp only [Act.put, List.setIfInBounds_toArray, List.set_cons_zero, List.set_cons_succ]
      refine wpAnyH_ready (rs := [16]) (by kernel_rfl) (by simp) ?_
      refine rg_cons rfl (fun K3 hK => ?_) AllReadyH.nil
      refine step_store_st 29 _ _ rfl rfl (HB) (attrC m o1 g1) rfl rfl rfl (by kernel_rfl) rfl ?_
      intro w6 H6
      refine hK.out _ _ ⟨H6.r3.cell 0 rfl, H6.r3.cell 1 rfl⟩ (fun hHeld => ?_)
      clear hK
      try simp only [Act.put, List.setIfInBounds_toArray, List.set_cons_zero, List.set_cons_succ]
      refine wpAnyH_ready (rs := [17]) (by kernel_rfl) (by simp) ?_
      refine rg_cons rfl (fun K4 hK => ?_) AllReadyH.nil
      refine step_store_st 29 _ _ rfl rfl H6.r2 (attrC M2 o1 g1) rfl rfl rfl (by kernel_rfl) rfl ?_
      intro w7 H7
      refine hK.out _ _ ⟨H7.r3.cell 0 rfl, H7.r3.cell 1 rfl⟩ (fun hHeld => ?_)
      clear hK
      try simp only [Act.put, List.setIfInBounds_toArray, List.set_cons_zero, List.set_cons_succ]
      refine wpAnyH_done (by kernel_rfl) ?_ _
      go_wp2_with (fail)
      go_meet
      exact ⟨_, _, rfl, rfl, H7.r2.r4.tail⟩
  case rest =>
    obtain ⟨b8, b9, rfl, rfl, H5⟩ := hcut
    have AE := Lib.hid (all_each m o1 g1 u1 g2 bt)
    have MM := Lib.hid (fun h => (HM2.out ▸ may_more m mo o1 g1 u1 g2 bt h : may M2 o1 g1 u1 g2 [] bt = true))
    clear hM2 e0 e1 H2
    have k2 := H5.r3.cell 2 rfl
    have k3 := H5.r3.cell 3 rfl
    go_wp2_with ((with_reducible refine wpList_load_st (ty := 29) (H5) ?_ ?_ Try.underlying29 ?_ ?_ ?_); rfl; rfl; rfl; kernel_rfl)
    refine (may_ok m o1 g1 u1 g2 none 0 [] bt (fun _ => Rd.nil _) (by decide) H5).mono ?_
    obtain ⟨al, hal⟩ : ∃ b, may m o1 g1 u1 g2 [] bt = b := ⟨_, rfl⟩
    rw [hal]
    have HAL := Lib.hid hal; clear hal k2 k3
    rintro x w6 ⟨rfl, H6⟩
    go_wp2_with (fail)
    go_loopw [11, 12] (fun e i wr => ∃ k : Nat, k ≤ 3 ∧ i = .int .i64 k ∧ e = .bool (ek m o1 g1 u1 g2 bt k) ∧ St w wr [Pt b8 (attrC m o1 g1) 29, Pt b9 (attrC M2 o1 g1) 29, Pt bw #[.int .i64 o1, .int .i64 g1, .int .i64 u1, .int .i64 g2] 25]) (fun _ i _ => 3 - (intOf i).toNat)
    case atStart => exact ⟨0, by decide, rfl, rfl, H6⟩
    case round =>
      obtain ⟨k, hk, rfl, rfl, H7⟩ := hrel
      have hk4 : k = 0 ∨ k = 1 ∨ k = 2 ∨ k = 3 := by omega
      clear hk H5 H6
      rcases hk4 with rfl | rfl | rfl | rfl
      · as_aux_lemma =>
        have hs : ek m o1 g1 u1 g2 bt (0 + 1) = (ek m o1 g1 u1 g2 bt 0 && may m o1 g1 u1 g2 [] (xb bt 0)) := rfl
        cases he : ek m o1 g1 u1 g2 bt 0
        · rw [he, Bool.false_and] at hs
          have HS := Lib.hid hs; clear hs he
          go_wp2_with (fail)
          go_quiet (fail)
          go_wp2_with (fail)
          go_roundw
          case rel => exact ⟨0 + 1, by omega, by go_num, by rw [HS.out], H7.drewN _⟩
          case measure => simp [intOf]
        · rw [he, Bool.true_and] at hs
          have HS := Lib.hid hs; clear hs he
          go_wp2_with (fail)
          refine wp_region_held_drew (S := fun w' => Hid (w'.rangeAt b8 0 (attrC m o1 g1).toList) ∧ w'.cell? ⟨bw, 2, none⟩ = some (.int .i64 u1) ∧ w'.cell? ⟨bw, 3, none⟩ = some (.int .i64 g2)) (by kernel_rfl) ⟨Lib.hid H7.drew.range, H7.drew.r3.cell 2 rfl, H7.drew.r3.cell 3 rfl⟩ (fun hHeld => ?_)
          have H8 := H7.drew
          generalize wr.drew = wd at *
          refine rg_take (i := 0) (v := ?_) rfl (by kernel_rfl) (by kernel_rfl) (by kernel_rfl) (fun _ _ _ h => h) (Or.inl ⟨by kernel_rfl, ?_⟩) (by assumption) ?_
          rotate_left 1
          · intro w' hSw
            try dsimp only at hSw
            go_simp
            first | done | with_reducible rfl
          simp only [Act.put, List.setIfInBounds_toArray, List.set_cons_zero, List.set_cons_succ]
          refine rg_take (i := 1) (v := ?_) rfl (by kernel_rfl) (by kernel_rfl) (by kernel_rfl) (fun _ _ _ h => h) (Or.inl ⟨by kernel_rfl, ?_⟩) (by assumption) ?_
          rotate_left 1
          · intro w' hSw
            try dsimp only at hSw
            go_simp
            first | done | with_reducible rfl
          simp only [Act.put, List.setIfInBounds_toArray, List.set_cons_zero, List.set_cons_succ]
          refine rg_take (i := 2) (v := _) rfl (by kernel_rfl) (by kernel_rfl) (by kernel_rfl) (fun _ _ _ h => h) (yieldsIf_load_mid (by kernel_rfl) 29 _ rfl b8 0 rfl (attrC m o1 g1).toList _ (fun w' h => h.1.out) Try.underlying29 rfl (by kernel_rfl)) hHeld ?_
          simp only [Act.put, List.setIfInBounds_toArray, List.set_cons_zero, List.set_cons_succ]
          refine rg_take (i := 3) (v := ?_) rfl (by kernel_rfl) (by kernel_rfl) (by kernel_rfl) (fun _ _ _ h => h) (Or.inl ⟨by kernel_rfl, ?_⟩) (by assumption) ?_
          rotate_left 1
          · intro w' hSw
            try dsimp only at hSw
            go_simp
            first | done | with_reducible rfl
          simp only [Act.put, List.setIfInBounds_toArray, List.set_cons_zero, List.set_cons_succ]
          refine rg_take (i := 4) (v := ?_) rfl (by kernel_rfl) (by kernel_rfl) (by kernel_rfl) (fun _ _ _ h => h) (Or.inl ⟨by kernel_rfl, ?_⟩) (by assumption) ?_
          rotate_left 1
          · intro w' hSw
            try dsimp only at hSw
            go_simp
            first | done | with_reducible rfl
          simp only [Act.put, List.setIfInBounds_toArray, List.set_cons_zero, List.set_cons_succ]
          refine rg_take (i := 5) (v := ?_) rfl (by kernel_rfl) (by kernel_rfl) (by kernel_rfl) (fun _ _ _ h => h) (Or.inl ⟨by kernel_rfl, ?_⟩) (by assumption) ?_
          rotate_left 1
          · intro w' hSw
            try dsimp only at hSw
            go_simp
            first | done | with_reducible rfl
          simp only [Act.put, List.setIfInBounds_toArray, List.set_cons_zero, List.set_cons_succ]
          refine rg_take (i := 6) (v := ?_) rfl (by kernel_rfl) (by kernel_rfl) (by kernel_rfl) (fun _ _ _ h => h) (Or.inl ⟨by kernel_rfl, ?_⟩) (by assumption) ?_
          rotate_left 1
          · intro w' hSw
            try dsimp only at hSw
            go_simp
            first | done | with_reducible rfl
          simp only [Act.put, List.setIfInBounds_toArray, List.set_cons_zero, List.set_cons_succ]
          refine rg_take (i := 7) (v := ?_) rfl (by kernel_rfl) (by kernel_rfl) (by kernel_rfl) (fun _ _ _ h => h) (Or.inl ⟨by kernel_rfl, ?_⟩) (by assumption) ?_
          rotate_left 1
          · intro w' hSw
            try dsimp only at hSw
            go_simp
            first | done | with_reducible rfl
          simp only [Act.put, List.setIfInBounds_toArray, List.set_cons_zero, List.set_cons_succ]
          refine rg_take (i := 8) (v := ?_) rfl (by kernel_rfl) (by kernel_rfl) (by kernel_rfl) (fun _ _ _ h => h) (Or.inl ⟨by kernel_rfl, ?_⟩) (by assumption) ?_
          rotate_left 1
          · intro w' hSw
            try dsimp only at hSw
            go_simp
            first | done | with_reducible rfl
          simp only [Act.put, List.setIfInBounds_toArray, List.set_cons_zero, List.set_cons_succ]
          refine rg_take (i := 9) (v := ?_) rfl (by kernel_rfl) (by kernel_rfl) (by kernel_rfl) (fun _ _ _ h => h) (Or.inl ⟨by kernel_rfl, ?_⟩) (by assumption) ?_
          rotate_left 1
          · intro w' hSw
            try dsimp only at hSw
            go_simp
            first | done | with_reducible rfl
          simp only [Act.put, List.setIfInBounds_toArray, List.set_cons_zero, List.set_cons_succ]
          refine rg_take (i := 10) (v := ?_) rfl (by kernel_rfl) (by kernel_rfl) (by kernel_rfl) (fun _ _ _ h => h) (Or.inl ⟨by kernel_rfl, ?_⟩) (by assumption) ?_
          rotate_left 1
          · intro w' hSw
            try dsimp only at hSw
            go_simp
            first | done | with_reducible rfl
          simp only [Act.put, List.setIfInBounds_toArray, List.set_cons_zero, List.set_cons_succ]
          refine wpAnyH_ready (rs := [11]) (by kernel_rfl) (by simp) ?_
          refine rg_cons rfl (fun K hK => ?_) AllReadyH.nil
          go_simp
          refine (may_ok m o1 g1 u1 g2 none 0 [] (xb bt 0) (fun _ => Rd.nil _) (by decide) H8).mono ?_
          rw [← HS.out]
          rintro x w9 ⟨rfl, H9⟩
          refine hK.out _ _ ⟨Lib.hid H9.range, H9.r3.cell 2 rfl, H9.r3.cell 3 rfl⟩ (fun hHeld => ?_)
          clear hK
          try simp only [Act.put, List.setIfInBounds_toArray, List.set_cons_zero, List.set_cons_succ]
          refine rg_take (i := 12) (v := ?_) rfl (by kernel_rfl) (by kernel_rfl) (by kernel_rfl) (fun _ _ _ h => h) (Or.inl ⟨by kernel_rfl, ?_⟩) (by assumption) ?_
          rotate_left 1
          · intro w' hSw
            try dsimp only at hSw
            go_simp
            first | done | with_reducible rfl
          simp only [Act.put, List.setIfInBounds_toArray, List.set_cons_zero, List.set_cons_succ]
          refine rg_take (i := 13) (v := ?_) rfl (by kernel_rfl) (by kernel_rfl) (by kernel_rfl) (fun _ _ _ h => h) (Or.inl ⟨by kernel_rfl, ?_⟩) (by assumption) ?_
          rotate_left 1
          · intro w' hSw
            try dsimp only at hSw
            go_simp
            first | done | with_reducible rfl
          simp only [Act.put, List.setIfInBounds_toArray, List.set_cons_zero, List.set_cons_succ]
          refine wpAnyH_done (by kernel_rfl) ?_ _
          go_wp2_with (fail)
          go_roundw
          case rel => exact ⟨0 + 1, by omega, by go_num, rfl, H9⟩
          case measure => simp [intOf]
      · as_aux_lemma =>
        have hs : ek m o1 g1 u1 g2 bt (1 + 1) = (ek m o1 g1 u1 g2 bt 1 && may m o1 g1 u1 g2 [] (xb bt 1)) := rfl
        cases he : ek m o1 g1 u1 g2 bt 1
        · rw [he, Bool.false_and] at hs
          have HS := Lib.hid hs; clear hs he
          go_wp2_with (fail)
          go_quiet (fail)
          go_wp2_with (fail)
          go_roundw
          case rel => exact ⟨1 + 1, by omega, by go_num, by rw [HS.out], H7.drewN _⟩
          case measure => simp [intOf]
        · rw [he, Bool.true_and] at hs
          have HS := Lib.hid hs; clear hs he
          go_wp2_with (fail)
          refine wp_region_held_drew (S := fun w' => Hid (w'.rangeAt b8 0 (attrC m o1 g1).toList) ∧ w'.cell? ⟨bw, 2, none⟩ = some (.int .i64 u1) ∧ w'.cell? ⟨bw, 3, none⟩ = some (.int .i64 g2)) (by kernel_rfl) ⟨Lib.hid H7.drew.range, H7.drew.r3.cell 2 rfl, H7.drew.r3.cell 3 rfl⟩ (fun hHeld => ?_)
          have H8 := H7.drew
          generalize wr.drew = wd at *
          refine rg_take (i := 0) (v := ?_) rfl (by kernel_rfl) (by kernel_rfl) (by kernel_rfl) (fun _ _ _ h => h) (Or.inl ⟨by kernel_rfl, ?_⟩) (by assumption) ?_
          rotate_left 1
          · intro w' hSw
            try dsimp only at hSw
            go_simp
            first | done | with_reducible rfl
          simp only [Act.put, List.setIfInBounds_toArray, List.set_cons_zero, List.set_cons_succ]
          refine rg_take (i := 1) (v := ?_) rfl (by kernel_rfl) (by kernel_rfl) (by kernel_rfl) (fun _ _ _ h => h) (Or.inl ⟨by kernel_rfl, ?_⟩) (by assumption) ?_
          rotate_left 1
          · intro w' hSw
            try dsimp only at hSw
            go_simp
            first | done | with_reducible rfl
          simp only [Act.put, List.setIfInBounds_toArray, List.set_cons_zero, List.set_cons_succ]
          refine rg_take (i := 2) (v := _) rfl (by kernel_rfl) (by kernel_rfl) (by kernel_rfl) (fun _ _ _ h => h) (yieldsIf_load_mid (by kernel_rfl) 29 _ rfl b8 0 rfl (attrC m o1 g1).toList _ (fun w' h => h.1.out) Try.underlying29 rfl (by kernel_rfl)) hHeld ?_
          simp only [Act.put, List.setIfInBounds_toArray, List.set_cons_zero, List.set_cons_succ]
          refine rg_take (i := 3) (v := ?_) rfl (by kernel_rfl) (by kernel_rfl) (by kernel_rfl) (fun _ _ _ h => h) (Or.inl ⟨by kernel_rfl, ?_⟩) (by assumption) ?_
          rotate_left 1
          · intro w' hSw
            try dsimp only at hSw
            go_simp
            first | done | with_reducible rfl
          simp only [Act.put, List.setIfInBounds_toArray, List.set_cons_zero, List.set_cons_succ]
          refine rg_take (i := 4) (v := ?_) rfl (by kernel_rfl) (by kernel_rfl) (by kernel_rfl) (fun _ _ _ h => h) (Or.inl ⟨by kernel_rfl, ?_⟩) (by assumption) ?_
          rotate_left 1
          · intro w' hSw
            try dsimp only at hSw
            go_simp
            first | done | with_reducible rfl
          simp only [Act.put, List.setIfInBounds_toArray, List.set_cons_zero, List.set_cons_succ]
          refine rg_take (i := 5) (v := ?_) rfl (by kernel_rfl) (by kernel_rfl) (by kernel_rfl) (fun _ _ _ h => h) (Or.inl ⟨by kernel_rfl, ?_⟩) (by assumption) ?_
          rotate_left 1
          · intro w' hSw
            try dsimp only at hSw
            go_simp
            first | done | with_reducible rfl
          simp only [Act.put, List.setIfInBounds_toArray, List.set_cons_zero, List.set_cons_succ]
          refine rg_take (i := 6) (v := ?_) rfl (by kernel_rfl) (by kernel_rfl) (by kernel_rfl) (fun _ _ _ h => h) (Or.inl ⟨by kernel_rfl, ?_⟩) (by assumption) ?_
          rotate_left 1
          · intro w' hSw
            try dsimp only at hSw
            go_simp
            first | done | with_reducible rfl
          simp only [Act.put, List.setIfInBounds_toArray, List.set_cons_zero, List.set_cons_succ]
          refine rg_take (i := 7) (v := ?_) rfl (by kernel_rfl) (by kernel_rfl) (by kernel_rfl) (fun _ _ _ h => h) (Or.inl ⟨by kernel_rfl, ?_⟩) (by assumption) ?_
          rotate_left 1
          · intro w' hSw
            try dsimp only at hSw
            go_simp
            first | done | with_reducible rfl
          simp only [Act.put, List.setIfInBounds_toArray, List.set_cons_zero, List.set_cons_succ]
          refine rg_take (i := 8) (v := ?_) rfl (by kernel_rfl) (by kernel_rfl) (by kernel_rfl) (fun _ _ _ h => h) (Or.inl ⟨by kernel_rfl, ?_⟩) (by assumption) ?_
          rotate_left 1
          · intro w' hSw
            try dsimp only at hSw
            go_simp
            first | done | with_reducible rfl
          simp only [Act.put, List.setIfInBounds_toArray, List.set_cons_zero, List.set_cons_succ]
          refine rg_take (i := 9) (v := ?_) rfl (by kernel_rfl) (by kernel_rfl) (by kernel_rfl) (fun _ _ _ h => h) (Or.inl ⟨by kernel_rfl, ?_⟩) (by assumption) ?_
          rotate_left 1
          · intro w' hSw
            try dsimp only at hSw
            go_simp
            first | done | with_reducible rfl
          simp only [Act.put, List.setIfInBounds_toArray, List.set_cons_zero, List.set_cons_succ]
          refine rg_take (i := 10) (v := ?_) rfl (by kernel_rfl) (by kernel_rfl) (by kernel_rfl) (fun _ _ _ h => h) (Or.inl ⟨by kernel_rfl, ?_⟩) (by assumption) ?_
          rotate_left 1
          · intro w' hSw
            try dsimp only at hSw
            go_simp
            first | done | with_reducible rfl
          simp only [Act.put, List.setIfInBounds_toArray, List.set_cons_zero, List.set_cons_succ]
          refine wpAnyH_ready (rs := [11]) (by kernel_rfl) (by simp) ?_
          refine rg_cons rfl (fun K hK => ?_) AllReadyH.nil
          go_simp
          refine (may_ok m o1 g1 u1 g2 none 0 [] (xb bt 1) (fun _ => Rd.nil _) (by decide) H8).mono ?_
          rw [← HS.out]
          rintro x w9 ⟨rfl, H9⟩
          refine hK.out _ _ ⟨Lib.hid H9.range, H9.r3.cell 2 rfl, H9.r3.cell 3 rfl⟩ (fun hHeld => ?_)
          clear hK
          try simp only [Act.put, List.setIfInBounds_toArray, List.set_cons_zero, List.set_cons_succ]
          refine rg_take (i := 12) (v := ?_) rfl (by kernel_rfl) (by kernel_rfl) (by kernel_rfl) (fun _ _ _ h => h) (Or.inl ⟨by kernel_rfl, ?_⟩) (by assumption) ?_
          rotate_left 1
          · intro w' hSw
            try dsimp only at hSw
            go_simp
            first | done | with_reducible rfl
          simp only [Act.put, List.setIfInBounds_toArray, List.set_cons_zero, List.set_cons_succ]
          refine rg_take (i := 13) (v := ?_) rfl (by kernel_rfl) (by kernel_rfl) (by kernel_rfl) (fun _ _ _ h => h) (Or.inl ⟨by kernel_rfl, ?_⟩) (by assumption) ?_
          rotate_left 1
          · intro w' hSw
            try dsimp only at hSw
            go_simp
            first | done | with_reducible rfl
          simp only [Act.put, List.setIfInBounds_toArray, List.set_cons_zero, List.set_cons_succ]
          refine wpAnyH_done (by kernel_rfl) ?_ _
          go_wp2_with (fail)
          go_roundw
          case rel => exact ⟨1 + 1, by omega, by go_num, rfl, H9⟩
          case measure => simp [intOf]
      · as_aux_lemma =>
        have hs : ek m o1 g1 u1 g2 bt (2 + 1) = (ek m o1 g1 u1 g2 bt 2 && may m o1 g1 u1 g2 [] (xb bt 2)) := rfl
        cases he : ek m o1 g1 u1 g2 bt 2
        · rw [he, Bool.false_and] at hs
          have HS := Lib.hid hs; clear hs he
          go_wp2_with (fail)
          go_quiet (fail)
          go_wp2_with (fail)
          go_roundw
          case rel => exact ⟨2 + 1, by omega, by go_num, by rw [HS.out], H7.drewN _⟩
          case measure => simp [intOf]
        · rw [he, Bool.true_and] at hs
          have HS := Lib.hid hs; clear hs he
          go_wp2_with (fail)
          refine wp_region_held_drew (S := fun w' => Hid (w'.rangeAt b8 0 (attrC m o1 g1).toList) ∧ w'.cell? ⟨bw, 2, none⟩ = some (.int .i64 u1) ∧ w'.cell? ⟨bw, 3, none⟩ = some (.int .i64 g2)) (by kernel_rfl) ⟨Lib.hid H7.drew.range, H7.drew.r3.cell 2 rfl, H7.drew.r3.cell 3 rfl⟩ (fun hHeld => ?_)
          have H8 := H7.drew
          generalize wr.drew = wd at *
          refine rg_take (i := 0) (v := ?_) rfl (by kernel_rfl) (by kernel_rfl) (by kernel_rfl) (fun _ _ _ h => h) (Or.inl ⟨by kernel_rfl, ?_⟩) (by assumption) ?_
          rotate_left 1
          · intro w' hSw
            try dsimp only at hSw
            go_simp
            first | done | with_reducible rfl
          simp only [Act.put, List.setIfInBounds_toArray, List.set_cons_zero, List.set_cons_succ]
          refine rg_take (i := 1) (v := ?_) rfl (by kernel_rfl) (by kernel_rfl) (by kernel_rfl) (fun _ _ _ h => h) (Or.inl ⟨by kernel_rfl, ?_⟩) (by assumption) ?_
          rotate_left 1
          · intro w' hSw
            try dsimp only at hSw
            go_simp
            first | done | with_reducible rfl
          simp only [Act.put, List.setIfInBounds_toArray, List.set_cons_zero, List.set_cons_succ]
          refine rg_take (i := 2) (v := _) rfl (by kernel_rfl) (by kernel_rfl) (by kernel_rfl) (fun _ _ _ h => h) (yieldsIf_load_mid (by kernel_rfl) 29 _ rfl b8 0 rfl (attrC m o1 g1).toList _ (fun w' h => h.1.out) Try.underlying29 rfl (by kernel_rfl)) hHeld ?_
          simp only [Act.put, List.setIfInBounds_toArray, List.set_cons_zero, List.set_cons_succ]
          refine rg_take (i := 3) (v := ?_) rfl (by kernel_rfl) (by kernel_rfl) (by kernel_rfl) (fun _ _ _ h => h) (Or.inl ⟨by kernel_rfl, ?_⟩) (by assumption) ?_
          rotate_left 1
          · intro w' hSw
            try dsimp only at hSw
            go_simp
            first | done | with_reducible rfl
          simp only [Act.put, List.setIfInBounds_toArray, List.set_cons_zero, List.set_cons_succ]
          refine rg_take (i := 4) (v := ?_) rfl (by kernel_rfl) (by kernel_rfl) (by kernel_rfl) (fun _ _ _ h => h) (Or.inl ⟨by kernel_rfl, ?_⟩) (by assumption) ?_
          rotate_left 1
          · intro w' hSw
            try dsimp only at hSw
            go_simp
            first | done | with_reducible rfl
          simp only [Act.put, List.setIfInBounds_toArray, List.set_cons_zero, List.set_cons_succ]
          refine rg_take (i := 5) (v := ?_) rfl (by kernel_rfl) (by kernel_rfl) (by kernel_rfl) (fun _ _ _ h => h) (Or.inl ⟨by kernel_rfl, ?_⟩) (by assumption) ?_
          rotate_left 1
          · intro w' hSw
            try dsimp only at hSw
            go_simp
            first | done | with_reducible rfl
          simp only [Act.put, List.setIfInBounds_toArray, List.set_cons_zero, List.set_cons_succ]
          refine rg_take (i := 6) (v := ?_) rfl (by kernel_rfl) (by kernel_rfl) (by kernel_rfl) (fun _ _ _ h => h) (Or.inl ⟨by kernel_rfl, ?_⟩) (by assumption) ?_
          rotate_left 1
          · intro w' hSw
            try dsimp only at hSw
            go_simp
            first | done | with_reducible rfl
          simp only [Act.put, List.setIfInBounds_toArray, List.set_cons_zero, List.set_cons_succ]
          refine rg_take (i := 7) (v := ?_) rfl (by kernel_rfl) (by kernel_rfl) (by kernel_rfl) (fun _ _ _ h => h) (Or.inl ⟨by kernel_rfl, ?_⟩) (by assumption) ?_
          rotate_left 1
          · intro w' hSw
            try dsimp only at hSw
            go_simp
            first | done | with_reducible rfl
          simp only [Act.put, List.setIfInBounds_toArray, List.set_cons_zero, List.set_cons_succ]
          refine rg_take (i := 8) (v := ?_) rfl (by kernel_rfl) (by kernel_rfl) (by kernel_rfl) (fun _ _ _ h => h) (Or.inl ⟨by kernel_rfl, ?_⟩) (by assumption) ?_
          rotate_left 1
          · intro w' hSw
            try dsimp only at hSw
            go_simp
            first | done | with_reducible rfl
          simp only [Act.put, List.setIfInBounds_toArray, List.set_cons_zero, List.set_cons_succ]
          refine rg_take (i := 9) (v := ?_) rfl (by kernel_rfl) (by kernel_rfl) (by kernel_rfl) (fun _ _ _ h => h) (Or.inl ⟨by kernel_rfl, ?_⟩) (by assumption) ?_
          rotate_left 1
          · intro w' hSw
            try dsimp only at hSw
            go_simp
            first | done | with_reducible rfl
          simp only [Act.put, List.setIfInBounds_toArray, List.set_cons_zero, List.set_cons_succ]
          refine rg_take (i := 10) (v := ?_) rfl (by kernel_rfl) (by kernel_rfl) (by kernel_rfl) (fun _ _ _ h => h) (Or.inl ⟨by kernel_rfl, ?_⟩) (by assumption) ?_
          rotate_left 1
          · intro w' hSw
            try dsimp only at hSw
            go_simp
            first | done | with_reducible rfl
          simp only [Act.put, List.setIfInBounds_toArray, List.set_cons_zero, List.set_cons_succ]
          refine wpAnyH_ready (rs := [11]) (by kernel_rfl) (by simp) ?_
          refine rg_cons rfl (fun K hK => ?_) AllReadyH.nil
          go_simp
          refine (may_ok m o1 g1 u1 g2 none 0 [] (xb bt 2) (fun _ => Rd.nil _) (by decide) H8).mono ?_
          rw [← HS.out]
          rintro x w9 ⟨rfl, H9⟩
          refine hK.out _ _ ⟨Lib.hid H9.range, H9.r3.cell 2 rfl, H9.r3.cell 3 rfl⟩ (fun hHeld => ?_)
          clear hK
          try simp only [Act.put, List.setIfInBounds_toArray, List.set_cons_zero, List.set_cons_succ]
          refine rg_take (i := 12) (v := ?_) rfl (by kernel_rfl) (by kernel_rfl) (by kernel_rfl) (fun _ _ _ h => h) (Or.inl ⟨by kernel_rfl, ?_⟩) (by assumption) ?_
          rotate_left 1
          · intro w' hSw
            try dsimp only at hSw
            go_simp
            first | done | with_reducible rfl
          simp only [Act.put, List.setIfInBounds_toArray, List.set_cons_zero, List.set_cons_succ]
          refine rg_take (i := 13) (v := ?_) rfl (by kernel_rfl) (by kernel_rfl) (by kernel_rfl) (fun _ _ _ h => h) (Or.inl ⟨by kernel_rfl, ?_⟩) (by assumption) ?_
          rotate_left 1
          · intro w' hSw
            try dsimp only at hSw
            go_simp
            first | done | with_reducible rfl
          simp only [Act.put, List.setIfInBounds_toArray, List.set_cons_zero, List.set_cons_succ]
          refine wpAnyH_done (by kernel_rfl) ?_ _
          go_wp2_with (fail)
          go_roundw
          case rel => exact ⟨2 + 1, by omega, by go_num, rfl, H9⟩
          case measure => simp [intOf]
      · rw [show ek m o1 g1 u1 g2 bt 3 = al from AE.out.symm.trans HAL.out]
        have k3 := H7.r3.cell 3 rfl
        cases al
        · as_aux_lemma =>
          go_wp2_with ((with_reducible refine wpList_load_st (ty := 29) (H7) ?_ ?_ Try.underlying29 ?_ ?_ ?_); rfl; rfl; rfl; kernel_rfl)
          refine (may_ok m o1 g1 0 g2 none 0 [] bt (fun _ => Rd.nil _) (by decide) H7).mono ?_
          rw [may_root]
          rintro x w8 ⟨rfl, H8⟩
          clear k3
          have k2' := H8.r3.cell 2 rfl
          have k3' := H8.r3.cell 3 rfl
          go_wp2_with ((with_reducible refine wpList_load_st (ty := 29) (H8) ?_ ?_ Try.underlying29 ?_ ?_ ?_); rfl; rfl; rfl; kernel_rfl)
          refine (may_ok m o1 g1 u1 g2 none 0 [] 0 (fun _ => Rd.nil _) (by decide) H8).mono ?_
          rw [may_none]
          rintro x wz ⟨rfl, HZZ⟩
          go_wp2_with (fail)
          go_ret
          exact ⟨rfl, HZZ.below⟩
        · as_aux_lemma =>
          have k2 := H7.r3.cell 2 rfl
          go_wp2_with ((with_reducible refine wpList_load_st (ty := 29) (H7.r2) ?_ ?_ Try.underlying29 ?_ ?_ ?_); rfl; rfl; rfl; kernel_rfl)
          refine (may_ok M2 o1 g1 u1 g2 none 0 [] bt (fun _ => Rd.nil _) (by decide) H7.r2).mono ?_
          rw [MM.out HAL.out]
          rintro x w8 ⟨rfl, H8⟩
          clear k2 k3
          have k3 := H8.r3.cell 3 rfl
          go_wp2_with ((with_reducible refine wpList_load_st (ty := 29) (H8.r2) ?_ ?_ Try.underlying29 ?_ ?_ ?_); rfl; rfl; rfl; kernel_rfl)
          refine (may_ok m o1 g1 0 g2 none 0 [] bt (fun _ => Rd.nil _) (by decide) H8.r2).mono ?_
          rw [may_root]
          rintro x w9 ⟨rfl, H9⟩
          clear k3
          have k2' := H9.r3.cell 2 rfl
          have k3' := H9.r3.cell 3 rfl
          go_wp2_with ((with_reducible refine wpList_load_st (ty := 29) (H9) ?_ ?_ Try.underlying29 ?_ ?_ ?_); rfl; rfl; rfl; kernel_rfl)
          refine (may_ok m o1 g1 u1 g2 none 0 [] 0 (fun _ => Rd.nil _) (by decide) H9).mono ?_
          rw [may_none]
          rintro x wz ⟨rfl, HZZ⟩
          go_wp2_with (fail)
          go_ret
          exact ⟨rfl, HZZ.below⟩
theorem own : ownKnob Try.prog.godebug = none := by kernel_rfl
theorem laidOut : laidOutB Try.prog = true := by kernel_rfl
theorem readable : ∀ t ∈ Try.f4.params.toList, Try.prog.readableRec t = true ∧ t < Try.prog.types.size := by
  intro t ht
  rw [Try.params4] at ht
  simp only [List.mem_cons, List.not_mem_nil, or_false] at ht
  rcases ht with rfl | rfl
  all_goals exact ⟨by kernel_rfl, of_decide_eq_true (by kernel_rfl)⟩
theorem contract (H : Type) (enc : TypeId × Value → H) (W : World) (base : Nat) (args : Array Value) (ds gs : List (DataW H)) (before : List MemPlace)
    (hval : ∀ (j : Nat) t v, Try.f4.params[j]? = some t → args[j]? = some v → Value.okWide Try.prog W .any base t v)
    (hW : DataW.Whole enc Try.prog Try.f4.params.toList Rows.attrLessSpec.vars false W args.toList ds gs before) :
    Calls Try.prog 4 args W fun e W' => ∃ v, e = .returned v ∧ Rows.attrLessSpec.post enc Try.prog Try.f4 false true false false W args v W' := by
  have hW' := hW
  obtain ⟨p, q, hA0, hV, rfl, _, _⟩ := hW
  have hA : DataW.TrodAll enc Try.prog W 0 (fun _ => true) true Try.f4.params.toList args.toList ds p := hA0
  rw [Try.params4] at hA hval
  obtain ⟨v0, vs0, d0, ds0, p0, q0, hargs, rfl, rfl, h0, r0⟩ := trodAll_cons hA
  obtain ⟨v1, vs1, d1, ds1, p1, q1, rfl, rfl, rfl, h1, r1⟩ := trodAll_cons r0
  obtain ⟨rfl, rfl, rfl⟩ := trodAll_nil r1
  obtain rfl : args = #[v0, v1] := by cases args; simp_all
  obtain ⟨rfl, rfl⟩ := trodVars_none hV
  clear hA0
  have hk2 : True := trivial
  obtain ⟨cs0, hv0, hsz0⟩ := okWide_array Try.underlying33 (hval 0 33 v0 rfl rfl)
  subst hv0
  rw [show Try.prog.cellsOf 33 = 3 by kernel_rfl] at hsz0
  obtain ⟨l0⟩ := cs0
  obtain ⟨fuel0, hf0⟩ := h0
  obtain ⟨hrow0, hbulk0⟩ := trod_flat 8 33 [.int .i64, .int .i64, .int .i64] (by kernel_rfl) _ _ _ hf0
  simp only [Value.cells] at hrow0 hbulk0
  match l0, hsz0, hrow0, hbulk0, hval, hf0, hW', hk2 with
  | [c0_0, c0_1, c0_2], _, hrow0, hbulk0, hval, hf0, hW', hk2 =>
  obtain ⟨⟨n0, rfl, wn0⟩, ⟨n1, rfl, wn1⟩, ⟨n2, rfl, wn2⟩, _⟩ := hrow0
  obtain ⟨cs1, hv1, hsz1⟩ := okWide_array Try.underlying25 (hval 1 25 v1 rfl rfl)
  subst hv1
  rw [show Try.prog.cellsOf 25 = 4 by kernel_rfl] at hsz1
  obtain ⟨l1⟩ := cs1
  obtain ⟨fuel1, hf1⟩ := h1
  obtain ⟨hrow1, hbulk1⟩ := trod_flat 8 25 [.int .i64, .int .i64, .int .i64, .int .i64] (by kernel_rfl) _ _ _ hf1
  simp only [Value.cells] at hrow1 hbulk1
  match l1, hsz1, hrow1, hbulk1, hval, hf1, hW', hk2 with
  | [c1_0, c1_1, c1_2, c1_3], _, hrow1, hbulk1, hval, hf1, hW', hk2 =>
  obtain ⟨⟨who0, rfl, wwho0⟩, ⟨who1, rfl, wwho1⟩, ⟨who2, rfl, wwho2⟩, ⟨who3, rfl, wwho3⟩, _⟩ := hrow1
  refine (walk W n0 (wf_i64 wn0) n1 (wf_i64 wn1) n2 (wf_i64 wn2) who0 (wf_i64 wwho0) who1 (wf_i64 wwho1) who2 (wf_i64 wwho2) who3 (wf_i64 wwho3)).mono fun e W' ⟨he, hb⟩ => ?_
  exact ⟨_, he, law_post (tb := 4) laidOut readable rfl Try.underlying4 rfl hW' rfl rfl rfl hb⟩
set_option maxRecDepth 100000 in
theorem lifted (os : Os) (started : os.Started) (H : Type) (enc : TypeId × Value → H) :
    ReturnsInHanded {} Try.checked os 4 .any (Rows.attrLessSpec.pre6 enc Try.prog Try.f4 Rows.attrLessRow.domain false) (Rows.attrLessSpec.post enc Try.prog Try.f4 false true false false) := by
  refine returnsInHanded_of_change (C := Try.checked) (s := Rows.attrLessSpec) own started (by kernel_rfl) Try.func4
    (ChangeSpec.witness6 (enc := enc) (C := Try.checked) false ⟨#[], #[.agg #[.int .i64 0, .int .i64 0, .int .i64 0], .agg #[.int .i64 0, .int .i64 0, .int .i64 0, .int .i64 0]], []⟩ 8 (by kernel_rfl) (by kernel_rfl) (by kernel_rfl) (by kernel_rfl)) ?_
  intro W base args ds gs before hval hW _ _
  exact contract H enc W base args ds gs before hval hW
theorem proved : Rows.AttrLessSaid :=
  OpenClaim.holds_of_wide 4 Try.f4 rfl rfl rfl rfl rfl rfl rfl ⟨rfl, rfl, rfl, rfl, rfl⟩ rfl rfl rfl rfl rfl (by kernel_rfl) Try.func4 (by kernel_rfl)
    (of_decide_eq_true (by kernel_rfl)) (by unfold Func.isWrapper; first | (rw [if_pos (by decide +kernel)]; kernel_rfl) | (rw [if_neg (by decide +kernel)]; exact ⟨rfl, rfl⟩))
    (fun os started H enc _ => lifted os started H enc)
#print axioms proved

end Go.Proofs.Ythdmklmihhallaa.AttrLess

/- Layer 9: the numbers of a Set. -/
import Derived.Test.YthdmklmihhallaaAtH
namespace Go.Proofs.Ythdmklmihhallaa
open Go.RowKit

theorem ivs_app (l k : List Int) : ivs (l ++ k) = ivs l ++ ivs k := by rw [ivs, ivs, ivs, List.map_append]
set_option maxHeartbeats 4000000 in
theorem putset_ok (s : SS) (ok : s.ok) {w0 w : World} {F : List Assn} (H : St w0 w F) :
    Calls Try.prog 14 #[.agg s.cells.toArray] w fun r w' => ∃ A n c, r = .returned (.slice A n c) ∧ n = (s.putM 2).length ∧ St w0 w' (Row 3 1 A n c (ivs (s.putM 2)) :: F) := by
  obtain ⟨i0, hi, hz0, hz1, hz2⟩ := info_parts infoInt
  have H1 := H.alloc s.cells.toArray 49
  go_enter Try.func14, Try.ntmps14
  go_wp2_with (fail)
  generalize w.heap.size = b at *
  generalize w.alloc (.cells s.cells.toArray 49) = w1 at *
  refine (options_ok b H1).mono ?_
  rintro e w2 ⟨g, rfl, H2⟩
  go_wp2_with (fail)
  go_loopw [3, 5, 10] (fun v _ i wr => ∃ (k n : Nat) (L : List Int) (A : Option Addr) (c : Nat), k ≤ 4 ∧ i = .int .i64 k ∧ Hid (L = s.putO k) ∧ n ≤ 2 * k ∧ Hid (n = L.length) ∧ v = .slice A n c ∧ St w0 wr (Row 3 1 A n c (ivs L) :: Pt g (opts b).toArray 66 :: Pt b s.cells.toArray 49 :: F)) (fun _ _ i _ => 4 - (intOf i).toNat)
  case atStart => exact ⟨0, 0, [], none, 0, Nat.zero_le _, rfl, Lib.hid rfl, Nat.zero_le _, Lib.hid rfl, rfl, H2.nilRow _ _⟩
  case round =>
    obtain ⟨k, n, L, A, c, hk, rfl, HL, hn, HN, rfl, H3⟩ := hrel
    by_cases hlt : k < 4
    · obtain ⟨hb, hhb⟩ : ∃ x, s.h[k]? = some x := ⟨_, List.getElem?_eq_getElem (by rw [ok.h]; exact hlt)⟩
      obtain ⟨x, hx⟩ : ∃ x, s.l[k]? = some x := ⟨_, List.getElem?_eq_getElem (by rw [ok.l]; omega)⟩
      obtain ⟨t0, t1⟩ := opts_get b k hlt
      have p0 := H3.r2.cell _ t0
      have p1 := H3.r2.cell _ t1
      have hkI : (k : Int) < 4 := by omega
      have H5 := H3.alloc #[.pointer (some ⟨b, k, none⟩), .pointer (some ⟨b, 4 + k, none⟩)] 66
      have hnext : s.putO (k + 1) = L ++ optPut hb x := by rw [SS.putO, HL.out, List.getD_eq_getElem?_getD, List.getD_eq_getElem?_getD, hhb, hx]; rfl
      have q2 := H5.r4.cell k (SS.getH hhb)
      have q3 := H5.r4.cell (4 + k) (SS.getL ok hx)
      have HNX := Lib.hid hnext; clear hnext hhb hx t0 t1
      go_upto_region 5 with (fail)
      generalize wr.heap.size = b5 at *
      generalize wr.alloc (.cells #[.pointer (some ⟨b, k, none⟩), .pointer (some ⟨b, 4 + k, none⟩)] 66) = w5 at *
      clear p0 p1 H3
      have q0 := H5.cell 0 rfl
      have q1 := H5.cell 1 rfl
      cases hb
      · go_wp2_with (at_builtin; refine wpList_append_st (by rfl) _ _ _ (by rfl) 3 i0 (.int .i64 0) 1 8 Try.underlying23 hi hz0 hz1 hz2 rfl (by decide) A n c (ivs L) ((H5.more _).r2) (by rfl) ⟨_, 0, none⟩ 1 1 (ivs [0]) (by rfl) rfl (World.news_of_block (heap_alloc_new _ _)) (ivs_one _) (by unfold maxLen; omega) (by omega) ?_; intro A4 c4 w4 H4; rw [← ivs_app] at H4)
        go_roundw
        case rel => exact ⟨k + 1, n + 1, L ++ [0], A4, c4, by omega, by go_num, Lib.hid HNX.out.symm, by omega, Lib.hid (by rw [List.length_append, ← HN.out]; rfl), rfl, H4.r2.tail⟩
        case measure => simp [intOf]; omega
      · go_wp2_with (at_builtin; refine wpList_append_st (by rfl) _ _ _ (by rfl) 3 i0 (.int .i64 0) 1 8 Try.underlying23 hi hz0 hz1 hz2 rfl (by decide) A n c (ivs L) ((H5.more _).r2) (by rfl) ⟨_, 0, none⟩ 2 2 (ivs [1, x]) (by rfl) rfl (World.news_of_block (heap_alloc_new _ _)) (ivs_one _) (by unfold maxLen; omega) (by omega) ?_; intro A4 c4 w4 H4; rw [← ivs_app] at H4)
        go_roundw
        case rel => exact ⟨k + 1, n + 2, L ++ [1, x], A4, c4, by omega, by go_num, Lib.hid HNX.out.symm, by omega, Lib.hid (by rw [List.length_append, ← HN.out]; rfl), rfl, H4.r2.tail⟩
        case measure => simp [intOf]; omega
    · obtain rfl : k = 4 := by omega
      have H5 := H3.r2.tail
      clear hlt hk H1 H2 H3
      go_wp2_with (fail)
      refine (moments_ok b H5).mono ?_
      rintro e w6 ⟨g2, rfl, H6⟩
      go_wp2_with (fail)
      go_loopw [3, 7, 31] (fun v _ i wr => ∃ (k n : Nat) (L : List Int) (A : Option Addr) (c : Nat), k ≤ 2 ∧ i = .int .i64 k ∧ Hid (L = s.putM k) ∧ n ≤ 8 + 3 * k ∧ Hid (n = L.length) ∧ v = .slice A n c ∧ St w0 wr (Row 3 1 A n c (ivs L) :: Pt g2 (moms b).toArray 71 :: Pt b s.cells.toArray 49 :: F)) (fun _ _ i _ => 2 - (intOf i).toNat)
      case atStart => exact ⟨0, n, L, A, c, Nat.zero_le _, rfl, HL, by omega, HN, rfl, H6.r2⟩
      case round =>
        clear HL HN hn H5 H6
        obtain ⟨k, n, L, A, c, hk, rfl, HL, hn, HN, rfl, H3⟩ := hrel
        by_cases hlt : k < 2
        · obtain ⟨m, hm⟩ : ∃ x, s.l[4 + k]? = some x := ⟨_, List.getElem?_eq_getElem (by rw [ok.l]; omega)⟩
          obtain ⟨x, hx⟩ : ∃ x, s.l[6 + 2 * k]? = some x := ⟨_, List.getElem?_eq_getElem (by rw [ok.l]; omega)⟩
          obtain ⟨y, hy⟩ : ∃ x, s.l[7 + 2 * k]? = some x := ⟨_, List.getElem?_eq_getElem (by rw [ok.l]; omega)⟩
          obtain ⟨t0, t1⟩ := moms_get b k hlt
          have p0 := H3.r2.cell _ t0
          have p1 := H3.r2.cell _ t1
          have hkI : (k : Int) < 2 := by omega
          have H5 := H3.alloc #[.pointer (some ⟨b, 8 + k, none⟩), .pointer (some ⟨b, 10 + 2 * k, none⟩)] 71
          have hnext : s.putM (k + 1) = L ++ momPut m x y := by rw [SS.putM, HL.out, List.getD_eq_getElem?_getD, List.getD_eq_getElem?_getD, List.getD_eq_getElem?_getD, hm, hx, hy]; rfl
          have q2 := H5.r4.cell _ (SS.getL ok hm)
          have q3 := H5.r4.cell _ (SS.getL ok hx)
          have q4 := H5.r4.cell _ (SS.getL ok hy)
          rw [← Nat.add_assoc] at q2 q3 q4
          have HNX := Lib.hid hnext; have HM := Lib.hid hm; have HX := Lib.hid hx; have HY := Lib.hid hy; clear hnext hm hx hy t0 t1
          go_upto_region 12 with (fail)
          generalize wr.heap.size = b5 at *
          generalize wr.alloc (.cells #[.pointer (some ⟨b, 8 + k, none⟩), .pointer (some ⟨b, 10 + 2 * k, none⟩)] 71) = w5 at *
          clear p0 p1 H3
          have q0 := H5.cell 0 rfl
          have q1 := H5.cell 1 rfl
          by_cases hm2 : m = 2
          · subst hm2
            have tok1 : True := trivial
            go_wp2_with (at_builtin; have _t := tok1; refine wpList_append_st (by rfl) _ _ _ (by rfl) 3 i0 (.int .i64 0) 1 8 Try.underlying23 hi hz0 hz1 hz2 rfl (by decide) A n c (ivs L) ((H5.more _).r2) (by rfl) ⟨_, 0, none⟩ 1 1 (ivs [2]) (by rfl) rfl (World.news_of_block (heap_alloc_new _ _)) (ivs_one _) (by unfold maxLen; omega) (by omega) ?_; intro A4 c4 w4 H4; rw [← ivs_app] at H4; have r0 := H4.r2.cell 0 rfl; have r2 := H4.r4.cell _ (SS.getL ok HM.out); rw [← Nat.add_assoc] at r2; clear tok1 _t)
            have e5 := H4.r2.cell 1 rfl
            have e6 := H4.r4.cell _ (SS.getL ok HX.out)
            have e7 := H4.r4.cell _ (SS.getL ok HY.out)
            rw [show 4 + (6 + 2 * k) = 10 + 2 * k by omega] at e6
            rw [show 4 + (7 + 2 * k) = 10 + 2 * k + 1 by omega] at e7
            refine wp_region_held_drew (S := fun w' => w'.cell? ⟨b5, 1, none⟩ = some (.pointer (some ⟨b, 10 + 2 * k, none⟩)) ∧ w'.cell? ⟨b, 10 + 2 * k, none⟩ = some (.int .i64 x) ∧ w'.cell? ⟨b, 10 + 2 * k + 1, none⟩ = some (.int .i64 y)) (by kernel_rfl) ⟨by have := H4.drew; exact e5, e6, e7⟩ (fun hHeld => ?_)
            have H6 := H4.drew
            generalize w4.drew = w6 at *
            clear e5 e6 e7
            refine rg_take (i := 0) (v := ?_) rfl (by kernel_rfl) (by kernel_rfl) (by kernel_rfl) (fun _ _ _ h => h) (Or.inl ⟨by kernel_rfl, ?_⟩) (by assumption) ?_
            rotate_left 1
            · intro w' hSw
              try dsimp only at hSw
              go_simp
              first | done | with_reducible rfl
            try simp only [Act.put, List.setIfInBounds_toArray, List.set_cons_zero, List.set_cons_succ]
            refine rg_take (i := 1) (v := ?_) rfl (by kernel_rfl) (by kernel_rfl) (by kernel_rfl) (fun _ _ _ h => h) (Or.inl ⟨by kernel_rfl, ?_⟩) (by assumption) ?_
            rotate_left 1
            · intro w' hSw
              try dsimp only at hSw
              go_simp
              first | done | with_reducible rfl
            try simp only [Act.put, List.setIfInBounds_toArray, List.set_cons_zero, List.set_cons_succ]
            refine rg_take (i := 2) (v := ?_) rfl (by kernel_rfl) (by kernel_rfl) (by kernel_rfl) (fun _ _ _ h => h) (Or.inl ⟨by kernel_rfl, ?_⟩) (by assumption) ?_
            rotate_left 1
            · intro w' hSw
              try dsimp only at hSw
              go_simp
              first | done | with_reducible rfl
            try simp only [Act.put, List.setIfInBounds_toArray, List.set_cons_zero, List.set_cons_succ]
            refine rg_take (i := 3) (v := ?_) rfl (by kernel_rfl) (by kernel_rfl) (by kernel_rfl) (fun _ _ _ h => h) (Or.inl ⟨by kernel_rfl, ?_⟩) (by assumption) ?_
            rotate_left 1
            · intro w' hSw
              try dsimp only at hSw
              go_simp
              first | done | with_reducible rfl
            try simp only [Act.put, List.setIfInBounds_toArray, List.set_cons_zero, List.set_cons_succ]
            refine rg_take (i := 4) (v := ?_) rfl (by kernel_rfl) (by kernel_rfl) (by kernel_rfl) (fun _ _ _ h => h) (Or.inl ⟨by kernel_rfl, ?_⟩) (by assumption) ?_
            rotate_left 1
            · intro w' hSw
              try dsimp only at hSw
              go_simp
              first | done | with_reducible rfl
            try simp only [Act.put, List.setIfInBounds_toArray, List.set_cons_zero, List.set_cons_succ]
            refine rg_take (i := 5) (v := ?_) rfl (by kernel_rfl) (by kernel_rfl) (by kernel_rfl) (fun _ _ _ h => h) (Or.inl ⟨by kernel_rfl, ?_⟩) (by assumption) ?_
            rotate_left 1
            · intro w' hSw
              try dsimp only at hSw
              go_simp
              first | done | with_reducible rfl
            try simp only [Act.put, List.setIfInBounds_toArray, List.set_cons_zero, List.set_cons_succ]
            refine rg_take (i := 6) (v := ?_) rfl (by kernel_rfl) (by kernel_rfl) (by kernel_rfl) (fun _ _ _ h => h) (Or.inl ⟨by kernel_rfl, ?_⟩) (by assumption) ?_
            rotate_left 1
            · intro w' hSw
              try dsimp only at hSw
              go_simp
              first | done | with_reducible rfl
            try simp only [Act.put, List.setIfInBounds_toArray, List.set_cons_zero, List.set_cons_succ]
            refine rg_take (i := 7) (v := ?_) rfl (by kernel_rfl) (by kernel_rfl) (by kernel_rfl) (fun _ _ _ h => h) (Or.inl ⟨by kernel_rfl, ?_⟩) (by assumption) ?_
            rotate_left 1
            · intro w' hSw
              try dsimp only at hSw
              go_simp
              first | done | with_reducible rfl
            try simp only [Act.put, List.setIfInBounds_toArray, List.set_cons_zero, List.set_cons_succ]
            refine rg_take (i := 8) (v := ?_) rfl (by kernel_rfl) (by kernel_rfl) (by kernel_rfl) (fun _ _ _ h => h) (Or.inl ⟨by kernel_rfl, ?_⟩) (by assumption) ?_
            rotate_left 1
            · intro w' hSw
              try dsimp only at hSw
              go_simp
              first | done | with_reducible rfl
            try simp only [Act.put, List.setIfInBounds_toArray, List.set_cons_zero, List.set_cons_succ]
            refine rg_take (i := 9) (v := ?_) rfl (by kernel_rfl) (by kernel_rfl) (by kernel_rfl) (fun _ _ _ h => h) (Or.inl ⟨by kernel_rfl, ?_⟩) (by assumption) ?_
            rotate_left 1
            · intro w' hSw
              try dsimp only at hSw
              go_simp
              first | done | with_reducible rfl
            try simp only [Act.put, List.setIfInBounds_toArray, List.set_cons_zero, List.set_cons_succ]
            refine rg_take (i := 10) (v := ?_) rfl (by kernel_rfl) (by kernel_rfl) (by kernel_rfl) (fun _ _ _ h => h) (Or.inl ⟨by kernel_rfl, ?_⟩) (by assumption) ?_
            rotate_left 1
            · intro w' hSw
              try dsimp only at hSw
              go_simp
              first | done | with_reducible rfl
            try simp only [Act.put, List.setIfInBounds_toArray, List.set_cons_zero, List.set_cons_succ]
            refine wpAnyH_ready (rs := [11]) (by kernel_rfl) (by simp) ?_
            refine rg_cons rfl (fun K hK => ?_) AllReadyH.nil
            have H7 := H6.more (.cells #[.int .i64 x, .int .i64 y] 3)
            have hnw : (w6.alloc (.cells #[.int .i64 x, .int .i64 y] 3)).heap[w6.heap.size]? = some (.cells #[.int .i64 x, .int .i64 y] 3) := heap_alloc_new _ _
            have hS : (w6.alloc (.cells #[.int .i64 x, .int .i64 y] 3)).cell? ⟨b5, 1, none⟩ = some (.pointer (some ⟨b, 10 + 2 * k, none⟩)) ∧ (w6.alloc (.cells #[.int .i64 x, .int .i64 y] 3)).cell? ⟨b, 10 + 2 * k, none⟩ = some (.int .i64 x) ∧ (w6.alloc (.cells #[.int .i64 x, .int .i64 y] 3)).cell? ⟨b, 10 + 2 * k + 1, none⟩ = some (.int .i64 y) := by
              have e6 := H7.r4.cell _ (SS.getL ok HX.out)
              have e7 := H7.r4.cell _ (SS.getL ok HY.out)
              rw [show 4 + (6 + 2 * k) = 10 + 2 * k by omega] at e6
              rw [show 4 + (7 + 2 * k) = 10 + 2 * k + 1 by omega] at e7
              exact ⟨H7.r2.cell 1 rfl, e6, e7⟩
            go_simp
            refine hK.out _ _ hS (fun hHeld => ?_)
            clear hK hS
            try simp only [Act.put, List.setIfInBounds_toArray, List.set_cons_zero, List.set_cons_succ]
            generalize w6.heap.size = x8 at *
            generalize w6.alloc (.cells #[.int .i64 x, .int .i64 y] 3) = w8 at *
            refine wpAnyH_ready (rs := [12]) (by kernel_rfl) (by simp) ?_
            refine rg_cons rfl (fun K hK => ?_) AllReadyH.nil
            have hnws := World.news_of_block hnw
            refine step_append_st rfl _ _ _ rfl 3 i0 (.int .i64 0) 1 8 Try.underlying23 hi hz0 hz1 hz2 rfl (by decide) A4 (n + 1) c4 (ivs (L ++ [2])) H7 rfl ⟨x8, 0, none⟩ 2 2 (ivs [x, y]) rfl rfl hnws (ivs_one _) (by unfold maxLen; omega) (by omega) ?_
            intro A5 c5 w9 H9
            rw [← ivs_app] at H9
            have hS : w9.cell? ⟨b5, 1, none⟩ = some (.pointer (some ⟨b, 10 + 2 * k, none⟩)) ∧ w9.cell? ⟨b, 10 + 2 * k, none⟩ = some (.int .i64 x) ∧ w9.cell? ⟨b, 10 + 2 * k + 1, none⟩ = some (.int .i64 y) := by
              have e6 := H9.r4.cell _ (SS.getL ok HX.out)
              have e7 := H9.r4.cell _ (SS.getL ok HY.out)
              rw [show 4 + (6 + 2 * k) = 10 + 2 * k by omega] at e6
              rw [show 4 + (7 + 2 * k) = 10 + 2 * k + 1 by omega] at e7
              exact ⟨H9.r2.cell 1 rfl, e6, e7⟩
            refine hK.out _ _ hS (fun hHeld => ?_)
            clear hK hS
            try simp only [Act.put, List.setIfInBounds_toArray, List.set_cons_zero, List.set_cons_succ]
            refine rg_take (i := 13) (v := ?_) rfl (by kernel_rfl) (by kernel_rfl) (by kernel_rfl) (fun _ _ _ h => h) (Or.inl ⟨by kernel_rfl, ?_⟩) (by assumption) ?_
            rotate_left 1
            · intro w' hSw
              try dsimp only at hSw
              go_simp
              first | done | with_reducible rfl
            try simp only [Act.put, List.setIfInBounds_toArray, List.set_cons_zero, List.set_cons_succ]
            refine wpAnyH_done (by kernel_rfl) ?_ _
            go_wp2_with (fail)
            go_roundw
            case rel => exact ⟨k + 1, n + 1 + 2, (L ++ [2]) ++ [x, y], A5, c5, by omega, by go_num, Lib.hid (by rw [HNX.out, List.append_assoc]; rfl), by omega, Lib.hid (by rw [List.length_append, List.length_append, ← HN.out]; rfl), rfl, H9.r2.tail⟩
            case measure => simp [intOf]; omega
          · have hm2' : (m == 2) = false := by rw [beq_eq_false_iff_ne]; exact hm2
            have HM2 := Lib.hid hm2; clear hm2
            have tok1 : True := trivial
            go_wp2_with (at_builtin; have _t := tok1; refine wpList_append_st (by rfl) _ _ _ (by rfl) 3 i0 (.int .i64 0) 1 8 Try.underlying23 hi hz0 hz1 hz2 rfl (by decide) A n c (ivs L) ((H5.more _).r2) (by rfl) ⟨_, 0, none⟩ 1 1 (ivs [m]) (by rfl) rfl (World.news_of_block (heap_alloc_new _ _)) (ivs_one _) (by unfold maxLen; omega) (by omega) ?_; intro A4 c4 w4 H4; rw [← ivs_app] at H4; have r0 := H4.r2.cell 0 rfl; have r2 := H4.r4.cell _ (SS.getL ok HM.out); rw [← Nat.add_assoc] at r2; clear tok1 _t)
            go_roundw
            case rel => exact ⟨k + 1, n + 1, L ++ [m], A4, c4, by omega, by go_num, Lib.hid (by rw [HNX.out, momPut, if_neg HM2.out]), by omega, Lib.hid (by rw [List.length_append, ← HN.out]; rfl), rfl, H4.r2.tail⟩
            case measure => simp [intOf]; omega
        · obtain rfl : k = 2 := by omega
          go_wp2_with (fail)
          go_ret
          exact ⟨A, n, c, rfl, by rw [HN.out, HL.out], by rw [← HL.out]; exact H3.r2.tail.r2.tail⟩
end Go.Proofs.Ythdmklmihhallaa

/- Layer 9: the document's numbers of a Set. -/
import Derived.Test.YthdmklmihhallaaAtI
namespace Go.Proofs.Ythdmklmihhallaa
open Go.RowKit

set_option maxHeartbeats 4000000 in
theorem refput_ok (s : SS) (ok : s.ok) {w0 w : World} {F : List Assn} (H : St w0 w F) :
    Calls Try.prog 16 #[.agg s.cells.toArray] w fun r w' => ∃ A n c, r = .returned (.slice A n c) ∧ n = (s.putM 2).length ∧ St w0 w' (Row 3 1 A n c (ivs (s.putM 2)) :: F) := by
  obtain ⟨i0, hi, hz0, hz1, hz2⟩ := info_parts infoInt
  have H1 := H.alloc s.cells.toArray 46
  go_enter Try.func16, Try.ntmps16
  go_wp2_with (fail)
  generalize w.heap.size = b at *
  generalize w.alloc (.cells s.cells.toArray 46) = w1 at *
  go_loopw [3, 4] (fun v i wr => ∃ (k n : Nat) (L : List Int) (A : Option Addr) (c : Nat), k ≤ 4 ∧ i = .int .i64 k ∧ Hid (L = s.putO k) ∧ n ≤ 2 * k ∧ Hid (n = L.length) ∧ v = .slice A n c ∧ St w0 wr (Row 3 1 A n c (ivs L) :: Pt b s.cells.toArray 46 :: F)) (fun _ i _ => 4 - (intOf i).toNat)
  case atStart => exact ⟨0, 0, [], none, 0, Nat.zero_le _, rfl, Lib.hid rfl, Nat.zero_le _, Lib.hid rfl, rfl, H1.nilRow _ _⟩
  case round =>
    obtain ⟨k, n, L, A, c, hk, rfl, HL, hn, HN, rfl, H3⟩ := hrel
    by_cases hlt : k < 4
    · obtain ⟨hb, hhb⟩ : ∃ x, s.h[k]? = some x := ⟨_, List.getElem?_eq_getElem (by rw [ok.h]; exact hlt)⟩
      obtain ⟨x, hx⟩ : ∃ x, s.l[k]? = some x := ⟨_, List.getElem?_eq_getElem (by rw [ok.l]; omega)⟩
      have hkI : (k : Int) < 4 := by omega
      have hnext : s.putO (k + 1) = L ++ optPut hb x := by rw [SS.putO, HL.out, List.getD_eq_getElem?_getD, List.getD_eq_getElem?_getD, hhb, hx]; rfl
      have q2 := H3.r2.cell k (SS.getH hhb)
      have HNX := Lib.hid hnext; have HX := Lib.hid hx; clear hnext hhb hx
      have tok1 : True := trivial
      cases hb
      · go_wp2_with (at_builtin; have _t := tok1; refine wpList_append_st (by rfl) _ _ _ (by rfl) 3 i0 (.int .i64 0) 1 8 Try.underlying23 hi hz0 hz1 hz2 rfl (by decide) A n c (ivs L) (H3.more _) (by rfl) ⟨_, 0, none⟩ 1 1 (ivs [0]) (by rfl) rfl (World.news_of_block (heap_alloc_new _ _)) (ivs_one _) (by unfold maxLen; omega) (by omega) ?_; intro A4 c4 w4 H4; rw [← ivs_app] at H4; clear tok1 _t)
        go_roundw
        case rel => exact ⟨k + 1, n + 1, L ++ [0], A4, c4, by omega, by go_num, Lib.hid HNX.out.symm, by omega, Lib.hid (by rw [List.length_append, ← HN.out]; rfl), rfl, H4⟩
        case measure => simp [intOf]; omega
      · go_upto_region 7 with (at_builtin; have _t := tok1; refine wpList_append_st (by rfl) _ _ _ (by rfl) 3 i0 (.int .i64 0) 1 8 Try.underlying23 hi hz0 hz1 hz2 rfl (by decide) A n c (ivs L) (H3.more _) (by rfl) ⟨_, 0, none⟩ 1 1 (ivs [1]) (by rfl) rfl (World.news_of_block (heap_alloc_new _ _)) (ivs_one _) (by unfold maxLen; omega) (by omega) ?_; intro A4 c4 w4 H4; rw [← ivs_app] at H4; have r3 := H4.r2.cell _ (SS.getL ok HX.out); clear tok1 _t)
        go_wp2_with (at_builtin; refine wpList_append_st (by rfl) _ _ _ (by rfl) 3 i0 (.int .i64 0) 1 8 Try.underlying23 hi hz0 hz1 hz2 rfl (by decide) A4 (n + 1) c4 (ivs (L ++ [1])) (H4.more _) (by rfl) ⟨_, 0, none⟩ 1 1 (ivs [x]) (by rfl) rfl (World.news_of_block (heap_alloc_new _ _)) (ivs_one _) (by unfold maxLen; omega) (by omega) ?_; intro A5 c5 w5 H5; rw [← ivs_app] at H5)
        go_roundw
        case rel => exact ⟨k + 1, n + 1 + 1, (L ++ [1]) ++ [x], A5, c5, by omega, by go_num, Lib.hid (by rw [HNX.out, List.append_assoc]; rfl), by omega, Lib.hid (by rw [List.length_append, List.length_append, ← HN.out]; rfl), rfl, H5⟩
        case measure => simp [intOf]; omega
    · obtain rfl : k = 4 := by omega
      clear hlt hk H1
      go_wp2_with (fail)
      go_loopw [3, 5] (fun v i wr => ∃ (k n : Nat) (L : List Int) (A : Option Addr) (c : Nat), k ≤ 2 ∧ i = .int .i64 k ∧ Hid (L = s.putM k) ∧ n ≤ 8 + 3 * k ∧ Hid (n = L.length) ∧ v = .slice A n c ∧ St w0 wr (Row 3 1 A n c (ivs L) :: Pt b s.cells.toArray 46 :: F)) (fun _ i _ => 2 - (intOf i).toNat)
      case atStart => exact ⟨0, n, L, A, c, Nat.zero_le _, rfl, HL, by omega, HN, rfl, H3⟩
      case round =>
        clear HL HN hn H3
        obtain ⟨k, n, L, A, c, hk, rfl, HL, hn, HN, rfl, H3⟩ := hrel
        by_cases hlt : k < 2
        · obtain ⟨m, hm⟩ : ∃ x, s.l[4 + k]? = some x := ⟨_, List.getElem?_eq_getElem (by rw [ok.l]; omega)⟩
          obtain ⟨x, hx⟩ : ∃ x, s.l[6 + 2 * k]? = some x := ⟨_, List.getElem?_eq_getElem (by rw [ok.l]; omega)⟩
          obtain ⟨y, hy⟩ : ∃ x, s.l[7 + 2 * k]? = some x := ⟨_, List.getElem?_eq_getElem (by rw [ok.l]; omega)⟩
          have hkI : (k : Int) < 2 := by omega
          have hnext : s.putM (k + 1) = L ++ momPut m x y := by rw [SS.putM, HL.out, List.getD_eq_getElem?_getD, List.getD_eq_getElem?_getD, List.getD_eq_getElem?_getD, hm, hx, hy]; rfl
          have q2 := H3.r2.cell _ (SS.getL ok hm)
          rw [← Nat.add_assoc] at q2
          have HNX := Lib.hid hnext; have HM := Lib.hid hm; have HX := Lib.hid hx; have HY := Lib.hid hy; clear hnext hm hx hy
          have tok1 : True := trivial
          by_cases hm2 : m = 2
          · subst hm2
            go_upto_region 14 with (at_builtin; have _t := tok1; refine wpList_append_st (by rfl) _ _ _ (by rfl) 3 i0 (.int .i64 0) 1 8 Try.underlying23 hi hz0 hz1 hz2 rfl (by decide) A n c (ivs L) (H3.more _) (by rfl) ⟨_, 0, none⟩ 1 1 (ivs [2]) (by rfl) rfl (World.news_of_block (heap_alloc_new _ _)) (ivs_one _) (by unfold maxLen; omega) (by omega) ?_; intro A4 c4 w4 H4; rw [← ivs_app] at H4; have r2 := H4.r2.cell _ (SS.getL ok HM.out); rw [← Nat.add_assoc] at r2; clear tok1 _t)
            have r3 := H4.r2.cell _ (SS.getL ok HX.out)
            rw [show 4 + (6 + 2 * k) = 10 + k * 2 by omega] at r3
            have tok2 : True := trivial
            go_upto_region 15 with (at_builtin; have _t := tok2; refine wpList_append_st (by rfl) _ _ _ (by rfl) 3 i0 (.int .i64 0) 1 8 Try.underlying23 hi hz0 hz1 hz2 rfl (by decide) A4 (n + 1) c4 (ivs (L ++ [2])) (H4.more _) (by rfl) ⟨_, 0, none⟩ 1 1 (ivs [x]) (by rfl) rfl (World.news_of_block (heap_alloc_new _ _)) (ivs_one _) (by unfold maxLen; omega) (by omega) ?_; intro A5 c5 w5 H5; rw [← ivs_app] at H5; clear tok2 _t)
            have r4 := H5.r2.cell _ (SS.getL ok HY.out)
            rw [show 4 + (7 + 2 * k) = 10 + k * 2 + 1 by omega] at r4
            go_wp2_with (at_builtin; refine wpList_append_st (by rfl) _ _ _ (by rfl) 3 i0 (.int .i64 0) 1 8 Try.underlying23 hi hz0 hz1 hz2 rfl (by decide) A5 (n + 1 + 1) c5 (ivs (L ++ [2] ++ [x])) (H5.more _) (by rfl) ⟨_, 0, none⟩ 1 1 (ivs [y]) (by rfl) rfl (World.news_of_block (heap_alloc_new _ _)) (ivs_one _) (by unfold maxLen; omega) (by omega) ?_; intro A6 c6 w6 H6; rw [← ivs_app] at H6)
            go_roundw
            case rel =>
              (repeat apply Exists.intro); exact ⟨⟨k + 1, n + 1 + 1 + 1, L ++ [2] ++ [x] ++ [y], A6, c6, by omega, by go_num, Lib.hid (by rw [HNX.out, List.append_assoc, List.append_assoc]; rfl), by omega, Lib.hid (by rw [List.length_append, List.length_append, List.length_append, ← HN.out]; rfl), rfl, H6⟩, rfl⟩
            case measure => simp [intOf]; omega
          · have hm2' : (m == 2) = false := by rw [beq_eq_false_iff_ne]; exact hm2
            have HM2 := Lib.hid hm2; clear hm2
            go_wp2_with (at_builtin; have _t := tok1; refine wpList_append_st (by rfl) _ _ _ (by rfl) 3 i0 (.int .i64 0) 1 8 Try.underlying23 hi hz0 hz1 hz2 rfl (by decide) A n c (ivs L) (H3.more _) (by rfl) ⟨_, 0, none⟩ 1 1 (ivs [m]) (by rfl) rfl (World.news_of_block (heap_alloc_new _ _)) (ivs_one _) (by unfold maxLen; omega) (by omega) ?_; intro A4 c4 w4 H4; rw [← ivs_app] at H4; have r2 := H4.r2.cell _ (SS.getL ok HM.out); rw [← Nat.add_assoc] at r2; clear tok1 _t)
            go_roundw
            case rel =>
              (repeat apply Exists.intro); exact ⟨⟨k + 1, n + 1, L ++ [m], A4, c4, by omega, by go_num, Lib.hid (by rw [HNX.out, momPut, if_neg HM2.out]), by omega, Lib.hid (by rw [List.length_append, ← HN.out]; rfl), rfl, H4⟩, rfl⟩
            case measure => simp [intOf]; omega
        · obtain rfl : k = 2 := by omega
          go_wp2_with (fail)
          go_ret
          exact ⟨A, n, c, rfl, by rw [HN.out, HL.out], by rw [← HL.out]; exact H3.r2.tail⟩
end Go.Proofs.Ythdmklmihhallaa

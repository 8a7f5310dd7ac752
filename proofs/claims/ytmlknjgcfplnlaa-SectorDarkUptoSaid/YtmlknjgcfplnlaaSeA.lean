/- Layer 4: a disk in memory; its size, what is torn, what is lost. -/
import Derived.Test.YtmlknjgcfplnlaaProg
import Derived.Test.YtmlknjgcfplnlaaSeP
import Derived.Test.YtmlknjgcfplnlaaSLP
import Derived.Test.YtmlknjgcfplnlaaSLC
import Derived.Test.YtmlknjgcfplnlaaRgn
import Derived.Laws.CopyOwn
import Derived.Deep.QuietTactic
import Derived.BigQuiet
import Derived.Outline
import Derived.Deep.DeepCutAuto
namespace Go.Proofs.Ytmlknjgcfplnlaa
open Go.RowKit

abbrev dC (A1 A2 A3 : Option Addr) (c1 c2 c3 : Nat) (d : DS) : Array Value := #[.slice A1 d.las.length c1, .slice A2 d.las.length c2, .slice A3 d.q.length c3, .int .i64 d.left, .int .i64 d.keep, .bool d.off, .int .i64 d.wr, .int .i64 d.fl]
def Dsk (b : Nat) (d : DS) : Assn :=
  exA fun p : (Option Addr × Nat) × (Option Addr × Nat) × (Option Addr × Nat) => star (Pt b (dC p.1.1 p.2.1.1 p.2.2.1 p.1.2 p.2.1.2 p.2.2.2 d) 63) (star (Row 9 1 p.1.1 d.las.length p.1.2 (strs d.las)) (star (Row 9 1 p.2.1.1 d.las.length p.2.1.2 (strs d.now)) (Row 65 2 p.2.2.1 d.q.length p.2.2.2 (qv d.q))))
theorem St.openD {w0 w : World} {b : Nat} {d : DS} {F : List Assn} (H : St w0 w (Dsk b d :: F)) :
    ∃ A1 A2 A3 c1 c2 c3, St w0 w (Pt b #[.slice A1 d.las.length c1, .slice A2 d.las.length c2, .slice A3 d.q.length c3, .int .i64 d.left, .int .i64 d.keep, .bool d.off, .int .i64 d.wr, .int .i64 d.fl] 63 :: Row 9 1 A1 d.las.length c1 (strs d.las) :: Row 9 1 A2 d.las.length c2 (strs d.now) :: Row 65 2 A3 d.q.length c3 (qv d.q) :: F) := by
  obtain ⟨p, H⟩ := H.unex
  have H1 := H.unstar
  have H2 := H1.r2.unstar
  have H3 := H2.r2.unstar
  exact ⟨p.1.1, p.2.1.1, p.2.2.1, p.1.2, p.2.1.2, p.2.2.2, H3.r4.r4.r2⟩
theorem St.shutD {w0 w : World} {b : Nat} {d : DS} {F : List Assn} {A1 A2 A3 : Option Addr} {c1 c2 c3 : Nat} {cs : Array Value} {n1 n2 n3 : Nat} {x1 x2 x3 : List Value} (hc : cs = #[.slice A1 d.las.length c1, .slice A2 d.las.length c2, .slice A3 d.q.length c3, .int .i64 d.left, .int .i64 d.keep, .bool d.off, .int .i64 d.wr, .int .i64 d.fl]) (h1 : n1 = d.las.length) (h2 : n2 = d.las.length) (h3 : n3 = d.q.length) (e1 : x1 = strs d.las) (e2 : x2 = strs d.now) (e3 : x3 = qv d.q)
    (H : St w0 w (Pt b cs 63 :: Row 9 1 A1 n1 c1 x1 :: Row 9 1 A2 n2 c2 x2 :: Row 65 2 A3 n3 c3 x3 :: F)) : St w0 w (Dsk b d :: F) := by
  subst hc h1 h2 h3 e1 e2 e3
  have H1 := H.r4.r4.star
  have H2 := H1.r3.star
  have H3 := H2.r2.star
  exact St.ex ((A1, c1), (A2, c2), (A3, c3)) H3
theorem size_ok (b : Nat) (d : DS) {w0 w : World} {F : List Assn} (H : St w0 w (Dsk b d :: F)) :
    Calls Try.prog 25 #[.pointer (some ⟨b, 0, none⟩)] w fun r w' => r = .returned (.int .i64 d.las.length) ∧ w = w' := by
  obtain ⟨A1, A2, A3, c1, c2, c3, H1⟩ := H.openD
  have d1 := H1.cell 1 rfl
  go_enter Try.func25, Try.ntmps25
  go_wp2_with (fail)
  go_ret
  exact ⟨rfl, rfl⟩
theorem size_nil (w : World) : Calls Try.prog 25 #[.pointer none] w fun r w' => r = .returned (.int .i64 0) ∧ w = w' := by
  go_enter Try.func25, Try.ntmps25
  go_wp2_with (fail)
  go_ret
  exact ⟨rfl, rfl⟩
theorem torn_ok (b : Nat) (d : DS) (N : Nat) (ok : d.ok N) {w0 w : World} {F : List Assn} (H : St w0 w (Dsk b d :: F)) :
    Calls Try.prog 26 #[.pointer (some ⟨b, 0, none⟩)] w fun r w' => r = .returned (.bool d.torn.1) ∧ St w0 w' (Dsk b d.torn.2 :: F) := by
  obtain ⟨A1, A2, A3, c1, c2, c3, H1⟩ := H.openD
  have hl := ok.left
  have f3 := H1.frozen 3
  have d3 := H1.cell 3 rfl
  by_cases h0 : d.left = 0
  · have e : d.torn = (false, d) := if_pos h0
    rw [e]
    have hb : (d.left == 0) = true := by rw [h0]; rfl
    have E := Lib.hid e; have H0 := Lib.hid h0; clear e h0
    go_enter Try.func26, Try.ntmps26
    go_wp2_with (fail)
    go_ret
    exact ⟨rfl, H⟩
  · have e : d.torn = (decide (d.left = 1), { d with left := d.left - 1 }) := if_neg h0
    rw [e]
    have hb : (d.left == 0) = false := by rw [beq_eq_false_iff_ne]; exact h0
    have H2 := H1.set 3 (.int .i64 (d.left - 1))
    have d3' := H2.cell 3 rfl
    have hr : (d.left - 1 == 0) = decide (d.left = 1) := by
      rw [Bool.eq_iff_iff, beq_iff_eq, decide_eq_true_eq]; omega
    have E := Lib.hid e; have H0 := Lib.hid h0; have HR := Lib.hid hr; clear e h0 hr
    go_enter Try.func26, Try.ntmps26
    go_wp2_with (fail)
    go_ret
    exact ⟨by rw [← HR.out]; rfl, H2.shutD rfl rfl rfl rfl rfl rfl rfl⟩
theorem and1_u64 (x : Int) (h0 : 0 ≤ x) (h1 : x ≤ 18446744073709551615) : bits .and .u64 x 1 = x % 2 := by
  show IntKind.u64.wrap (((BitVec.ofInt 64 x &&& BitVec.ofInt 64 1).toNat : Nat) : Int) = _
  rw [BitVec.toNat_and, BitVec.toNat_ofInt, BitVec.toNat_ofInt]
  have e1 : ((1 : Int) % ((2 ^ 64 : Nat) : Int)).toNat = 2 ^ 1 - 1 := by decide
  have e2 : (x % ((2 ^ 64 : Nat) : Int)).toNat = x.toNat := by
    congr 1; exact Int.emod_eq_of_lt h0 (by omega)
  rw [e1, e2, Nat.and_two_pow_sub_one_eq_mod, IntKind.wrap_u64]; omega
theorem kb_range (keep : Int) (k : Nat) : 0 ≤ IntKind.u64.wrap keep / 2 ^ (k % 60) ∧ IntKind.u64.wrap keep / 2 ^ (k % 60) ≤ 18446744073709551615 := by
  rw [IntKind.wrap_u64]
  have hp : (0 : Int) < 2 ^ (k % 60) := Int.pow_pos (by decide)
  have h0 : 0 ≤ keep % 18446744073709551616 := Int.emod_nonneg _ (by decide)
  refine ⟨Int.ediv_nonneg h0 (Int.le_of_lt hp), ?_⟩
  have h1 : keep % 18446744073709551616 / 2 ^ (k % 60) ≤ keep % 18446744073709551616 := Int.ediv_le_self _ h0
  have h2 : keep % 18446744073709551616 < 18446744073709551616 := Int.emod_lt_of_pos _ (by decide)
  omega
theorem kb_bit (keep : Int) (k : Nat) : (bits .and .u64 (IntKind.u64.wrap keep / 2 ^ (k % 60)) 1 == 1) = kb keep k := by
  obtain ⟨h0, h1⟩ := kb_range keep k
  rw [and1_u64 _ h0 h1, IntKind.wrap_u64]
  unfold kb
  rw [Bool.eq_iff_iff, beq_iff_eq, decide_eq_true_eq]
set_option maxHeartbeats 1000000 in
theorem lose_ok (b : Nat) (d : DS) (keep : Int) (N : Nat) (ok : d.ok N) (hN : N ≤ 1099511627776) {w0 w : World} {F : List Assn} (H : St w0 w (Dsk b d :: F)) :
    Calls Try.prog 27 #[.pointer (some ⟨b, 0, none⟩), .int .i64 keep] w fun r w' => r = .returned (.tuple #[]) ∧ St w0 w' (Dsk b (d.lose keep) :: F) := by
  obtain ⟨A1, A2, A3, c1, c2, c3, H1⟩ := H.openD
  have d0 := H1.cell 0 rfl
  have d2 := H1.cell 2 rfl
  have hql := ok.ql
  have hq := ok.q
  have HQ := Lib.hid hq; clear hq
  obtain ⟨m, hm⟩ : ∃ m, m = d.q.length := ⟨_, rfl⟩
  rw [← hm] at hql
  have H2 := H1
  rw [← hm] at H2 d2
  have HM := Lib.hid hm; clear hm
  go_enter Try.func27, Try.ntmps27
  go_wp2_with (fail)
  go_loopw [4, 5, 11] (fun _ _ i wr => ∃ k : Nat, k ≤ m ∧ i = .int .i64 k ∧ St w0 wr (Pt b #[.slice A1 d.las.length c1, .slice A2 d.las.length c2, .slice A3 m c3, .int .i64 d.left, .int .i64 d.keep, .bool d.off, .int .i64 d.wr, .int .i64 d.fl] 63 :: Row 9 1 A1 d.las.length c1 (strs (lz (kb keep) d.q d.las k)) :: Row 9 1 A2 d.las.length c2 (strs d.now) :: Row 65 2 A3 m c3 (qv d.q) :: F)) (fun _ _ i _ => m - (intOf i).toNat)
  case atStart => exact ⟨0, Nat.zero_le _, rfl, H2⟩
  case round =>
    obtain ⟨k, hk, rfl, H3⟩ := hrel
    by_cases hlt : k < m
    · obtain ⟨p, hp⟩ : ∃ p, d.q[k]? = some p := ⟨_, List.getElem?_eq_getElem (by rw [← HM.out]; exact hlt)⟩
      obtain ⟨n, s⟩ := p
      obtain ⟨hnl, hsz⟩ := HQ.out _ (List.mem_of_getElem? hp)
      dsimp only at hnl hsz
      obtain ⟨g3, o3, hA⟩ := (H3.r4).row_form (by omega)
      subst hA
      obtain ⟨q0, q1⟩ := qv_get hp
      have e0 := H3.r4.row_cell (k * 2) q0
      have e1 := H3.r4.row_cell (k * 2 + 1) q1
      rw [← Nat.add_assoc] at e1
      have hkI : (k : Int) < m := by omega
      have hbit := kb_bit keep k
      have hzl := lz_length (kb keep) d.q d.las k
      have hy := lz_yes (f := kb keep) (las := d.las) hp
      have hn := lz_no (f := kb keep) (las := d.las) hp
      generalize lz (kb keep) d.q d.las k = L at *
      have H5 := H3.alloc #[.int .i64 n, .string s] 65
      have HP := Lib.hid hp; have HZ := Lib.hid hzl; have HY := Lib.hid hy; have HNO := Lib.hid hn; clear hp q0 q1 hzl hy hn
      cases hkb : kb keep k
      · rw [hkb] at hbit
        have HK := Lib.hid hkb; clear hkb
        go_wp2_with (fail)
        go_roundw
        case rel => exact ⟨k + 1, by omega, by go_num, by rw [HNO.out HK.out]; exact H5.tail⟩
        case measure => simp [intOf]; omega
      · rw [hkb] at hbit
        have HK := Lib.hid hkb; clear hkb
        go_wp2_with (fail)
        obtain ⟨b5, hb5⟩ : ∃ b5, b5 = wr.heap.size := ⟨_, rfl⟩
        rw [← hb5] at H5 ⊢
        clear hb5
        generalize wr.alloc (.cells #[.int .i64 n, .string s] 65) = w5 at *
        obtain ⟨g1, o1, hA⟩ := (H5.r3).row_form (by omega)
        subst hA
        have H6 := H5.drew
        have a0 := H6.r2.cell 0 rfl
        have a1 := H6.cell 0 rfl
        have a2 := H6.cell 1 rfl
        obtain ⟨y, hy⟩ : ∃ y, L[n]? = some y := ⟨_, List.getElem?_eq_getElem (by rw [HZ.out]; exact hnl)⟩
        have a3 := H6.r3.row_cell n (strs_get hy)
        have a4 := H6.r3.row_frozen n (by have := H6.r3.row_cases; rcases this with ⟨h, _⟩ | ⟨_, _, _, _, _, _, _, h, _⟩ <;> omega)
        have hnI : (n : Int) < d.las.length := by omega
        have H7 := (H5.r3.setCell_row n (by rw [strs_length, HZ.out]; exact hnl) (.string s)).drew
        rw [strs_set, ← HY.out HK.out] at H7
        clear hy
        go_region
        all_goals go_wp2_with (fail)
        go_roundw
        case rel => exact ⟨k + 1, by omega, by go_num, H7.r3.r3.tail⟩
        case measure => simp [intOf]; omega
    · obtain rfl : m = k := by omega
      have e2 := H3.cell 2 rfl
      have f2 := H3.frozen 2
      have H4 := H3.set 2 (.slice none 0 0)
      obtain ⟨L, hL⟩ : ∃ L, L = lz (kb keep) d.q d.las m := ⟨_, rfl⟩
      rw [← hL] at H4
      have hfin : d.lose keep = ⟨L, [], d.left, d.keep, d.off, d.wr, d.fl⟩ := by rw [hL, HM.out]; rfl
      have hll : L.length = d.las.length := by rw [hL, lz_length]
      have HF := Lib.hid hfin; have HLL := Lib.hid hll; clear hL hfin hll
      go_wp2_with (fail)
      generalize wr.setCell ⟨b, 2, none⟩ (.slice none 0 0) = w4 at *
      refine wp_region_held_drew (S := fun w' => w'.cell? ⟨b, 0, none⟩ = some (.slice A1 d.las.length c1) ∧ w'.cell? ⟨b, 1, none⟩ = some (.slice A2 d.las.length c2)) (by kernel_rfl) ⟨H4.drew.cell 0 rfl, H4.drew.cell 1 rfl⟩ (fun hHeld => ?_)
      have H5 := H4.drew
      generalize w4.drew = w5 at *
      refine rg_take (i := 0) (v := ?_) rfl (by kernel_rfl) (by kernel_rfl) (by kernel_rfl) (fun _ _ _ h => h) (Or.inl ⟨by kernel_rfl, ?_⟩) (by assumption) ?_
      rotate_left 1
      · intro w' hSw
        try dsimp only at hSw
        go_simp
        first | done | with_reducible rfl
      try simp only [Act.put, List.setIfInBounds_toArray, List.set_cons_zero, List.set_cons_succ]
      refine rg_take (i := 1) (v := ?_) rfl (by kernel_rfl) (by kernel_rfl) (by kernel_rfl) (fun _ _ _ h => h) (Or.inl ⟨by kernel_rfl, ?_⟩) (by assumption) ?_
      rotate_left 1
      · intro w' hSw
        try dsimp only at hSw
        go_simp
        first | done | with_reducible rfl
      try simp only [Act.put, List.setIfInBounds_toArray, List.set_cons_zero, List.set_cons_succ]
      refine rg_take (i := 2) (v := ?_) rfl (by kernel_rfl) (by kernel_rfl) (by kernel_rfl) (fun _ _ _ h => h) (Or.inl ⟨by kernel_rfl, ?_⟩) (by assumption) ?_
      rotate_left 1
      · intro w' hSw
        try dsimp only at hSw
        go_simp
        first | done | with_reducible rfl
      try simp only [Act.put, List.setIfInBounds_toArray, List.set_cons_zero, List.set_cons_succ]
      refine rg_take (i := 3) (v := ?_) rfl (by kernel_rfl) (by kernel_rfl) (by kernel_rfl) (fun _ _ _ h => h) (Or.inl ⟨by kernel_rfl, ?_⟩) (by assumption) ?_
      rotate_left 1
      · intro w' hSw
        try dsimp only at hSw
        go_simp
        first | done | with_reducible rfl
      try simp only [Act.put, List.setIfInBounds_toArray, List.set_cons_zero, List.set_cons_succ]
      refine rg_take (i := 4) (v := ?_) rfl (by kernel_rfl) (by kernel_rfl) (by kernel_rfl) (fun _ _ _ h => h) (Or.inl ⟨by kernel_rfl, ?_⟩) (by assumption) ?_
      rotate_left 1
      · intro w' hSw
        try dsimp only at hSw
        go_simp
        first | done | with_reducible rfl
      try simp only [Act.put, List.setIfInBounds_toArray, List.set_cons_zero, List.set_cons_succ]
      refine rg_take (i := 5) (v := ?_) rfl (by kernel_rfl) (by kernel_rfl) (by kernel_rfl) (fun _ _ _ h => h) (Or.inl ⟨by kernel_rfl, ?_⟩) (by assumption) ?_
      rotate_left 1
      · intro w' hSw
        try dsimp only at hSw
        go_simp
        first | done | with_reducible rfl
      try simp only [Act.put, List.setIfInBounds_toArray, List.set_cons_zero, List.set_cons_succ]
      refine rg_take (i := 6) (v := ?_) rfl (by kernel_rfl) (by kernel_rfl) (by kernel_rfl) (fun _ _ _ h => h) (Or.inl ⟨by kernel_rfl, ?_⟩) (by assumption) ?_
      rotate_left 1
      · intro w' hSw
        try dsimp only at hSw
        go_simp
        first | done | with_reducible rfl
      try simp only [Act.put, List.setIfInBounds_toArray, List.set_cons_zero, List.set_cons_succ]
      refine rg_take (i := 7) (v := ?_) rfl (by kernel_rfl) (by kernel_rfl) (by kernel_rfl) (fun _ _ _ h => h) (Or.inl ⟨by kernel_rfl, ?_⟩) (by assumption) ?_
      rotate_left 1
      · intro w' hSw
        try dsimp only at hSw
        go_simp
        first | done | with_reducible rfl
      try simp only [Act.put, List.setIfInBounds_toArray, List.set_cons_zero, List.set_cons_succ]
      refine wpAnyH_ready (rs := [8]) (by kernel_rfl) (by simp) ?_
      refine rg_cons rfl (fun K hK => ?_) AllReadyH.nil
      refine step_copy_rows rfl _ _ 22 rfl 9 Try.underlying22 (by kernel_rfl) A2 A1 d.las.length c2 c1 _ _ (H5.ord 3 [2, 1, 0]) (strs_one L) rfl rfl ?_
      intro w6 H6
      have H7 := H6.r3
      refine hK.out _ _ ⟨H7.cell 0 rfl, H7.cell 1 rfl⟩ (fun hHeld => ?_)
      clear hK
      try simp only [Act.put, List.setIfInBounds_toArray, List.set_cons_zero, List.set_cons_succ]
      refine wpAnyH_done (by kernel_rfl) ?_ _
      go_wp2_with (fail)
      go_end0
      rw [HF.out]
      exact ⟨rfl, St.shutD (A3 := none) (c3 := 0) (n3 := 0) (x3 := []) (by rw [HLL.out]; rfl) HLL.out.symm HLL.out.symm rfl rfl rfl rfl (((H6.ord 4 [3, 2, 1, 0]).tail.nilRow 65 2).ord 4 [1, 2, 3, 0])⟩
end Go.Proofs.Ytmlknjgcfplnlaa

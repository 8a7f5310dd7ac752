/- Layer 9: the document's Set of numbers; a document's Set as one of attr's. -/
import Derived.Test.YthdmklmihhallaaAtK
namespace Go.Proofs.Ythdmklmihhallaa
open Go.RowKit

def RefGot (w : World) (l : List Int) (o : Option (SS × List Int)) (e : Ending) (w' : World) : Prop :=
  (match o with
  | none => e = .returned (.tuple #[.agg zeroSet, .int .i64 (-1)])
  | some (s, r) => ∃ j : Nat, e = .returned (.tuple #[.agg s.cells.toArray, .int .i64 j]) ∧ r = l.drop j ∧ j ≤ l.length) ∧ St w w' []
theorem results_cell1 {P : Program} {fn : Func} {p t : Tmp} {ty : TypeId} (h : fn.results = #[.cell p ty, .tmp t]) (tmps : Array Value) (w : World) (g : Nat) (T : TypeId) (cs : Array Value) (fr : Nat × Nat) (d : TypeDesc)
    (hp : tmps.getD p undef = .pointer (some ⟨g, 0, none⟩)) (hg : w.heap[g]? = some (.cells cs T fr))
    (hu : P.underlying ty = some d) (hd : (match d with | .struct _ | .array _ _ => true | _ => false) = true) (hi : (P.info? ty).map (·.size) = some cs.size) :
    (results fn tmps).run P w = .ok (.tuple #[.agg cs, tmps.getD t undef]) w := by
  have hp' : tmps[p]?.getD undef = .pointer (some ⟨g, 0, none⟩) := by simpa using hp
  simp [results, h, hp', asAddr, run_loadVar_row w g T ty cs fr d hg hu hd hi]
theorem step_store_mid {P : Program} {ops : Array Oper} {o : Oper} {a : Act} {K : Act → World → Prop} {Q : Exit → Act → World → Prop} {E : Prop} (ty : TypeId) (x y : Operand) (ho : o.op = .store ty x y) (hg : o.guard = none) {w0 w : World}
    {b : Nat} {cs : Array Value} {T : TypeId} {L : List Assn} (H : St w0 w (Pt b cs T :: L)) (of : Nat) (vs : Array Value) (hx : a.eval x = .pointer (some ⟨b, of, none⟩)) (hy : a.eval y = .agg vs) (hs : of + vs.size ≤ cs.size)
    (hi : (P.info? ty).map (·.size) = some vs.size) (h1 : vs.toList.all (·.oneCell') = true)
    (h : K (a.put o.dst undef) (w.setCells b of vs.toList)) :
    if Region.wanted o (yielded ops a.tmps) = true then Oper.wp P o a w K Q else E := by
  have hw : Region.wanted o (yielded ops a.tmps) = true := by simp [Region.wanted, hg]
  rw [if_pos hw]
  have hc : ∀ j, j < cs.size → (w.cell? ⟨b, j, none⟩).isSome = true := fun j hj => by rw [H.cell j (Array.getElem?_eq_getElem hj)]; rfl
  exact wp_store_mid ty x y ho b of vs hx hy (fun j hj => ⟨hc _ (by omega), H.frozen _⟩) hi (by rw [← Array.all_toList]; exact h1) h
set_option maxRecDepth 100000 in
set_option maxHeartbeats 8000000 in
theorem refget_ok (A0 : Option Addr) (n0 c0 : Nat) (l : List Int) (hl : l.length = n0) (hn2 : n0 ≤ 1099511627776) (w : World) (hr : Rd w A0 l) :
    Calls Try.prog 18 #[.slice A0 n0 c0] w (RefGot w l (gM l 2)) := by
  obtain ⟨bs, os, hs⟩ := Src0.of hr
  have HS := Lib.hid hs; have HLN := Lib.hid hl; clear hs hr hl
  have H2 := ((St.init w).alloc zeroSet 46).alloc zeroSet 46
  simp only [World.size_alloc] at H2
  go_enter Try.func18, Try.ntmps18
  go_wp2_with (fail)
  obtain ⟨b2, hb2⟩ : ∃ b, b = w.heap.size := ⟨_, rfl⟩
  obtain ⟨b4, hb4⟩ : ∃ b, b = w.heap.size + 1 := ⟨_, rfl⟩
  rw [← hb4] at H2 ⊢
  rw [← hb2] at H2 ⊢
  clear hb2 hb4
  go_loopw [5, 6] (fun a i wr => ∃ (k j : Nat) (s : SS), k ≤ 4 ∧ i = .int .i64 k ∧ a = .int .i64 j ∧ j ≤ n0 ∧ Hid (gO l k = some (s, l.drop j)) ∧ s.ok ∧ St w wr [Pt b4 s.cells.toArray 46, Pt b2 zeroSet 46]) (fun _ i _ => 4 - (intOf i).toNat)
  case atStart => exact ⟨0, 0, SS.zero, Nat.zero_le _, rfl, rfl, Nat.zero_le _, Lib.hid rfl, SS.zero_ok, H2⟩
  case round =>
    clear H2
    obtain ⟨k, j, s, hk, rfl, rfl, hj, HG, ok, H4⟩ := hrel
    by_cases hlt : k < 4
    · have hkI : (k : Int) < 4 := by omega
      by_cases hjn : j < n0
      · obtain ⟨x, hx⟩ : ∃ x, l[j]? = some x := ⟨_, List.getElem?_eq_getElem (by rw [HLN.out]; exact hjn)⟩
        have hA := HS.out.form (by rw [HLN.out]; omega)
        subst hA
        have c0 := HS.out.at H4 hx
        have hjI : (j : Int) < n0 := by omega
        have h1 : decide ((n0 : Int) ≤ j) = false := decide_eq_false (by omega)
        have hd : l.drop j = x :: l.drop (j + 1) := by
          have h1 := (List.getElem?_eq_some_iff.1 hx)
          rw [List.drop_eq_getElem_cons h1.1, h1.2]
        by_cases hb1 : x < 0
        · have h2 : decide (x < 0) = true := decide_eq_true hb1
          have hfail : gM l 2 = none := gO_fail (k := k + 1) (by omega) (by rw [gO_next HG.out, hd, optTake_bad (.inl hb1)])
          go_wp2_with (with_reducible refine hold_store (ty := 46) ?_)
          unfold Hold
          with_reducible refine wpList_store_st (ty := 46) H4.r2 zeroSet ?_ ?_ ?_ ?_ ?_ ?_ ?_
          rfl
          rfl
          rfl
          rfl
          kernel_rfl
          rfl
          intro w9 H9
          go_wp2_with (fail)
          refine bodyPost_ret (results_cell1 rfl _ _ b2 46 zeroSet (0, 0) _ rfl H9.block Try.underlying46 rfl (by kernel_rfl)) rfl ?_
          rw [hfail]
          exact ⟨rfl, H9.tail.tail⟩
        by_cases hb2' : 1 < x
        · have h2 : decide (x < 0) = false := decide_eq_false hb1
          have hfail : gM l 2 = none := gO_fail (k := k + 1) (by omega) (by rw [gO_next HG.out, hd, optTake_bad (.inr hb2')])
          go_wp2_with (with_reducible refine hold_store (ty := 46) ?_)
          unfold Hold
          with_reducible refine wpList_store_st (ty := 46) H4.r2 zeroSet ?_ ?_ ?_ ?_ ?_ ?_ ?_
          rfl
          rfl
          rfl
          rfl
          kernel_rfl
          rfl
          intro w9 H9
          go_wp2_with (fail)
          refine bodyPost_ret (results_cell1 rfl _ _ b2 46 zeroSet (0, 0) _ rfl H9.block Try.underlying46 rfl (by kernel_rfl)) rfl ?_
          rw [hfail]
          exact ⟨rfl, H9.tail.tail⟩
        have HD := Lib.hid hd; clear hd
        have h2 : decide (x < 0) = false := decide_eq_false hb1
        have h3 : decide (1 < x) = false := decide_eq_false hb2'
        have f4 := H4.frozen k
        have p4 := H4.cell k (SS.getH (List.getElem?_eq_getElem (by rw [ok.h]; exact hlt)))
        obtain rfl | rfl : x = 0 ∨ x = 1 := by omega
        · have H5 := H4.set k (.bool false)
          rw [SS.setH ok k _ hlt] at H5
          have ok5 := SS.ok_setH ok k false
          have q5 := H5.cell k (SS.getH (s := ⟨s.h.set k false, s.l⟩) (List.getElem?_set_self (by rw [ok.h]; exact hlt)))
          have hnext : gO l (k + 1) = some (⟨s.h.set k false, s.l⟩, l.drop (j + 1)) := by rw [gO_next HG.out, HD.out]; rfl
          go_wp2_with (fail)
          go_roundw
          case rel => exact ⟨k + 1, j + 1, _, by omega, by go_num, by go_num, by omega, Lib.hid hnext, ok5, H5⟩
          case measure => simp [intOf]; omega
        · have H5 := H4.set k (.bool true)
          rw [SS.setH ok k _ hlt] at H5
          have ok5 := SS.ok_setH ok k true
          have q5 := H5.cell k (SS.getH (s := ⟨s.h.set k true, s.l⟩) (List.getElem?_set_self (by rw [ok.h]; exact hlt)))
          by_cases hj2 : j + 1 < n0
          · obtain ⟨y, hy⟩ : ∃ x, l[j + 1]? = some x := ⟨_, List.getElem?_eq_getElem (by rw [HLN.out]; exact hj2)⟩
            have c5 := HS.out.at H5 hy
            have hjz1 : 0 ≤ (j : Int) + 1 := by omega
            have hjI2 : (j : Int) + 1 < n0 := by omega
            have h5 : decide ((n0 : Int) ≤ j + 1) = false := decide_eq_false (by omega)
            have hd2 : l.drop (j + 1) = y :: l.drop (j + 2) := by
              have h1 := (List.getElem?_eq_some_iff.1 hy)
              rw [List.drop_eq_getElem_cons h1.1, h1.2]
            have hnext : gO l (k + 1) = some (⟨s.h.set k true, s.l.set k y⟩, l.drop (j + 2)) := by rw [gO_next HG.out, HD.out, hd2]; rfl
            clear hd2
            have f5 := H5.frozen (4 + k)
            have p5 := H5.cell (4 + k) (SS.getL ok5 (List.getElem?_eq_getElem (by rw [ok5.l]; omega)))
            have H6 := H5.set (4 + k) (.int .i64 y)
            rw [SS.setL ok5] at H6
            have ok6 := SS.ok_setL ok5 k y
            go_wp2_with (fail)
            go_roundw
            case rel => exact ⟨k + 1, j + 2, _, by omega, by go_num, by go_num, by omega, Lib.hid hnext, ok6, H6⟩
            case measure => simp [intOf]; omega
          · have h5 : decide ((n0 : Int) ≤ j + 1) = true := decide_eq_true (by omega)
            have hfail : gM l 2 = none := gO_fail (k := k + 1) (by omega) (by rw [gO_next HG.out, HD.out, List.drop_eq_nil_of_le (by rw [HLN.out]; omega)]; rfl)
            go_wp2_with (with_reducible refine hold_store (ty := 46) ?_)
            unfold Hold
            with_reducible refine wpList_store_st (ty := 46) H5.r2 zeroSet ?_ ?_ ?_ ?_ ?_ ?_ ?_
            rfl
            rfl
            rfl
            rfl
            kernel_rfl
            rfl
            intro w9 H9
            go_wp2_with (fail)
            refine bodyPost_ret (results_cell1 rfl _ _ b2 46 zeroSet (0, 0) _ rfl H9.block Try.underlying46 rfl (by kernel_rfl)) rfl ?_
            rw [hfail]
            exact ⟨rfl, H9.tail.tail⟩
      · have h1 : decide ((n0 : Int) ≤ j) = true := decide_eq_true (by omega)
        have hfail : gM l 2 = none := gO_fail (k := k + 1) (by omega) (by rw [gO_next HG.out, List.drop_eq_nil_of_le (by rw [HLN.out]; omega)]; rfl)
        go_wp2_with (with_reducible refine hold_store (ty := 46) ?_)
        unfold Hold
        with_reducible refine wpList_store_st (ty := 46) H4.r2 zeroSet ?_ ?_ ?_ ?_ ?_ ?_ ?_
        rfl
        rfl
        rfl
        rfl
        kernel_rfl
        rfl
        intro w9 H9
        go_wp2_with (fail)
        refine bodyPost_ret (results_cell1 rfl _ _ b2 46 zeroSet (0, 0) _ rfl H9.block Try.underlying46 rfl (by kernel_rfl)) rfl ?_
        rw [hfail]
        exact ⟨rfl, H9.tail.tail⟩
    · obtain rfl : k = 4 := by omega
      clear hk hlt
      have HG0 : Hid (gM l 0 = some (s, l.drop j)) := HG
      clear HG
      go_wp2_with (fail)
      go_loopw [5, 7] (fun a i wr => ∃ (k j : Nat) (s : SS), k ≤ 2 ∧ i = .int .i64 k ∧ a = .int .i64 j ∧ j ≤ n0 ∧ Hid (gM l k = some (s, l.drop j)) ∧ s.ok ∧ St w wr [Pt b4 s.cells.toArray 46, Pt b2 zeroSet 46]) (fun _ i _ => 2 - (intOf i).toNat)
      case atStart => exact ⟨0, j, s, Nat.zero_le _, rfl, rfl, hj, HG0, ok, H4⟩
      case round =>
        clear HG0 H4 ok hj
        obtain ⟨k, j, s, hk, rfl, rfl, hj, HG, ok, H4⟩ := hrel
        by_cases hlt : k < 2
        · have hkI : (k : Int) < 2 := by omega
          by_cases hjn : j < n0
          · obtain ⟨m, hx⟩ : ∃ x, l[j]? = some x := ⟨_, List.getElem?_eq_getElem (by rw [HLN.out]; exact hjn)⟩
            have hA := HS.out.form (by rw [HLN.out]; omega)
            subst hA
            have c0 := HS.out.at H4 hx
            have hjI : (j : Int) < n0 := by omega
            have h1 : decide ((n0 : Int) ≤ j) = false := decide_eq_false (by omega)
            have hd : l.drop j = m :: l.drop (j + 1) := by
              have h1 := (List.getElem?_eq_some_iff.1 hx)
              rw [List.drop_eq_getElem_cons h1.1, h1.2]
            by_cases hb1 : m < 0
            · have h2 : decide (m < 0) = true := decide_eq_true hb1
              have hfail : gM l 2 = none := gM_fail (k := k + 1) (by omega) (by rw [gM_next HG.out, hd, momTake_bad (.inl hb1)])
              go_wp2_with (with_reducible refine hold_store (ty := 46) ?_)
              unfold Hold
              with_reducible refine wpList_store_st (ty := 46) H4.r2 zeroSet ?_ ?_ ?_ ?_ ?_ ?_ ?_
              rfl
              rfl
              rfl
              rfl
              kernel_rfl
              rfl
              intro w9 H9
              go_wp2_with (fail)
              refine bodyPost_ret (results_cell1 rfl _ _ b2 46 zeroSet (0, 0) _ rfl H9.block Try.underlying46 rfl (by kernel_rfl)) rfl ?_
              rw [hfail]
              exact ⟨rfl, H9.tail.tail⟩
            by_cases hb2' : 2 < m
            · have h2 : decide (m < 0) = false := decide_eq_false hb1
              have hfail : gM l 2 = none := gM_fail (k := k + 1) (by omega) (by rw [gM_next HG.out, hd, momTake_bad (.inr hb2')])
              go_wp2_with (with_reducible refine hold_store (ty := 46) ?_)
              unfold Hold
              with_reducible refine wpList_store_st (ty := 46) H4.r2 zeroSet ?_ ?_ ?_ ?_ ?_ ?_ ?_
              rfl
              rfl
              rfl
              rfl
              kernel_rfl
              rfl
              intro w9 H9
              go_wp2_with (fail)
              refine bodyPost_ret (results_cell1 rfl _ _ b2 46 zeroSet (0, 0) _ rfl H9.block Try.underlying46 rfl (by kernel_rfl)) rfl ?_
              rw [hfail]
              exact ⟨rfl, H9.tail.tail⟩
            have HD := Lib.hid hd; clear hd
            have h2 : decide (m < 0) = false := decide_eq_false hb1
            have h3 : decide (2 < m) = false := decide_eq_false hb2'
            have f4 := H4.frozen (8 + k)
            have p4 := H4.cell (4 + (4 + k)) (SS.getL ok (List.getElem?_eq_getElem (by rw [ok.l]; omega)))
            have H5 := H4.set (4 + (4 + k)) (.int .i64 m)
            rw [SS.setL ok] at H5
            rw [show 4 + (4 + k) = 8 + k by omega] at p4 H5
            have ok5 := SS.ok_setL ok (4 + k) m
            have q5 := H5.cell _ (SS.getL ok5 (List.getElem?_set_self (by rw [ok.l]; omega)))
            rw [show 4 + (4 + k) = 8 + k by omega] at q5
            have hm2' : (m == 2) = decide (m = 2) := by by_cases h : m = 2 <;> simp [h]
            by_cases hm2 : m = 2
            · subst hm2
              clear hm2'
              by_cases hj2 : j + 2 < n0
              · obtain ⟨x, hx⟩ : ∃ x, l[j + 1]? = some x := ⟨_, List.getElem?_eq_getElem (by rw [HLN.out]; omega)⟩
                obtain ⟨y, hy⟩ : ∃ x, l[j + 1 + 1]? = some x := ⟨_, List.getElem?_eq_getElem (by rw [HLN.out]; exact hj2)⟩
                have c5 := HS.out.at H5.drew hx
                have c6 := HS.out.at H5.drew hy
                have hjI1 : (j : Int) + 1 < n0 := by omega
                have hjz1 : 0 ≤ (j : Int) + 1 := by omega
                have hjz2 : 0 ≤ (j : Int) + 1 + 1 := by omega
                have hjw : IntKind.i64.wrap ((j : Int) + 1 + 1) = (j : Int) + 1 + 1 := by rw [IntKind.wrap_i64]; omega
                have hjt : ((j : Int) + 1 + 1).toNat = j + 1 + 1 := by omega
                have hjI2 : (j : Int) + 1 + 1 < n0 := by omega
                have h5 : decide ((n0 : Int) - (j + 1) < 2) = false := decide_eq_false (by omega)
                have hd2 : l.drop (j + 1) = x :: y :: l.drop (j + 3) := by
                  have h1 := (List.getElem?_eq_some_iff.1 hx)
                  have h2 := (List.getElem?_eq_some_iff.1 hy)
                  rw [List.drop_eq_getElem_cons h1.1, h1.2, List.drop_eq_getElem_cons h2.1, h2.2]
                have hnext : gM l (k + 1) = some (⟨s.h, ((s.l.set (4 + k) 2).set (6 + 2 * k) x).set (7 + 2 * k) y⟩, l.drop (j + 3)) := by rw [gM_next HG.out, HD.out, hd2]; rfl
                have HNX := Lib.hid hnext; clear hnext hd2 HG
                go_upto_region 25 with (fail)
                clear q5 p4 f4 c0 H4
                have H6 := H5.drew
                refine region_quiet ?_
                refine wp_region_held_drew (S := fun w' => w'.cell? ⟨bs, os + (j + 1), none⟩ = some (.int .i64 x) ∧ w'.cell? ⟨bs, os + (j + 1 + 1), none⟩ = some (.int .i64 y)) (by kernel_rfl) ⟨c5, c6⟩ (fun hHeld => ?_)
                clear H5
                generalize (wr.setCell ⟨b4, 8 + k, none⟩ (.int .i64 2)).drew = w6 at *
                refine rg_take (i := 0) (v := ?_) rfl (by kernel_rfl) (by kernel_rfl) (by kernel_rfl) (fun _ _ _ h => absurd rfl (h.1 _)) (Or.inl ⟨by kernel_rfl, ?_⟩) (by assumption) ?_
                rotate_left 1
                · intro w' hSw
                  try dsimp only at hSw
                  go_simp
                  first | done | with_reducible rfl
                try simp only [Act.put, List.setIfInBounds_toArray, List.set_cons_zero, List.set_cons_succ]
                refine rg_take (i := 1) (v := ?_) rfl (by kernel_rfl) (by kernel_rfl) (by kernel_rfl) (fun _ _ _ h => absurd rfl (h.1 _)) (Or.inl ⟨by kernel_rfl, ?_⟩) (by assumption) ?_
                rotate_left 1
                · intro w' hSw
                  try dsimp only at hSw
                  go_simp
                  first | done | with_reducible rfl
                try simp only [Act.put, List.setIfInBounds_toArray, List.set_cons_zero, List.set_cons_succ]
                refine rg_take (i := 2) (v := ?_) rfl (by kernel_rfl) (by kernel_rfl) (by kernel_rfl) (fun _ _ _ h => absurd rfl (h.1 _)) (Or.inl ⟨by kernel_rfl, ?_⟩) (by assumption) ?_
                rotate_left 1
                · intro w' hSw
                  try dsimp only at hSw
                  go_simp
                  first | done | with_reducible rfl
                try simp only [Act.put, List.setIfInBounds_toArray, List.set_cons_zero, List.set_cons_succ]
                refine rg_take (i := 3) (v := ?_) rfl (by kernel_rfl) (by kernel_rfl) (by kernel_rfl) (fun _ _ _ h => absurd rfl (h.1 _)) (Or.inl ⟨by kernel_rfl, ?_⟩) (by assumption) ?_
                rotate_left 1
                · intro w' hSw
                  try dsimp only at hSw
                  go_simp
                  first | done | with_reducible rfl
                try simp only [Act.put, List.setIfInBounds_toArray, List.set_cons_zero, List.set_cons_succ]
                refine rg_take (i := 4) (v := ?_) rfl (by kernel_rfl) (by kernel_rfl) (by kernel_rfl) (fun _ _ _ h => absurd rfl (h.1 _)) (Or.inl ⟨by kernel_rfl, ?_⟩) (by assumption) ?_
                rotate_left 1
                · intro w' hSw
                  try dsimp only at hSw
                  go_simp
                  first | done | with_reducible rfl
                try simp only [Act.put, List.setIfInBounds_toArray, List.set_cons_zero, List.set_cons_succ]
                refine rg_take (i := 5) (v := ?_) rfl (by kernel_rfl) (by kernel_rfl) (by kernel_rfl) (fun _ _ _ h => absurd rfl (h.1 _)) (Or.inl ⟨by kernel_rfl, ?_⟩) (by assumption) ?_
                rotate_left 1
                · intro w' hSw
                  try dsimp only at hSw
                  go_simp
                  first | done | with_reducible rfl
                try simp only [Act.put, List.setIfInBounds_toArray, List.set_cons_zero, List.set_cons_succ]
                refine rg_take (i := 6) (v := ?_) rfl (by kernel_rfl) (by kernel_rfl) (by kernel_rfl) (fun _ _ _ h => absurd rfl (h.1 _)) (Or.inl ⟨by kernel_rfl, ?_⟩) (by assumption) ?_
                rotate_left 1
                · intro w' hSw
                  try dsimp only at hSw
                  go_simp
                  first | done | with_reducible rfl
                try simp only [Act.put, List.setIfInBounds_toArray, List.set_cons_zero, List.set_cons_succ]
                refine rg_take (i := 7) (v := ?_) rfl (by kernel_rfl) (by kernel_rfl) (by kernel_rfl) (fun _ _ _ h => absurd rfl (h.1 _)) (Or.inl ⟨by kernel_rfl, ?_⟩) (by assumption) ?_
                rotate_left 1
                · intro w' hSw
                  try dsimp only at hSw
                  go_simp
                  first | done | with_reducible rfl
                try simp only [Act.put, List.setIfInBounds_toArray, List.set_cons_zero, List.set_cons_succ]
                refine rg_take (i := 8) (v := ?_) rfl (by kernel_rfl) (by kernel_rfl) (by kernel_rfl) (fun _ _ _ h => absurd rfl (h.1 _)) (Or.inl ⟨by kernel_rfl, ?_⟩) (by assumption) ?_
                rotate_left 1
                · intro w' hSw
                  try dsimp only at hSw
                  go_simp
                  first | done | with_reducible rfl
                try simp only [Act.put, List.setIfInBounds_toArray, List.set_cons_zero, List.set_cons_succ]
                refine rg_take (i := 9) (v := ?_) rfl (by kernel_rfl) (by kernel_rfl) (by kernel_rfl) (fun _ _ _ h => absurd rfl (h.1 _)) (Or.inl ⟨by kernel_rfl, ?_⟩) (by assumption) ?_
                rotate_left 1
                · intro w' hSw
                  try dsimp only at hSw
                  go_simp
                  first | done | with_reducible rfl
                try simp only [Act.put, List.setIfInBounds_toArray, List.set_cons_zero, List.set_cons_succ]
                refine rg_take (i := 10) (v := ?_) rfl (by kernel_rfl) (by kernel_rfl) (by kernel_rfl) (fun _ _ _ h => absurd rfl (h.1 _)) (Or.inl ⟨by kernel_rfl, ?_⟩) (by assumption) ?_
                rotate_left 1
                · intro w' hSw
                  try dsimp only at hSw
                  go_simp
                  first | done | with_reducible rfl
                try simp only [Act.put, List.setIfInBounds_toArray, List.set_cons_zero, List.set_cons_succ]
                refine rg_take (i := 11) (v := ?_) rfl (by kernel_rfl) (by kernel_rfl) (by kernel_rfl) (fun _ _ _ h => absurd rfl (h.1 _)) (Or.inl ⟨by kernel_rfl, ?_⟩) (by assumption) ?_
                rotate_left 1
                · intro w' hSw
                  try dsimp only at hSw
                  go_simp
                  first | done | with_reducible rfl
                try simp only [Act.put, List.setIfInBounds_toArray, List.set_cons_zero, List.set_cons_succ]
                refine rg_take (i := 12) (v := ?_) rfl (by kernel_rfl) (by kernel_rfl) (by kernel_rfl) (fun _ _ _ h => absurd rfl (h.1 _)) (Or.inl ⟨by kernel_rfl, ?_⟩) (by assumption) ?_
                rotate_left 1
                · intro w' hSw
                  try dsimp only at hSw
                  go_simp
                  first | done | with_reducible rfl
                try simp only [Act.put, List.setIfInBounds_toArray, List.set_cons_zero, List.set_cons_succ]
                refine wpAnyH_ready (rs := [13]) (by kernel_rfl) (by simp) ?_
                refine rg_cons rfl (fun K hK => ?_) AllReadyH.nil
                have HST := H6.setCells (4 + (6 + 2 * k)) [.int .i64 x, .int .i64 y]
                simp only [setAll] at HST
                rw [SS.setL ok5, show 4 + (6 + 2 * k) + 1 = 4 + (7 + 2 * k) by omega, SS.setL (SS.ok_setL ok5 _ _), show 4 + (6 + 2 * k) = 10 + k * 2 by omega] at HST
                have okST := SS.ok_setL (SS.ok_setL ok5 (6 + 2 * k) x) (7 + 2 * k) y
                refine step_store_mid 43 _ _ rfl rfl H6 (10 + k * 2) #[.int .i64 x, .int .i64 y] rfl rfl (by show 10 + k * 2 + 2 ≤ _; rw [List.size_toArray, SS.length ok5]; omega) (by kernel_rfl) rfl ?_
                refine hK.out _ _ ⟨HS.out.at HST hx, HS.out.at HST hy⟩ (fun hHeld => ?_)
                clear hK
                try simp only [Act.put, List.setIfInBounds_toArray, List.set_cons_zero, List.set_cons_succ]
                refine wpAnyH_done (by kernel_rfl) ?_ _
                refine ⟨nofun, ?_⟩
                generalize w6.setCells b4 (10 + k * 2) _ = w8 at *
                clear c5 c6 hHeld H6
                go_wp2_with (fail)
                refine ⟨⟨_, _, _, ⟨k + 1, by omega, by go_num, j + 3, by go_num, by omega, _, HNX, okST, HST⟩, rfl, rfl, rfl⟩, by simp [intOf]; omega⟩
              · have h5 : decide ((n0 : Int) - (j + 1) < 2) = true := decide_eq_true (by omega)
                have hfail : gM l 2 = none := gM_fail (k := k + 1) (by omega) (by
                  rw [gM_next HG.out, HD.out]
                  have hlen : (l.drop (j + 1)).length < 2 := by rw [List.length_drop, HLN.out]; omega
                  match hm : l.drop (j + 1), hlen with
                  | [], _ => rfl
                  | [_], _ => rfl
                  | _ :: _ :: _, h => simp at h; omega)
                go_wp2_with (with_reducible refine hold_store (ty := 46) ?_)
                unfold Hold
                with_reducible refine wpList_store_st (ty := 46) H5.r2 zeroSet ?_ ?_ ?_ ?_ ?_ ?_ ?_
                rfl
                rfl
                rfl
                rfl
                kernel_rfl
                rfl
                intro w9 H9
                go_wp2_with (fail)
                refine bodyPost_ret (results_cell1 rfl _ _ b2 46 zeroSet (0, 0) _ rfl H9.block Try.underlying46 rfl (by kernel_rfl)) rfl ?_
                rw [hfail]
                exact ⟨rfl, H9.tail.tail⟩
            · rw [decide_eq_false hm2] at hm2'
              have hnext : gM l (k + 1) = some (⟨s.h, s.l.set (4 + k) m⟩, l.drop (j + 1)) := by
                rw [gM_next HG.out, HD.out, momTake.eq_def]; dsimp only; rw [if_pos (by omega)]; dsimp only; rw [if_neg hm2]
              go_wp2_with (fail)
              refine ⟨⟨_, _, _, ⟨k + 1, by omega, by go_num, j + 1, by go_num, by omega, _, Lib.hid hnext, ok5, H5⟩, rfl, rfl, rfl⟩, by simp [intOf]; omega⟩
          · have h1 : decide ((n0 : Int) ≤ j) = true := decide_eq_true (by omega)
            have hfail : gM l 2 = none := gM_fail (k := k + 1) (by omega) (by rw [gM_next HG.out, List.drop_eq_nil_of_le (by rw [HLN.out]; omega)]; rfl)
            go_wp2_with (with_reducible refine hold_store (ty := 46) ?_)
            unfold Hold
            with_reducible refine wpList_store_st (ty := 46) H4.r2 zeroSet ?_ ?_ ?_ ?_ ?_ ?_ ?_
            rfl
            rfl
            rfl
            rfl
            kernel_rfl
            rfl
            intro w9 H9
            go_wp2_with (fail)
            refine bodyPost_ret (results_cell1 rfl _ _ b2 46 zeroSet (0, 0) _ rfl H9.block Try.underlying46 rfl (by kernel_rfl)) rfl ?_
            rw [hfail]
            exact ⟨rfl, H9.tail.tail⟩
        · obtain rfl : k = 2 := by omega
          clear hk hlt
          go_wp2_with (first | ((with_reducible refine wpList_load_st (ty := 46) H4 ?_ ?_ Try.underlying46 ?_ ?_ ?_); rfl; rfl; rfl; (rw [List.size_toArray, SS.length ok]; kernel_rfl)) | (with_reducible refine hold_store (ty := 46) ?_))
          unfold Hold
          with_reducible refine wpList_store_st (ty := 46) H4.r2 s.cells.toArray ?_ ?_ ?_ ?_ ?_ ?_ ?_
          rfl
          rfl
          rfl
          (rw [List.size_toArray, SS.length ok]; rfl)
          (rw [List.size_toArray, SS.length ok]; kernel_rfl)
          (exact List.all_eq_true.2 s.one)
          intro w9 H9
          go_wp2_with (fail)
          refine bodyPost_ret (results_cell1 rfl _ _ b2 46 s.cells.toArray (0, 0) _ rfl H9.block Try.underlying46 rfl (by rw [List.size_toArray, SS.length ok]; kernel_rfl)) rfl ?_
          rw [HG.out]
          exact ⟨⟨j, rfl, rfl, by rw [HLN.out]; exact hj⟩, H9.tail.tail⟩
end Go.Proofs.Ythdmklmihhallaa

/- Layer 9: the Set of numbers, walked. -/
import Derived.Test.YthdmklmihhallaaAtK
namespace Go.Proofs.Ythdmklmihhallaa
open Go.RowKit

theorem SS.setL2 {s : SS} (ok : s.ok) {k o : Nat} (h : 4 + k = o) (x : Int) : s.cells.toArray.setIfInBounds o (.int .i64 x) = (⟨s.h, s.l.set k x⟩ : SS).cells.toArray := by rw [← h]; exact SS.setL ok k x
theorem SS.getL2 {s : SS} (ok : s.ok) {k o : Nat} (h : 4 + k = o) {x : Int} (hx : s.l[k]? = some x) : s.cells.toArray[o]? = some (.int .i64 x) := by rw [← h]; exact SS.getL ok hx

set_option maxRecDepth 100000 in
set_option maxHeartbeats 40000000 in
theorem getset_ok (A0 : Option Addr) (n0 c0 : Nat) (l : List Int) (hl : l.length = n0) (hn2 : n0 ≤ 1099511627776) (hnc : n0 ≤ c0) (hc : c0 ≤ 9223372036854775807) (w : World) (hr : Rd w A0 l) :
    Calls Try.prog 17 #[.slice A0 n0 c0] w (GotSet w (gM l 2)) := by
  obtain ⟨bs, os, hs⟩ := Src0.of hr
  have hmf : ∀ (fn : Fn) (first cap : Array Value) (w : World), (Instr.makeFunc fn first cap).run Try.prog w = .ok (.func fn first cap) w := fun _ _ _ _ => rfl
  have HS := Lib.hid hs; have HLN := Lib.hid hl; clear hs hr hl
  have H1 := (((St.init w).alloc zeroSet 49).alloc #[.slice none 0 0] 23).alloc #[.bool false] 4
  have H2 := H1.alloc #[.slice A0 n0 c0] 75
  simp only [World.size_alloc] at H2
  go_enter_defers Try.func17, Try.ntmps17
  go_wp2_with (fail)
  obtain ⟨b2, hb2⟩ : ∃ b, b = w.heap.size := ⟨_, rfl⟩
  obtain ⟨b3, hb3⟩ : ∃ b, b = w.heap.size + 1 := ⟨_, rfl⟩
  obtain ⟨b4, hb4⟩ : ∃ b, b = w.heap.size + 1 + 1 := ⟨_, rfl⟩
  obtain ⟨b5, hb5⟩ : ∃ b, b = w.heap.size + 1 + 1 + 1 := ⟨_, rfl⟩
  rw [← hb5] at H2 ⊢
  rw [← hb4] at H2 ⊢
  rw [← hb3] at H2 ⊢
  rw [← hb2] at H2 ⊢
  clear hb2 hb3 hb4 hb5 H1
  refine (options_ok b2 H2).mono ?_
  rintro e w3 ⟨g, rfl, H3⟩
  rw [← SS.zero_cells] at H3
  go_wp2_with (fail)
  go_loopw [7, 14] (fun _ i wr => ∃ (k j n c : Nat) (s : SS) (r : List Int) (A : Option Addr), k ≤ 4 ∧ i = .int .i64 k ∧ n ≤ c ∧ c ≤ 9223372036854775807 ∧ n ≤ 1099511627776 ∧ Hid (gO l k = some (s, r) ∧ r = l.drop j ∧ (0 < n → A = some ⟨bs, os + j, none⟩)) ∧ Hid (n = r.length) ∧ s.ok ∧ St w wr [Pt b5 #[.slice A n c] 75, Pt g (opts b2).toArray 66, Pt b4 #[.bool false] 4, Pt b3 #[.slice none 0 0] 23, Pt b2 s.cells.toArray 49]) (fun _ i _ => 4 - (intOf i).toNat)
  case atStart => exact ⟨0, 0, n0, c0, SS.zero, l, A0, Nat.zero_le _, rfl, hnc, hc, hn2, Lib.hid ⟨rfl, rfl, fun h => HS.out.form (by rw [HLN.out]; exact h)⟩, Lib.hid HLN.out.symm, SS.zero_ok, H3.r2⟩
  case round =>
    clear hnc hc hn2 H2 H3
    obtain ⟨k, j, n, c, s, r, A, hk, rfl, hnc, hc, hn2, HG, HN, ok, H4⟩ := hrel
    by_cases hlt : k < 4
    · obtain ⟨t0, t1⟩ := opts_get b2 k hlt
      have p0 := H4.r2.cell _ t0
      have p1 := H4.r2.cell _ t1
      have hkI : (k : Int) < 4 := by omega
      have H5 := H4.alloc #[.pointer (some ⟨b2, k, none⟩), .pointer (some ⟨b2, 4 + k, none⟩)] 66
      clear t0 t1
      go_upto_region 6 with (fail)
      generalize wr.heap.size = b7 at *
      generalize wr.alloc (.cells #[.pointer (some ⟨b2, k, none⟩), .pointer (some ⟨b2, 4 + k, none⟩)] 66) = w5 at *
      clear p0 p1 H4
      have H5 := H5.r2
      have hK6 : w5.drew.cell? ⟨b7, 0, none⟩ = some (.pointer (some ⟨b2, k, none⟩)) := H5.drew.r2.cell 0 rfl
      have H6 := H5.drew
      rcases Classical.em (n = 0 ∨ ∃ x, l[j]? = some x ∧ (x < 0 ∨ 1 < x)) with hbad | hgood
      · have hfail : gM l 2 = none := by
          refine gO_fail (k := k + 1) (by omega) ?_
          obtain ⟨h1, h2, h3⟩ := HG.out
          rw [gO_next h1]
          rcases hbad with h0 | ⟨x, hx, hxb⟩
          · rw [List.eq_nil_of_length_eq_zero (HN.out.symm.trans h0)]; rfl
          · rw [h2, List.drop_eq_getElem_cons (List.getElem?_eq_some_iff.1 hx).1, (List.getElem?_eq_some_iff.1 hx).2, optTake_bad hxb]
        have hb : Calls Try.prog 25 #[.pointer (some ⟨b5, 0, none⟩), .int .i64 1] w5.drew fun r w' => r = .panicked [{ v := thrown, recovered := false }] ∧ w5.drew = w' := by
          refine next_bad b5 A n c 1 H6 (by omega) ?_
          by_cases h0 : n = 0
          · exact .inl h0
          · obtain ⟨x, hx, hxb⟩ := hbad.resolve_left h0
            exact .inr ⟨by omega, bs, os + j, x, HG.out.2.2 (by omega), HS.out.at H6 hx, hxb⟩
        refine wp_region_held_drew (S := fun w' => w'.cell? ⟨b7, 0, none⟩ = some (.pointer (some ⟨b2, k, none⟩))) (by kernel_rfl) hK6 (fun hHeld => ?_)
        clear hK6 H5
        generalize w5.drew = w6 at *
        refine wpAnyH_ready (rs := [0, 2]) (by kernel_rfl) (by simp) ?_
        refine rg_cons rfl (fun K hK => ?_) (rg_cons rfl (fun K hK => ?_) AllReadyH.nil)
        · go_simp
          refine hK.out _ _ hHeld (fun _ => ?_)
          clear hK
          try simp only [Act.put, List.setIfInBounds_toArray, List.set_cons_zero, List.set_cons_succ]
          refine wpAnyH_ready (rs := [1, 2]) (by kernel_rfl) (by simp) ?_
          refine rg_cons rfl (fun K hK => ?_) (rg_cons rfl (fun K hK => ?_) AllReadyH.nil)
          · go_simp
            refine hK.out _ _ hHeld (fun _ => ?_)
            clear hK
            try simp only [Act.put, List.setIfInBounds_toArray, List.set_cons_zero, List.set_cons_succ]
            refine wpAnyH_ready (rs := [2]) (by kernel_rfl) (by simp) ?_
            refine rg_cons rfl (fun K hK => ?_) AllReadyH.nil
            go_simp
            refine hb.mono ?_
            rintro e w7 ⟨rfl, hw7⟩
            subst hw7
            show Leaves Try.prog Try.f17 _ (GotSet w (gM l 2)) (toCatch b2 b3 b4) (.panicking [{ v := thrown, recovered := false }]) _
            exact caught rfl rfl rfl ok (H6.ord 6 [5, 4, 3, 0, 1, 2]) (fun _ h => h.tail.tail.tail) hfail
          · go_simp
            refine hb.mono ?_
            rintro e w7 ⟨rfl, hw7⟩
            subst hw7
            show Leaves Try.prog Try.f17 _ (GotSet w (gM l 2)) (toCatch b2 b3 b4) (.panicking [{ v := thrown, recovered := false }]) _
            exact caught rfl rfl rfl ok (H6.ord 6 [5, 4, 3, 0, 1, 2]) (fun _ h => h.tail.tail.tail) hfail
        · go_simp
          refine hb.mono ?_
          rintro e w7 ⟨rfl, hw7⟩
          subst hw7
          show Leaves Try.prog Try.f17 _ (GotSet w (gM l 2)) (toCatch b2 b3 b4) (.panicking [{ v := thrown, recovered := false }]) _
          exact caught rfl rfl rfl ok (H6.ord 6 [5, 4, 3, 0, 1, 2]) (fun _ h => h.tail.tail.tail) hfail
      · obtain ⟨n, rfl⟩ : ∃ m, n = m + 1 := ⟨n - 1, by have : n ≠ 0 := fun h => hgood (.inl h); omega⟩
        obtain ⟨r', x, rfl, hx, hA, hx01, hr', hG⟩ : ∃ r' x, r = x :: r' ∧ l[j]? = some x ∧ A = some ⟨bs, os + j, none⟩ ∧ (0 ≤ x ∧ x ≤ 1) ∧ r' = l.drop (j + 1) ∧ gO l k = some (s, x :: r') := by
          obtain ⟨h1, h2, h3⟩ := HG.out
          have hn := HN.out
          rw [h2, List.length_drop] at hn
          have hj : j < l.length := by omega
          refine ⟨l.drop (j + 1), l[j], ?_, List.getElem?_eq_getElem hj, h3 (by omega), ?_, rfl, ?_⟩
          · rw [h2, List.drop_eq_getElem_cons hj]
          · have h4 : ¬ (l[j] < 0 ∨ 1 < l[j]) := fun h => hgood (.inr ⟨_, List.getElem?_eq_getElem hj, h⟩)
            omega
          · rw [← List.drop_eq_getElem_cons hj, ← h2]; exact h1
        subst hA
        have HN' := Lib.hid (Nat.succ.inj HN.out : n = r'.length)
        clear hgood HG HN
        have hb := next_ok b5 bs (os + j) n c x 1 hnc hc (fun _ => hx01) H6 (HS.out.at H6 hx)
        refine region_quiet ?_
        refine wp_region_held_drew (S := fun w' => w'.cell? ⟨b7, 0, none⟩ = some (.pointer (some ⟨b2, k, none⟩))) (by kernel_rfl) hK6 (fun hHeld => ?_)
        clear hK6 H5
        generalize w5.drew = w6 at *
        refine rg_take (i := 0) (v := ?_) rfl (by kernel_rfl) (by kernel_rfl) (by kernel_rfl) (fun _ _ _ h => absurd rfl (h.1 _)) (Or.inl ⟨by kernel_rfl, ?_⟩) (by assumption) ?_
        rotate_left 1
        · intro w' hSw
          try dsimp only at hSw
          go_simp
          first | done | with_reducible rfl
        try simp only [Act.put, List.setIfInBounds_toArray, List.set_cons_zero, List.set_cons_succ]
        refine rg_take (i := 1) (v := ?_) rfl (by kernel_rfl) (by kernel_rfl) (by kernel_rfl) (fun _ _ _ h => absurd rfl (h.1 _)) (Or.inl ⟨by kernel_rfl, ?_⟩) (by assumption) ?_
        rotate_left 1
        · intro w' hSw
          try dsimp only at hSw
          go_simp
          first | done | with_reducible rfl
        try simp only [Act.put, List.setIfInBounds_toArray, List.set_cons_zero, List.set_cons_succ]
        refine wpAnyH_ready (rs := [2]) (by kernel_rfl) (by simp) ?_
        refine rg_cons rfl (fun K hK => ?_) AllReadyH.nil
        go_simp
        refine hb.mono ?_
        rintro e w7 ⟨rfl, A7, hA7, H7⟩
        refine hK.out _ _ (H7.r2.cell 0 rfl) (fun hHeld' => ?_)
        clear hHeld
        have hHeld := hHeld'
        clear hHeld'
        clear hK
        try simp only [Act.put, List.setIfInBounds_toArray, List.set_cons_zero, List.set_cons_succ]
        refine rg_take (i := 3) (v := ?_) rfl (by kernel_rfl) (by kernel_rfl) (by kernel_rfl) (fun _ _ _ h => absurd rfl (h.1 _)) (Or.inl ⟨by kernel_rfl, ?_⟩) (by assumption) ?_
        rotate_left 1
        · intro w' hSw
          try dsimp only at hSw
          go_simp
          first | done | with_reducible rfl
        try simp only [Act.put, List.setIfInBounds_toArray, List.set_cons_zero, List.set_cons_succ]
        refine rg_take (i := 4) (v := ?_) rfl (by kernel_rfl) (by kernel_rfl) (by kernel_rfl) (fun _ _ _ h => absurd rfl (h.1 _)) (Or.inl ⟨by kernel_rfl, ?_⟩) (by assumption) ?_
        rotate_left 1
        · intro w' hSw
          try dsimp only at hSw
          go_simp
          first | done | with_reducible rfl
        try simp only [Act.put, List.setIfInBounds_toArray, List.set_cons_zero, List.set_cons_succ]
        refine wpAnyH_ready (rs := [5]) (by kernel_rfl) (by simp) ?_
        refine rg_cons rfl (fun K hK => ?_) AllReadyH.nil
        have f7 := (H7.ord 6 [5, 0, 1, 2, 3, 4]).frozen k
        have p7 := (H7.ord 6 [5, 0, 1, 2, 3, 4]).cell k (SS.getH (List.getElem?_eq_getElem (by rw [ok.h]; exact hlt)))
        obtain rfl | rfl : x = 0 ∨ x = 1 := by omega
        · have H8 := (H7.ord 6 [5, 0, 1, 2, 3, 4]).set k (.bool false)
          rw [SS.setH ok k _ hlt] at H8
          have ok8 := SS.ok_setH ok k false
          go_simp
          refine hK.out _ _ (H8.r3.cell 0 rfl) (fun hHeld' => ?_)
          clear hHeld
          have hHeld := hHeld'
          clear hHeld'
          clear hK
          try simp only [Act.put, List.setIfInBounds_toArray, List.set_cons_zero, List.set_cons_succ]
          refine wpAnyH_done (by kernel_rfl) ?_ _
          refine ⟨nofun, ?_⟩
          generalize w7.setCell ⟨b2, k, none⟩ (.bool false) = w8 at *
          clear hb H7 f7 p7 hHeld
          have q1 := H8.r3.cell 0 rfl
          have q2 := H8.cell k (SS.getH (s := ⟨s.h.set k false, s.l⟩) (List.getElem?_set_self (by rw [ok.h]; exact hlt)))
          have hnext : gO l (k + 1) = some (⟨s.h.set k false, s.l⟩, r') := by rw [gO_next hG]; rfl
          go_wp2_with (fail)
          go_roundw
          case rel => exact ⟨k + 1, j + 1, n, c - 1, _, r', A7, by omega, by go_num, by omega, by omega, by omega, Lib.hid ⟨hnext, hr', by rw [← Nat.add_assoc]; exact hA7⟩, HN', ok8, (H8.ord 6 [2, 1, 3, 4, 5, 0]).tail⟩
          case measure => simp [intOf]; omega
        · have H8 := (H7.ord 6 [5, 0, 1, 2, 3, 4]).set k (.bool true)
          rw [SS.setH ok k _ hlt] at H8
          have ok8 := SS.ok_setH ok k true
          go_simp
          refine hK.out _ _ (H8.r3.cell 0 rfl) (fun hHeld' => ?_)
          clear hHeld
          have hHeld := hHeld'
          clear hHeld'
          clear hK
          try simp only [Act.put, List.setIfInBounds_toArray, List.set_cons_zero, List.set_cons_succ]
          refine wpAnyH_done (by kernel_rfl) ?_ _
          refine ⟨nofun, ?_⟩
          generalize w7.setCell ⟨b2, k, none⟩ (.bool true) = w8 at *
          clear hb H7 f7 p7 hHeld
          have q1 := H8.r3.cell 0 rfl
          have q2 := H8.cell k (SS.getH (s := ⟨s.h.set k true, s.l⟩) (List.getElem?_set_self (by rw [ok.h]; exact hlt)))
          clear H6
          go_upto_region 8 with (fail)
          clear q1 q2
          have H6 := (H8.ord 6 [1, 2, 3, 4, 5, 0]).drew
          dsimp only [List.filterMap, List.drop, List.append_nil] at H6
          clear H8 ok
          have hn1 : n ≤ c - 1 := by omega
          have hc1 : c - 1 ≤ 9223372036854775807 := by omega
          have hK8 := H6.r2.cell 1 rfl
          by_cases h0 : n = 0
          · have hfail : gM l 2 = none := by
              refine gO_fail (k := k + 1) (by omega) ?_
              rw [gO_next hG, List.eq_nil_of_length_eq_zero (HN'.out.symm.trans h0)]; rfl
            have hb := next_bad b5 A7 n (c - 1) (-1) H6 (by omega) (.inl h0)
            have ok := ok8
            refine wp_region_held_drew (S := fun w' => w'.cell? ⟨b7, 1, none⟩ = some (.pointer (some ⟨b2, 4 + k, none⟩))) (by kernel_rfl) hK8 (fun hHeld => ?_)
            clear hK8
            generalize w8.drew = w6 at *
            refine wpAnyH_ready (rs := [0, 2]) (by kernel_rfl) (by simp) ?_
            refine rg_cons rfl (fun K hK => ?_) (rg_cons rfl (fun K hK => ?_) AllReadyH.nil)
            · go_simp
              refine hK.out _ _ hHeld (fun _ => ?_)
              clear hK
              try simp only [Act.put, List.setIfInBounds_toArray, List.set_cons_zero, List.set_cons_succ]
              refine wpAnyH_ready (rs := [1, 2]) (by kernel_rfl) (by simp) ?_
              refine rg_cons rfl (fun K hK => ?_) (rg_cons rfl (fun K hK => ?_) AllReadyH.nil)
              · go_simp
                refine hK.out _ _ hHeld (fun _ => ?_)
                clear hK
                try simp only [Act.put, List.setIfInBounds_toArray, List.set_cons_zero, List.set_cons_succ]
                refine wpAnyH_ready (rs := [2]) (by kernel_rfl) (by simp) ?_
                refine rg_cons rfl (fun K hK => ?_) AllReadyH.nil
                go_simp
                refine hb.mono ?_
                rintro e w7 ⟨rfl, hw7⟩
                subst hw7
                show Leaves Try.prog Try.f17 _ (GotSet w (gM l 2)) (toCatch b2 b3 b4) (.panicking [{ v := thrown, recovered := false }]) _
                exact caught rfl rfl rfl ok (H6.ord 6 [5, 4, 3, 0, 1, 2]) (fun _ h => h.tail.tail.tail) hfail
              · go_simp
                refine hb.mono ?_
                rintro e w7 ⟨rfl, hw7⟩
                subst hw7
                show Leaves Try.prog Try.f17 _ (GotSet w (gM l 2)) (toCatch b2 b3 b4) (.panicking [{ v := thrown, recovered := false }]) _
                exact caught rfl rfl rfl ok (H6.ord 6 [5, 4, 3, 0, 1, 2]) (fun _ h => h.tail.tail.tail) hfail
            · go_simp
              refine hb.mono ?_
              rintro e w7 ⟨rfl, hw7⟩
              subst hw7
              show Leaves Try.prog Try.f17 _ (GotSet w (gM l 2)) (toCatch b2 b3 b4) (.panicking [{ v := thrown, recovered := false }]) _
              exact caught rfl rfl rfl ok (H6.ord 6 [5, 4, 3, 0, 1, 2]) (fun _ h => h.tail.tail.tail) hfail
          · obtain ⟨n, rfl⟩ : ∃ m, n = m + 1 := ⟨n - 1, by omega⟩
            obtain ⟨r2, y, rfl⟩ : ∃ r2 y, r' = y :: r2 := by
              cases r' with
              | nil => cases HN'.out
              | cons y r2 => exact ⟨r2, y, rfl⟩
            obtain ⟨hy, hr2⟩ : l[j + 1]? = some y ∧ r2 = l.drop (j + 2) := by
              have h1 := congrArg (fun z => z[0]?) hr'
              have h2 := congrArg List.tail hr'
              simp only [List.getElem?_cons_zero, List.getElem?_drop, List.tail_cons, List.tail_drop] at h1 h2
              exact ⟨h1.symm, h2⟩
            have hA7' := hA7 (by omega)
            subst hA7'
            have HN2 := Lib.hid (Nat.succ.inj HN'.out : n = r2.length)
            clear hA7 HN' hr'
            have hb := next_ok b5 bs (os + j + 1) n (c - 1) y (-1) hn1 hc1 (fun h => by omega) H6 (HS.out.at H6 hy)
            refine region_quiet ?_
            refine wp_region_held_drew (S := fun w' => w'.cell? ⟨b7, 1, none⟩ = some (.pointer (some ⟨b2, 4 + k, none⟩))) (by kernel_rfl) hK8 (fun hHeld => ?_)
            clear hK8
            generalize w8.drew = w6 at *
            refine rg_take (i := 0) (v := ?_) rfl (by kernel_rfl) (by kernel_rfl) (by kernel_rfl) (fun _ _ _ h => absurd rfl (h.1 _)) (Or.inl ⟨by kernel_rfl, ?_⟩) (by assumption) ?_
            rotate_left 1
            · intro w' hSw
              try dsimp only at hSw
              go_simp
              first | done | with_reducible rfl
            try simp only [Act.put, List.setIfInBounds_toArray, List.set_cons_zero, List.set_cons_succ]
            refine rg_take (i := 1) (v := ?_) rfl (by kernel_rfl) (by kernel_rfl) (by kernel_rfl) (fun _ _ _ h => absurd rfl (h.1 _)) (Or.inl ⟨by kernel_rfl, ?_⟩) (by assumption) ?_
            rotate_left 1
            · intro w' hSw
              try dsimp only at hSw
              go_simp
              first | done | with_reducible rfl
            try simp only [Act.put, List.setIfInBounds_toArray, List.set_cons_zero, List.set_cons_succ]
            refine wpAnyH_ready (rs := [2]) (by kernel_rfl) (by simp) ?_
            refine rg_cons rfl (fun K hK => ?_) AllReadyH.nil
            go_simp
            refine hb.mono ?_
            rintro e w7 ⟨rfl, A9, hA9, H7⟩
            refine hK.out _ _ (H7.r2.cell 1 rfl) (fun hHeld' => ?_)
            clear hHeld
            have hHeld := hHeld'
            clear hHeld'
            clear hK
            try simp only [Act.put, List.setIfInBounds_toArray, List.set_cons_zero, List.set_cons_succ]
            refine rg_take (i := 3) (v := ?_) rfl (by kernel_rfl) (by kernel_rfl) (by kernel_rfl) (fun _ _ _ h => absurd rfl (h.1 _)) (Or.inl ⟨by kernel_rfl, ?_⟩) (by assumption) ?_
            rotate_left 1
            · intro w' hSw
              try dsimp only at hSw
              go_simp
              first | done | with_reducible rfl
            try simp only [Act.put, List.setIfInBounds_toArray, List.set_cons_zero, List.set_cons_succ]
            refine wpAnyH_ready (rs := [4]) (by kernel_rfl) (by simp) ?_
            refine rg_cons rfl (fun K hK => ?_) AllReadyH.nil
            have f7 := (H7.ord 6 [5, 0, 1, 2, 3, 4]).frozen (4 + k)
            have p7 := (H7.ord 6 [5, 0, 1, 2, 3, 4]).cell (4 + k) (SS.getL ok8 (List.getElem?_eq_getElem (by rw [ok8.l]; omega)))
            have H8 := (H7.ord 6 [5, 0, 1, 2, 3, 4]).set (4 + k) (.int .i64 y)
            rw [SS.setL ok8] at H8
            have ok9 := SS.ok_setL ok8 k y
            go_simp
            refine hK.out _ _ (H8.r3.cell 1 rfl) (fun hHeld' => ?_)
            clear hHeld
            have hHeld := hHeld'
            clear hHeld'
            clear hK
            try simp only [Act.put, List.setIfInBounds_toArray, List.set_cons_zero, List.set_cons_succ]
            refine wpAnyH_done (by kernel_rfl) ?_ _
            refine ⟨nofun, ?_⟩
            generalize w7.setCell ⟨b2, 4 + k, none⟩ (.int .i64 y) = w8 at *
            clear hb H7 f7 p7 hHeld
            have hnext : gO l (k + 1) = some (⟨s.h.set k true, s.l.set k y⟩, r2) := by rw [gO_next hG]; rfl
            go_wp2_with (fail)
            go_roundw
            case rel => exact ⟨k + 1, j + 2, n, c - 1 - 1, _, r2, A9, by omega, by go_num, by omega, by omega, by omega, Lib.hid ⟨hnext, hr2, by rw [show os + (j + 2) = os + j + 1 + 1 by omega]; exact hA9⟩, HN2, ok9, (H8.ord 6 [2, 1, 3, 4, 5, 0]).tail⟩
            case measure => simp [intOf]; omega
    · obtain rfl : k = 4 := by omega
      clear hk hlt
      have H5 := H4.ord 5 [4, 0, 1, 2, 3]
      go_wp2_with (fail)
      refine (moments_ok b2 H5).mono ?_
      rintro e w3 ⟨g2, rfl, H3⟩
      go_wp2_with (fail)
      have H3 := (H3.ord 6 [3, 2, 0, 4, 5, 1]).tail
      have HG1 : Hid (gM l 0 = some (s, r) ∧ r = l.drop j ∧ (0 < n → A = some ⟨bs, os + j, none⟩)) := HG
      clear HG H4 H5
      go_loopw [9, 34] (fun _ i wr => ∃ (k j n c : Nat) (s : SS) (r : List Int) (A : Option Addr), k ≤ 2 ∧ i = .int .i64 k ∧ n ≤ c ∧ c ≤ 9223372036854775807 ∧ n ≤ 1099511627776 ∧ Hid (gM l k = some (s, r) ∧ r = l.drop j ∧ (0 < n → A = some ⟨bs, os + j, none⟩)) ∧ Hid (n = r.length) ∧ s.ok ∧ St w wr [Pt b5 #[.slice A n c] 75, Pt g2 (moms b2).toArray 71, Pt b4 #[.bool false] 4, Pt b3 #[.slice none 0 0] 23, Pt b2 s.cells.toArray 49]) (fun _ i _ => 2 - (intOf i).toNat)
      case atStart => exact ⟨0, j, n, c, s, r, A, Nat.zero_le _, rfl, hnc, hc, hn2, HG1, HN, ok, H3⟩
      case round =>
        clear hnc hc hn2 H3 HG1 HN ok
        obtain ⟨k, j, n, c, s, r, A, hk, rfl, hnc, hc, hn2, HG, HN, ok, H4⟩ := hrel
        by_cases hlt : k < 2
        · obtain ⟨t0, t1⟩ := moms_get b2 k hlt
          obtain ⟨o0, ho0⟩ : ∃ o, o = 8 + k := ⟨_, rfl⟩
          obtain ⟨o1, ho1⟩ : ∃ o, o = 10 + 2 * k := ⟨_, rfl⟩
          rw [← ho0] at t0
          rw [← ho1] at t1
          have HO0 := Lib.hid ho0
          have HO1 := Lib.hid ho1
          clear ho0 ho1
          have p0 := H4.r2.cell _ t0
          have p1 := H4.r2.cell _ t1
          have hkI : (k : Int) < 2 := by omega
          have H5 := H4.alloc #[.pointer (some ⟨b2, o0, none⟩), .pointer (some ⟨b2, o1, none⟩)] 71
          clear t0 t1
          go_upto_region 13 with (fail)
          generalize wr.heap.size = b7 at *
          generalize wr.alloc (.cells #[.pointer (some ⟨b2, o0, none⟩), .pointer (some ⟨b2, o1, none⟩)] 71) = w5 at *
          clear p0 p1 H4
          have H5 := H5.r2
          have hK6 : w5.drew.cell? ⟨b7, 0, none⟩ = some (.pointer (some ⟨b2, o0, none⟩)) := H5.drew.r2.cell 0 rfl
          have H6 := H5.drew
          rcases Classical.em (n = 0 ∨ ∃ x, l[j]? = some x ∧ (x < 0 ∨ 2 < x)) with hbad | hgood
          · have hfail : gM l 2 = none := by
              refine gM_fail (k := k + 1) (by omega) ?_
              obtain ⟨h1, h2, h3⟩ := HG.out
              rw [gM_next h1]
              rcases hbad with h0 | ⟨x, hx, hxb⟩
              · rw [List.eq_nil_of_length_eq_zero (HN.out.symm.trans h0)]; rfl
              · rw [h2, List.drop_eq_getElem_cons (List.getElem?_eq_some_iff.1 hx).1, (List.getElem?_eq_some_iff.1 hx).2, momTake_bad hxb]
            have hb : Calls Try.prog 25 #[.pointer (some ⟨b5, 0, none⟩), .int .i64 2] w5.drew fun r w' => r = .panicked [{ v := thrown, recovered := false }] ∧ w5.drew = w' := by
              refine next_bad b5 A n c 2 H6 (by omega) ?_
              by_cases h0 : n = 0
              · exact .inl h0
              · obtain ⟨x, hx, hxb⟩ := hbad.resolve_left h0
                exact .inr ⟨by omega, bs, os + j, x, HG.out.2.2 (by omega), HS.out.at H6 hx, hxb⟩
            refine wp_region_held_drew (S := fun w' => w'.cell? ⟨b7, 0, none⟩ = some (.pointer (some ⟨b2, o0, none⟩))) (by kernel_rfl) hK6 (fun hHeld => ?_)
            clear hK6 H5
            generalize w5.drew = w6 at *
            refine wpAnyH_ready (rs := [0, 2]) (by kernel_rfl) (by simp) ?_
            refine rg_cons rfl (fun K hK => ?_) (rg_cons rfl (fun K hK => ?_) AllReadyH.nil)
            · go_simp
              refine hK.out _ _ hHeld (fun _ => ?_)
              clear hK
              try simp only [Act.put, List.setIfInBounds_toArray, List.set_cons_zero, List.set_cons_succ]
              refine wpAnyH_ready (rs := [1, 2]) (by kernel_rfl) (by simp) ?_
              refine rg_cons rfl (fun K hK => ?_) (rg_cons rfl (fun K hK => ?_) AllReadyH.nil)
              · go_simp
                refine hK.out _ _ hHeld (fun _ => ?_)
                clear hK
                try simp only [Act.put, List.setIfInBounds_toArray, List.set_cons_zero, List.set_cons_succ]
                refine wpAnyH_ready (rs := [2]) (by kernel_rfl) (by simp) ?_
                refine rg_cons rfl (fun K hK => ?_) AllReadyH.nil
                go_simp
                refine hb.mono ?_
                rintro e w7 ⟨rfl, hw7⟩
                subst hw7
                show Leaves Try.prog Try.f17 _ (GotSet w (gM l 2)) (toCatch b2 b3 b4) (.panicking [{ v := thrown, recovered := false }]) _
                exact caught rfl rfl rfl ok (H6.ord 6 [5, 4, 3, 0, 1, 2]) (fun _ h => h.tail.tail.tail) hfail
              · go_simp
                refine hb.mono ?_
                rintro e w7 ⟨rfl, hw7⟩
                subst hw7
                show Leaves Try.prog Try.f17 _ (GotSet w (gM l 2)) (toCatch b2 b3 b4) (.panicking [{ v := thrown, recovered := false }]) _
                exact caught rfl rfl rfl ok (H6.ord 6 [5, 4, 3, 0, 1, 2]) (fun _ h => h.tail.tail.tail) hfail
            · go_simp
              refine hb.mono ?_
              rintro e w7 ⟨rfl, hw7⟩
              subst hw7
              show Leaves Try.prog Try.f17 _ (GotSet w (gM l 2)) (toCatch b2 b3 b4) (.panicking [{ v := thrown, recovered := false }]) _
              exact caught rfl rfl rfl ok (H6.ord 6 [5, 4, 3, 0, 1, 2]) (fun _ h => h.tail.tail.tail) hfail
          · obtain ⟨n, rfl⟩ : ∃ m, n = m + 1 := ⟨n - 1, by have : n ≠ 0 := fun h => hgood (.inl h); omega⟩
            obtain ⟨r', m, rfl, hx, hA, hx01, hr', hG⟩ : ∃ r' x, r = x :: r' ∧ l[j]? = some x ∧ A = some ⟨bs, os + j, none⟩ ∧ (0 ≤ x ∧ x ≤ 2) ∧ r' = l.drop (j + 1) ∧ gM l k = some (s, x :: r') := by
              obtain ⟨h1, h2, h3⟩ := HG.out
              have hn := HN.out
              rw [h2, List.length_drop] at hn
              have hj : j < l.length := by omega
              refine ⟨l.drop (j + 1), l[j], ?_, List.getElem?_eq_getElem hj, h3 (by omega), ?_, rfl, ?_⟩
              · rw [h2, List.drop_eq_getElem_cons hj]
              · have h4 : ¬ (l[j] < 0 ∨ 2 < l[j]) := fun h => hgood (.inr ⟨_, List.getElem?_eq_getElem hj, h⟩)
                omega
              · rw [← List.drop_eq_getElem_cons hj, ← h2]; exact h1
            subst hA
            have HN' := Lib.hid (Nat.succ.inj HN.out : n = r'.length)
            clear hgood HG HN
            have hb := next_ok b5 bs (os + j) n c m 2 hnc hc (fun _ => hx01) H6 (HS.out.at H6 hx)
            refine region_quiet ?_
            refine wp_region_held_drew (S := fun w' => w'.cell? ⟨b7, 0, none⟩ = some (.pointer (some ⟨b2, o0, none⟩))) (by kernel_rfl) hK6 (fun hHeld => ?_)
            clear hK6 H5
            generalize w5.drew = w6 at *
            refine rg_take (i := 0) (v := ?_) rfl (by kernel_rfl) (by kernel_rfl) (by kernel_rfl) (fun _ _ _ h => absurd rfl (h.1 _)) (Or.inl ⟨by kernel_rfl, ?_⟩) (by assumption) ?_
            rotate_left 1
            · intro w' hSw
              try dsimp only at hSw
              go_simp
              first | done | with_reducible rfl
            try simp only [Act.put, List.setIfInBounds_toArray, List.set_cons_zero, List.set_cons_succ]
            refine rg_take (i := 1) (v := ?_) rfl (by kernel_rfl) (by kernel_rfl) (by kernel_rfl) (fun _ _ _ h => absurd rfl (h.1 _)) (Or.inl ⟨by kernel_rfl, ?_⟩) (by assumption) ?_
            rotate_left 1
            · intro w' hSw
              try dsimp only at hSw
              go_simp
              first | done | with_reducible rfl
            try simp only [Act.put, List.setIfInBounds_toArray, List.set_cons_zero, List.set_cons_succ]
            refine wpAnyH_ready (rs := [2]) (by kernel_rfl) (by simp) ?_
            refine rg_cons rfl (fun K hK => ?_) AllReadyH.nil
            go_simp
            refine hb.mono ?_
            rintro e w7 ⟨rfl, A7, hA7, H7⟩
            refine hK.out _ _ (H7.r2.cell 0 rfl) (fun hHeld' => ?_)
            clear hHeld
            have hHeld := hHeld'
            clear hHeld'
            clear hK
            try simp only [Act.put, List.setIfInBounds_toArray, List.set_cons_zero, List.set_cons_succ]
            refine rg_take (i := 3) (v := ?_) rfl (by kernel_rfl) (by kernel_rfl) (by kernel_rfl) (fun _ _ _ h => absurd rfl (h.1 _)) (Or.inl ⟨by kernel_rfl, ?_⟩) (by assumption) ?_
            rotate_left 1
            · intro w' hSw
              try dsimp only at hSw
              go_simp
              first | done | with_reducible rfl
            try simp only [Act.put, List.setIfInBounds_toArray, List.set_cons_zero, List.set_cons_succ]
            refine wpAnyH_ready (rs := [4]) (by kernel_rfl) (by simp) ?_
            refine rg_cons rfl (fun K hK => ?_) AllReadyH.nil
            have E4 := Lib.hid (by have h0 := HO0.out; have h1 := HO1.out; omega : 4 + (4 + k) = o0)
            have f7 := (H7.ord 6 [5, 0, 1, 2, 3, 4]).frozen (o0)
            have p7 := (H7.ord 6 [5, 0, 1, 2, 3, 4]).cell (o0) (SS.getL2 ok E4.out (List.getElem?_eq_getElem (by rw [(ok).l]; omega)))
            have H8 := (H7.ord 6 [5, 0, 1, 2, 3, 4]).set (o0) (.int .i64 m)
            rw [SS.setL2 ok E4.out] at H8
            have ok8 := SS.ok_setL ok (4 + k) m
            go_simp
            refine hK.out _ _ (H8.r3.cell 0 rfl) (fun hHeld' => ?_)
            clear hHeld hHeld'
            clear hK
            try simp only [Act.put, List.setIfInBounds_toArray, List.set_cons_zero, List.set_cons_succ]
            refine wpAnyH_done (by kernel_rfl) ?_ _
            refine ⟨nofun, ?_⟩
            obtain ⟨w8, hw8⟩ : ∃ v, v = w7.setCell ⟨b2, o0, none⟩ (.int .i64 m) := ⟨_, rfl⟩
            rw [← hw8] at H8 ⊢
            clear hb H7 f7 p7 hw8 E4
            clear H6
            have q1 := H8.r3.cell 0 rfl
            have q2 := H8.cell o0 (SS.getL2 ok8 (by have h0 := HO0.out; omega : 4 + (4 + k) = o0) (List.getElem?_set_self (by rw [ok.l]; omega)))
            have hm2' : (m == 2) = decide (m = 2) := by by_cases h : m = 2 <;> simp [h]
            by_cases hm2 : m = 2
            · subst hm2
              clear hm2' hx01
              go_upto_region 15 with (fail)
              clear q1 q2
              have H6 := (H8.ord 6 [1, 2, 3, 4, 5, 0]).drew
              dsimp only [List.filterMap, List.drop, List.append_nil] at H6
              clear H8 ok
              have ok := ok8
              have hn1 : n ≤ c - 1 := by omega
              have hc1 : c - 1 ≤ 9223372036854775807 := by omega
              have hAA : 0 < n → A7 = some ⟨bs, os + (j + 1), none⟩ := hA7
              have hrr := hr'; have HNN := HN'
              clear hA7 hr' HN'
              have hK8 := H6.r2.cell 1 rfl
              by_cases h0 : n = 0
              · have hfail : gM l 2 = none := by
                  refine gM_fail (k := k + 1) (by omega) ?_
                  obtain rfl := List.eq_nil_of_length_eq_zero (HNN.out.symm.trans h0)
                  rw [gM_next hG]; rfl
                have hb := next_bad b5 A7 n (c - 1) (-1) H6 (by omega) (.inl h0)
                refine wp_region_held_drew (S := fun w' => w'.cell? ⟨b7, 1, none⟩ = some (.pointer (some ⟨b2, o1, none⟩))) (by kernel_rfl) hK8 (fun hHeld => ?_)
                clear hK8
                refine wpAnyH_ready (rs := [0, 2]) (by kernel_rfl) (by simp) ?_
                refine rg_cons rfl (fun K hK => ?_) (rg_cons rfl (fun K hK => ?_) AllReadyH.nil)
                · go_simp
                  refine hK.out _ _ hHeld (fun _ => ?_)
                  clear hK
                  try simp only [Act.put, List.setIfInBounds_toArray, List.set_cons_zero, List.set_cons_succ]
                  refine wpAnyH_ready (rs := [1, 2]) (by kernel_rfl) (by simp) ?_
                  refine rg_cons rfl (fun K hK => ?_) (rg_cons rfl (fun K hK => ?_) AllReadyH.nil)
                  · go_simp
                    refine hK.out _ _ hHeld (fun _ => ?_)
                    clear hK
                    try simp only [Act.put, List.setIfInBounds_toArray, List.set_cons_zero, List.set_cons_succ]
                    refine wpAnyH_ready (rs := [2]) (by kernel_rfl) (by simp) ?_
                    refine rg_cons rfl (fun K hK => ?_) AllReadyH.nil
                    go_simp
                    refine hb.mono ?_
                    rintro e w7 ⟨rfl, hw7⟩
                    subst hw7
                    show Leaves Try.prog Try.f17 _ (GotSet w (gM l 2)) (toCatch b2 b3 b4) (.panicking [{ v := thrown, recovered := false }]) _
                    exact caught rfl rfl rfl ok (H6.ord 6 [5, 4, 3, 0, 1, 2]) (fun _ h => h.tail.tail.tail) hfail
                  · go_simp
                    refine hb.mono ?_
                    rintro e w7 ⟨rfl, hw7⟩
                    subst hw7
                    show Leaves Try.prog Try.f17 _ (GotSet w (gM l 2)) (toCatch b2 b3 b4) (.panicking [{ v := thrown, recovered := false }]) _
                    exact caught rfl rfl rfl ok (H6.ord 6 [5, 4, 3, 0, 1, 2]) (fun _ h => h.tail.tail.tail) hfail
                · go_simp
                  refine hb.mono ?_
                  rintro e w7 ⟨rfl, hw7⟩
                  subst hw7
                  show Leaves Try.prog Try.f17 _ (GotSet w (gM l 2)) (toCatch b2 b3 b4) (.panicking [{ v := thrown, recovered := false }]) _
                  exact caught rfl rfl rfl ok (H6.ord 6 [5, 4, 3, 0, 1, 2]) (fun _ h => h.tail.tail.tail) hfail
              obtain ⟨n, rfl⟩ : ∃ m, n = m + 1 := ⟨n - 1, by omega⟩
              obtain ⟨r2, x, rfl⟩ : ∃ zr zy, r' = zy :: zr := by
                cases r' with
                | nil => cases HNN.out
                | cons zy zr => exact ⟨zr, zy, rfl⟩
              obtain ⟨hy, hr2⟩ : l[j + 1]? = some x ∧ r2 = l.drop (j + 1 + 1) := by
                have h1 := congrArg (fun z => z[0]?) hrr
                have h2 := congrArg List.tail hrr
                simp only [List.getElem?_cons_zero, List.getElem?_drop, List.tail_cons, List.tail_drop] at h1 h2
                exact ⟨h1.symm, h2⟩
              have hA7' := hAA (by omega)
              subst hA7'
              have HN2 := Lib.hid (Nat.succ.inj HNN.out : n = (r2).length)
              clear hAA HNN hrr
              have hb := next_ok b5 bs (os + (j + 1)) n (c - 1) x (-1) hn1 hc1 (fun h => by omega) H6 (HS.out.at H6 hy)
              have hrr := hr2; have HNN := HN2
              clear hr2 HN2 hy
              refine region_quiet ?_
              refine wp_region_held_drew (S := fun w' => w'.cell? ⟨b7, 1, none⟩ = some (.pointer (some ⟨b2, o1, none⟩))) (by kernel_rfl) hK8 (fun hHeld => ?_)
              clear hK8
              refine rg_take (i := 0) (v := ?_) rfl (by kernel_rfl) (by kernel_rfl) (by kernel_rfl) (fun _ _ _ h => absurd rfl (h.1 _)) (Or.inl ⟨by kernel_rfl, ?_⟩) (by assumption) ?_
              rotate_left 1
              · intro w' hSw
                try dsimp only at hSw
                go_simp
                first | done | with_reducible rfl
              try simp only [Act.put, List.setIfInBounds_toArray, List.set_cons_zero, List.set_cons_succ]
              refine rg_take (i := 1) (v := ?_) rfl (by kernel_rfl) (by kernel_rfl) (by kernel_rfl) (fun _ _ _ h => absurd rfl (h.1 _)) (Or.inl ⟨by kernel_rfl, ?_⟩) (by assumption) ?_
              rotate_left 1
              · intro w' hSw
                try dsimp only at hSw
                go_simp
                first | done | with_reducible rfl
              try simp only [Act.put, List.setIfInBounds_toArray, List.set_cons_zero, List.set_cons_succ]
              refine wpAnyH_ready (rs := [2]) (by kernel_rfl) (by simp) ?_
              refine rg_cons rfl (fun K hK => ?_) AllReadyH.nil
              go_simp
              refine hb.mono ?_
              rintro e w7 ⟨rfl, A9, hAA, H7⟩
              refine hK.out _ _ (H7.r2.cell 1 rfl) (fun hHeld' => ?_)
              clear hHeld
              have hHeld := hHeld'
              clear hHeld'
              clear hK
              try simp only [Act.put, List.setIfInBounds_toArray, List.set_cons_zero, List.set_cons_succ]
              refine rg_take (i := 3) (v := ?_) rfl (by kernel_rfl) (by kernel_rfl) (by kernel_rfl) (fun _ _ _ h => absurd rfl (h.1 _)) (Or.inl ⟨by kernel_rfl, ?_⟩) (by assumption) ?_
              rotate_left 1
              · intro w' hSw
                try dsimp only at hSw
                go_simp
                first | done | with_reducible rfl
              try simp only [Act.put, List.setIfInBounds_toArray, List.set_cons_zero, List.set_cons_succ]
              refine rg_take (i := 4) (v := ?_) rfl (by kernel_rfl) (by kernel_rfl) (by kernel_rfl) (fun _ _ _ h => absurd rfl (h.1 _)) (Or.inl ⟨by kernel_rfl, ?_⟩) (by assumption) ?_
              rotate_left 1
              · intro w' hSw
                try dsimp only at hSw
                go_simp
                first | done | with_reducible rfl
              try simp only [Act.put, List.setIfInBounds_toArray, List.set_cons_zero, List.set_cons_succ]
              refine wpAnyH_ready (rs := [5]) (by kernel_rfl) (by simp) ?_
              refine rg_cons rfl (fun K hK => ?_) AllReadyH.nil
              clear H6
              have E4 := Lib.hid (by have h0 := HO0.out; have h1 := HO1.out; omega : 4 + (6 + 2 * k) = o1)
              have f7 := (H7.ord 6 [5, 0, 1, 2, 3, 4]).frozen (o1)
              have p7 := (H7.ord 6 [5, 0, 1, 2, 3, 4]).cell (o1) (SS.getL2 ok E4.out (List.getElem?_eq_getElem (by rw [(ok).l]; omega)))
              have H8 := (H7.ord 6 [5, 0, 1, 2, 3, 4]).set (o1) (.int .i64 x)
              rw [SS.setL2 ok E4.out] at H8
              have ok8 := SS.ok_setL ok (6 + 2 * k) x
              go_simp
              refine hK.out _ _ (H8.r3.cell 1 rfl) (fun hHeld' => ?_)
              clear hHeld hHeld'
              clear hK
              try simp only [Act.put, List.setIfInBounds_toArray, List.set_cons_zero, List.set_cons_succ]
              refine wpAnyH_done (by kernel_rfl) ?_ _
              refine ⟨nofun, ?_⟩
              obtain ⟨w8, hw8⟩ : ∃ v, v = w7.setCell ⟨b2, o1, none⟩ (.int .i64 x) := ⟨_, rfl⟩
              rw [← hw8] at H8 ⊢
              clear hb H7 f7 p7 hw8 E4
              clear ok
              have ok := ok8
              clear ok8
              have H6 := (H8.ord 6 [1, 2, 3, 4, 5, 0]).drew
              dsimp only [List.filterMap, List.drop, List.append_nil] at H6
              clear H8 hn1 hc1
              have hAA : 0 < n → A9 = some ⟨bs, os + (j + 1 + 1), none⟩ := hAA
              have hn1 : n ≤ c - 1 - 1 := by omega
              have hc1 : c - 1 - 1 ≤ 9223372036854775807 := by omega
              go_upto_region 16 with (fail)
              have hK8 := H6.r2.cell 1 rfl
              by_cases h0 : n = 0
              · have hfail : gM l 2 = none := by
                  refine gM_fail (k := k + 1) (by omega) ?_
                  obtain rfl := List.eq_nil_of_length_eq_zero (HNN.out.symm.trans h0)
                  rw [gM_next hG]; rfl
                have hb := next_bad b5 A9 n (c - 1 - 1) (-1) H6 (by omega) (.inl h0)
                refine wp_region_held_drew (S := fun w' => w'.cell? ⟨b7, 1, none⟩ = some (.pointer (some ⟨b2, o1, none⟩))) (by kernel_rfl) hK8 (fun hHeld => ?_)
                clear hK8
                refine wpAnyH_ready (rs := [0, 2]) (by kernel_rfl) (by simp) ?_
                refine rg_cons rfl (fun K hK => ?_) (rg_cons rfl (fun K hK => ?_) AllReadyH.nil)
                · go_simp
                  refine hK.out _ _ hHeld (fun _ => ?_)
                  clear hK
                  try simp only [Act.put, List.setIfInBounds_toArray, List.set_cons_zero, List.set_cons_succ]
                  refine wpAnyH_ready (rs := [1, 2]) (by kernel_rfl) (by simp) ?_
                  refine rg_cons rfl (fun K hK => ?_) (rg_cons rfl (fun K hK => ?_) AllReadyH.nil)
                  · go_simp
                    refine hK.out _ _ hHeld (fun _ => ?_)
                    clear hK
                    try simp only [Act.put, List.setIfInBounds_toArray, List.set_cons_zero, List.set_cons_succ]
                    refine wpAnyH_ready (rs := [2]) (by kernel_rfl) (by simp) ?_
                    refine rg_cons rfl (fun K hK => ?_) AllReadyH.nil
                    go_simp
                    refine hb.mono ?_
                    rintro e w7 ⟨rfl, hw7⟩
                    subst hw7
                    show Leaves Try.prog Try.f17 _ (GotSet w (gM l 2)) (toCatch b2 b3 b4) (.panicking [{ v := thrown, recovered := false }]) _
                    exact caught rfl rfl rfl ok (H6.ord 6 [5, 4, 3, 0, 1, 2]) (fun _ h => h.tail.tail.tail) hfail
                  · go_simp
                    refine hb.mono ?_
                    rintro e w7 ⟨rfl, hw7⟩
                    subst hw7
                    show Leaves Try.prog Try.f17 _ (GotSet w (gM l 2)) (toCatch b2 b3 b4) (.panicking [{ v := thrown, recovered := false }]) _
                    exact caught rfl rfl rfl ok (H6.ord 6 [5, 4, 3, 0, 1, 2]) (fun _ h => h.tail.tail.tail) hfail
                · go_simp
                  refine hb.mono ?_
                  rintro e w7 ⟨rfl, hw7⟩
                  subst hw7
                  show Leaves Try.prog Try.f17 _ (GotSet w (gM l 2)) (toCatch b2 b3 b4) (.panicking [{ v := thrown, recovered := false }]) _
                  exact caught rfl rfl rfl ok (H6.ord 6 [5, 4, 3, 0, 1, 2]) (fun _ h => h.tail.tail.tail) hfail
              obtain ⟨n, rfl⟩ : ∃ m, n = m + 1 := ⟨n - 1, by omega⟩
              obtain ⟨r3, y, rfl⟩ : ∃ zr zy, r2 = zy :: zr := by
                cases r2 with
                | nil => cases HNN.out
                | cons zy zr => exact ⟨zr, zy, rfl⟩
              obtain ⟨hy, hr2⟩ : l[j + 1 + 1]? = some y ∧ r3 = l.drop (j + 1 + 1 + 1) := by
                have h1 := congrArg (fun z => z[0]?) hrr
                have h2 := congrArg List.tail hrr
                simp only [List.getElem?_cons_zero, List.getElem?_drop, List.tail_cons, List.tail_drop] at h1 h2
                exact ⟨h1.symm, h2⟩
              have hA7' := hAA (by omega)
              subst hA7'
              have HN2 := Lib.hid (Nat.succ.inj HNN.out : n = (r3).length)
              clear hAA HNN hrr
              have hb := next_ok b5 bs (os + (j + 1 + 1)) n (c - 1 - 1) y (-1) hn1 hc1 (fun h => by omega) H6 (HS.out.at H6 hy)
              have hrr := hr2; have HNN := HN2
              clear hr2 HN2 hy
              refine region_quiet ?_
              refine wp_region_held_drew (S := fun w' => w'.cell? ⟨b7, 1, none⟩ = some (.pointer (some ⟨b2, o1, none⟩))) (by kernel_rfl) hK8 (fun hHeld => ?_)
              clear hK8
              refine rg_take (i := 0) (v := ?_) rfl (by kernel_rfl) (by kernel_rfl) (by kernel_rfl) (fun _ _ _ h => absurd rfl (h.1 _)) (Or.inl ⟨by kernel_rfl, ?_⟩) (by assumption) ?_
              rotate_left 1
              · intro w' hSw
                try dsimp only at hSw
                go_simp
                first | done | with_reducible rfl
              try simp only [Act.put, List.setIfInBounds_toArray, List.set_cons_zero, List.set_cons_succ]
              refine rg_take (i := 1) (v := ?_) rfl (by kernel_rfl) (by kernel_rfl) (by kernel_rfl) (fun _ _ _ h => absurd rfl (h.1 _)) (Or.inl ⟨by kernel_rfl, ?_⟩) (by assumption) ?_
              rotate_left 1
              · intro w' hSw
                try dsimp only at hSw
                go_simp
                first | done | with_reducible rfl
              try simp only [Act.put, List.setIfInBounds_toArray, List.set_cons_zero, List.set_cons_succ]
              refine wpAnyH_ready (rs := [2]) (by kernel_rfl) (by simp) ?_
              refine rg_cons rfl (fun K hK => ?_) AllReadyH.nil
              go_simp
              refine hb.mono ?_
              rintro e w7 ⟨rfl, A11, hAA, H7⟩
              refine hK.out _ _ (H7.r2.cell 1 rfl) (fun hHeld' => ?_)
              clear hHeld
              have hHeld := hHeld'
              clear hHeld'
              clear hK
              try simp only [Act.put, List.setIfInBounds_toArray, List.set_cons_zero, List.set_cons_succ]
              refine rg_take (i := 3) (v := ?_) rfl (by kernel_rfl) (by kernel_rfl) (by kernel_rfl) (fun _ _ _ h => absurd rfl (h.1 _)) (Or.inl ⟨by kernel_rfl, ?_⟩) (by assumption) ?_
              rotate_left 1
              · intro w' hSw
                try dsimp only at hSw
                go_simp
                first | done | with_reducible rfl
              try simp only [Act.put, List.setIfInBounds_toArray, List.set_cons_zero, List.set_cons_succ]
              refine rg_take (i := 4) (v := ?_) rfl (by kernel_rfl) (by kernel_rfl) (by kernel_rfl) (fun _ _ _ h => absurd rfl (h.1 _)) (Or.inl ⟨by kernel_rfl, ?_⟩) (by assumption) ?_
              rotate_left 1
              · intro w' hSw
                try dsimp only at hSw
                go_simp
                first | done | with_reducible rfl
              try simp only [Act.put, List.setIfInBounds_toArray, List.set_cons_zero, List.set_cons_succ]
              refine wpAnyH_ready (rs := [5]) (by kernel_rfl) (by simp) ?_
              refine rg_cons rfl (fun K hK => ?_) AllReadyH.nil
              clear H6
              have E4 := Lib.hid (by have h0 := HO0.out; have h1 := HO1.out; omega : 4 + (7 + 2 * k) = o1 + 1)
              have f7 := (H7.ord 6 [5, 0, 1, 2, 3, 4]).frozen (o1 + 1)
              have p7 := (H7.ord 6 [5, 0, 1, 2, 3, 4]).cell (o1 + 1) (SS.getL2 ok E4.out (List.getElem?_eq_getElem (by rw [(ok).l]; omega)))
              have H8 := (H7.ord 6 [5, 0, 1, 2, 3, 4]).set (o1 + 1) (.int .i64 y)
              rw [SS.setL2 ok E4.out] at H8
              have ok8 := SS.ok_setL ok (7 + 2 * k) y
              go_simp
              refine hK.out _ _ (H8.r3.cell 1 rfl) (fun hHeld' => ?_)
              clear hHeld hHeld'
              clear hK
              try simp only [Act.put, List.setIfInBounds_toArray, List.set_cons_zero, List.set_cons_succ]
              refine wpAnyH_done (by kernel_rfl) ?_ _
              refine ⟨nofun, ?_⟩
              obtain ⟨w8, hw8⟩ : ∃ v, v = w7.setCell ⟨b2, o1 + 1, none⟩ (.int .i64 y) := ⟨_, rfl⟩
              rw [← hw8] at H8 ⊢
              clear hb H7 f7 p7 hw8 E4
              have hnext : gM l (k + 1) = some (⟨s.h, ((s.l.set (4 + k) 2).set (6 + 2 * k) x).set (7 + 2 * k) y⟩, r3) := by
                rw [gM_next hG]; rfl
              have ok9 := ok8
              dsimp only at ok9 H8
              go_wp2_with (fail)
              go_roundw
              case rel => exact ⟨k + 1, j + 1 + 1 + 1, n, c - 1 - 1 - 1, _, r3, A11, by omega, by go_num, by omega, by omega, by omega, Lib.hid ⟨hnext, hrr, hAA⟩, HNN, ok9, (H8.ord 6 [2, 1, 3, 4, 5, 0]).tail⟩
              case measure => simp [intOf]; omega
            · rw [decide_eq_false hm2] at hm2'
              have hnext : gM l (k + 1) = some (⟨s.h, s.l.set (4 + k) m⟩, r') := by
                rw [gM_next hG, momTake.eq_def]; dsimp only; rw [if_pos (by omega)]; dsimp only; rw [if_neg hm2]
              go_wp2_with (fail)
              go_roundw
              case rel => exact ⟨k + 1, j + 1, n, c - 1, _, r', A7, by omega, by go_num, by omega, by omega, by omega, Lib.hid ⟨hnext, hr', by rw [← Nat.add_assoc]; exact hA7⟩, HN', ok8, (H8.ord 6 [2, 1, 3, 4, 5, 0]).tail⟩
              case measure => simp [intOf]; omega
        · obtain rfl : k = 2 := by omega
          clear hk hlt
          go_upto_region 18 with (fail)
          have hsrc : ∀ w', Below wr.drew.heap.size wr.drew w' → Src w' A n (ivs r) := by
            intro w' hb
            have hw' := H4.drew.keep hb
            obtain ⟨h1, h2, h3⟩ := HG.out
            by_cases h0 : n = 0
            · cases A with
              | none => exact .inr ⟨rfl, h0⟩
              | some ad => exact .inl ⟨ad, rfl, fun j u hu => by
                  obtain rfl := List.eq_nil_of_length_eq_zero (HN.out.symm.trans h0)
                  cases hu⟩
            · refine .inl ⟨_, h3 (by omega), fun i u hu => ?_⟩
              rw [ivs, List.getElem?_map] at hu
              obtain ⟨x, hx, rfl⟩ := Option.map_eq_some_iff.1 hu
              rw [h2, List.getElem?_drop] at hx
              rw [add_plain, Nat.add_assoc]
              exact HS.out.at hw' hx
          have H6 := H4.drew
          have hK0 : wr.drew.rangeAt b2 0 s.cells.toArray.toList ∧ wr.drew.cell? ⟨b5, 0, none⟩ = some (.slice A n c) := ⟨H6.r5.range, H6.cell 0 rfl⟩
          have hsz : some 14 = some s.cells.toArray.size := by rw [List.size_toArray, SS.length ok]
          have hcl := clone_ok A n c r HN.out.symm hn2 hsrc H6
          refine region_quiet ?_
          refine wp_region_held_drew (S := fun w' => w'.rangeAt b2 0 s.cells.toArray.toList ∧ w'.cell? ⟨b5, 0, none⟩ = some (.slice A n c)) (by kernel_rfl) hK0 (fun hHeld => ?_)
          clear hK0 H4 hsrc
          generalize wr.drew = w6 at *
          refine rg_take (i := 0) (v := _) rfl (by kernel_rfl) (by kernel_rfl) (by kernel_rfl) (fun _ _ _ h => absurd rfl (h.1 _)) (yieldsIf_load_mid (by kernel_rfl) 49 _ rfl b2 0 rfl s.cells _ (fun w' h => h.1) Try.underlying49 rfl (by rw [SS.length ok]; kernel_rfl)) hHeld ?_
          try simp only [Act.put, List.setIfInBounds_toArray, List.set_cons_zero, List.set_cons_succ]
          refine rg_take (i := 1) (v := ?_) rfl (by kernel_rfl) (by kernel_rfl) (by kernel_rfl) (fun _ _ _ h => absurd rfl (h.1 _)) (Or.inl ⟨by kernel_rfl, ?_⟩) (by assumption) ?_
          rotate_left 1
          · intro w' hSw
            try dsimp only at hSw
            go_simp
            first | done | with_reducible rfl
          try simp only [Act.put, List.setIfInBounds_toArray, List.set_cons_zero, List.set_cons_succ]
          refine wpAnyH_ready (rs := [2]) (by kernel_rfl) (by simp) ?_
          refine rg_cons rfl (fun K hK => ?_) AllReadyH.nil
          go_simp
          refine hcl.mono ?_
          rintro e w7 ⟨A9, c9, rfl, H7⟩
          refine hK.out _ _ ⟨H7.r6.range, H7.r2.cell 0 rfl⟩ (fun hHeld' => ?_)
          clear hHeld
          have hHeld := hHeld'
          clear hHeld'
          clear hK
          try simp only [Act.put, List.setIfInBounds_toArray, List.set_cons_zero, List.set_cons_succ]
          refine wpAnyH_ready (rs := [3]) (by kernel_rfl) (by simp) ?_
          refine rg_cons rfl (fun K hK => ?_) AllReadyH.nil
          refine step_store_st 49 _ _ rfl rfl H7.r6 s.cells.toArray rfl rfl rfl (by rw [← hsz]; kernel_rfl) (List.all_eq_true.2 s.one) ?_
          intro w8 H8
          refine hK.out _ _ ⟨H8.range, H8.r3.cell 0 rfl⟩ (fun hHeld' => ?_)
          clear hHeld
          have hHeld := hHeld'
          clear hHeld'
          clear hK
          try simp only [Act.put, List.setIfInBounds_toArray, List.set_cons_zero, List.set_cons_succ]
          refine wpAnyH_ready (rs := [4]) (by kernel_rfl) (by simp) ?_
          refine rg_cons rfl (fun K hK => ?_) AllReadyH.nil
          have H8 := H8.ord 6 [5, 0, 1, 2, 3, 4]
          have f8 := H8.frozen 0
          have p8 := H8.cell 0 rfl
          have H9 := H8.set 0 (.slice A9 n c9)
          go_simp
          refine hK.out _ _ ⟨H9.r2.range, H9.r4.cell 0 rfl⟩ (fun hHeld' => ?_)
          clear hHeld
          have hHeld := hHeld'
          clear hHeld'
          clear hK
          try simp only [Act.put, List.setIfInBounds_toArray, List.set_cons_zero, List.set_cons_succ]
          generalize w8.setCell ⟨b3, 0, none⟩ (.slice A9 n c9) = w9 at *
          refine wpAnyH_ready (rs := [5]) (by kernel_rfl) (by simp) ?_
          refine rg_cons rfl (fun K hK => ?_) AllReadyH.nil
          have H9 := H9.ord 6 [5, 0, 1, 2, 3, 4]
          have f9 := H9.frozen 0
          have p9 := H9.cell 0 rfl
          have H10 := H9.set 0 (.bool true)
          go_simp
          refine hK.out _ _ ⟨H10.r3.range, H10.r5.cell 0 rfl⟩ (fun hHeld' => ?_)
          clear hHeld
          have hHeld := hHeld'
          clear hHeld'
          clear hK
          try simp only [Act.put, List.setIfInBounds_toArray, List.set_cons_zero, List.set_cons_succ]
          refine wpAnyH_done (by kernel_rfl) ?_ _
          refine ⟨nofun, ?_⟩
          generalize w9.setCell ⟨b4, 0, none⟩ (.bool true) = w10 at *
          clear hcl H6 H7 H9 H8 f8 f9 p8 p9 hHeld
          go_wp2_with (fail)
          show Leaves Try.prog Try.f17 _ (GotSet w (gM l 2)) (toCatch b2 b3 b4) .returning _
          exact leftok rfl rfl rfl ok HN.out (H10.ord 6 [4, 5, 2, 1, 0, 3]).tail.tail HG.out.1
end Go.Proofs.Ythdmklmihhallaa

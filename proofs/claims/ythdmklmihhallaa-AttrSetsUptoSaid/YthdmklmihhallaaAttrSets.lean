/- AttrSets: the numbers of every Set, and any numbers as a Set. -/
import Derived.Test.YthdmklmihhallaaAtV
import Derived.Test.YthdmklmihhallaaInts
import Derived.Test.YthdmklmihhallaaLiftC
import Derived.Outline
namespace Go.Proofs.Ythdmklmihhallaa.AttrSets
open Go.RowKit Go.ChangeShapes Go.WideShapes Go.ChangeAt Go.Proofs.Ythdmklmihhallaa

theorem rd_row {w0 w : World} {A : Option Addr} {n c : Nat} {l : List Int} {F : List Assn} (H : St w0 w (Row 3 1 A n c (ivs l) :: F)) : Rd w A l := fun i x hx => by
  have hl := H.row_length
  have hi := (List.getElem?_eq_some_iff.1 hx).1
  rw [ivs_length, Nat.mul_one] at hl
  obtain ⟨g, o, rfl⟩ := H.row_form (by omega)
  exact ⟨g, o, rfl, H.row_cell i (by rw [ivs, List.getElem?_map, hx]; rfl)⟩
theorem row_cap {w0 w : World} {e : TypeId} {size : Nat} {A : Option Addr} {n c : Nat} {xs : List Value} {L : List Assn} (H : St w0 w (Row e size A n c xs :: L)) : n ≤ c ∧ c ≤ maxLen := by
  rcases H.row_cases with ⟨_, h, h2, _⟩ | ⟨g, o, cur, fr, _, _, _, h1, h2, _⟩
  · rw [h, h2]; exact ⟨Nat.le_refl _, Nat.zero_le _⟩
  · exact ⟨h1, h2⟩
theorem src_rd {w : World} {A : Option Addr} {l : List Int} {n : Nat} (hl : l.length = n) (h : Rd w A l) : Src w A n (ivs l) := .of (by rw [ivs_length, hl]) fun j u hu => by
  rw [ivs, List.getElem?_map] at hu
  obtain ⟨x, hx, rfl⟩ := Option.map_eq_some_iff.1 hu
  exact h j x hx
theorem gO_ok {l : List Int} : ∀ (k : Nat) {s : SS} {r : List Int}, gO l k = some (s, r) → s.ok
  | 0, s, r, h => by cases h; exact SS.zero_ok
  | k + 1, s, r, h => by
    cases h1 : gO l k with
    | none => rw [gO, h1] at h; cases h
    | some q =>
      obtain ⟨s1, r1⟩ := q
      have ok1 := gO_ok k h1
      rw [gO_next h1] at h
      cases h2 : optTake r1 with
      | none => rw [h2] at h; cases h
      | some t =>
        obtain ⟨b, x, r2⟩ := t
        rw [h2] at h
        cases b with
        | false => cases h; exact SS.ok_setH ok1 k false
        | true => cases h; exact SS.ok_setL (SS.ok_setH ok1 k true) k x
theorem gM_ok {l : List Int} : ∀ (k : Nat) {s : SS} {r : List Int}, gM l k = some (s, r) → s.ok
  | 0, s, r, h => gO_ok 4 h
  | k + 1, s, r, h => by
    cases h1 : gM l k with
    | none => rw [gM, h1] at h; cases h
    | some q =>
      obtain ⟨s1, r1⟩ := q
      have ok1 := gM_ok k h1
      rw [gM_next h1] at h
      cases h2 : momTake r1 with
      | none => rw [h2] at h; cases h
      | some t =>
        obtain ⟨m, x, y, r2⟩ := t
        rw [h2] at h
        dsimp only at h
        by_cases hm : m = 2
        · rw [if_pos hm] at h; cases h
          exact SS.ok_setL (SS.ok_setL (SS.ok_setL ok1 _ _) _ _) _ _
        · rw [if_neg hm] at h; cases h
          exact SS.ok_setL ok1 _ _
set_option maxRecDepth 100000 in
set_option maxHeartbeats 8000000 in
theorem walk (w : World) (has0 has1 has2 has3 : Bool) (n0 : Int) (_h0 : -9223372036854775808 ≤ n0 ∧ n0 ≤ 9223372036854775807) (n1 : Int) (_h1 : -9223372036854775808 ≤ n1 ∧ n1 ≤ 9223372036854775807) (n2 : Int) (_h2 : -9223372036854775808 ≤ n2 ∧ n2 ≤ 9223372036854775807) (n3 : Int) (_h3 : -9223372036854775808 ≤ n3 ∧ n3 ≤ 9223372036854775807) (n4 : Int) (_h4 : -9223372036854775808 ≤ n4 ∧ n4 ≤ 9223372036854775807) (n5 : Int) (_h5 : -9223372036854775808 ≤ n5 ∧ n5 ≤ 9223372036854775807) (n6 : Int) (_h6 : -9223372036854775808 ≤ n6 ∧ n6 ≤ 9223372036854775807) (n7 : Int) (_h7 : -9223372036854775808 ≤ n7 ∧ n7 ≤ 9223372036854775807) (n8 : Int) (_h8 : -9223372036854775808 ≤ n8 ∧ n8 ≤ 9223372036854775807) (n9 : Int) (_h9 : -9223372036854775808 ≤ n9 ∧ n9 ≤ 9223372036854775807)
    (A : Option Addr) (n c : Nat) (list : List Int) (hrd : SlRd w A n 1 (list.map fun x => [.int .i64 x])) (hn : n ≤ 1048576) (_hsum : sumW (list.map fun x => [.int .i64 x]) ≤ 1048576) (_hok : ∀ x ∈ list, -9223372036854775808 ≤ x ∧ x ≤ 9223372036854775807) (hcap : n ≤ c ∧ c ≤ maxLen) :
    Calls Try.prog 6 #[.agg #[.bool has0, .bool has1, .bool has2, .bool has3], .agg #[.int .i64 n0, .int .i64 n1, .int .i64 n2, .int .i64 n3, .int .i64 n4, .int .i64 n5, .int .i64 n6, .int .i64 n7, .int .i64 n8, .int .i64 n9], .slice A n c] w fun r w' => r = .returned (.bool true) ∧ Below w.heap.size w w' := by
  have H0 := ((St.init w).alloc #[.bool has0, .bool has1, .bool has2, .bool has3] 41).alloc #[.int .i64 n0, .int .i64 n1, .int .i64 n2, .int .i64 n3, .int .i64 n4, .int .i64 n5, .int .i64 n6, .int .i64 n7, .int .i64 n8, .int .i64 n9] 42
  simp only [World.size_alloc] at H0
  obtain ⟨i0, hi, hz0, hz1, hz2⟩ := info_parts infoInt
  have hlm : list.length = n := by have := hrd.1; simpa using this
  have hrd2 : ∀ w', Below w.heap.size w w' → Rd w' A list := fun w' hb => Rd.of (SlRd.src hrd hb).2
  have HRD := Lib.hid hrd2; have HLM := Lib.hid hlm; clear hrd hlm hrd2
  go_enter Try.func6, Try.ntmps6
  go_wp2_with (first | (with_reducible refine hold_load (ty := 41) ?_) | (go_at_call 8; refine (speaks_ok H0).mono ?_; rintro x w1 ⟨rfl, H1⟩))
  unfold Hold
  have HZ := H1.alloc zeroSet 46
  have p0 := H1.cell 0 rfl
  have p1 := H1.cell 1 rfl
  have p2 := H1.cell 2 rfl
  have p3 := H1.cell 3 rfl
  have p4 := H1.cell 4 rfl
  have p5 := H1.cell 5 rfl
  have p6 := H1.cell 6 rfl
  have p7 := H1.cell 7 rfl
  have p8 := H1.cell 8 rfl
  have p9 := H1.cell 9 rfl
  with_reducible refine wpList_load_st (ty := 41) H1.r2 ?_ ?_ Try.underlying41 ?_ ?_ ?_
  rfl
  rfl
  rfl
  kernel_rfl
  go_wp2_with (with_reducible refine hold_store ?_)
  unfold Hold
  with_reducible refine wpList_store_st (ty := 46) (HZ) (#[.bool has0, .bool has1, .bool has2, .bool has3, .int .i64 n0, .int .i64 n1, .int .i64 n2, .int .i64 n3, .int .i64 n4, .int .i64 n5, .int .i64 n6, .int .i64 n7, .int .i64 n8, .int .i64 n9]) ?_ ?_ ?_ ?_ ?_ ?_ ?_
  rfl
  rfl
  rfl
  rfl
  kernel_rfl
  rfl
  intro w2 H2
  clear p0 p1 p2 p3 p4 p5 p6 p7 p8 p9 HZ H0
  obtain ⟨ba, hba⟩ : ∃ b, b = w1.heap.size := ⟨_, rfl⟩
  rw [← hba] at H2 ⊢
  clear hba H1
  obtain ⟨s, hs⟩ : ∃ s : SS, s = ⟨[has0, has1, has2, has3], [n0, n1, n2, n3, n4, n5, n6, n7, n8, n9]⟩ := ⟨_, rfl⟩
  have ok : s.ok := by rw [hs]; exact ⟨rfl, rfl⟩
  have he : (#[.bool has0, .bool has1, .bool has2, .bool has3, .int .i64 n0, .int .i64 n1, .int .i64 n2, .int .i64 n3, .int .i64 n4, .int .i64 n5, .int .i64 n6, .int .i64 n7, .int .i64 n8, .int .i64 n9] : Array Value) = s.cells.toArray := by rw [hs]; rfl
  rw [he] at H2 ⊢
  clear hs he _h0 _h1 _h2 _h3 _h4 _h5 _h6 _h7 _h8 _h9
  have hsz : (Try.prog.info? 46).map (·.size) = some s.cells.toArray.size := by rw [List.size_toArray, SS.length ok]; kernel_rfl
  have HSZ := Lib.hid hsz; clear hsz
  go_wp2_with (fail)
  refine wp_region_held_drew (S := fun w' => w'.rangeAt ba 0 s.cells) (by kernel_rfl) H2.drew.range (fun hHeld => ?_)
  have H3 := H2.drew
  clear H2
  generalize w2.drew = w2 at *
  refine rg_take (i := 0) (v := _) rfl (by kernel_rfl) (by kernel_rfl) (by kernel_rfl) (fun _ _ _ h => h) (yieldsIf_load_mid (by kernel_rfl) 46 _ rfl ba 0 rfl s.cells _ (fun w' h => h) Try.underlying46 rfl (by rw [SS.length ok]; kernel_rfl)) hHeld ?_
  try simp only [Act.put, List.setIfInBounds_toArray, List.set_cons_zero, List.set_cons_succ]
  refine rg_take (i := 3) (v := _) rfl (by kernel_rfl) (by kernel_rfl) (by kernel_rfl) (fun _ _ _ h => h) (yieldsIf_load_mid (by kernel_rfl) 46 _ rfl ba 0 rfl s.cells _ (fun w' h => h) Try.underlying46 rfl (by rw [SS.length ok]; kernel_rfl)) hHeld ?_
  try simp only [Act.put, List.setIfInBounds_toArray, List.set_cons_zero, List.set_cons_succ]
  have hm := made_ok s ok H3
  refine wpAnyH_ready (rs := [1]) (by kernel_rfl) (by simp) ?_
  refine rg_cons rfl (fun K hK => ?_) AllReadyH.nil
  go_simp
  refine hm.mono ?_
  rintro e w3 ⟨rfl, H4⟩
  refine hK.out _ _ H4.range (fun hHeld => ?_)
  clear hK
  try simp only [Act.put, List.setIfInBounds_toArray, List.set_cons_zero, List.set_cons_succ]
  have hm := putset_ok s ok H4
  refine wpAnyH_ready (rs := [2]) (by kernel_rfl) (by simp) ?_
  refine rg_cons rfl (fun K hK => ?_) AllReadyH.nil
  go_simp
  refine hm.mono ?_
  rintro e w4 ⟨A1, k1, c1, rfl, rfl, H5⟩
  refine hK.out _ _ H5.r2.range (fun hHeld => ?_)
  clear hK
  try simp only [Act.put, List.setIfInBounds_toArray, List.set_cons_zero, List.set_cons_succ]
  clear H3 H4
  have hm := refput_ok s ok H5
  refine wpAnyH_ready (rs := [4]) (by kernel_rfl) (by simp) ?_
  refine rg_cons rfl (fun K hK => ?_) AllReadyH.nil
  go_simp
  refine hm.mono ?_
  rintro e w5 ⟨A2, k2, c2, rfl, rfl, H6⟩
  refine hK.out _ _ H6.r3.range (fun hHeld => ?_)
  clear hK
  try simp only [Act.put, List.setIfInBounds_toArray, List.set_cons_zero, List.set_cons_succ]
  clear H5 hm
  have hpl := s.putM_length 2
  have hi1 := ints_ok A1 c1 (s.putM 2) A2 c2 (s.putM 2) (by omega) (by omega) w5 (rd_row H6.r2) (rd_row H6)
  rw [decide_eq_true rfl] at hi1
  refine wpAnyH_ready (rs := [5]) (by kernel_rfl) (by simp) ?_
  refine rg_cons rfl (fun K hK => ?_) AllReadyH.nil
  go_simp
  refine hi1.mono ?_
  rintro e w6 ⟨rfl, k, rfl⟩
  have H7 := H6.tail.tail.drewN k
  refine hK.out _ _ H7.range (fun hHeld => ?_)
  clear hK
  try simp only [Act.put, List.setIfInBounds_toArray, List.set_cons_zero, List.set_cons_succ]
  clear hi1 hpl H6
  generalize w5.drewN k = w6 at *
  refine rg_take (i := 6) (v := ?_) rfl (by kernel_rfl) (by kernel_rfl) (by kernel_rfl) (fun _ _ _ h => h) (Or.inl ⟨by kernel_rfl, ?_⟩) (by assumption) ?_
  rotate_left 1
  · intro w' hSw
    try dsimp only at hSw
    go_simp
    first | done | with_reducible rfl
  try simp only [Act.put, List.setIfInBounds_toArray, List.set_cons_zero, List.set_cons_succ]
  refine wpAnyH_done (by kernel_rfl) ?_ _
  have H6 := H7
  clear H7 hHeld
  have H7 := (H6.alloc #[] 3).emptyRow (size := 1)
  go_wp2_with (at_builtin; refine wpList_append_any (by rfl) _ _ _ (by rfl) 3 i0 (.int .i64 0) 1 8 Try.underlying23 hi hz0 hz1 hz2 rfl (by decide) _ 0 0 [] H7 (by rfl) A n c (ivs list) (by rfl) (by rw [ivs_length, HLM.out, Nat.mul_one]) (src_rd HLM.out (HRD.out _ H7.below)) (ivs_one list) (by unfold maxLen; omega) (by omega) ?_; rw [List.nil_append, Nat.zero_add]; intro A3 c3 w7 H8)
  have hcap8 := row_cap H8
  unfold maxLen at hcap8
  have hg := getset_ok A3 n c3 list HLM.out (by omega) hcap8.1 hcap8.2 w7 (rd_row H8)
  refine hg.mono ?_
  clear hg hcap8 H7 H6
  have hrg := fun w' hb => refget_ok A n c list HLM.out (by omega) w' (HRD.out w' hb)
  cases hgm : gM list 2 with
  | none =>
    rintro e w8 ⟨rfl, H9⟩
    have H10 := H8.frame H9
    rw [List.nil_append] at H10
    clear H8 H9
    have HZ := H10.alloc zeroSet 49
    go_wp2_with (with_reducible refine hold_store ?_)
    unfold Hold
    with_reducible refine wpList_store_st (ty := 49) HZ (SS.zero).cells.toArray ?_ ?_ ?_ ?_ ?_ ?_ ?_
    rfl
    rfl
    rfl
    (rw [List.size_toArray, SS.length (SS.zero_ok)]; rfl)
    (rw [List.size_toArray, SS.length (SS.zero_ok)]; kernel_rfl)
    (exact List.all_eq_true.2 (SS.one _))
    intro w9 H11
    obtain ⟨bx, hbx⟩ : ∃ b, b = w8.heap.size := ⟨_, rfl⟩
    rw [← hbx] at H11 ⊢
    clear hbx HZ H10
    go_wp2_with (fail)
    have hg := hrg w9 H11.below
    rw [hgm] at hg
    refine hg.mono ?_
    clear hg
    rintro e w10 ⟨rfl, HGR⟩
    have H12 := H11.frame HGR
    rw [List.nil_append] at H12
    clear H11 HGR
    have HZ := H12.alloc zeroSet 46
    go_wp2_with (with_reducible refine hold_store ?_)
    unfold Hold
    with_reducible refine wpList_store_st (ty := 46) HZ (SS.zero).cells.toArray ?_ ?_ ?_ ?_ ?_ ?_ ?_
    rfl
    rfl
    rfl
    (rw [List.size_toArray, SS.length (SS.zero_ok)]; rfl)
    (rw [List.size_toArray, SS.length (SS.zero_ok)]; kernel_rfl)
    (exact List.all_eq_true.2 (SS.one _))
    intro w11 H13
    obtain ⟨bz, hbz⟩ : ∃ b, b = w10.heap.size := ⟨_, rfl⟩
    rw [← hbz] at H13 ⊢
    clear hbz HZ H12
    go_wp2_with (fail)
    refine wp_region_held_drew (S := fun w' => w'.rangeAt bx 0 (SS.zero).cells ∧ w'.rangeAt bz 0 (SS.zero).cells) (by kernel_rfl) ⟨H13.drew.r2.range, H13.drew.range⟩ (fun hHeld => ?_)
    have H14 := H13.drew
    clear H13
    generalize w11.drew = w12 at *
    refine rg_take (i := 0) (v := ?_) rfl (by kernel_rfl) (by kernel_rfl) (by kernel_rfl) (fun _ _ _ h => h) (Or.inl ⟨by kernel_rfl, ?_⟩) (by assumption) ?_
    rotate_left 1
    · intro w' hSw
      try dsimp only at hSw
      go_simp
      first | done | with_reducible rfl
    try simp only [Act.put, List.setIfInBounds_toArray, List.set_cons_zero, List.set_cons_succ]
    refine rg_take (i := 1) (v := ?_) rfl (by kernel_rfl) (by kernel_rfl) (by kernel_rfl) (fun _ _ _ h => h) (Or.inl ⟨by kernel_rfl, ?_⟩) (by assumption) ?_
    rotate_left 1
    · intro w' hSw
      try dsimp only at hSw
      go_simp
      first | done | with_reducible rfl
    try simp only [Act.put, List.setIfInBounds_toArray, List.set_cons_zero, List.set_cons_succ]
    refine rg_take (i := 2) (v := ?_) rfl (by kernel_rfl) (by kernel_rfl) (by kernel_rfl) (fun _ _ _ h => h) (Or.inl ⟨by kernel_rfl, ?_⟩) (by assumption) ?_
    rotate_left 1
    · intro w' hSw
      try dsimp only at hSw
      go_simp
      first | done | with_reducible rfl
    try simp only [Act.put, List.setIfInBounds_toArray, List.set_cons_zero, List.set_cons_succ]
    refine rg_take (i := 3) (v := ?_) rfl (by kernel_rfl) (by kernel_rfl) (by kernel_rfl) (fun _ _ _ h => h) (Or.inl ⟨by kernel_rfl, ?_⟩) (by assumption) ?_
    rotate_left 1
    · intro w' hSw
      try dsimp only at hSw
      go_simp
      first | done | with_reducible rfl
    try simp only [Act.put, List.setIfInBounds_toArray, List.set_cons_zero, List.set_cons_succ]
    refine rg_take (i := 4) (v := ?_) rfl (by kernel_rfl) (by kernel_rfl) (by kernel_rfl) (fun _ _ _ h => h) (Or.inl ⟨by kernel_rfl, ?_⟩) (by assumption) ?_
    rotate_left 1
    · intro w' hSw
      try dsimp only at hSw
      go_simp
      first | done | with_reducible rfl
    try simp only [Act.put, List.setIfInBounds_toArray, List.set_cons_zero, List.set_cons_succ]
    refine rg_take (i := 5) (v := _) rfl (by kernel_rfl) (by kernel_rfl) (by kernel_rfl) (fun _ _ _ h => h) (yieldsIf_load_mid (by kernel_rfl) 49 _ rfl bx 0 rfl (SS.zero).cells _ (fun w' h => h.1) Try.underlying49 rfl (by rw [SS.length (SS.zero_ok)]; kernel_rfl)) hHeld ?_
    try simp only [Act.put, List.setIfInBounds_toArray, List.set_cons_zero, List.set_cons_succ]
    refine rg_take (i := 6) (v := _) rfl (by kernel_rfl) (by kernel_rfl) (by kernel_rfl) (fun _ _ _ h => h) (yieldsIf_load_mid (by kernel_rfl) 46 _ rfl bz 0 rfl (SS.zero).cells _ (fun w' h => h.2) Try.underlying46 rfl (by rw [SS.length (SS.zero_ok)]; kernel_rfl)) hHeld ?_
    try simp only [Act.put, List.setIfInBounds_toArray, List.set_cons_zero, List.set_cons_succ]
    have hm := made_ok (SS.zero) (SS.zero_ok) H14
    refine wpAnyH_ready (rs := [7]) (by kernel_rfl) (by simp) ?_
    refine rg_cons rfl (fun K hK => ?_) AllReadyH.nil
    go_simp
    refine hm.mono ?_
    rintro e w13 ⟨rfl, H15⟩
    refine hK.out _ _ ⟨H15.r2.range, H15.range⟩ (fun hHeld => ?_)
    clear hK
    try simp only [Act.put, List.setIfInBounds_toArray, List.set_cons_zero, List.set_cons_succ]
    clear hm H14
    have hneq := neq_set (SS.zero) (SS.zero_ok)
    have hgd : Try.prog.eqGuardType Try.prog.depth 49 = false := by kernel_rfl
    refine rg_take (i := 8) (v := ?_) rfl (by kernel_rfl) (by kernel_rfl) (by kernel_rfl) (fun _ _ _ h => h) (Or.inl ⟨by kernel_rfl, ?_⟩) (by assumption) ?_
    rotate_left 1
    · intro w' hSw
      try dsimp only at hSw
      go_simp
      first | done | with_reducible rfl
    try simp only [Act.put, List.setIfInBounds_toArray, List.set_cons_zero, List.set_cons_succ]
    refine rg_take (i := 9) (v := ?_) rfl (by kernel_rfl) (by kernel_rfl) (by kernel_rfl) (fun _ _ _ h => h) (Or.inl ⟨by kernel_rfl, ?_⟩) (by assumption) ?_
    rotate_left 1
    · intro w' hSw
      try dsimp only at hSw
      go_simp
      first | done | with_reducible rfl
    try simp only [Act.put, List.setIfInBounds_toArray, List.set_cons_zero, List.set_cons_succ]
    refine rg_take (i := 10) (v := ?_) rfl (by kernel_rfl) (by kernel_rfl) (by kernel_rfl) (fun _ _ _ h => h) (Or.inl ⟨by kernel_rfl, ?_⟩) (by assumption) ?_
    rotate_left 1
    · intro w' hSw
      try dsimp only at hSw
      go_simp
      first | done | with_reducible rfl
    try simp only [Act.put, List.setIfInBounds_toArray, List.set_cons_zero, List.set_cons_succ]
    refine rg_take (i := 11) (v := ?_) rfl (by kernel_rfl) (by kernel_rfl) (by kernel_rfl) (fun _ _ _ h => h) (Or.inl ⟨by kernel_rfl, ?_⟩) (by assumption) ?_
    rotate_left 1
    · intro w' hSw
      try dsimp only at hSw
      go_simp
      first | done | with_reducible rfl
    try simp only [Act.put, List.setIfInBounds_toArray, List.set_cons_zero, List.set_cons_succ]
    refine rg_take (i := 12) (v := ?_) rfl (by kernel_rfl) (by kernel_rfl) (by kernel_rfl) (fun _ _ _ h => h) (Or.inl ⟨by kernel_rfl, ?_⟩) (by assumption) ?_
    rotate_left 1
    · intro w' hSw
      try dsimp only at hSw
      go_simp
      first | done | with_reducible rfl
    try simp only [Act.put, List.setIfInBounds_toArray, List.set_cons_zero, List.set_cons_succ]
    have hi2 := ints_ok A3 c3 list A c list (by rw [HLM.out]; omega) (by rw [HLM.out]; omega) w13 (rd_row (H15.ord 3 [2, 0, 1])) (HRD.out _ H15.below)
    rw [HLM.out, decide_eq_true rfl] at hi2
    refine wpAnyH_ready (rs := [13]) (by kernel_rfl) (by simp) ?_
    refine rg_cons rfl (fun K hK => ?_) AllReadyH.nil
    go_simp
    refine hi2.mono ?_
    rintro e w14 ⟨rfl, k2, rfl⟩
    have H14 := H15.drewN k2
    refine hK.out _ _ ⟨H14.r2.range, H14.range⟩ (fun hHeld => ?_)
    clear hK
    try simp only [Act.put, List.setIfInBounds_toArray, List.set_cons_zero, List.set_cons_succ]
    clear hi2 H15
    generalize w13.drewN k2 = w14 at *
    refine rg_take (i := 14) (v := ?_) rfl (by kernel_rfl) (by kernel_rfl) (by kernel_rfl) (fun _ _ _ h => h) (Or.inl ⟨by kernel_rfl, ?_⟩) (by assumption) ?_
    rotate_left 1
    · intro w' hSw
      try dsimp only at hSw
      go_simp
      first | done | with_reducible rfl
    try simp only [Act.put, List.setIfInBounds_toArray, List.set_cons_zero, List.set_cons_succ]
    refine rg_take (i := 15) (v := ?_) rfl (by kernel_rfl) (by kernel_rfl) (by kernel_rfl) (fun _ _ _ h => h) (Or.inl ⟨by kernel_rfl, ?_⟩) (by assumption) ?_
    rotate_left 1
    · intro w' hSw
      try dsimp only at hSw
      go_simp
      first | done | with_reducible rfl
    try simp only [Act.put, List.setIfInBounds_toArray, List.set_cons_zero, List.set_cons_succ]
    refine wpAnyH_done (by kernel_rfl) ?_ _
    clear hHeld hneq hgd
    go_wp2_with (fail)
    go_ret
    exact ⟨rfl, H14.below⟩
  | some q =>
    obtain ⟨x, r⟩ := q
    have okx := gM_ok 2 hgm
    rintro e w8 ⟨A9, c9, rfl, H9⟩
    have H10 := H8.frame H9
    simp only [List.cons_append, List.nil_append] at H10
    clear H8 H9
    have HZ := H10.alloc zeroSet 49
    go_wp2_with (with_reducible refine hold_store ?_)
    unfold Hold
    with_reducible refine wpList_store_st (ty := 49) HZ (x).cells.toArray ?_ ?_ ?_ ?_ ?_ ?_ ?_
    rfl
    rfl
    rfl
    (rw [List.size_toArray, SS.length (okx)]; rfl)
    (rw [List.size_toArray, SS.length (okx)]; kernel_rfl)
    (exact List.all_eq_true.2 (SS.one _))
    intro w9 H11
    obtain ⟨bx, hbx⟩ : ∃ b, b = w8.heap.size := ⟨_, rfl⟩
    rw [← hbx] at H11 ⊢
    clear hbx HZ H10
    go_wp2_with (fail)
    have hg := hrg w9 H11.below
    rw [hgm] at hg
    refine hg.mono ?_
    clear hg
    rintro e w10 ⟨⟨j, rfl, hrj, hjn⟩, HGR⟩
    have H12 := H11.frame HGR
    rw [List.nil_append] at H12
    clear H11 HGR
    have HZ := H12.alloc zeroSet 46
    go_wp2_with (with_reducible refine hold_store ?_)
    unfold Hold
    with_reducible refine wpList_store_st (ty := 46) HZ (x).cells.toArray ?_ ?_ ?_ ?_ ?_ ?_ ?_
    rfl
    rfl
    rfl
    (rw [List.size_toArray, SS.length (okx)]; rfl)
    (rw [List.size_toArray, SS.length (okx)]; kernel_rfl)
    (exact List.all_eq_true.2 (SS.one _))
    intro w11 H13
    obtain ⟨bz, hbz⟩ : ∃ b, b = w10.heap.size := ⟨_, rfl⟩
    rw [← hbz] at H13 ⊢
    clear hbz HZ H12
    go_wp2_with (fail)
    refine wp_region_held_drew (S := fun w' => w'.rangeAt bx 0 (x).cells ∧ w'.rangeAt bz 0 (x).cells) (by kernel_rfl) ⟨H13.drew.r2.range, H13.drew.range⟩ (fun hHeld => ?_)
    have H14 := H13.drew
    clear H13
    generalize w11.drew = w12 at *
    refine rg_take (i := 0) (v := ?_) rfl (by kernel_rfl) (by kernel_rfl) (by kernel_rfl) (fun _ _ _ h => h) (Or.inl ⟨by kernel_rfl, ?_⟩) (by assumption) ?_
    rotate_left 1
    · intro w' hSw
      try dsimp only at hSw
      go_simp
      first | done | with_reducible rfl
    try simp only [Act.put, List.setIfInBounds_toArray, List.set_cons_zero, List.set_cons_succ]
    refine rg_take (i := 1) (v := ?_) rfl (by kernel_rfl) (by kernel_rfl) (by kernel_rfl) (fun _ _ _ h => h) (Or.inl ⟨by kernel_rfl, ?_⟩) (by assumption) ?_
    rotate_left 1
    · intro w' hSw
      try dsimp only at hSw
      go_simp
      first | done | with_reducible rfl
    try simp only [Act.put, List.setIfInBounds_toArray, List.set_cons_zero, List.set_cons_succ]
    refine rg_take (i := 2) (v := ?_) rfl (by kernel_rfl) (by kernel_rfl) (by kernel_rfl) (fun _ _ _ h => h) (Or.inl ⟨by kernel_rfl, ?_⟩) (by assumption) ?_
    rotate_left 1
    · intro w' hSw
      try dsimp only at hSw
      go_simp
      first | done | with_reducible rfl
    try simp only [Act.put, List.setIfInBounds_toArray, List.set_cons_zero, List.set_cons_succ]
    refine rg_take (i := 3) (v := ?_) rfl (by kernel_rfl) (by kernel_rfl) (by kernel_rfl) (fun _ _ _ h => h) (Or.inl ⟨by kernel_rfl, ?_⟩) (by assumption) ?_
    rotate_left 1
    · intro w' hSw
      try dsimp only at hSw
      go_simp
      first | done | with_reducible rfl
    try simp only [Act.put, List.setIfInBounds_toArray, List.set_cons_zero, List.set_cons_succ]
    refine rg_take (i := 4) (v := ?_) rfl (by kernel_rfl) (by kernel_rfl) (by kernel_rfl) (fun _ _ _ h => h) (Or.inl ⟨by kernel_rfl, ?_⟩) (by assumption) ?_
    rotate_left 1
    · intro w' hSw
      try dsimp only at hSw
      go_simp
      first | done | with_reducible rfl
    try simp only [Act.put, List.setIfInBounds_toArray, List.set_cons_zero, List.set_cons_succ]
    refine rg_take (i := 5) (v := _) rfl (by kernel_rfl) (by kernel_rfl) (by kernel_rfl) (fun _ _ _ h => h) (yieldsIf_load_mid (by kernel_rfl) 49 _ rfl bx 0 rfl (x).cells _ (fun w' h => h.1) Try.underlying49 rfl (by rw [SS.length (okx)]; kernel_rfl)) hHeld ?_
    try simp only [Act.put, List.setIfInBounds_toArray, List.set_cons_zero, List.set_cons_succ]
    refine rg_take (i := 6) (v := _) rfl (by kernel_rfl) (by kernel_rfl) (by kernel_rfl) (fun _ _ _ h => h) (yieldsIf_load_mid (by kernel_rfl) 46 _ rfl bz 0 rfl (x).cells _ (fun w' h => h.2) Try.underlying46 rfl (by rw [SS.length (okx)]; kernel_rfl)) hHeld ?_
    try simp only [Act.put, List.setIfInBounds_toArray, List.set_cons_zero, List.set_cons_succ]
    have hm := made_ok (x) (okx) H14
    refine wpAnyH_ready (rs := [7]) (by kernel_rfl) (by simp) ?_
    refine rg_cons rfl (fun K hK => ?_) AllReadyH.nil
    go_simp
    refine hm.mono ?_
    rintro e w13 ⟨rfl, H15⟩
    refine hK.out _ _ ⟨H15.r2.range, H15.range⟩ (fun hHeld => ?_)
    clear hK
    try simp only [Act.put, List.setIfInBounds_toArray, List.set_cons_zero, List.set_cons_succ]
    clear hm H14
    have hneq := neq_set (x) (okx)
    have hgd : Try.prog.eqGuardType Try.prog.depth 49 = false := by kernel_rfl
    refine rg_take (i := 8) (v := ?_) rfl (by kernel_rfl) (by kernel_rfl) (by kernel_rfl) (fun _ _ _ h => h) (Or.inl ⟨by kernel_rfl, ?_⟩) (by assumption) ?_
    rotate_left 1
    · intro w' hSw
      try dsimp only at hSw
      go_simp
      first | done | with_reducible rfl
    try simp only [Act.put, List.setIfInBounds_toArray, List.set_cons_zero, List.set_cons_succ]
    refine rg_take (i := 9) (v := ?_) rfl (by kernel_rfl) (by kernel_rfl) (by kernel_rfl) (fun _ _ _ h => h) (Or.inl ⟨by kernel_rfl, ?_⟩) (by assumption) ?_
    rotate_left 1
    · intro w' hSw
      try dsimp only at hSw
      go_simp
      first | done | with_reducible rfl
    try simp only [Act.put, List.setIfInBounds_toArray, List.set_cons_zero, List.set_cons_succ]
    refine rg_take (i := 10) (v := ?_) rfl (by kernel_rfl) (by kernel_rfl) (by kernel_rfl) (fun _ _ _ h => h) (Or.inl ⟨by kernel_rfl, ?_⟩) (by assumption) ?_
    rotate_left 1
    · intro w' hSw
      try dsimp only at hSw
      go_simp
      first | done | with_reducible rfl
    try simp only [Act.put, List.setIfInBounds_toArray, List.set_cons_zero, List.set_cons_succ]
    refine rg_take (i := 11) (v := ?_) rfl (by kernel_rfl) (by kernel_rfl) (by kernel_rfl) (fun _ _ _ h => h) (Or.inl ⟨by kernel_rfl, ?_⟩) (by assumption) ?_
    rotate_left 1
    · intro w' hSw
      try dsimp only at hSw
      go_simp
      first | done | with_reducible rfl
    try simp only [Act.put, List.setIfInBounds_toArray, List.set_cons_zero, List.set_cons_succ]
    refine rg_take (i := 12) (v := ?_) rfl (by kernel_rfl) (by kernel_rfl) (by kernel_rfl) (fun _ _ _ h => h) (Or.inl ⟨by kernel_rfl, ?_⟩) (by assumption) ?_
    rotate_left 1
    · intro w' hSw
      try dsimp only at hSw
      go_simp
      first | done | with_reducible rfl
    try simp only [Act.put, List.setIfInBounds_toArray, List.set_cons_zero, List.set_cons_succ]
    have hi2 := ints_ok A3 c3 list A c list (by rw [HLM.out]; omega) (by rw [HLM.out]; omega) w13 (rd_row (H15.ord 4 [3, 0, 1, 2])) (HRD.out _ H15.below)
    rw [HLM.out, decide_eq_true rfl] at hi2
    refine wpAnyH_ready (rs := [13]) (by kernel_rfl) (by simp) ?_
    refine rg_cons rfl (fun K hK => ?_) AllReadyH.nil
    go_simp
    refine hi2.mono ?_
    rintro e w14 ⟨rfl, k2, rfl⟩
    have H14 := H15.drewN k2
    refine hK.out _ _ ⟨H14.r2.range, H14.range⟩ (fun hHeld => ?_)
    clear hK
    try simp only [Act.put, List.setIfInBounds_toArray, List.set_cons_zero, List.set_cons_succ]
    clear hi2 H15
    generalize w13.drewN k2 = w14 at *
    refine rg_take (i := 14) (v := ?_) rfl (by kernel_rfl) (by kernel_rfl) (by kernel_rfl) (fun _ _ _ h => h) (Or.inl ⟨by kernel_rfl, ?_⟩) (by assumption) ?_
    rotate_left 1
    · intro w' hSw
      try dsimp only at hSw
      go_simp
      first | done | with_reducible rfl
    try simp only [Act.put, List.setIfInBounds_toArray, List.set_cons_zero, List.set_cons_succ]
    refine rg_take (i := 15) (v := ?_) rfl (by kernel_rfl) (by kernel_rfl) (by kernel_rfl) (fun _ _ _ h => h) (Or.inl ⟨by kernel_rfl, ?_⟩) (by assumption) ?_
    rotate_left 1
    · intro w' hSw
      try dsimp only at hSw
      go_simp
      first | done | with_reducible rfl
    try simp only [Act.put, List.setIfInBounds_toArray, List.set_cons_zero, List.set_cons_succ]
    refine wpAnyH_done (by kernel_rfl) ?_ _
    clear hHeld hneq hgd
    subst hrj
    rw [HLM.out] at hjn
    have hcap2 : c ≤ 9223372036854775807 := Nat.le_trans hcap.2 (by decide)
    have hjI : (j : Int) ≤ n := by omega
    have hld : (list.drop j).length = n - j := by rw [List.length_drop, HLM.out]
    by_cases hjlt : j < n
    · obtain ⟨b, o, hA, _⟩ := HRD.out w14 H14.below j (list[j]'(by rw [HLM.out]; exact hjlt)) (List.getElem?_eq_getElem _)
      subst hA
      have hcj : ¬ c = j := by have := hcap.1; omega
      have hi3 := ints_ok A9 c9 (list.drop j) (some ⟨b, o + j, none⟩) (c - j) (list.drop j) (by omega) (by omega) w14 (rd_row H14.r3) (fun i x hx => by
        rw [List.getElem?_drop] at hx
        obtain ⟨b', o', h1, h2⟩ := HRD.out w14 H14.below _ _ hx
        cases h1
        exact ⟨b, o + j, rfl, by rw [Nat.add_assoc]; exact h2⟩)
      rw [hld, decide_eq_true rfl] at hi3
      rw [HLM.out]
      clear hld
      go_wp2_with (fail)
      refine hi3.mono ?_
      rintro e w15 ⟨rfl, k3, rfl⟩
      have H15 := H14.drewN k3
      generalize w14.drewN k3 = w15 at *
      clear hi3
      go_wp2_with (fail)
      go_ret
      exact ⟨rfl, H15.below⟩
    · obtain rfl : j = n := by omega
      have hnil : list.drop j = [] := List.drop_of_length_le (by rw [HLM.out]; exact Nat.le_refl _)
      have hi3 := fun B d => ints_ok A9 c9 (list.drop j) B d (list.drop j) (by omega) (by omega) w14 (rd_row H14.r3) (fun i x hx => by rw [hnil] at hx; cases hx)
      simp only [hld, Nat.sub_self, decide_eq_true] at hi3
      rw [HLM.out]
      clear hld
      by_cases hcj : c = j
      · go_wp2_with (fail)
        refine (hi3 _ _).mono ?_
        rintro e w15 ⟨rfl, k3, rfl⟩
        have H15 := H14.drewN k3
        generalize w14.drewN k3 = w15 at *
        clear hi3
        go_wp2_with (fail)
        go_ret
        exact ⟨rfl, H15.below⟩
      · go_wp2_with (fail)
        refine (hi3 _ _).mono ?_
        rintro e w15 ⟨rfl, k3, rfl⟩
        have H15 := H14.drewN k3
        generalize w14.drewN k3 = w15 at *
        clear hi3
        go_wp2_with (fail)
        go_ret
        exact ⟨rfl, H15.below⟩
theorem own : ownKnob Try.prog.godebug = none := by kernel_rfl
theorem laidOut : laidOutB Try.prog = true := by kernel_rfl
theorem readable : ∀ t ∈ Try.f6.params.toList, Try.prog.readableRec t = true ∧ t < Try.prog.types.size := by
  intro t ht
  rw [Try.params6] at ht
  simp only [List.mem_cons, List.not_mem_nil, or_false] at ht
  rcases ht with rfl | rfl | rfl
  all_goals exact ⟨by kernel_rfl, of_decide_eq_true (by kernel_rfl)⟩
theorem contract (H : Type) (enc : TypeId × Value → H) (W : World) (base : Nat) (args : Array Value) (ds gs : List (DataW H)) (before : List MemPlace)
    (hval : ∀ (j : Nat) t v, Try.f6.params[j]? = some t → args[j]? = some v → Value.okWide Try.prog W .any base t v)
    (hW : DataW.Whole enc Try.prog Try.f6.params.toList Rows.attrSetsSpec.vars false W args.toList ds gs before) (hk : Rows.uptoSmall H (ds ++ gs) = true) :
    Calls Try.prog 6 args W fun e W' => ∃ v, e = .returned v ∧ Rows.attrSetsSpec.post enc Try.prog Try.f6 false true false false W args v W' := by
  have hW' := hW
  obtain ⟨p, q, hA0, hV, rfl, _, _⟩ := hW
  have hA : DataW.TrodAll enc Try.prog W 0 (fun _ => true) true Try.f6.params.toList args.toList ds p := hA0
  rw [Try.params6] at hA hval
  obtain ⟨v0, vs0, d0, ds0, p0, q0, hargs, rfl, rfl, h0, r0⟩ := trodAll_cons hA
  obtain ⟨v1, vs1, d1, ds1, p1, q1, rfl, rfl, rfl, h1, r1⟩ := trodAll_cons r0
  obtain ⟨v2, vs2, d2, ds2, p2, q2, rfl, rfl, rfl, h2, r2⟩ := trodAll_cons r1
  obtain ⟨rfl, rfl, rfl⟩ := trodAll_nil r2
  obtain rfl : args = #[v0, v1, v2] := by cases args; simp_all
  obtain ⟨rfl, rfl⟩ := trodVars_none hV
  clear hA0
  have hk2 : Rows.uptoBulkAll _ ≤ 1048576 := of_decide_eq_true hk
  rw [List.append_nil] at hk2
  obtain ⟨cs0, hv0, hsz0⟩ := okWide_array Try.underlying41 (hval 0 41 v0 rfl rfl)
  subst hv0
  rw [show Try.prog.cellsOf 41 = 4 by kernel_rfl] at hsz0
  obtain ⟨l0⟩ := cs0
  obtain ⟨fuel0, hf0⟩ := h0
  obtain ⟨hrow0, hbulk0⟩ := trod_flat 8 41 [.bool, .bool, .bool, .bool] (by kernel_rfl) _ _ _ hf0
  simp only [Value.cells] at hrow0 hbulk0
  match l0, hsz0, hrow0, hbulk0, hval, hf0, hW', hk2 with
  | [c0_0, c0_1, c0_2, c0_3], _, hrow0, hbulk0, hval, hf0, hW', hk2 =>
  obtain ⟨⟨has0, rfl⟩, ⟨has1, rfl⟩, ⟨has2, rfl⟩, ⟨has3, rfl⟩, _⟩ := hrow0
  obtain ⟨cs1, hv1, hsz1⟩ := okWide_array Try.underlying42 (hval 1 42 v1 rfl rfl)
  subst hv1
  rw [show Try.prog.cellsOf 42 = 10 by kernel_rfl] at hsz1
  obtain ⟨l1⟩ := cs1
  obtain ⟨fuel1, hf1⟩ := h1
  obtain ⟨hrow1, hbulk1⟩ := trod_flat 8 42 [.int .i64, .int .i64, .int .i64, .int .i64, .int .i64, .int .i64, .int .i64, .int .i64, .int .i64, .int .i64] (by kernel_rfl) _ _ _ hf1
  simp only [Value.cells] at hrow1 hbulk1
  match l1, hsz1, hrow1, hbulk1, hval, hf1, hW', hk2 with
  | [c1_0, c1_1, c1_2, c1_3, c1_4, c1_5, c1_6, c1_7, c1_8, c1_9], _, hrow1, hbulk1, hval, hf1, hW', hk2 =>
  obtain ⟨⟨n0, rfl, wn0⟩, ⟨n1, rfl, wn1⟩, ⟨n2, rfl, wn2⟩, ⟨n3, rfl, wn3⟩, ⟨n4, rfl, wn4⟩, ⟨n5, rfl, wn5⟩, ⟨n6, rfl, wn6⟩, ⟨n7, rfl, wn7⟩, ⟨n8, rfl, wn8⟩, ⟨n9, rfl, wn9⟩, _⟩ := hrow1
  obtain ⟨fuel2, hf2⟩ := h2
  obtain ⟨A2, n2, c2, hv2⟩ := okWide_slice Try.underlying23 (hval 2 23 v2 rfl rfl)
  subst hv2
  obtain ⟨A2', n2', c2', rows2, hc2, hn2, hrd2, hrow2, hbulk2⟩ := trod_slice_flat (ks := [.int .i64]) (m := 8) Try.underlying23 (by kernel_rfl) (by kernel_rfl) (by decide) hf2
  dsimp only at hbulk2
  obtain ⟨rfl, rfl, rfl⟩ : A2' = A2 ∧ n2' = n2 ∧ c2' = c2 := by simp [Value.cells] at hc2; simp [hc2]
  obtain ⟨list, rfl, hok2⟩ := rows_map (fun x : Int => [.int .i64 x]) (fun x : Int => -9223372036854775808 ≤ x ∧ x ≤ 9223372036854775807) rows2 (fun row hr => of_row_int row (hrow2 row hr))
  refine (walk W has0 has1 has2 has3 n0 (wf_i64 wn0) n1 (wf_i64 wn1) n2 (wf_i64 wn2) n3 (wf_i64 wn3) n4 (wf_i64 wn4) n5 (wf_i64 wn5) n6 (wf_i64 wn6) n7 (wf_i64 wn7) n8 (wf_i64 wn8) n9 (wf_i64 wn9) A2' n2' c2' list hrd2 (by
    have h1 := len_le_sum (ks := [.int .i64]) _ hrow2 (by decide)
    have h2 := hrd2.1
    simp only [Rows.uptoBulkAll] at hk2
    omega) (by
    simp only [Rows.uptoBulkAll] at hk2
    omega) hok2 (trod_cap Try.underlying23 hf2 _ _ _ hc2)).mono fun e W' ⟨he, hb⟩ => ?_
  exact ⟨_, he, law_post (tb := 4) laidOut readable rfl Try.underlying4 rfl hW' rfl rfl rfl hb⟩
set_option maxRecDepth 100000 in
theorem lifted (os : Os) (started : os.Started) (H : Type) (enc : TypeId × Value → H) (F : Stop.Interp) :
    ReturnsInHanded {} Try.checked os 6 .any ((Rows.OpenSpec.upto Rows.attrSetsSpec).pre6 enc Try.prog Try.f6 Rows.attrSetsUptoRow.domain false) (((Rows.OpenSpec.upto Rows.attrSetsSpec).at F).post enc Try.prog Try.f6 false true false false) := by
  refine returnsInHanded_of_cond (C := Try.checked) (s := Rows.OpenSpec.upto Rows.attrSetsSpec) (k := Rows.uptoSmall) rfl own started (by kernel_rfl) Try.func6
    (OpenSpec.witness (enc := enc) (C := Try.checked) (s := Rows.OpenSpec.upto Rows.attrSetsSpec) (k := Rows.uptoSmall) rfl false ⟨#[], #[.agg #[.bool false, .bool false, .bool false, .bool false], .agg #[.int .i64 0, .int .i64 0, .int .i64 0, .int .i64 0, .int .i64 0, .int .i64 0, .int .i64 0, .int .i64 0, .int .i64 0, .int .i64 0], .slice none 0 0], []⟩ 8 (by kernel_rfl) (by kernel_rfl) (by kernel_rfl)
      (x := ([.agg [.lit (.bool false), .lit (.bool false), .lit (.bool false), .lit (.bool false)], .agg [.lit (.int .i64 0), .lit (.int .i64 0), .lit (.int .i64 0), .lit (.int .i64 0), .lit (.int .i64 0), .lit (.int .i64 0), .lit (.int .i64 0), .lit (.int .i64 0), .lit (.int .i64 0), .lit (.int .i64 0)], .nil], [], [])) (by kernel_rfl) rfl (by kernel_rfl)) ?_
  intro W base args ds gs before hval hW _ hk _
  exact contract H enc W base args ds gs before hval hW hk
theorem proved : Rows.AttrSetsUptoSaid :=
  OpenClaim.holds_of_cond 6 Try.f6 rfl rfl rfl rfl rfl rfl rfl ⟨rfl, rfl, rfl, rfl, rfl⟩ rfl rfl rfl rfl rfl (by kernel_rfl) Try.func6 (by kernel_rfl)
    (of_decide_eq_true (by kernel_rfl)) (by unfold Func.isWrapper; first | (rw [if_pos (by decide +kernel)]; kernel_rfl) | (rw [if_neg (by decide +kernel)]; exact ⟨rfl, rfl⟩))
    (fun os started H enc _ F => lifted os started H enc F)
#print axioms proved

end Go.Proofs.Ythdmklmihhallaa.AttrSets

/- RpcApart: two calls that aren't one have other bytes, and so have two replies: of texts of bulk at most 1048576. -/
import Derived.Test.YtkpcnklhboemcaaRpM
import Derived.Test.YtkpcnklhboemcaaRpN
import Derived.Test.YtkpcnklhboemcaaRgn
import Derived.Test.YtkpcnklhboemcaaLift
import Derived.Deep.RegionHeld3
import Derived.Deep.DeepCutAuto
namespace Go.Proofs.Ytkpcnklhboemcaa.RpcApart
open Go.RowKit Go.ChangeShapes Go.WideShapes Go.ChangeAt Go.Proofs.Ytkpcnklhboemcaa
open Go.ChangeMaps (open_string shut_string)

theorem put_inj {c d : Cal} {s : ByteArray} (h1 : c.put = (s, 0)) (h2 : d.put = (s, 0)) : c = d := by
  have := get_put h1
  rw [get_put h2] at this
  injection this with h _
  exact h.symm
theorem rput_inj {c d : Rep} {s : ByteArray} (h1 : c.put = (s, 0)) (h2 : d.put = (s, 0)) : c = d := by
  have := Rep.parse_put h1
  rw [Rep.parse_put h2] at this
  injection this with h
  exact h.symm
/-- are all five one? -/
def five (a0 a1 a2 a3 b0 b1 b2 b3 : Int) (x y : ByteArray) : Bool := decide (a0 = b0) && (decide (a1 = b1) && (decide (a2 = b2) && (decide (a3 = b3) && decide (x = y))))
theorem five_iff {a0 a1 a2 a3 b0 b1 b2 b3 : Int} {x y : ByteArray} : five a0 a1 a2 a3 b0 b1 b2 b3 x y = true ↔ (a0 = b0 ∧ a1 = b1 ∧ a2 = b2 ∧ a3 = b3 ∧ x = y) := by simp [five]
theorem calls_apart {a0 a1 a2 a3 b0 b1 b2 b3 : Int} {x y s t : ByteArray} (h1 : (bare a0 a1 a2 a3 x).put = (s, 0)) (h2 : (bare b0 b1 b2 b3 y).put = (t, 0)) : (s.toList == t.toList) = five a0 a1 a2 a3 b0 b1 b2 b3 x y := by
  rw [str_beq, Bool.eq_iff_iff, decide_eq_true_eq, five_iff]
  constructor
  · rintro rfl
    have := put_inj h1 h2
    injection this with g1 g2 g3 g4 _ _ _ _ _ _ g5
    exact ⟨g1, g2, g3, g4, g5⟩
  · rintro ⟨rfl, rfl, rfl, rfl, rfl⟩
    rw [h1] at h2; injection h2
theorem reps_apart {a0 a1 a2 a3 b0 b1 b2 b3 : Int} {x y s t : ByteArray} (h1 : (⟨a0, a1, a2, a3, x⟩ : Rep).put = (s, 0)) (h2 : (⟨b0, b1, b2, b3, y⟩ : Rep).put = (t, 0)) : (s.toList == t.toList) = five a0 a1 a2 a3 b0 b1 b2 b3 x y := by
  rw [str_beq, Bool.eq_iff_iff, decide_eq_true_eq, five_iff]
  constructor
  · rintro rfl
    have := rput_inj h1 h2
    injection this with g1 g2 g3 g4 g5
    exact ⟨g1, g2, g3, g4, g5⟩
  · rintro ⟨rfl, rfl, rfl, rfl, rfl⟩
    rw [h1] at h2; injection h2
-- an alloc: §1 the world's name, §2 the new one's, §3 the struct's nought, §4 its type, §5 the block's name, §6 H, §7 the new H
set_option maxRecDepth 100000 in
set_option maxHeartbeats 16000000 in
theorem walk (w : World) (a0 : Int) (_ : -9223372036854775808 ≤ a0 ∧ a0 ≤ 9223372036854775807) (a1 : Int) (_ : -9223372036854775808 ≤ a1 ∧ a1 ≤ 9223372036854775807) (a2 : Int) (_ : -9223372036854775808 ≤ a2 ∧ a2 ≤ 9223372036854775807) (a3 : Int) (_ : -9223372036854775808 ≤ a3 ∧ a3 ≤ 9223372036854775807)
    (b0 : Int) (_ : -9223372036854775808 ≤ b0 ∧ b0 ≤ 9223372036854775807) (b1 : Int) (_ : -9223372036854775808 ≤ b1 ∧ b1 ≤ 9223372036854775807) (b2 : Int) (_ : -9223372036854775808 ≤ b2 ∧ b2 ≤ 9223372036854775807) (b3 : Int) (_ : -9223372036854775808 ≤ b3 ∧ b3 ≤ 9223372036854775807)
    (x0 : ByteArray) (hx0 : x0.size ≤ 1048576) (x1 : ByteArray) (hx1 : x1.size ≤ 1048576) :
    Calls Try.prog 5 #[.agg #[.int .i64 a0, .int .i64 a1, .int .i64 a2, .int .i64 a3], .agg #[.int .i64 b0, .int .i64 b1, .int .i64 b2, .int .i64 b3], .agg #[.string x0, .string x1]] w fun r w' => r = .returned (.bool true) ∧ Below w.heap.size w w' := by
  have H0 := (((St.init w).alloc #[.int .i64 a0, .int .i64 a1, .int .i64 a2, .int .i64 a3] 22).alloc #[.int .i64 b0, .int .i64 b1, .int .i64 b2, .int .i64 b3] 22).alloc #[.string x0, .string x1] 47
  simp only [World.size_alloc] at H0
  obtain ⟨p, hp⟩ : ∃ p, p = Cal.put (bare a0 a1 a2 a3 x0) := ⟨_, rfl⟩
  obtain ⟨q, hq⟩ : ∃ p, p = Cal.put (bare b0 b1 b2 b3 x1) := ⟨_, rfl⟩
  obtain ⟨S, e⟩ := p
  obtain ⟨T, f⟩ := q
  have hpc := fun w' => bare_put a0 a1 a2 a3 x0 (by omega) w'
  have hqc := fun w' => bare_put b0 b1 b2 b3 x1 (by omega) w'
  rw [← hp] at hpc
  rw [← hq] at hqc
  dsimp only at hpc hqc
  have HPC := Lib.hid hpc; have HP := Lib.hid hp
  have HQC := Lib.hid hqc; have HQ := Lib.hid hq
  clear hpc hp hqc hq
  obtain ⟨c3, hc3⟩ : ∃ b, b = w.heap.size := ⟨_, rfl⟩
  obtain ⟨c4, hc4⟩ : ∃ b, b = w.heap.size + 1 := ⟨_, rfl⟩
  obtain ⟨c5, hc5⟩ : ∃ b, b = w.heap.size + 1 + 1 := ⟨_, rfl⟩
  go_enter Try.func5, Try.ntmps5
  go_upto_region 1 with (fail)
  rw [← hc5] at H0 ⊢
  rw [← hc4] at H0 ⊢
  rw [← hc3] at H0 ⊢
  generalize ((w.alloc (.cells #[.int .i64 a0, .int .i64 a1, .int .i64 a2, .int .i64 a3] 22)).alloc (.cells #[.int .i64 b0, .int .i64 b1, .int .i64 b2, .int .i64 b3] 22)).alloc (.cells #[.string x0, .string x1] 47) = w1 at *
  clear hc3 hc4 hc5
  go_wp2_with (fail)
  refine (speaks_ok H0).mono ?_
  rintro x w1 ⟨rfl, H1⟩
  clear H0
  go_upto_region 3 with (fail)
  go_cut [7, 8] (fun s t wx => ∃ b7 b8, s = .pointer (some ⟨b7, 0, none⟩) ∧ t = .pointer (some ⟨b8, 0, none⟩) ∧ St w wx [Pt b7 (callC a0 a1 a2 a3 false 0 ⟨#[]⟩ 0 0 none 0 0 x0) 30, Pt b8 (callC b0 b1 b2 b3 false 0 ⟨#[]⟩ 0 0 none 0 0 x1) 30, Pt c5 #[.string x0, .string x1] 47, Pt c4 #[.int .i64 b0, .int .i64 b1, .int .i64 b2, .int .i64 b3] 22, Pt c3 #[.int .i64 a0, .int .i64 a1, .int .i64 a2, .int .i64 a3] 22])
  case first =>
    have H' := H1.drew
    have hc5 := H'.cell 0 rfl
    have hc6 := H'.cell 1 rfl
    have ha0 := H'.r3.cell 0 rfl
    have ha1 := H'.r3.cell 1 rfl
    have ha2 := H'.r3.cell 2 rfl
    have ha3 := H'.r3.cell 3 rfl
    have hb0 := H'.r2.cell 0 rfl
    have hb1 := H'.r2.cell 1 rfl
    have hb2 := H'.r2.cell 2 rfl
    have hb3 := H'.r2.cell 3 rfl
    refine wp_region_held_drew (S := fun w' => (w'.cell? ⟨c5, 0, none⟩ = some (.string x0) ∧ w'.cell? ⟨c5, 1, none⟩ = some (.string x1)) ∧ (w'.cell? ⟨c3, 0, none⟩ = some (.int .i64 a0) ∧ w'.cell? ⟨c3, 1, none⟩ = some (.int .i64 a1) ∧ w'.cell? ⟨c3, 2, none⟩ = some (.int .i64 a2) ∧ w'.cell? ⟨c3, 3, none⟩ = some (.int .i64 a3)) ∧ (w'.cell? ⟨c4, 0, none⟩ = some (.int .i64 b0) ∧ w'.cell? ⟨c4, 1, none⟩ = some (.int .i64 b1) ∧ w'.cell? ⟨c4, 2, none⟩ = some (.int .i64 b2) ∧ w'.cell? ⟨c4, 3, none⟩ = some (.int .i64 b3))) (by kernel_rfl) ⟨⟨hc5, hc6⟩, ⟨ha0, ha1, ha2, ha3⟩, ⟨hb0, hb1, hb2, hb3⟩⟩ (fun hHeld => ?_)
    generalize w1.drew = w2 at *
    clear H1 hc5 hc6 ha0 ha1 ha2 ha3 hb0 hb1 hb2 hb3
    refine rg_take (i := 0) (v := ?_) rfl (by kernel_rfl) (by kernel_rfl) (by kernel_rfl) (fun _ _ _ h => h) (Or.inl ⟨by kernel_rfl, ?_⟩) (by assumption) ?_
    rotate_left 1
    · intro w' hSw
      try dsimp only at hSw
      go_simp
      first | done | with_reducible rfl
    try simp only [Act.put, List.setIfInBounds_toArray, List.set_cons_zero, List.set_cons_succ]
    refine rg_take (i := 1) (v := ?_) rfl (by kernel_rfl) (by kernel_rfl) (by kernel_rfl) (fun _ _ _ h => h) (Or.inl ⟨by kernel_rfl, ?_⟩) (by assumption) ?_
    rotate_left 1
    · intro w' hSw
      try dsimp only at hSw
      go_simp
      first | done | with_reducible rfl
    try simp only [Act.put, List.setIfInBounds_toArray, List.set_cons_zero, List.set_cons_succ]
    refine rg_take (i := 2) (v := ?_) rfl (by kernel_rfl) (by kernel_rfl) (by kernel_rfl) (fun _ _ _ h => h) (Or.inl ⟨by kernel_rfl, ?_⟩) (by assumption) ?_
    rotate_left 1
    · intro w' hSw
      try dsimp only at hSw
      go_simp
      first | done | with_reducible rfl
    try simp only [Act.put, List.setIfInBounds_toArray, List.set_cons_zero, List.set_cons_succ]
    refine rg_take (i := 3) (v := ?_) rfl (by kernel_rfl) (by kernel_rfl) (by kernel_rfl) (fun _ _ _ h => h) (Or.inl ⟨by kernel_rfl, ?_⟩) (by assumption) ?_
    rotate_left 1
    · intro w' hSw
      try dsimp only at hSw
      go_simp
      first | done | with_reducible rfl
    try simp only [Act.put, List.setIfInBounds_toArray, List.set_cons_zero, List.set_cons_succ]
    refine rg_take (i := 4) (v := ?_) rfl (by kernel_rfl) (by kernel_rfl) (by kernel_rfl) (fun _ _ _ h => h) (Or.inl ⟨by kernel_rfl, ?_⟩) (by assumption) ?_
    rotate_left 1
    · intro w' hSw
      try dsimp only at hSw
      go_simp
      first | done | with_reducible rfl
    try simp only [Act.put, List.setIfInBounds_toArray, List.set_cons_zero, List.set_cons_succ]
    refine rg_take (i := 5) (v := ?_) rfl (by kernel_rfl) (by kernel_rfl) (by kernel_rfl) (fun _ _ _ h => h) (Or.inl ⟨by kernel_rfl, ?_⟩) (by assumption) ?_
    rotate_left 1
    · intro w' hSw
      try dsimp only at hSw
      go_simp
      first | done | with_reducible rfl
    try simp only [Act.put, List.setIfInBounds_toArray, List.set_cons_zero, List.set_cons_succ]
    refine rg_take (i := 6) (v := ?_) rfl (by kernel_rfl) (by kernel_rfl) (by kernel_rfl) (fun _ _ _ h => h) (Or.inl ⟨by kernel_rfl, ?_⟩) (by assumption) ?_
    rotate_left 1
    · intro w' hSw
      try dsimp only at hSw
      go_simp
      first | done | with_reducible rfl
    try simp only [Act.put, List.setIfInBounds_toArray, List.set_cons_zero, List.set_cons_succ]
    refine rg_take (i := 7) (v := ?_) rfl (by kernel_rfl) (by kernel_rfl) (by kernel_rfl) (fun _ _ _ h => h) (Or.inl ⟨by kernel_rfl, ?_⟩) (by assumption) ?_
    rotate_left 1
    · intro w' hSw
      try dsimp only at hSw
      go_simp
      first | done | with_reducible rfl
    try simp only [Act.put, List.setIfInBounds_toArray, List.set_cons_zero, List.set_cons_succ]
    refine rg_take (i := 8) (v := ?_) rfl (by kernel_rfl) (by kernel_rfl) (by kernel_rfl) (fun _ _ _ h => h) (Or.inl ⟨by kernel_rfl, ?_⟩) (by assumption) ?_
    rotate_left 1
    · intro w' hSw
      try dsimp only at hSw
      go_simp
      first | done | with_reducible rfl
    try simp only [Act.put, List.setIfInBounds_toArray, List.set_cons_zero, List.set_cons_succ]
    refine rg_take (i := 9) (v := ?_) rfl (by kernel_rfl) (by kernel_rfl) (by kernel_rfl) (fun _ _ _ h => h) (Or.inl ⟨by kernel_rfl, ?_⟩) (by assumption) ?_
    rotate_left 1
    · intro w' hSw
      try dsimp only at hSw
      go_simp
      first | done | with_reducible rfl
    try simp only [Act.put, List.setIfInBounds_toArray, List.set_cons_zero, List.set_cons_succ]
    refine rg_take (i := 10) (v := ?_) rfl (by kernel_rfl) (by kernel_rfl) (by kernel_rfl) (fun _ _ _ h => h) (Or.inl ⟨by kernel_rfl, ?_⟩) (by assumption) ?_
    rotate_left 1
    · intro w' hSw
      try dsimp only at hSw
      go_simp
      first | done | with_reducible rfl
    try simp only [Act.put, List.setIfInBounds_toArray, List.set_cons_zero, List.set_cons_succ]
    refine rg_take (i := 11) (v := ?_) rfl (by kernel_rfl) (by kernel_rfl) (by kernel_rfl) (fun _ _ _ h => h) (Or.inl ⟨by kernel_rfl, ?_⟩) (by assumption) ?_
    rotate_left 1
    · intro w' hSw
      try dsimp only at hSw
      go_simp
      first | done | with_reducible rfl
    try simp only [Act.put, List.setIfInBounds_toArray, List.set_cons_zero, List.set_cons_succ]
    refine rg_take (i := 12) (v := ?_) rfl (by kernel_rfl) (by kernel_rfl) (by kernel_rfl) (fun _ _ _ h => h) (Or.inl ⟨by kernel_rfl, ?_⟩) (by assumption) ?_
    rotate_left 1
    · intro w' hSw
      try dsimp only at hSw
      go_simp
      first | done | with_reducible rfl
    try simp only [Act.put, List.setIfInBounds_toArray, List.set_cons_zero, List.set_cons_succ]
    refine rg_take (i := 13) (v := ?_) rfl (by kernel_rfl) (by kernel_rfl) (by kernel_rfl) (fun _ _ _ h => h) (Or.inl ⟨by kernel_rfl, ?_⟩) (by assumption) ?_
    rotate_left 1
    · intro w' hSw
      try dsimp only at hSw
      go_simp
      first | done | with_reducible rfl
    try simp only [Act.put, List.setIfInBounds_toArray, List.set_cons_zero, List.set_cons_succ]
    refine rg_take (i := 14) (v := ?_) rfl (by kernel_rfl) (by kernel_rfl) (by kernel_rfl) (fun _ _ _ h => h) (Or.inl ⟨by kernel_rfl, ?_⟩) (by assumption) ?_
    rotate_left 1
    · intro w' hSw
      try dsimp only at hSw
      go_simp
      first | done | with_reducible rfl
    try simp only [Act.put, List.setIfInBounds_toArray, List.set_cons_zero, List.set_cons_succ]
    refine rg_take (i := 15) (v := ?_) rfl (by kernel_rfl) (by kernel_rfl) (by kernel_rfl) (fun _ _ _ h => h) (Or.inl ⟨by kernel_rfl, ?_⟩) (by assumption) ?_
    rotate_left 1
    · intro w' hSw
      try dsimp only at hSw
      go_simp
      first | done | with_reducible rfl
    try simp only [Act.put, List.setIfInBounds_toArray, List.set_cons_zero, List.set_cons_succ]
    refine rg_take (i := 16) (v := ?_) rfl (by kernel_rfl) (by kernel_rfl) (by kernel_rfl) (fun _ _ _ h => h) (Or.inl ⟨by kernel_rfl, ?_⟩) (by assumption) ?_
    rotate_left 1
    · intro w' hSw
      try dsimp only at hSw
      go_simp
      first | done | with_reducible rfl
    try simp only [Act.put, List.setIfInBounds_toArray, List.set_cons_zero, List.set_cons_succ]
    refine rg_take (i := 17) (v := ?_) rfl (by kernel_rfl) (by kernel_rfl) (by kernel_rfl) (fun _ _ _ h => h) (Or.inl ⟨by kernel_rfl, ?_⟩) (by assumption) ?_
    rotate_left 1
    · intro w' hSw
      try dsimp only at hSw
      go_simp
      first | done | with_reducible rfl
    try simp only [Act.put, List.setIfInBounds_toArray, List.set_cons_zero, List.set_cons_succ]
    refine rg_take (i := 18) (v := ?_) rfl (by kernel_rfl) (by kernel_rfl) (by kernel_rfl) (fun _ _ _ h => h) (Or.inl ⟨by kernel_rfl, ?_⟩) (by assumption) ?_
    rotate_left 1
    · intro w' hSw
      try dsimp only at hSw
      go_simp
      first | done | with_reducible rfl
    try simp only [Act.put, List.setIfInBounds_toArray, List.set_cons_zero, List.set_cons_succ]
    refine rg_take (i := 19) (v := ?_) rfl (by kernel_rfl) (by kernel_rfl) (by kernel_rfl) (fun _ _ _ h => h) (Or.inl ⟨by kernel_rfl, ?_⟩) (by assumption) ?_
    rotate_left 1
    · intro w' hSw
      try dsimp only at hSw
      go_simp
      first | done | with_reducible rfl
    try simp only [Act.put, List.setIfInBounds_toArray, List.set_cons_zero, List.set_cons_succ]
    refine rg_take (i := 20) (v := ?_) rfl (by kernel_rfl) (by kernel_rfl) (by kernel_rfl) (fun _ _ _ h => h) (Or.inl ⟨by kernel_rfl, ?_⟩) (by assumption) ?_
    rotate_left 1
    · intro w' hSw
      try dsimp only at hSw
      go_simp
      first | done | with_reducible rfl
    try simp only [Act.put, List.setIfInBounds_toArray, List.set_cons_zero, List.set_cons_succ]
    refine rg_take (i := 21) (v := ?_) rfl (by kernel_rfl) (by kernel_rfl) (by kernel_rfl) (fun _ _ _ h => h) (Or.inl ⟨by kernel_rfl, ?_⟩) (by assumption) ?_
    rotate_left 1
    · intro w' hSw
      try dsimp only at hSw
      go_simp
      first | done | with_reducible rfl
    try simp only [Act.put, List.setIfInBounds_toArray, List.set_cons_zero, List.set_cons_succ]
    have HS3 := fun (w3 : World) (K : List Assn) (H3 : St w w3 (Pt c5 #[.string x0, .string x1] 47 :: Pt c4 #[.int .i64 b0, .int .i64 b1, .int .i64 b2, .int .i64 b3] 22 :: Pt c3 #[.int .i64 a0, .int .i64 a1, .int .i64 a2, .int .i64 a3] 22 :: K)) => (And.intro (And.intro (H3.cell 0 rfl) (H3.cell 1 rfl)) (And.intro (And.intro (H3.r3.cell 0 rfl) (And.intro (H3.r3.cell 1 rfl) (And.intro (H3.r3.cell 2 rfl) (H3.r3.cell 3 rfl)))) (And.intro (H3.r2.cell 0 rfl) (And.intro (H3.r2.cell 1 rfl) (And.intro (H3.r2.cell 2 rfl) (H3.r2.cell 3 rfl))))))
    refine wpAnyH_ready (rs := [22, 23]) (by kernel_rfl) (by simp) ?_
    refine rg_cons rfl (fun K hK => ?_) (rg_cons rfl (fun K hK => ?_) AllReadyH.nil)
    · have H3 := (H').alloc (callC 0 0 0 0 false 0 ⟨#[]⟩ 0 0 none 0 0 ⟨#[]⟩) 30
      have hSA := HS3 _ _ ((H3).ord 4 [1, 2, 3, 0])
      go_simp
      refine hK.out _ _ hSA (fun hHeld' => ?_)
      clear hSA
      clear hK hHeld
      have hHeld := hHeld'
      clear hHeld'
      try simp only [Act.put, List.setIfInBounds_toArray, List.set_cons_zero, List.set_cons_succ]
      generalize (w2).heap.size = x3 at *
      generalize (w2).alloc (.cells (callC 0 0 0 0 false 0 ⟨#[]⟩ 0 0 none 0 0 ⟨#[]⟩) 30) = w3 at *
      refine wpAnyH_ready (rs := [23]) (by kernel_rfl) (by simp) ?_
      refine rg_cons rfl (fun K hK => ?_) AllReadyH.nil
      have H4 := (H3).alloc (callC 0 0 0 0 false 0 ⟨#[]⟩ 0 0 none 0 0 ⟨#[]⟩) 30
      have hSA := HS3 _ _ ((H4).ord 5 [2, 3, 4, 0, 1])
      go_simp
      refine hK.out _ _ hSA (fun hHeld' => ?_)
      clear hSA
      clear hK hHeld
      have hHeld := hHeld'
      clear hHeld'
      try simp only [Act.put, List.setIfInBounds_toArray, List.set_cons_zero, List.set_cons_succ]
      generalize (w3).heap.size = x4 at *
      generalize (w3).alloc (.cells (callC 0 0 0 0 false 0 ⟨#[]⟩ 0 0 none 0 0 ⟨#[]⟩) 30) = w4 at *
      refine wpAnyH_ready (rs := [24]) (by kernel_rfl) (by simp) ?_
      refine rg_cons rfl (fun K hK => ?_) AllReadyH.nil
      refine step_store_st 30 _ _ rfl rfl (H4.r2) (callC a0 a1 a2 a3 false 0 ⟨#[]⟩ 0 0 none 0 0 x0) rfl rfl rfl (by kernel_rfl) rfl ?_
      intro w5 H5
      refine hK.out _ _ (HS3 _ _ (H5.ord 5 [2, 3, 4, 0, 1])) (fun hHeld' => ?_)
      clear hK hHeld
      have hHeld := hHeld'
      clear hHeld'
      try simp only [Act.put, List.setIfInBounds_toArray, List.set_cons_zero, List.set_cons_succ]
      refine wpAnyH_ready (rs := [25]) (by kernel_rfl) (by simp) ?_
      refine rg_cons rfl (fun K hK => ?_) AllReadyH.nil
      refine step_store_st 30 _ _ rfl rfl (H5.r2) (callC b0 b1 b2 b3 false 0 ⟨#[]⟩ 0 0 none 0 0 x1) rfl rfl rfl (by kernel_rfl) rfl ?_
      intro w6 H6
      refine hK.out _ _ (HS3 _ _ (H6.ord 5 [2, 3, 4, 0, 1])) (fun hHeld' => ?_)
      clear hK hHeld
      have hHeld := hHeld'
      clear hHeld'
      try simp only [Act.put, List.setIfInBounds_toArray, List.set_cons_zero, List.set_cons_succ]
      refine wpAnyH_done (by kernel_rfl) ?_ _
      go_wp2_with (fail)
      go_meet
      exact ⟨_, _, rfl, rfl, H6.r2⟩
    · have H3 := (H').alloc (callC 0 0 0 0 false 0 ⟨#[]⟩ 0 0 none 0 0 ⟨#[]⟩) 30
      have hSA := HS3 _ _ ((H3).ord 4 [1, 2, 3, 0])
      go_simp
      refine hK.out _ _ hSA (fun hHeld' => ?_)
      clear hSA
      clear hK hHeld
      have hHeld := hHeld'
      clear hHeld'
      try simp only [Act.put, List.setIfInBounds_toArray, List.set_cons_zero, List.set_cons_succ]
      generalize (w2).heap.size = x3 at *
      generalize (w2).alloc (.cells (callC 0 0 0 0 false 0 ⟨#[]⟩ 0 0 none 0 0 ⟨#[]⟩) 30) = w3 at *
      refine wpAnyH_ready (rs := [22]) (by kernel_rfl) (by simp) ?_
      refine rg_cons rfl (fun K hK => ?_) AllReadyH.nil
      have H4 := (H3).alloc (callC 0 0 0 0 false 0 ⟨#[]⟩ 0 0 none 0 0 ⟨#[]⟩) 30
      have hSA := HS3 _ _ ((H4).ord 5 [2, 3, 4, 0, 1])
      go_simp
      refine hK.out _ _ hSA (fun hHeld' => ?_)
      clear hSA
      clear hK hHeld
      have hHeld := hHeld'
      clear hHeld'
      try simp only [Act.put, List.setIfInBounds_toArray, List.set_cons_zero, List.set_cons_succ]
      generalize (w3).heap.size = x4 at *
      generalize (w3).alloc (.cells (callC 0 0 0 0 false 0 ⟨#[]⟩ 0 0 none 0 0 ⟨#[]⟩) 30) = w4 at *
      refine wpAnyH_ready (rs := [24]) (by kernel_rfl) (by simp) ?_
      refine rg_cons rfl (fun K hK => ?_) AllReadyH.nil
      refine step_store_st 30 _ _ rfl rfl (H4) (callC a0 a1 a2 a3 false 0 ⟨#[]⟩ 0 0 none 0 0 x0) rfl rfl rfl (by kernel_rfl) rfl ?_
      intro w5 H5
      refine hK.out _ _ (HS3 _ _ (H5.ord 5 [2, 3, 4, 0, 1])) (fun hHeld' => ?_)
      clear hK hHeld
      have hHeld := hHeld'
      clear hHeld'
      try simp only [Act.put, List.setIfInBounds_toArray, List.set_cons_zero, List.set_cons_succ]
      refine wpAnyH_ready (rs := [25]) (by kernel_rfl) (by simp) ?_
      refine rg_cons rfl (fun K hK => ?_) AllReadyH.nil
      refine step_store_st 30 _ _ rfl rfl (H5.r2) (callC b0 b1 b2 b3 false 0 ⟨#[]⟩ 0 0 none 0 0 x1) rfl rfl rfl (by kernel_rfl) rfl ?_
      intro w6 H6
      refine hK.out _ _ (HS3 _ _ (H6.ord 5 [2, 3, 4, 0, 1])) (fun hHeld' => ?_)
      clear hK hHeld
      have hHeld := hHeld'
      clear hHeld'
      try simp only [Act.put, List.setIfInBounds_toArray, List.set_cons_zero, List.set_cons_succ]
      refine wpAnyH_done (by kernel_rfl) ?_ _
      go_wp2_with (fail)
      go_meet
      exact ⟨_, _, rfl, rfl, H6.r2⟩
  case rest =>
  obtain ⟨b7, b8, rfl, rfl, H⟩ := hcut
  clear H1
  go_wp2_with ((with_reducible refine wpList_load_st (ty := 30) (H) ?_ ?_ Try.underlying30 ?_ ?_ ?_); rfl; rfl; rfl; kernel_rfl)
  refine (HPC.out _).mono ?_
  rintro xx w2 ⟨rfl, K⟩
  have H2 := H.frame K
  rw [List.nil_append] at H2
  clear H K
  go_wp2_with ((with_reducible refine wpList_load_st (ty := 30) (H2.r2) ?_ ?_ Try.underlying30 ?_ ?_ ?_); rfl; rfl; rfl; kernel_rfl)
  refine (HQC.out _).mono ?_
  rintro xx w3 ⟨rfl, K⟩
  have H3 := (H2.frame K)
  rw [List.nil_append] at H3
  have H3 := H3.tail.tail
  clear H2 K
  have ha0 := H3.r3.cell 0 rfl
  have ha1 := H3.r3.cell 1 rfl
  have ha2 := H3.r3.cell 2 rfl
  have ha3 := H3.r3.cell 3 rfl
  have hb0 := H3.r2.cell 0 rfl
  have hb1 := H3.r2.cell 1 rfl
  have hb2 := H3.r2.cell 2 rfl
  have hb3 := H3.r2.cell 3 rfl
  have hc5 := H3.cell 0 rfl
  have hc6 := H3.cell 1 rfl
  obtain ⟨AE, hAE⟩ : ∃ b, b = (decide (a0 = b0) && (decide (a1 = b1) && (decide (a2 = b2) && decide (a3 = b3)))) := ⟨_, rfl⟩
  obtain ⟨XE, hXE⟩ : ∃ b, b = decide (x0 = x1) := ⟨_, rfl⟩
  have hfive : five a0 a1 a2 a3 b0 b1 b2 b3 x0 x1 = (AE && XE) := by rw [hAE, hXE]; unfold five; simp only [Bool.and_assoc]
  have har : ∀ w, (binOp .eql 22 (.agg #[.int .i64 a0, .int .i64 a1, .int .i64 a2, .int .i64 a3]) (.agg #[.int .i64 b0, .int .i64 b1, .int .i64 b2, .int .i64 b3])).run Try.prog w = .ok (.bool AE) w := fun w => by
    rw [run_eql_struct, arr_eq, ← hAE]; rfl
  have hxx : (x0.toList == x1.toList) = XE := by rw [str_beq, ← hXE]
  have hst : e = 0 → f = 0 → (S.toList == T.toList) = (AE && XE) := fun he hf => by
    rw [← hfive]
    exact calls_apart (by rw [← HP.out, he]) (by rw [← HQ.out, hf])
  have HF := Lib.hid hfive; have HST := Lib.hid hst
  have HXE := Lib.hid hXE; have HAE := Lib.hid hAE
  clear hfive hst hXE hAE
  go_upto_region 6 with (fail)
  go_cut [74] (fun s wx => s = .bool false ∧ w3 = wx)
  case first =>
    by_cases he : e = 0
    rotate_left 1
    · have he' : (e == 0) = false := beq_eq_false_iff_ne.2 he
      clear he
      go_wp2_with (fail)
      go_meet
      exact ⟨rfl, rfl⟩
    have he' : (e == 0) = true := beq_iff_eq.2 he
    by_cases hf : f = 0
    rotate_left 1
    · have hf' : (f == 0) = false := beq_eq_false_iff_ne.2 hf
      clear he hf
      go_wp2_with (fail)
      go_meet
      exact ⟨rfl, rfl⟩
    have hf' : (f == 0) = true := beq_iff_eq.2 hf
    have hst := HST.out he hf
    clear he hf
    cases AE <;> cases XE
    all_goals go_wp2_with (fail)
    all_goals go_meet
    all_goals exact ⟨rfl, rfl⟩
  case rest =>
  obtain ⟨rfl, rfl⟩ := hcut
  clear ha0 ha1 ha2 ha3 hb0 hb1 hb2 hb3 hc5 hc6 HPC HP HQC HQ HST hxx
  go_upto_region 8 with (fail)
  have H1 := H3
  clear H3
  generalize w3 = w1 at *
  go_cut [13, 14] (fun s t wx => ∃ b7 b8, s = .pointer (some ⟨b7, 0, none⟩) ∧ t = .pointer (some ⟨b8, 0, none⟩) ∧ St w wx [Pt b7 #[.int .i64 a0, .int .i64 a1, .int .i64 a2, .int .i64 a3, .string x0] 49, Pt b8 #[.int .i64 b0, .int .i64 b1, .int .i64 b2, .int .i64 b3, .string x1] 49, Pt c5 #[.string x0, .string x1] 47, Pt c4 #[.int .i64 b0, .int .i64 b1, .int .i64 b2, .int .i64 b3] 22, Pt c3 #[.int .i64 a0, .int .i64 a1, .int .i64 a2, .int .i64 a3] 22])
  case first =>
    have H' := H1.drew
    have hc5 := H'.cell 0 rfl
    have hc6 := H'.cell 1 rfl
    have ha0 := H'.r3.cell 0 rfl
    have ha1 := H'.r3.cell 1 rfl
    have ha2 := H'.r3.cell 2 rfl
    have ha3 := H'.r3.cell 3 rfl
    have hb0 := H'.r2.cell 0 rfl
    have hb1 := H'.r2.cell 1 rfl
    have hb2 := H'.r2.cell 2 rfl
    have hb3 := H'.r2.cell 3 rfl
    refine wp_region_held_drew (S := fun w' => (w'.cell? ⟨c5, 0, none⟩ = some (.string x0) ∧ w'.cell? ⟨c5, 1, none⟩ = some (.string x1)) ∧ (w'.cell? ⟨c3, 0, none⟩ = some (.int .i64 a0) ∧ w'.cell? ⟨c3, 1, none⟩ = some (.int .i64 a1) ∧ w'.cell? ⟨c3, 2, none⟩ = some (.int .i64 a2) ∧ w'.cell? ⟨c3, 3, none⟩ = some (.int .i64 a3)) ∧ (w'.cell? ⟨c4, 0, none⟩ = some (.int .i64 b0) ∧ w'.cell? ⟨c4, 1, none⟩ = some (.int .i64 b1) ∧ w'.cell? ⟨c4, 2, none⟩ = some (.int .i64 b2) ∧ w'.cell? ⟨c4, 3, none⟩ = some (.int .i64 b3))) (by kernel_rfl) ⟨⟨hc5, hc6⟩, ⟨ha0, ha1, ha2, ha3⟩, ⟨hb0, hb1, hb2, hb3⟩⟩ (fun hHeld => ?_)
    generalize w1.drew = w2 at *
    clear H1 hc5 hc6 ha0 ha1 ha2 ha3 hb0 hb1 hb2 hb3
    refine rg_take (i := 0) (v := ?_) rfl (by kernel_rfl) (by kernel_rfl) (by kernel_rfl) (fun _ _ _ h => h) (Or.inl ⟨by kernel_rfl, ?_⟩) (by assumption) ?_
    rotate_left 1
    · intro w' hSw
      try dsimp only at hSw
      go_simp
      first | done | with_reducible rfl
    try simp only [Act.put, List.setIfInBounds_toArray, List.set_cons_zero, List.set_cons_succ]
    refine rg_take (i := 1) (v := ?_) rfl (by kernel_rfl) (by kernel_rfl) (by kernel_rfl) (fun _ _ _ h => h) (Or.inl ⟨by kernel_rfl, ?_⟩) (by assumption) ?_
    rotate_left 1
    · intro w' hSw
      try dsimp only at hSw
      go_simp
      first | done | with_reducible rfl
    try simp only [Act.put, List.setIfInBounds_toArray, List.set_cons_zero, List.set_cons_succ]
    refine rg_take (i := 2) (v := ?_) rfl (by kernel_rfl) (by kernel_rfl) (by kernel_rfl) (fun _ _ _ h => h) (Or.inl ⟨by kernel_rfl, ?_⟩) (by assumption) ?_
    rotate_left 1
    · intro w' hSw
      try dsimp only at hSw
      go_simp
      first | done | with_reducible rfl
    try simp only [Act.put, List.setIfInBounds_toArray, List.set_cons_zero, List.set_cons_succ]
    refine rg_take (i := 3) (v := ?_) rfl (by kernel_rfl) (by kernel_rfl) (by kernel_rfl) (fun _ _ _ h => h) (Or.inl ⟨by kernel_rfl, ?_⟩) (by assumption) ?_
    rotate_left 1
    · intro w' hSw
      try dsimp only at hSw
      go_simp
      first | done | with_reducible rfl
    try simp only [Act.put, List.setIfInBounds_toArray, List.set_cons_zero, List.set_cons_succ]
    refine rg_take (i := 4) (v := ?_) rfl (by kernel_rfl) (by kernel_rfl) (by kernel_rfl) (fun _ _ _ h => h) (Or.inl ⟨by kernel_rfl, ?_⟩) (by assumption) ?_
    rotate_left 1
    · intro w' hSw
      try dsimp only at hSw
      go_simp
      first | done | with_reducible rfl
    try simp only [Act.put, List.setIfInBounds_toArray, List.set_cons_zero, List.set_cons_succ]
    refine rg_take (i := 5) (v := ?_) rfl (by kernel_rfl) (by kernel_rfl) (by kernel_rfl) (fun _ _ _ h => h) (Or.inl ⟨by kernel_rfl, ?_⟩) (by assumption) ?_
    rotate_left 1
    · intro w' hSw
      try dsimp only at hSw
      go_simp
      first | done | with_reducible rfl
    try simp only [Act.put, List.setIfInBounds_toArray, List.set_cons_zero, List.set_cons_succ]
    refine rg_take (i := 6) (v := ?_) rfl (by kernel_rfl) (by kernel_rfl) (by kernel_rfl) (fun _ _ _ h => h) (Or.inl ⟨by kernel_rfl, ?_⟩) (by assumption) ?_
    rotate_left 1
    · intro w' hSw
      try dsimp only at hSw
      go_simp
      first | done | with_reducible rfl
    try simp only [Act.put, List.setIfInBounds_toArray, List.set_cons_zero, List.set_cons_succ]
    refine rg_take (i := 7) (v := ?_) rfl (by kernel_rfl) (by kernel_rfl) (by kernel_rfl) (fun _ _ _ h => h) (Or.inl ⟨by kernel_rfl, ?_⟩) (by assumption) ?_
    rotate_left 1
    · intro w' hSw
      try dsimp only at hSw
      go_simp
      first | done | with_reducible rfl
    try simp only [Act.put, List.setIfInBounds_toArray, List.set_cons_zero, List.set_cons_succ]
    refine rg_take (i := 8) (v := ?_) rfl (by kernel_rfl) (by kernel_rfl) (by kernel_rfl) (fun _ _ _ h => h) (Or.inl ⟨by kernel_rfl, ?_⟩) (by assumption) ?_
    rotate_left 1
    · intro w' hSw
      try dsimp only at hSw
      go_simp
      first | done | with_reducible rfl
    try simp only [Act.put, List.setIfInBounds_toArray, List.set_cons_zero, List.set_cons_succ]
    refine rg_take (i := 9) (v := ?_) rfl (by kernel_rfl) (by kernel_rfl) (by kernel_rfl) (fun _ _ _ h => h) (Or.inl ⟨by kernel_rfl, ?_⟩) (by assumption) ?_
    rotate_left 1
    · intro w' hSw
      try dsimp only at hSw
      go_simp
      first | done | with_reducible rfl
    try simp only [Act.put, List.setIfInBounds_toArray, List.set_cons_zero, List.set_cons_succ]
    refine rg_take (i := 10) (v := ?_) rfl (by kernel_rfl) (by kernel_rfl) (by kernel_rfl) (fun _ _ _ h => h) (Or.inl ⟨by kernel_rfl, ?_⟩) (by assumption) ?_
    rotate_left 1
    · intro w' hSw
      try dsimp only at hSw
      go_simp
      first | done | with_reducible rfl
    try simp only [Act.put, List.setIfInBounds_toArray, List.set_cons_zero, List.set_cons_succ]
    refine rg_take (i := 11) (v := ?_) rfl (by kernel_rfl) (by kernel_rfl) (by kernel_rfl) (fun _ _ _ h => h) (Or.inl ⟨by kernel_rfl, ?_⟩) (by assumption) ?_
    rotate_left 1
    · intro w' hSw
      try dsimp only at hSw
      go_simp
      first | done | with_reducible rfl
    try simp only [Act.put, List.setIfInBounds_toArray, List.set_cons_zero, List.set_cons_succ]
    refine rg_take (i := 12) (v := ?_) rfl (by kernel_rfl) (by kernel_rfl) (by kernel_rfl) (fun _ _ _ h => h) (Or.inl ⟨by kernel_rfl, ?_⟩) (by assumption) ?_
    rotate_left 1
    · intro w' hSw
      try dsimp only at hSw
      go_simp
      first | done | with_reducible rfl
    try simp only [Act.put, List.setIfInBounds_toArray, List.set_cons_zero, List.set_cons_succ]
    refine rg_take (i := 13) (v := ?_) rfl (by kernel_rfl) (by kernel_rfl) (by kernel_rfl) (fun _ _ _ h => h) (Or.inl ⟨by kernel_rfl, ?_⟩) (by assumption) ?_
    rotate_left 1
    · intro w' hSw
      try dsimp only at hSw
      go_simp
      first | done | with_reducible rfl
    try simp only [Act.put, List.setIfInBounds_toArray, List.set_cons_zero, List.set_cons_succ]
    refine rg_take (i := 14) (v := ?_) rfl (by kernel_rfl) (by kernel_rfl) (by kernel_rfl) (fun _ _ _ h => h) (Or.inl ⟨by kernel_rfl, ?_⟩) (by assumption) ?_
    rotate_left 1
    · intro w' hSw
      try dsimp only at hSw
      go_simp
      first | done | with_reducible rfl
    try simp only [Act.put, List.setIfInBounds_toArray, List.set_cons_zero, List.set_cons_succ]
    refine rg_take (i := 15) (v := ?_) rfl (by kernel_rfl) (by kernel_rfl) (by kernel_rfl) (fun _ _ _ h => h) (Or.inl ⟨by kernel_rfl, ?_⟩) (by assumption) ?_
    rotate_left 1
    · intro w' hSw
      try dsimp only at hSw
      go_simp
      first | done | with_reducible rfl
    try simp only [Act.put, List.setIfInBounds_toArray, List.set_cons_zero, List.set_cons_succ]
    refine rg_take (i := 16) (v := ?_) rfl (by kernel_rfl) (by kernel_rfl) (by kernel_rfl) (fun _ _ _ h => h) (Or.inl ⟨by kernel_rfl, ?_⟩) (by assumption) ?_
    rotate_left 1
    · intro w' hSw
      try dsimp only at hSw
      go_simp
      first | done | with_reducible rfl
    try simp only [Act.put, List.setIfInBounds_toArray, List.set_cons_zero, List.set_cons_succ]
    refine rg_take (i := 17) (v := ?_) rfl (by kernel_rfl) (by kernel_rfl) (by kernel_rfl) (fun _ _ _ h => h) (Or.inl ⟨by kernel_rfl, ?_⟩) (by assumption) ?_
    rotate_left 1
    · intro w' hSw
      try dsimp only at hSw
      go_simp
      first | done | with_reducible rfl
    try simp only [Act.put, List.setIfInBounds_toArray, List.set_cons_zero, List.set_cons_succ]
    refine rg_take (i := 18) (v := ?_) rfl (by kernel_rfl) (by kernel_rfl) (by kernel_rfl) (fun _ _ _ h => h) (Or.inl ⟨by kernel_rfl, ?_⟩) (by assumption) ?_
    rotate_left 1
    · intro w' hSw
      try dsimp only at hSw
      go_simp
      first | done | with_reducible rfl
    try simp only [Act.put, List.setIfInBounds_toArray, List.set_cons_zero, List.set_cons_succ]
    refine rg_take (i := 19) (v := ?_) rfl (by kernel_rfl) (by kernel_rfl) (by kernel_rfl) (fun _ _ _ h => h) (Or.inl ⟨by kernel_rfl, ?_⟩) (by assumption) ?_
    rotate_left 1
    · intro w' hSw
      try dsimp only at hSw
      go_simp
      first | done | with_reducible rfl
    try simp only [Act.put, List.setIfInBounds_toArray, List.set_cons_zero, List.set_cons_succ]
    refine rg_take (i := 20) (v := ?_) rfl (by kernel_rfl) (by kernel_rfl) (by kernel_rfl) (fun _ _ _ h => h) (Or.inl ⟨by kernel_rfl, ?_⟩) (by assumption) ?_
    rotate_left 1
    · intro w' hSw
      try dsimp only at hSw
      go_simp
      first | done | with_reducible rfl
    try simp only [Act.put, List.setIfInBounds_toArray, List.set_cons_zero, List.set_cons_succ]
    refine rg_take (i := 21) (v := ?_) rfl (by kernel_rfl) (by kernel_rfl) (by kernel_rfl) (fun _ _ _ h => h) (Or.inl ⟨by kernel_rfl, ?_⟩) (by assumption) ?_
    rotate_left 1
    · intro w' hSw
      try dsimp only at hSw
      go_simp
      first | done | with_reducible rfl
    try simp only [Act.put, List.setIfInBounds_toArray, List.set_cons_zero, List.set_cons_succ]
    have HS3 := fun (w3 : World) (K : List Assn) (H3 : St w w3 (Pt c5 #[.string x0, .string x1] 47 :: Pt c4 #[.int .i64 b0, .int .i64 b1, .int .i64 b2, .int .i64 b3] 22 :: Pt c3 #[.int .i64 a0, .int .i64 a1, .int .i64 a2, .int .i64 a3] 22 :: K)) => (And.intro (And.intro (H3.cell 0 rfl) (H3.cell 1 rfl)) (And.intro (And.intro (H3.r3.cell 0 rfl) (And.intro (H3.r3.cell 1 rfl) (And.intro (H3.r3.cell 2 rfl) (H3.r3.cell 3 rfl)))) (And.intro (H3.r2.cell 0 rfl) (And.intro (H3.r2.cell 1 rfl) (And.intro (H3.r2.cell 2 rfl) (H3.r2.cell 3 rfl))))))
    refine wpAnyH_ready (rs := [22, 23]) (by kernel_rfl) (by simp) ?_
    refine rg_cons rfl (fun K hK => ?_) (rg_cons rfl (fun K hK => ?_) AllReadyH.nil)
    · have H3 := (H').alloc (#[.int .i64 0, .int .i64 0, .int .i64 0, .int .i64 0, .string ⟨#[]⟩]) 49
      have hSA := HS3 _ _ ((H3).ord 4 [1, 2, 3, 0])
      go_simp
      refine hK.out _ _ hSA (fun hHeld' => ?_)
      clear hSA
      clear hK hHeld
      have hHeld := hHeld'
      clear hHeld'
      try simp only [Act.put, List.setIfInBounds_toArray, List.set_cons_zero, List.set_cons_succ]
      generalize (w2).heap.size = x3 at *
      generalize (w2).alloc (.cells (#[.int .i64 0, .int .i64 0, .int .i64 0, .int .i64 0, .string ⟨#[]⟩]) 49) = w3 at *
      refine wpAnyH_ready (rs := [23]) (by kernel_rfl) (by simp) ?_
      refine rg_cons rfl (fun K hK => ?_) AllReadyH.nil
      have H4 := (H3).alloc (#[.int .i64 0, .int .i64 0, .int .i64 0, .int .i64 0, .string ⟨#[]⟩]) 49
      have hSA := HS3 _ _ ((H4).ord 5 [2, 3, 4, 0, 1])
      go_simp
      refine hK.out _ _ hSA (fun hHeld' => ?_)
      clear hSA
      clear hK hHeld
      have hHeld := hHeld'
      clear hHeld'
      try simp only [Act.put, List.setIfInBounds_toArray, List.set_cons_zero, List.set_cons_succ]
      generalize (w3).heap.size = x4 at *
      generalize (w3).alloc (.cells (#[.int .i64 0, .int .i64 0, .int .i64 0, .int .i64 0, .string ⟨#[]⟩]) 49) = w4 at *
      refine wpAnyH_ready (rs := [24]) (by kernel_rfl) (by simp) ?_
      refine rg_cons rfl (fun K hK => ?_) AllReadyH.nil
      refine step_store_st 49 _ _ rfl rfl (H4.r2) (#[.int .i64 a0, .int .i64 a1, .int .i64 a2, .int .i64 a3, .string x0]) rfl rfl rfl (by kernel_rfl) rfl ?_
      intro w5 H5
      refine hK.out _ _ (HS3 _ _ (H5.ord 5 [2, 3, 4, 0, 1])) (fun hHeld' => ?_)
      clear hK hHeld
      have hHeld := hHeld'
      clear hHeld'
      try simp only [Act.put, List.setIfInBounds_toArray, List.set_cons_zero, List.set_cons_succ]
      refine wpAnyH_ready (rs := [25]) (by kernel_rfl) (by simp) ?_
      refine rg_cons rfl (fun K hK => ?_) AllReadyH.nil
      refine step_store_st 49 _ _ rfl rfl (H5.r2) (#[.int .i64 b0, .int .i64 b1, .int .i64 b2, .int .i64 b3, .string x1]) rfl rfl rfl (by kernel_rfl) rfl ?_
      intro w6 H6
      refine hK.out _ _ (HS3 _ _ (H6.ord 5 [2, 3, 4, 0, 1])) (fun hHeld' => ?_)
      clear hK hHeld
      have hHeld := hHeld'
      clear hHeld'
      try simp only [Act.put, List.setIfInBounds_toArray, List.set_cons_zero, List.set_cons_succ]
      refine wpAnyH_done (by kernel_rfl) ?_ _
      go_wp2_with (fail)
      go_meet
      exact ⟨_, _, rfl, rfl, H6.r2⟩
    · have H3 := (H').alloc (#[.int .i64 0, .int .i64 0, .int .i64 0, .int .i64 0, .string ⟨#[]⟩]) 49
      have hSA := HS3 _ _ ((H3).ord 4 [1, 2, 3, 0])
      go_simp
      refine hK.out _ _ hSA (fun hHeld' => ?_)
      clear hSA
      clear hK hHeld
      have hHeld := hHeld'
      clear hHeld'
      try simp only [Act.put, List.setIfInBounds_toArray, List.set_cons_zero, List.set_cons_succ]
      generalize (w2).heap.size = x3 at *
      generalize (w2).alloc (.cells (#[.int .i64 0, .int .i64 0, .int .i64 0, .int .i64 0, .string ⟨#[]⟩]) 49) = w3 at *
      refine wpAnyH_ready (rs := [22]) (by kernel_rfl) (by simp) ?_
      refine rg_cons rfl (fun K hK => ?_) AllReadyH.nil
      have H4 := (H3).alloc (#[.int .i64 0, .int .i64 0, .int .i64 0, .int .i64 0, .string ⟨#[]⟩]) 49
      have hSA := HS3 _ _ ((H4).ord 5 [2, 3, 4, 0, 1])
      go_simp
      refine hK.out _ _ hSA (fun hHeld' => ?_)
      clear hSA
      clear hK hHeld
      have hHeld := hHeld'
      clear hHeld'
      try simp only [Act.put, List.setIfInBounds_toArray, List.set_cons_zero, List.set_cons_succ]
      generalize (w3).heap.size = x4 at *
      generalize (w3).alloc (.cells (#[.int .i64 0, .int .i64 0, .int .i64 0, .int .i64 0, .string ⟨#[]⟩]) 49) = w4 at *
      refine wpAnyH_ready (rs := [24]) (by kernel_rfl) (by simp) ?_
      refine rg_cons rfl (fun K hK => ?_) AllReadyH.nil
      refine step_store_st 49 _ _ rfl rfl (H4) (#[.int .i64 a0, .int .i64 a1, .int .i64 a2, .int .i64 a3, .string x0]) rfl rfl rfl (by kernel_rfl) rfl ?_
      intro w5 H5
      refine hK.out _ _ (HS3 _ _ (H5.ord 5 [2, 3, 4, 0, 1])) (fun hHeld' => ?_)
      clear hK hHeld
      have hHeld := hHeld'
      clear hHeld'
      try simp only [Act.put, List.setIfInBounds_toArray, List.set_cons_zero, List.set_cons_succ]
      refine wpAnyH_ready (rs := [25]) (by kernel_rfl) (by simp) ?_
      refine rg_cons rfl (fun K hK => ?_) AllReadyH.nil
      refine step_store_st 49 _ _ rfl rfl (H5.r2) (#[.int .i64 b0, .int .i64 b1, .int .i64 b2, .int .i64 b3, .string x1]) rfl rfl rfl (by kernel_rfl) rfl ?_
      intro w6 H6
      refine hK.out _ _ (HS3 _ _ (H6.ord 5 [2, 3, 4, 0, 1])) (fun hHeld' => ?_)
      clear hK hHeld
      have hHeld := hHeld'
      clear hHeld'
      try simp only [Act.put, List.setIfInBounds_toArray, List.set_cons_zero, List.set_cons_succ]
      refine wpAnyH_done (by kernel_rfl) ?_ _
      go_wp2_with (fail)
      go_meet
      exact ⟨_, _, rfl, rfl, H6.r2⟩
  case rest =>
  obtain ⟨d7, d8, rfl, rfl, H⟩ := hcut
  clear H1
  obtain ⟨P2, hP2⟩ : ∃ p, p = Rep.put ⟨a0, a1, a2, a3, x0⟩ := ⟨_, rfl⟩
  obtain ⟨Q2, hQ2⟩ : ∃ p, p = Rep.put ⟨b0, b1, b2, b3, x1⟩ := ⟨_, rfl⟩
  obtain ⟨u, g⟩ := P2
  obtain ⟨v, h⟩ := Q2
  have huv : g = 0 → h = 0 → (u.toList == v.toList) = (AE && XE) := fun hg hh => by
    rw [← HF.out]
    exact reps_apart (by rw [← hP2, hg]) (by rw [← hQ2, hh])
  have hre : ∀ w, (binOp .eql 49 (.agg #[.int .i64 a0, .int .i64 a1, .int .i64 a2, .int .i64 a3, .string x0]) (.agg #[.int .i64 b0, .int .i64 b1, .int .i64 b2, .int .i64 b3, .string x1])).run Try.prog w = .ok (.bool (AE && XE)) w := fun w => by
    rw [run_eql_struct, rep_eq, ← HF.out]; rfl
  have HUV := Lib.hid huv; have HP2 := Lib.hid hP2; have HQ2 := Lib.hid hQ2
  clear huv hP2 hQ2 har
  go_wp2_with ((with_reducible refine wpList_load_st (ty := 49) (H) ?_ ?_ Try.underlying49 ?_ ?_ ?_); rfl; rfl; rfl; kernel_rfl)
  refine (putreply_ok ⟨a0, a1, a2, a3, x0⟩ (by dsimp only; omega) H).mono ?_
  rw [← HP2.out]
  rintro xx w2 ⟨rfl, H2⟩
  dsimp only
  go_wp2_with ((with_reducible refine wpList_load_st (ty := 49) (H2.r2) ?_ ?_ Try.underlying49 ?_ ?_ ?_); rfl; rfl; rfl; kernel_rfl)
  refine (putreply_ok ⟨b0, b1, b2, b3, x1⟩ (by dsimp only; omega) H2).mono ?_
  rw [← HQ2.out]
  rintro xx w3 ⟨rfl, H3⟩
  dsimp only
  clear H H2
  have r0 := H3.cell 0 rfl
  have r1 := H3.cell 1 rfl
  have r2 := H3.cell 2 rfl
  have r3 := H3.cell 3 rfl
  have r4 := H3.cell 4 rfl
  have s0 := H3.r2.cell 0 rfl
  have s1 := H3.r2.cell 1 rfl
  have s2 := H3.r2.cell 2 rfl
  have s3 := H3.r2.cell 3 rfl
  have s4 := H3.r2.cell 4 rfl
  by_cases hg : g = 0
  rotate_left 1
  · have hg' : (g != 0) = true := bne_iff_ne.2 hg
    clear hg
    go_wp2_with (fail)
    go_ret
    exact ⟨rfl, H3.below⟩
  have hg' : (g != 0) = false := by rw [hg]; rfl
  by_cases hh : h = 0
  rotate_left 1
  · have hh' : (h != 0) = true := bne_iff_ne.2 hh
    clear hg hh
    go_wp2_with (fail)
    go_ret
    exact ⟨rfl, H3.below⟩
  have hh' : (h != 0) = false := by rw [hh]; rfl
  have huv := HUV.out hg hh
  clear hg hh
  obtain ⟨FE, hFE⟩ : ∃ b, b = (AE && XE) := ⟨_, rfl⟩
  rw [← hFE] at huv hre
  clear hFE
  cases FE
  all_goals go_wp2_with (fail)
  all_goals go_ret
  all_goals exact ⟨rfl, H3.below⟩
theorem own : ownKnob Try.prog.godebug = none := by kernel_rfl
theorem laidOut : laidOutB Try.prog = true := by kernel_rfl
theorem readable : ∀ t ∈ Try.f5.params.toList, Try.prog.readableRec t = true ∧ t < Try.prog.types.size := by
  intro t ht
  rw [Try.params5] at ht
  simp only [List.mem_cons, List.not_mem_nil, or_false] at ht
  rcases ht with rfl | rfl | rfl
  all_goals exact ⟨by kernel_rfl, of_decide_eq_true (by kernel_rfl)⟩
theorem contract (H : Type) (enc : TypeId × Value → H) (W : World) (base : Nat) (args : Array Value) (ds gs : List (DataW H)) (before : List MemPlace)
    (hval : ∀ (j : Nat) t v, Try.f5.params[j]? = some t → args[j]? = some v → Value.okWide Try.prog W .any base t v)
    (hW : DataW.Whole enc Try.prog Try.f5.params.toList Rows.rpcApartSpec.vars false W args.toList ds gs before) (hk : Rows.uptoSmall H (ds ++ gs) = true) :
    Calls Try.prog 5 args W fun e W' => ∃ v, e = .returned v ∧ Rows.rpcApartSpec.post enc Try.prog Try.f5 false true false false W args v W' := by
  have hW' := hW
  obtain ⟨p, q, hA0, hV, rfl, _, _⟩ := hW
  have hA : DataW.TrodAll enc Try.prog W 0 (fun _ => true) true Try.f5.params.toList args.toList ds p := hA0
  rw [Try.params5] at hA hval
  obtain ⟨v0, vs0, d0, ds0, p0, q0, hargs, rfl, rfl, h0, r0⟩ := trodAll_cons hA
  obtain ⟨v1, vs1, d1, ds1, p1, q1, rfl, rfl, rfl, h1, r1⟩ := trodAll_cons r0
  obtain ⟨v2, vs2, d2, ds2, p2, q2, rfl, rfl, rfl, h2, r2⟩ := trodAll_cons r1
  obtain ⟨rfl, rfl, rfl⟩ := trodAll_nil r2
  obtain rfl : args = #[v0, v1, v2] := by cases args; simp_all
  obtain ⟨rfl, rfl⟩ := trodVars_none hV
  clear hA0
  have hk2 : Rows.uptoBulkAll _ ≤ 1048576 := of_decide_eq_true hk
  rw [List.append_nil] at hk2
  obtain ⟨cs0, hv0, hsz0⟩ := okWide_array Try.underlying22 (hval 0 22 v0 rfl rfl)
  subst hv0
  rw [show Try.prog.cellsOf 22 = 4 by kernel_rfl] at hsz0
  obtain ⟨l0⟩ := cs0
  obtain ⟨fuel0, hf0⟩ := h0
  obtain ⟨hrow0, hbulk0⟩ := trod_flat 8 22 [.int .i64, .int .i64, .int .i64, .int .i64] (by kernel_rfl) _ _ _ hf0
  simp only [Value.cells] at hrow0 hbulk0
  match l0, hsz0, hrow0, hbulk0, hval, hf0, hW', hk2 with
  | [c0_0, c0_1, c0_2, c0_3], _, hrow0, hbulk0, hval, hf0, hW', hk2 =>
  obtain ⟨⟨a0, rfl, wa0⟩, ⟨a1, rfl, wa1⟩, ⟨a2, rfl, wa2⟩, ⟨a3, rfl, wa3⟩, _⟩ := hrow0
  obtain ⟨cs1, hv1, hsz1⟩ := okWide_array Try.underlying22 (hval 1 22 v1 rfl rfl)
  subst hv1
  rw [show Try.prog.cellsOf 22 = 4 by kernel_rfl] at hsz1
  obtain ⟨l1⟩ := cs1
  obtain ⟨fuel1, hf1⟩ := h1
  obtain ⟨hrow1, hbulk1⟩ := trod_flat 8 22 [.int .i64, .int .i64, .int .i64, .int .i64] (by kernel_rfl) _ _ _ hf1
  simp only [Value.cells] at hrow1 hbulk1
  match l1, hsz1, hrow1, hbulk1, hval, hf1, hW', hk2 with
  | [c1_0, c1_1, c1_2, c1_3], _, hrow1, hbulk1, hval, hf1, hW', hk2 =>
  obtain ⟨⟨b0, rfl, wb0⟩, ⟨b1, rfl, wb1⟩, ⟨b2, rfl, wb2⟩, ⟨b3, rfl, wb3⟩, _⟩ := hrow1
  obtain ⟨cs2, hv2, hsz2⟩ := okWide_array Try.underlying47 (hval 2 47 v2 rfl rfl)
  subst hv2
  rw [show Try.prog.cellsOf 47 = 2 by kernel_rfl] at hsz2
  obtain ⟨l2⟩ := cs2
  obtain ⟨fuel2, hf2⟩ := h2
  obtain ⟨hrow2, hbulk2⟩ := trod_flat 8 47 [.str, .str] (by kernel_rfl) _ _ _ hf2
  simp only [Value.cells] at hrow2 hbulk2
  match l2, hsz2, hrow2, hbulk2, hval, hf2, hW', hk2 with
  | [c2_0, c2_1], _, hrow2, hbulk2, hval, hf2, hW', hk2 =>
  obtain ⟨⟨x0, rfl, _⟩, ⟨x1, rfl, _⟩, _⟩ := hrow2
  refine (walk W a0 (wf_i64 wa0) a1 (wf_i64 wa1) a2 (wf_i64 wa2) a3 (wf_i64 wa3) b0 (wf_i64 wb0) b1 (wf_i64 wb1) b2 (wf_i64 wb2) b3 (wf_i64 wb3) x0 (by simp only [Rows.uptoBulkAll] at hk2; simp only [wts, wt, Array.toList] at hbulk2; omega) x1 (by simp only [Rows.uptoBulkAll] at hk2; simp only [wts, wt, Array.toList] at hbulk2; omega)).mono fun e W' ⟨he, hb⟩ => ?_
  exact ⟨_, he, law_post (tb := 4) laidOut readable rfl Try.underlying4 rfl hW' rfl rfl rfl hb⟩
set_option maxRecDepth 100000 in
theorem lifted (os : Os) (started : os.Started) (H : Type) (enc : TypeId × Value → H) (F : Stop.Interp) :
    ReturnsInHanded {} Try.checked os 5 .any ((Rows.OpenSpec.upto Rows.rpcApartSpec).pre6 enc Try.prog Try.f5 Rows.rpcApartUptoRow.domain false) (((Rows.OpenSpec.upto Rows.rpcApartSpec).at F).post enc Try.prog Try.f5 false true false false) := by
  refine returnsInHanded_of_cond (C := Try.checked) (s := Rows.OpenSpec.upto Rows.rpcApartSpec) (k := Rows.uptoSmall) rfl own started (by kernel_rfl) Try.func5
    (OpenSpec.witness (enc := enc) (C := Try.checked) (s := Rows.OpenSpec.upto Rows.rpcApartSpec) (k := Rows.uptoSmall) rfl false ⟨#[], #[.agg #[.int .i64 0, .int .i64 0, .int .i64 0, .int .i64 0], .agg #[.int .i64 0, .int .i64 0, .int .i64 0, .int .i64 0], .agg #[.string .empty, .string .empty]], []⟩ 8 (by kernel_rfl) (by kernel_rfl) (by kernel_rfl)
      (x := ([.agg [.lit (.int .i64 0), .lit (.int .i64 0), .lit (.int .i64 0), .lit (.int .i64 0)], .agg [.lit (.int .i64 0), .lit (.int .i64 0), .lit (.int .i64 0), .lit (.int .i64 0)], .agg [.lit (.string []), .lit (.string [])]], [], [])) (by kernel_rfl) rfl (by kernel_rfl)) ?_
  intro W base args ds gs before hval hW _ hk _
  exact contract H enc W base args ds gs before hval hW hk
theorem proved : Rows.RpcApartUptoSaid :=
  OpenClaim.holds_of_cond 5 Try.f5 rfl rfl rfl rfl rfl rfl rfl ⟨rfl, rfl, rfl, rfl, rfl⟩ rfl rfl rfl rfl rfl (by kernel_rfl) Try.func5 (by kernel_rfl)
    (of_decide_eq_true (by kernel_rfl)) (by unfold Func.isWrapper; first | (rw [if_pos (by decide +kernel)]; kernel_rfl) | (rw [if_neg (by decide +kernel)]; exact ⟨rfl, rfl⟩))
    (fun os started H enc _ F => lifted os started H enc F)
#print axioms proved

end Go.Proofs.Ytkpcnklhboemcaa.RpcApart

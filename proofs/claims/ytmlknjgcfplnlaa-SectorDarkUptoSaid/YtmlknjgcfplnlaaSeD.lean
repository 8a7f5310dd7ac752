/- Layer 4: a new disk. -/
import Derived.Test.YtmlknjgcfplnlaaSeC
import Derived.Laws.NewBlocks
namespace Go.Proofs.Ytmlknjgcfplnlaa
open Go.RowKit

theorem St.ptRow {w0 w : World} {b n : Nat} {e : TypeId} {xs : List Value} {L : List Assn} (H : St w0 w (Pt b xs.toArray e :: L)) (hl : xs.length = n) (hn : n ≤ maxLen) : St w0 w (Row e 1 (some ⟨b, 0, none⟩) n n xs :: L) :=
  St.toRow (fr := (0, 0)) H (by rw [hl, Nat.mul_one]) (.inl (Nat.le_refl _)) (Nat.le_refl _) hn (by simp [hl]) (fun j u h => by rw [Nat.zero_add]; simpa using h)
theorem infoStr : (Try.prog.info? 9).map (fun i => (i.zero, i.size, i.bytes)) = some (some (.string ByteArray.empty), 1, 16) := by kernel_rfl
def blank (n : Nat) : List ByteArray := List.replicate n ByteArray.empty
theorem make_strs (K : Nat) (hK : K ≤ 1048576) (w : World) : (Instr.makeSlice 22 (.int .i64 (K : Int)) (.int .i64 (K : Int))).run Try.prog w = .ok (.slice (some ⟨w.heap.size, 0, none⟩) K K) (w.alloc (.cells (strs (blank K)).toArray 9)) := by
  obtain ⟨i0, hi, hz, hz1, hz2⟩ := info_parts infoStr
  have h := run_make (P := Try.prog) w 22 9 i0 (.string ByteArray.empty) Try.underlying22 hi hz .i64 .i64 K K (by omega) (Int.le_refl _) (by rw [hz2]; omega) (by omega)
  rw [h, hz1]
  congr 3
  apply Array.ext_getElem?
  intro i
  simp only [madeCells, Nat.mul_one, Int.toNat_natCast, List.getElem?_toArray, strs, blank, List.map_replicate, List.getElem?_replicate, Array.getElem?_map]
  by_cases h : i < K
  · rw [Array.getElem?_range, if_pos h]; simp [Value.cells, Nat.mod_one, h]
  · simp [h]
set_option maxHeartbeats 1000000 in
theorem new_ok (k : Nat) (h1 : 1 ≤ k) (h2 : k ≤ 1026) {w0 w : World} {F : List Assn} (H : St w0 w F) :
    Calls Try.prog 9 #[.int .i64 k] w fun r w' => ∃ b, r = .returned (.tuple #[.pointer (some ⟨b, 0, none⟩), .int .i64 0]) ∧ St w0 w' (Dsk b (DS.new k) :: F) := by
  have hmk := fun w => make_strs k (by omega) w
  have e1 : decide ((k : Int) < 1) = false := decide_eq_false (by omega)
  have e2 : decide (1026 < (k : Int)) = false := decide_eq_false (by omega)
  have e3 : decide (k < 1) = false := decide_eq_false (by omega)
  have e4 : decide (1026 < k) = false := decide_eq_false (by omega)
  go_enter Try.func9, Try.ntmps9
  go_wp2_with (fail)
  refine wp_region_held_drew (S := fun _ => True) (by kernel_rfl) trivial (fun hHeld => ?_)
  have H0 := H.drew
  generalize w.drew = wd at *
  refine rg_take (i := 0) (v := ?_) rfl (by kernel_rfl) (by kernel_rfl) (by kernel_rfl) (fun _ _ _ h => h) (Or.inl ⟨by kernel_rfl, ?_⟩) (by assumption) ?_
  rotate_left 1
  · intro w' hSw
    try dsimp only at hSw
    go_simp
    first | done | with_reducible rfl
  try simp only [Act.put, List.setIfInBounds_toArray, List.set_cons_zero, List.set_cons_succ]
  refine rg_take (i := 2) (v := ?_) rfl (by kernel_rfl) (by kernel_rfl) (by kernel_rfl) (fun _ _ _ h => h) (Or.inl ⟨by kernel_rfl, ?_⟩) (by assumption) ?_
  rotate_left 1
  · intro w' hSw
    try dsimp only at hSw
    go_simp
    first | done | with_reducible rfl
  try simp only [Act.put, List.setIfInBounds_toArray, List.set_cons_zero, List.set_cons_succ]
  refine wpAnyH_ready (rs := [1, 3]) (by kernel_rfl) (by simp) ?_
  refine rg_cons rfl (fun K hK => ?_) (rg_cons rfl (fun K hK => ?_) AllReadyH.nil)
  · have H1 := H0.alloc (strs (blank k)).toArray 9
    have m1 := hmk wd
    go_simp
    refine hK.out _ _ trivial (fun hHeld => ?_)
    clear hK m1
    try simp only [Act.put, List.setIfInBounds_toArray, List.set_cons_zero, List.set_cons_succ]
    generalize wd.heap.size = x1 at *
    generalize wd.alloc (.cells (strs (blank k)).toArray 9) = w1 at *
    refine wpAnyH_ready (rs := [3]) (by kernel_rfl) (by simp) ?_
    refine rg_cons rfl (fun K hK => ?_) AllReadyH.nil
    have H2 := H1.alloc (strs (blank k)).toArray 9
    have m1 := hmk w1
    go_simp
    refine hK.out _ _ trivial (fun hHeld => ?_)
    clear hK m1
    try simp only [Act.put, List.setIfInBounds_toArray, List.set_cons_zero, List.set_cons_succ]
    generalize w1.heap.size = x2 at *
    generalize w1.alloc (.cells (strs (blank k)).toArray 9) = w2 at *
    refine rg_take (i := 4) (v := ?_) rfl (by kernel_rfl) (by kernel_rfl) (by kernel_rfl) (fun _ _ _ h => h) (Or.inl ⟨by kernel_rfl, ?_⟩) (by assumption) ?_
    rotate_left 1
    · intro w' hSw
      try dsimp only at hSw
      go_simp
      first | done | with_reducible rfl
    try simp only [Act.put, List.setIfInBounds_toArray, List.set_cons_zero, List.set_cons_succ]
    refine wpAnyH_ready (rs := [5]) (by kernel_rfl) (by simp) ?_
    refine rg_cons rfl (fun K hK => ?_) AllReadyH.nil
    have H3 := H2.alloc #[.slice (some ⟨x1, 0, none⟩) k k, .slice (some ⟨x2, 0, none⟩) k k, .slice none 0 0, .int .i64 0, .int .i64 0, .bool false, .int .i64 0, .int .i64 0] 63
    go_simp
    refine hK.out _ _ trivial (fun hHeld => ?_)
    clear hK
    try simp only [Act.put, List.setIfInBounds_toArray, List.set_cons_zero, List.set_cons_succ]
    refine rg_take (i := 6) (v := ?_) rfl (by kernel_rfl) (by kernel_rfl) (by kernel_rfl) (fun _ _ _ h => h) (Or.inl ⟨by kernel_rfl, ?_⟩) (by assumption) ?_
    rotate_left 1
    · intro w' hSw
      try dsimp only at hSw
      go_simp
      first | done | with_reducible rfl
    try simp only [Act.put, List.setIfInBounds_toArray, List.set_cons_zero, List.set_cons_succ]
    refine rg_take (i := 7) (v := ?_) rfl (by kernel_rfl) (by kernel_rfl) (by kernel_rfl) (fun _ _ _ h => h) (Or.inl ⟨by kernel_rfl, ?_⟩) (by assumption) ?_
    rotate_left 1
    · intro w' hSw
      try dsimp only at hSw
      go_simp
      first | done | with_reducible rfl
    try simp only [Act.put, List.setIfInBounds_toArray, List.set_cons_zero, List.set_cons_succ]
    refine wpAnyH_done (by kernel_rfl) ?_ _
    go_wp2_with (fail)
    go_ret2
    have hl : (strs (blank k)).length = k := by rw [strs_length]; exact List.length_replicate ..
    have hm : k ≤ maxLen := by unfold maxLen; omega
    have H4 := ((H3.r2.ptRow hl hm).r3.ptRow hl hm)
    exact ⟨_, rfl, St.shutD (d := DS.new k) (A3 := none) (c3 := 0) (n3 := 0) (n1 := k) (n2 := k) (x3 := []) (by simp [DS.new]) (by simp [DS.new]) (by simp [DS.new]) rfl rfl rfl rfl (((H4.ord 3 [2, 0, 1]).nilRow 65 2).ord 4 [1, 2, 3, 0])⟩
  · have H1 := H0.alloc (strs (blank k)).toArray 9
    have m1 := hmk wd
    go_simp
    refine hK.out _ _ trivial (fun hHeld => ?_)
    clear hK m1
    try simp only [Act.put, List.setIfInBounds_toArray, List.set_cons_zero, List.set_cons_succ]
    generalize wd.heap.size = x1 at *
    generalize wd.alloc (.cells (strs (blank k)).toArray 9) = w1 at *
    refine wpAnyH_ready (rs := [1]) (by kernel_rfl) (by simp) ?_
    refine rg_cons rfl (fun K hK => ?_) AllReadyH.nil
    have H2 := H1.alloc (strs (blank k)).toArray 9
    have m1 := hmk w1
    go_simp
    refine hK.out _ _ trivial (fun hHeld => ?_)
    clear hK m1
    try simp only [Act.put, List.setIfInBounds_toArray, List.set_cons_zero, List.set_cons_succ]
    generalize w1.heap.size = x2 at *
    generalize w1.alloc (.cells (strs (blank k)).toArray 9) = w2 at *
    refine rg_take (i := 4) (v := ?_) rfl (by kernel_rfl) (by kernel_rfl) (by kernel_rfl) (fun _ _ _ h => h) (Or.inl ⟨by kernel_rfl, ?_⟩) (by assumption) ?_
    rotate_left 1
    · intro w' hSw
      try dsimp only at hSw
      go_simp
      first | done | with_reducible rfl
    try simp only [Act.put, List.setIfInBounds_toArray, List.set_cons_zero, List.set_cons_succ]
    refine wpAnyH_ready (rs := [5]) (by kernel_rfl) (by simp) ?_
    refine rg_cons rfl (fun K hK => ?_) AllReadyH.nil
    have H3 := H2.alloc #[.slice (some ⟨x2, 0, none⟩) k k, .slice (some ⟨x1, 0, none⟩) k k, .slice none 0 0, .int .i64 0, .int .i64 0, .bool false, .int .i64 0, .int .i64 0] 63
    go_simp
    refine hK.out _ _ trivial (fun hHeld => ?_)
    clear hK
    try simp only [Act.put, List.setIfInBounds_toArray, List.set_cons_zero, List.set_cons_succ]
    refine rg_take (i := 6) (v := ?_) rfl (by kernel_rfl) (by kernel_rfl) (by kernel_rfl) (fun _ _ _ h => h) (Or.inl ⟨by kernel_rfl, ?_⟩) (by assumption) ?_
    rotate_left 1
    · intro w' hSw
      try dsimp only at hSw
      go_simp
      first | done | with_reducible rfl
    try simp only [Act.put, List.setIfInBounds_toArray, List.set_cons_zero, List.set_cons_succ]
    refine rg_take (i := 7) (v := ?_) rfl (by kernel_rfl) (by kernel_rfl) (by kernel_rfl) (fun _ _ _ h => h) (Or.inl ⟨by kernel_rfl, ?_⟩) (by assumption) ?_
    rotate_left 1
    · intro w' hSw
      try dsimp only at hSw
      go_simp
      first | done | with_reducible rfl
    try simp only [Act.put, List.setIfInBounds_toArray, List.set_cons_zero, List.set_cons_succ]
    refine wpAnyH_done (by kernel_rfl) ?_ _
    go_wp2_with (fail)
    go_ret2
    have hl : (strs (blank k)).length = k := by rw [strs_length]; exact List.length_replicate ..
    have hm : k ≤ maxLen := by unfold maxLen; omega
    have H4 := ((H3.r2.ptRow hl hm).r3.ptRow hl hm)
    exact ⟨_, rfl, St.shutD (d := DS.new k) (A3 := none) (c3 := 0) (n3 := 0) (n1 := k) (n2 := k) (x3 := []) (by simp [DS.new]) (by simp [DS.new]) (by simp [DS.new]) rfl rfl rfl rfl (((H4.ord 3 [2, 1, 0]).nilRow 65 2).ord 4 [1, 2, 3, 0])⟩
theorem new_bad (n : Int) (h : n < 1 ∨ 1026 < n) {w0 w : World} {F : List Assn} (H : St w0 w F) :
    Calls Try.prog 9 #[.int .i64 n] w fun r w' => r = .returned (.tuple #[.pointer none, .int .i64 1]) ∧ St w0 w' F := by
  by_cases h1 : n < 1
  · clear h
    go_enter Try.func9, Try.ntmps9
    go_wp2_with (fail)
    go_ret2
    exact ⟨rfl, H⟩
  · have h1' : decide (n < 1) = false := decide_eq_false h1
    have h2 : 1026 < n := by omega
    clear h
    go_enter Try.func9, Try.ntmps9
    go_wp2_with (fail)
    go_ret2
    exact ⟨rfl, H⟩
end Go.Proofs.Ytmlknjgcfplnlaa

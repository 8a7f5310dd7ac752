/- Layer 3's reference: calls as bytes. -/
import Derived.Test.YtkpcnklhboemcaaRpH
import Derived.Test.YtkpcnklhboemcaaRpB
import Derived.Test.YtkpcnklhboemcaaRgn
namespace Go.Proofs.Ytkpcnklhboemcaa
open Go.RowKit

theorem append_none (m : ByteArray) : m ++ mkb (wl []) = m := by
  apply bl_inj; rw [bl_append, bl_mkb]; show bl m ++ [] = bl m; rw [List.append_nil]
theorem refopaq4 (s : ByteArray) (hs : s.size ≤ 1099511627776) {w0 w : World} {F : List Assn} (H : St w0 w F) :
    Calls Try.prog 27 #[.string s] w fun r w' => r = .returned (.string (mkb (opaq (bl s)))) ∧ (mkb (opaq (bl s))).size ≤ s.size + 7 ∧ St w0 w' F :=
  (refopaq_ok s hs H).mono fun r w' ⟨h1, h2⟩ => ⟨h1, by rw [mkb_size]; have := opaq_len' (bl s); rw [bl_length] at this; exact this, h2⟩
set_option maxRecDepth 100000 in
set_option maxHeartbeats 16000000 in
theorem refputcall_ok (c : Cal) (A : Option Addr) (d : Nat) (hn : c.groups.length ≤ 1099511627776) (hm : c.mach.size ≤ 1099511627776) (ha : c.args.size ≤ 1099511627776) (w : World) (hr : Rd w A c.groups) :
    Calls Try.prog 12 #[.agg (c.cells A d)] w fun x w' => x = .returned (.tuple #[.string c.put.1, .int .i64 c.put.2]) ∧ St w w' [] := by
  have hcl := fun (h : c.good) => Cal.credB_len c h.2.1.1 h.2.1.2
  obtain ⟨xid, prog, vers, proc, unix, stamp, mach, uid, gid, groups, args⟩ := c
  dsimp only at hn hm ha hr
  obtain ⟨res, hres⟩ : ∃ x, x = Cal.put ⟨xid, prog, vers, proc, unix, stamp, mach, uid, gid, groups, args⟩ := ⟨_, rfl⟩
  rw [← hres]
  have HR := Lib.hid hres; have HCL := Lib.hid hcl; have RA := Lib.hid hr; clear hres hr hcl
  dsimp only [Cal.cells]
  obtain ⟨n, hl⟩ : ∃ n, groups.length = n := ⟨_, rfl⟩
  rw [hl] at hn ⊢
  have HL := Lib.hid hl; clear hl
  have H := ((St.init w).alloc #[.int .i64 xid, .int .i64 prog, .int .i64 vers, .int .i64 proc, .bool unix, .int .i64 stamp, .string mach, .int .i64 uid, .int .i64 gid, .slice A n d, .string args] 32)
  obtain ⟨b1, hb1⟩ : ∃ b, b = w.heap.size := ⟨_, rfl⟩
  go_enter Try.func12, Try.ntmps12
  go_upto_region 1 with (fail)
  rw [← hb1] at H ⊢
  generalize w.alloc (.cells #[.int .i64 xid, .int .i64 prog, .int .i64 vers, .int .i64 proc, .bool unix, .int .i64 stamp, .string mach, .int .i64 uid, .int .i64 gid, .slice A n d, .string args] 32) = w1 at *
  clear hb1
  have p0 := H.cell 0 rfl
  have p1 := H.cell 1 rfl
  have p2 := H.cell 2 rfl
  have p3 := H.cell 3 rfl
  have p4 := H.cell 4 rfl
  have p5 := H.cell 5 rfl
  have p6 := H.cell 6 rfl
  have p7 := H.cell 7 rfl
  have p8 := H.cell 8 rfl
  have p9 := H.cell 9 rfl
  have p10 := H.cell 10 rfl
  go_cut [4] (fun s wx => s = .bool (isW xid && (isW prog && (isW vers && (isW proc && (isW stamp && (isW uid && (isW gid && (decide ((mach.size : Int) ≤ 255) && decide ((n : Int) ≤ 16))))))))) ∧ w1 = wx)
  case first =>
    go_wp2_with (go_at_call 25; refine (refword_ok _ _).mono ?_; rintro x w2 ⟨rfl, rfl⟩)
    all_goals go_meet
    all_goals refine ⟨?_, rfl⟩
    all_goals (try simp [*])
    all_goals (try omega)
  case rest =>
  obtain ⟨hg, rfl⟩ := hcut
  subst hg
  obtain ⟨G, hG⟩ : ∃ G, G = (isW xid && (isW prog && (isW vers && (isW proc && (isW stamp && (isW uid && (isW gid && (decide ((mach.size : Int) ≤ 255) && decide ((n : Int) ≤ 16))))))))) := ⟨_, rfl⟩
  rw [← hG]
  have HG := Lib.hid hG; clear hG
  have he := isEmpty_iff mach
  have hem : mach.toList.isEmpty = decide (mach = ByteArray.empty) := by
    by_cases h : mach = ByteArray.empty
    · rw [decide_eq_true h]; exact he.2 h
    · rw [decide_eq_false h]; exact Bool.eq_false_iff.2 fun h' => h (he.1 h')
  clear he
  have HEM := Lib.hid hem; clear hem
  go_upto_region 2 with (fail)
  go_cut [5] (fun s wx => s = .bool (stamp == 0 && (mach.toList.isEmpty && (uid == 0 && (gid == 0 && ((n : Int) == 0))))) ∧ w1 = wx)
  case first =>
    clear HEM
    cases h5 : (stamp == 0)
    · go_wp2_with (fail)
      go_meet
      exact ⟨by simp [*], rfl⟩
    cases h6 : mach.toList.isEmpty
    · go_wp2_with (fail)
      go_meet
      exact ⟨by simp [*], rfl⟩
    cases h7 : (uid == 0)
    · go_wp2_with (fail)
      go_meet
      exact ⟨by simp [*], rfl⟩
    cases h8 : (gid == 0)
    · go_wp2_with (fail)
      go_meet
      exact ⟨by simp [*], rfl⟩
    cases h9 : ((n : Int) == 0)
    all_goals go_wp2_with (fail)
    all_goals go_meet
    all_goals exact ⟨by simp [*], rfl⟩
  case rest =>
  obtain ⟨hz, rfl⟩ := hcut
  subst hz
  obtain ⟨Z, hZ⟩ : ∃ Z, Z = (stamp == 0 && (mach.toList.isEmpty && (uid == 0 && (gid == 0 && ((n : Int) == 0))))) := ⟨_, rfl⟩
  rw [← hZ]
  have HZ := Lib.hid hZ; clear hZ
  go_upto_region 3 with (fail)
  have ol := opaq_len' (bl mach)
  rw [bl_length] at ol
  have H' := H.drew
  refine wp_region_held_drew (S := fun w' => w'.cell? ⟨b1, 5, none⟩ = some (.int .i64 stamp) ∧ w'.cell? ⟨b1, 6, none⟩ = some (.string mach) ∧ w'.cell? ⟨b1, 7, none⟩ = some (.int .i64 uid) ∧ w'.cell? ⟨b1, 8, none⟩ = some (.int .i64 gid) ∧ w'.cell? ⟨b1, 9, none⟩ = some (.slice A n d)) (by kernel_rfl) ⟨H'.cell 5 rfl, H'.cell 6 rfl, H'.cell 7 rfl, H'.cell 8 rfl, H'.cell 9 rfl⟩ (fun hHeld => ?_)
  generalize w1.drew = w1 at *
  clear H p0 p1 p2 p3 p4 p5 p6 p7 p8 p9 p10
  have H := H'
  clear H'
  refine rg_take (i := 0) (v := ?_) rfl (by kernel_rfl) (by kernel_rfl) (by kernel_rfl) (fun _ _ _ h => h) (Or.inl ⟨by kernel_rfl, ?_⟩) (by assumption) ?_
  rotate_left 1
  · intro w' hSw
    try dsimp only at hSw
    go_simp
    first | done | with_reducible rfl | (rw [if_neg (by omega)]; first | done | with_reducible rfl)
  try simp only [Act.put, List.setIfInBounds_toArray, List.set_cons_zero, List.set_cons_succ]
  refine rg_take (i := 1) (v := ?_) rfl (by kernel_rfl) (by kernel_rfl) (by kernel_rfl) (fun _ _ _ h => h) (Or.inl ⟨by kernel_rfl, ?_⟩) (by assumption) ?_
  rotate_left 1
  · intro w' hSw
    try dsimp only at hSw
    go_simp
    first | done | with_reducible rfl | (rw [if_neg (by omega)]; first | done | with_reducible rfl)
  try simp only [Act.put, List.setIfInBounds_toArray, List.set_cons_zero, List.set_cons_succ]
  refine rg_take (i := 3) (v := ?_) rfl (by kernel_rfl) (by kernel_rfl) (by kernel_rfl) (fun _ _ _ h => h) (Or.inl ⟨by kernel_rfl, ?_⟩) (by assumption) ?_
  rotate_left 1
  · intro w' hSw
    try dsimp only at hSw
    go_simp
    first | done | with_reducible rfl | (rw [if_neg (by omega)]; first | done | with_reducible rfl)
  try simp only [Act.put, List.setIfInBounds_toArray, List.set_cons_zero, List.set_cons_succ]
  refine rg_take (i := 4) (v := ?_) rfl (by kernel_rfl) (by kernel_rfl) (by kernel_rfl) (fun _ _ _ h => h) (Or.inl ⟨by kernel_rfl, ?_⟩) (by assumption) ?_
  rotate_left 1
  · intro w' hSw
    try dsimp only at hSw
    go_simp
    first | done | with_reducible rfl | (rw [if_neg (by omega)]; first | done | with_reducible rfl)
  try simp only [Act.put, List.setIfInBounds_toArray, List.set_cons_zero, List.set_cons_succ]
  refine rg_take (i := 7) (v := ?_) rfl (by kernel_rfl) (by kernel_rfl) (by kernel_rfl) (fun _ _ _ h => h) (Or.inl ⟨by kernel_rfl, ?_⟩) (by assumption) ?_
  rotate_left 1
  · intro w' hSw
    try dsimp only at hSw
    go_simp
    first | done | with_reducible rfl | (rw [if_neg (by omega)]; first | done | with_reducible rfl)
  try simp only [Act.put, List.setIfInBounds_toArray, List.set_cons_zero, List.set_cons_succ]
  refine rg_take (i := 8) (v := ?_) rfl (by kernel_rfl) (by kernel_rfl) (by kernel_rfl) (fun _ _ _ h => h) (Or.inl ⟨by kernel_rfl, ?_⟩) (by assumption) ?_
  rotate_left 1
  · intro w' hSw
    try dsimp only at hSw
    go_simp
    first | done | with_reducible rfl | (rw [if_neg (by omega)]; first | done | with_reducible rfl)
  try simp only [Act.put, List.setIfInBounds_toArray, List.set_cons_zero, List.set_cons_succ]
  refine rg_take (i := 11) (v := ?_) rfl (by kernel_rfl) (by kernel_rfl) (by kernel_rfl) (fun _ _ _ h => h) (Or.inl ⟨by kernel_rfl, ?_⟩) (by assumption) ?_
  rotate_left 1
  · intro w' hSw
    try dsimp only at hSw
    go_simp
    first | done | with_reducible rfl | (rw [if_neg (by omega)]; first | done | with_reducible rfl)
  try simp only [Act.put, List.setIfInBounds_toArray, List.set_cons_zero, List.set_cons_succ]
  refine rg_take (i := 12) (v := ?_) rfl (by kernel_rfl) (by kernel_rfl) (by kernel_rfl) (fun _ _ _ h => h) (Or.inl ⟨by kernel_rfl, ?_⟩) (by assumption) ?_
  rotate_left 1
  · intro w' hSw
    try dsimp only at hSw
    go_simp
    first | done | with_reducible rfl | (rw [if_neg (by omega)]; first | done | with_reducible rfl)
  try simp only [Act.put, List.setIfInBounds_toArray, List.set_cons_zero, List.set_cons_succ]
  refine rg_take (i := 15) (v := ?_) rfl (by kernel_rfl) (by kernel_rfl) (by kernel_rfl) (fun _ _ _ h => h) (Or.inl ⟨by kernel_rfl, ?_⟩) (by assumption) ?_
  rotate_left 1
  · intro w' hSw
    try dsimp only at hSw
    go_simp
    first | done | with_reducible rfl | (rw [if_neg (by omega)]; first | done | with_reducible rfl)
  try simp only [Act.put, List.setIfInBounds_toArray, List.set_cons_zero, List.set_cons_succ]
  refine rg_take (i := 16) (v := ?_) rfl (by kernel_rfl) (by kernel_rfl) (by kernel_rfl) (fun _ _ _ h => h) (Or.inl ⟨by kernel_rfl, ?_⟩) (by assumption) ?_
  rotate_left 1
  · intro w' hSw
    try dsimp only at hSw
    go_simp
    first | done | with_reducible rfl | (rw [if_neg (by omega)]; first | done | with_reducible rfl)
  try simp only [Act.put, List.setIfInBounds_toArray, List.set_cons_zero, List.set_cons_succ]
  refine rg_take (i := 17) (v := ?_) rfl (by kernel_rfl) (by kernel_rfl) (by kernel_rfl) (fun _ _ _ h => h) (Or.inl ⟨by kernel_rfl, ?_⟩) (by assumption) ?_
  rotate_left 1
  · intro w' hSw
    try dsimp only at hSw
    go_simp
    first | done | with_reducible rfl | (rw [if_neg (by omega)]; first | done | with_reducible rfl)
  try simp only [Act.put, List.setIfInBounds_toArray, List.set_cons_zero, List.set_cons_succ]
  refine wpAnyH_ready (rs := [2]) (by kernel_rfl) (by simp) ?_
  refine rg_cons rfl (fun K hK => ?_) AllReadyH.nil
  go_simp
  refine (refuint4 _ H).mono ?_
  rintro x w1 ⟨rfl, zs, H⟩
  refine hK.out _ _ (⟨H.cell 5 rfl, H.cell 6 rfl, H.cell 7 rfl, H.cell 8 rfl, H.cell 9 rfl⟩) (fun hHeld => ?_)
  clear hK
  try simp only [Act.put, List.setIfInBounds_toArray, List.set_cons_zero, List.set_cons_succ]
  refine wpAnyH_ready (rs := [5]) (by kernel_rfl) (by simp) ?_
  refine rg_cons rfl (fun K hK => ?_) AllReadyH.nil
  go_simp
  refine (refopaq4 _ hm H).mono ?_
  rintro x w1 ⟨rfl, zs, H⟩
  refine hK.out _ _ (⟨H.cell 5 rfl, H.cell 6 rfl, H.cell 7 rfl, H.cell 8 rfl, H.cell 9 rfl⟩) (fun hHeld => ?_)
  clear hK
  try simp only [Act.put, List.setIfInBounds_toArray, List.set_cons_zero, List.set_cons_succ]
  refine rg_take (i := 6) (v := ?_) rfl (by kernel_rfl) (by kernel_rfl) (by kernel_rfl) (fun _ _ _ h => h) (Or.inl ⟨by kernel_rfl, ?_⟩) (by assumption) ?_
  rotate_left 1
  · intro w' hSw
    try dsimp only at hSw
    go_simp
    first | done | with_reducible rfl | (rw [if_neg (by omega)]; first | done | with_reducible rfl)
  try simp only [Act.put, List.setIfInBounds_toArray, List.set_cons_zero, List.set_cons_succ]
  refine wpAnyH_ready (rs := [9]) (by kernel_rfl) (by simp) ?_
  refine rg_cons rfl (fun K hK => ?_) AllReadyH.nil
  go_simp
  refine (refuint4 _ H).mono ?_
  rintro x w1 ⟨rfl, zs, H⟩
  refine hK.out _ _ (⟨H.cell 5 rfl, H.cell 6 rfl, H.cell 7 rfl, H.cell 8 rfl, H.cell 9 rfl⟩) (fun hHeld => ?_)
  clear hK
  try simp only [Act.put, List.setIfInBounds_toArray, List.set_cons_zero, List.set_cons_succ]
  refine rg_take (i := 10) (v := ?_) rfl (by kernel_rfl) (by kernel_rfl) (by kernel_rfl) (fun _ _ _ h => h) (Or.inl ⟨by kernel_rfl, ?_⟩) (by assumption) ?_
  rotate_left 1
  · intro w' hSw
    try dsimp only at hSw
    go_simp
    first | done | with_reducible rfl | (rw [if_neg (by omega)]; first | done | with_reducible rfl)
  try simp only [Act.put, List.setIfInBounds_toArray, List.set_cons_zero, List.set_cons_succ]
  refine wpAnyH_ready (rs := [13]) (by kernel_rfl) (by simp) ?_
  refine rg_cons rfl (fun K hK => ?_) AllReadyH.nil
  go_simp
  refine (refuint4 _ H).mono ?_
  rintro x w1 ⟨rfl, zs, H⟩
  refine hK.out _ _ (⟨H.cell 5 rfl, H.cell 6 rfl, H.cell 7 rfl, H.cell 8 rfl, H.cell 9 rfl⟩) (fun hHeld => ?_)
  clear hK
  try simp only [Act.put, List.setIfInBounds_toArray, List.set_cons_zero, List.set_cons_succ]
  refine rg_take (i := 14) (v := ?_) rfl (by kernel_rfl) (by kernel_rfl) (by kernel_rfl) (fun _ _ _ h => h) (Or.inl ⟨by kernel_rfl, ?_⟩) (by assumption) ?_
  rotate_left 1
  · intro w' hSw
    try dsimp only at hSw
    go_simp
    first | done | with_reducible rfl | (rw [if_neg (by omega)]; first | done | with_reducible rfl)
  try simp only [Act.put, List.setIfInBounds_toArray, List.set_cons_zero, List.set_cons_succ]
  refine wpAnyH_ready (rs := [18]) (by kernel_rfl) (by simp) ?_
  refine rg_cons rfl (fun K hK => ?_) AllReadyH.nil
  go_simp
  refine (refuint4 _ H).mono ?_
  rintro x w1 ⟨rfl, zs, H⟩
  refine hK.out _ _ (⟨H.cell 5 rfl, H.cell 6 rfl, H.cell 7 rfl, H.cell 8 rfl, H.cell 9 rfl⟩) (fun hHeld => ?_)
  clear hK
  try simp only [Act.put, List.setIfInBounds_toArray, List.set_cons_zero, List.set_cons_succ]
  refine rg_take (i := 19) (v := ?_) rfl (by kernel_rfl) (by kernel_rfl) (by kernel_rfl) (fun _ _ _ h => h) (Or.inl ⟨by kernel_rfl, ?_⟩) (by assumption) ?_
  rotate_left 1
  · intro w' hSw
    try dsimp only at hSw
    go_simp
    first | done | with_reducible rfl | (rw [if_neg (by omega)]; first | done | with_reducible rfl)
  try simp only [Act.put, List.setIfInBounds_toArray, List.set_cons_zero, List.set_cons_succ]
  refine rg_take (i := 20) (v := ?_) rfl (by kernel_rfl) (by kernel_rfl) (by kernel_rfl) (fun _ _ _ h => h) (Or.inl ⟨by kernel_rfl, ?_⟩) (by assumption) ?_
  rotate_left 1
  · intro w' hSw
    try dsimp only at hSw
    go_simp
    first | done | with_reducible rfl | (rw [if_neg (by omega)]; first | done | with_reducible rfl)
  try simp only [Act.put, List.setIfInBounds_toArray, List.set_cons_zero, List.set_cons_succ]
  refine wpAnyH_done (by kernel_rfl) ?_ _
  clear hHeld
  obtain ⟨C0, hC0⟩ : ∃ C, C = mkb (be stamp 4) ++ mkb (opaq (bl mach)) ++ mkb (be uid 4) ++ mkb (be gid 4) ++ mkb (be n 4) := ⟨_, rfl⟩
  rw [← hC0]
  have hC1 : C0 = mkb (be stamp 4 ++ opaq (bl mach) ++ be uid 4 ++ be gid 4 ++ be n 4) := by rw [hC0]; simp only [mkb_append]
  have hC2 : C0.size ≤ mach.size + 30 := by rw [hC1, mkb_size]; simp only [List.length_append, be_length]; omega
  have HC0 := Lib.hid hC1
  clear hC0 hC1
  go_wp2_with (fail)
  go_loopw [4, 6, 7] (fun g c i wr => ∃ k : Nat, k ≤ n ∧ k ≤ 17 ∧ i = .int .i64 k ∧ g = .bool (G && (groups.take k).all isW) ∧ (∃ C : ByteArray, c = .string C ∧ Hid (C = C0 ++ mkb (wl (groups.take k))) ∧ C.size = C0.size + 4 * k) ∧ St w wr [Pt b1 #[.int .i64 xid, .int .i64 prog, .int .i64 vers, .int .i64 proc, .bool unix, .int .i64 stamp, .string mach, .int .i64 uid, .int .i64 gid, .slice A n d, .string args] 32]) (fun _ _ i _ => 17 - (intOf i).toNat)
  case atStart => exact ⟨0, Nat.zero_le _, Nat.zero_le _, rfl, by simp, ⟨C0, rfl, Lib.hid (by rw [List.take_zero]; exact (append_none C0).symm), rfl⟩, H⟩
  case round =>
    clear H
    obtain ⟨k, hk, hk17, rfl, rfl, ⟨C, rfl, hC, hCs⟩, H⟩ := hrel
    have p9 := H.cell 9 rfl
    by_cases hlt : k < n ∧ k < 17
    · obtain ⟨x, hx⟩ : ∃ x, groups[k]? = some x := ⟨_, List.getElem?_eq_getElem (by rw [HL.out]; exact hlt.1)⟩
      obtain ⟨ba, oa, hA, ca⟩ := RA.out.keep H k x hx
      subst hA
      have hkI : (k : Int) < n := by omega
      have hk7 : (k : Int) < 17 := by omega
      have hT := wl_take hx
      have hW : (groups.take (k + 1)).all isW = ((groups.take k).all isW && isW x) := by rw [List.take_add_one, hx]; simp
      have HT := Lib.hid hT; have HW := Lib.hid hW; clear hT hx hW
      obtain ⟨g, hg⟩ : ∃ g, g = (G && (groups.take k).all isW) := ⟨_, rfl⟩
      rw [← hg]
      have HGG := Lib.hid hg; clear hg
      have z4 : (mkb (be x 4)).size = 4 := by rw [mkb_size, be_length]
      have hlt1 := hlt.1
      have hlt2 := hlt.2
      clear hlt
      cases g
      · go_wp2_with (fail)
        refine (refuint_ok x H).mono ?_
        rintro x3 w3 ⟨rfl, H'⟩
        go_wp2_with (fail)
        go_roundw
        case rel => exact ⟨k + 1, hlt1, hlt2, by go_num, by rw [HW.out, ← Bool.and_assoc, ← HGG.out]; rfl, ⟨_, rfl, Lib.hid (by rw [hC.out, HT.out, ← mkb_append, ByteArray.append_assoc]), by rw [ByteArray.size_append, z4, hCs]; omega⟩, H'⟩
        case measure => simp [intOf]; omega
      · cases gw : isW x
        all_goals
          go_wp2_with (fail)
          refine (refword_ok _ _).mono ?_
          rw [gw]
          rintro x2 w2 ⟨rfl, rfl⟩
          go_wp2_with (fail)
          refine (refuint_ok x H).mono ?_
          rintro x3 w3 ⟨rfl, H'⟩
          go_wp2_with (fail)
          go_roundw
          case rel => exact ⟨k + 1, hlt1, hlt2, by go_num, by rw [HW.out, ← Bool.and_assoc, ← HGG.out, gw]; rfl, ⟨_, rfl, Lib.hid (by rw [hC.out, HT.out, ← mkb_append, ByteArray.append_assoc]), by rw [ByteArray.size_append, z4, hCs]; omega⟩, H'⟩
          case measure => simp [intOf]; omega
    · have hcond : ¬ (k < n ∧ k < 17) := hlt
      obtain ⟨g, hg⟩ : ∃ g, g = (G && (groups.take k).all isW) := ⟨_, rfl⟩
      rw [← hg]
      have hgw : G = true ↔ ((Cal.words ⟨xid, prog, vers, proc, unix, stamp, mach, uid, gid, groups, args⟩ = true) ∧ (mach.size ≤ 255 ∧ n ≤ 16)) := by
        rw [HG.out]
        unfold Cal.words
        simp only [List.all_cons, List.all_nil, Bool.and_true, Bool.and_eq_true, decide_eq_true_eq]
        constructor
        · rintro ⟨h1, h2, h3, h4, h5, h6, h7, h8, h9⟩
          exact ⟨⟨h1, h2, h3, h4, h5, h6, h7⟩, by omega, by omega⟩
        · rintro ⟨⟨h1, h2, h3, h4, h5, h6, h7⟩, h8, h9⟩
          exact ⟨h1, h2, h3, h4, h5, h6, h7, by omega, by omega⟩
      have hkn : g = true → k = n ∧ n ≤ 16 := fun h => by
        rw [hg, Bool.and_eq_true] at h
        have := (hgw.1 h.1).2.2
        omega
      have hzz : Z = true ↔ (stamp = 0 ∧ mach = ByteArray.empty ∧ uid = 0 ∧ gid = 0 ∧ n = 0) := by
        rw [HZ.out]
        simp only [Bool.and_eq_true, beq_iff_eq]
        rw [isEmpty_iff]
        constructor
        · rintro ⟨h1, h2, h3, h4, h5⟩; exact ⟨h1, h2, h3, h4, by omega⟩
        · rintro ⟨h1, h2, h3, h4, h5⟩; exact ⟨h1, h2, h3, h4, by omega⟩
      have hgood : Cal.good ⟨xid, prog, vers, proc, unix, stamp, mach, uid, gid, groups, args⟩ ↔ (g = true ∧ (unix = true ∨ Z = true)) := by
        unfold Cal.good
        dsimp only
        rw [HL.out, ← hzz]
        constructor
        · rintro ⟨⟨h1, h2⟩, h3, h4⟩
          refine ⟨?_, h4⟩
          rw [hg, Bool.and_eq_true]
          refine ⟨hgw.2 ⟨h1, h3⟩, ?_⟩
          rw [List.all_eq_true] at h2 ⊢
          exact fun x hx => h2 x (List.mem_of_mem_take hx)
        · rintro ⟨h1, h2⟩
          obtain ⟨h3, _⟩ := hkn h1
          rw [hg, Bool.and_eq_true] at h1
          obtain ⟨h4, h5⟩ := hgw.1 h1.1
          refine ⟨⟨h4, ?_⟩, h5, h2⟩
          have := h1.2
          rwa [List.take_of_length_le (by rw [HL.out]; omega)] at this
      have HGD := Lib.hid hgood; have HKN := Lib.hid hkn
      have hdec : (¬ k < n) ∨ (k = 17 ∧ 17 < n) := by
        by_cases h : k < n
        · exact .inr ⟨by omega, by omega⟩
        · exact .inl h
      clear hgw hkn hzz hgood hg hcond hlt HEM
      have p4 := H.cell 4 rfl
      cases g
      · rcases hdec with d1 | ⟨rfl, d2⟩
        all_goals
          go_wp2_with (fail)
          go_ret2
          exact ⟨by rw [HR.out, Cal.put_bad (fun h => absurd (HGD.out.1 h).1 (by decide))]; rfl, H.tail⟩
      clear hdec
      obtain ⟨rfl, hn16⟩ := HKN.out rfl
      have hCC : Hid (C = mkb (Cal.credB ⟨xid, prog, vers, proc, unix, stamp, mach, uid, gid, groups, args⟩)) := by
        show _ = _
        rw [hC.out, HC0.out, mkb_append, List.take_of_length_le (by rw [HL.out]; exact Nat.le_refl _)]
        unfold Cal.credB
        dsimp only
        rw [HL.out]
      cases unix
      · cases Z
        · go_wp2_with (fail)
          go_ret2
          exact ⟨by rw [HR.out, Cal.put_bad (fun h => (HGD.out.1 h).2.elim (by decide) (by decide))]; rfl, H.tail⟩
        have HGO : Hid (Cal.good ⟨xid, prog, vers, proc, false, stamp, mach, uid, gid, groups, args⟩) := HGD.out.2 ⟨rfl, .inr rfl⟩
        go_upto_region 11 with (fail)
        have H' := H.drew
        refine wp_region_held_drew (S := fun w' => w'.cell? ⟨b1, 0, none⟩ = some (.int .i64 xid) ∧ w'.cell? ⟨b1, 1, none⟩ = some (.int .i64 prog) ∧ w'.cell? ⟨b1, 2, none⟩ = some (.int .i64 vers) ∧ w'.cell? ⟨b1, 3, none⟩ = some (.int .i64 proc)) (by kernel_rfl) ⟨H'.cell 0 rfl, H'.cell 1 rfl, H'.cell 2 rfl, H'.cell 3 rfl⟩ (fun hHeld => ?_)
        generalize wr.drew = w1 at *
        clear H p9 p4
        have H := H'
        clear H'
        refine rg_take (i := 0) (v := ?_) rfl (by kernel_rfl) (by kernel_rfl) (by kernel_rfl) (fun _ _ _ h => h) (Or.inl ⟨by kernel_rfl, ?_⟩) (by assumption) ?_
        rotate_left 1
        · intro w' hSw
          try dsimp only at hSw
          go_simp
          first | done | with_reducible rfl | (rw [if_neg (by omega)]; first | done | with_reducible rfl)
        try simp only [Act.put, List.setIfInBounds_toArray, List.set_cons_zero, List.set_cons_succ]
        refine rg_take (i := 1) (v := ?_) rfl (by kernel_rfl) (by kernel_rfl) (by kernel_rfl) (fun _ _ _ h => h) (Or.inl ⟨by kernel_rfl, ?_⟩) (by assumption) ?_
        rotate_left 1
        · intro w' hSw
          try dsimp only at hSw
          go_simp
          first | done | with_reducible rfl | (rw [if_neg (by omega)]; first | done | with_reducible rfl)
        try simp only [Act.put, List.setIfInBounds_toArray, List.set_cons_zero, List.set_cons_succ]
        refine rg_take (i := 7) (v := ?_) rfl (by kernel_rfl) (by kernel_rfl) (by kernel_rfl) (fun _ _ _ h => h) (Or.inl ⟨by kernel_rfl, ?_⟩) (by assumption) ?_
        rotate_left 1
        · intro w' hSw
          try dsimp only at hSw
          go_simp
          first | done | with_reducible rfl | (rw [if_neg (by omega)]; first | done | with_reducible rfl)
        try simp only [Act.put, List.setIfInBounds_toArray, List.set_cons_zero, List.set_cons_succ]
        refine rg_take (i := 8) (v := ?_) rfl (by kernel_rfl) (by kernel_rfl) (by kernel_rfl) (fun _ _ _ h => h) (Or.inl ⟨by kernel_rfl, ?_⟩) (by assumption) ?_
        rotate_left 1
        · intro w' hSw
          try dsimp only at hSw
          go_simp
          first | done | with_reducible rfl | (rw [if_neg (by omega)]; first | done | with_reducible rfl)
        try simp only [Act.put, List.setIfInBounds_toArray, List.set_cons_zero, List.set_cons_succ]
        refine rg_take (i := 11) (v := ?_) rfl (by kernel_rfl) (by kernel_rfl) (by kernel_rfl) (fun _ _ _ h => h) (Or.inl ⟨by kernel_rfl, ?_⟩) (by assumption) ?_
        rotate_left 1
        · intro w' hSw
          try dsimp only at hSw
          go_simp
          first | done | with_reducible rfl | (rw [if_neg (by omega)]; first | done | with_reducible rfl)
        try simp only [Act.put, List.setIfInBounds_toArray, List.set_cons_zero, List.set_cons_succ]
        refine rg_take (i := 12) (v := ?_) rfl (by kernel_rfl) (by kernel_rfl) (by kernel_rfl) (fun _ _ _ h => h) (Or.inl ⟨by kernel_rfl, ?_⟩) (by assumption) ?_
        rotate_left 1
        · intro w' hSw
          try dsimp only at hSw
          go_simp
          first | done | with_reducible rfl | (rw [if_neg (by omega)]; first | done | with_reducible rfl)
        try simp only [Act.put, List.setIfInBounds_toArray, List.set_cons_zero, List.set_cons_succ]
        refine rg_take (i := 15) (v := ?_) rfl (by kernel_rfl) (by kernel_rfl) (by kernel_rfl) (fun _ _ _ h => h) (Or.inl ⟨by kernel_rfl, ?_⟩) (by assumption) ?_
        rotate_left 1
        · intro w' hSw
          try dsimp only at hSw
          go_simp
          first | done | with_reducible rfl | (rw [if_neg (by omega)]; first | done | with_reducible rfl)
        try simp only [Act.put, List.setIfInBounds_toArray, List.set_cons_zero, List.set_cons_succ]
        refine rg_take (i := 16) (v := ?_) rfl (by kernel_rfl) (by kernel_rfl) (by kernel_rfl) (fun _ _ _ h => h) (Or.inl ⟨by kernel_rfl, ?_⟩) (by assumption) ?_
        rotate_left 1
        · intro w' hSw
          try dsimp only at hSw
          go_simp
          first | done | with_reducible rfl | (rw [if_neg (by omega)]; first | done | with_reducible rfl)
        try simp only [Act.put, List.setIfInBounds_toArray, List.set_cons_zero, List.set_cons_succ]
        refine wpAnyH_ready (rs := [2]) (by kernel_rfl) (by simp) ?_
        refine rg_cons rfl (fun K hK => ?_) AllReadyH.nil
        go_simp
        refine (refuint4 _ H).mono ?_
        rintro x w1 ⟨rfl, zs, H⟩
        refine hK.out _ _ (⟨H.cell 0 rfl, H.cell 1 rfl, H.cell 2 rfl, H.cell 3 rfl⟩) (fun hHeld => ?_)
        clear hK
        try simp only [Act.put, List.setIfInBounds_toArray, List.set_cons_zero, List.set_cons_succ]
        refine wpAnyH_ready (rs := [3]) (by kernel_rfl) (by simp) ?_
        refine rg_cons rfl (fun K hK => ?_) AllReadyH.nil
        go_simp
        refine (refuint4 _ H).mono ?_
        rintro x w1 ⟨rfl, zs, H⟩
        refine hK.out _ _ (⟨H.cell 0 rfl, H.cell 1 rfl, H.cell 2 rfl, H.cell 3 rfl⟩) (fun hHeld => ?_)
        clear hK
        try simp only [Act.put, List.setIfInBounds_toArray, List.set_cons_zero, List.set_cons_succ]
        refine rg_take (i := 4) (v := ?_) rfl (by kernel_rfl) (by kernel_rfl) (by kernel_rfl) (fun _ _ _ h => h) (Or.inl ⟨by kernel_rfl, ?_⟩) (by assumption) ?_
        rotate_left 1
        · intro w' hSw
          try dsimp only at hSw
          go_simp
          first | done | with_reducible rfl | (rw [if_neg (by omega)]; first | done | with_reducible rfl)
        try simp only [Act.put, List.setIfInBounds_toArray, List.set_cons_zero, List.set_cons_succ]
        refine wpAnyH_ready (rs := [5]) (by kernel_rfl) (by simp) ?_
        refine rg_cons rfl (fun K hK => ?_) AllReadyH.nil
        go_simp
        refine (refuint4 _ H).mono ?_
        rintro x w1 ⟨rfl, zs, H⟩
        refine hK.out _ _ (⟨H.cell 0 rfl, H.cell 1 rfl, H.cell 2 rfl, H.cell 3 rfl⟩) (fun hHeld => ?_)
        clear hK
        try simp only [Act.put, List.setIfInBounds_toArray, List.set_cons_zero, List.set_cons_succ]
        refine rg_take (i := 6) (v := ?_) rfl (by kernel_rfl) (by kernel_rfl) (by kernel_rfl) (fun _ _ _ h => h) (Or.inl ⟨by kernel_rfl, ?_⟩) (by assumption) ?_
        rotate_left 1
        · intro w' hSw
          try dsimp only at hSw
          go_simp
          first | done | with_reducible rfl | (rw [if_neg (by omega)]; first | done | with_reducible rfl)
        try simp only [Act.put, List.setIfInBounds_toArray, List.set_cons_zero, List.set_cons_succ]
        refine wpAnyH_ready (rs := [9]) (by kernel_rfl) (by simp) ?_
        refine rg_cons rfl (fun K hK => ?_) AllReadyH.nil
        go_simp
        refine (refuint4 _ H).mono ?_
        rintro x w1 ⟨rfl, zs, H⟩
        refine hK.out _ _ (⟨H.cell 0 rfl, H.cell 1 rfl, H.cell 2 rfl, H.cell 3 rfl⟩) (fun hHeld => ?_)
        clear hK
        try simp only [Act.put, List.setIfInBounds_toArray, List.set_cons_zero, List.set_cons_succ]
        refine rg_take (i := 10) (v := ?_) rfl (by kernel_rfl) (by kernel_rfl) (by kernel_rfl) (fun _ _ _ h => h) (Or.inl ⟨by kernel_rfl, ?_⟩) (by assumption) ?_
        rotate_left 1
        · intro w' hSw
          try dsimp only at hSw
          go_simp
          first | done | with_reducible rfl | (rw [if_neg (by omega)]; first | done | with_reducible rfl)
        try simp only [Act.put, List.setIfInBounds_toArray, List.set_cons_zero, List.set_cons_succ]
        refine wpAnyH_ready (rs := [13]) (by kernel_rfl) (by simp) ?_
        refine rg_cons rfl (fun K hK => ?_) AllReadyH.nil
        go_simp
        refine (refuint4 _ H).mono ?_
        rintro x w1 ⟨rfl, zs, H⟩
        refine hK.out _ _ (⟨H.cell 0 rfl, H.cell 1 rfl, H.cell 2 rfl, H.cell 3 rfl⟩) (fun hHeld => ?_)
        clear hK
        try simp only [Act.put, List.setIfInBounds_toArray, List.set_cons_zero, List.set_cons_succ]
        refine rg_take (i := 14) (v := ?_) rfl (by kernel_rfl) (by kernel_rfl) (by kernel_rfl) (fun _ _ _ h => h) (Or.inl ⟨by kernel_rfl, ?_⟩) (by assumption) ?_
        rotate_left 1
        · intro w' hSw
          try dsimp only at hSw
          go_simp
          first | done | with_reducible rfl | (rw [if_neg (by omega)]; first | done | with_reducible rfl)
        try simp only [Act.put, List.setIfInBounds_toArray, List.set_cons_zero, List.set_cons_succ]
        refine wpAnyH_ready (rs := [17]) (by kernel_rfl) (by simp) ?_
        refine rg_cons rfl (fun K hK => ?_) AllReadyH.nil
        go_simp
        refine (refuint4 _ H).mono ?_
        rintro x w1 ⟨rfl, zs, H⟩
        refine hK.out _ _ (⟨H.cell 0 rfl, H.cell 1 rfl, H.cell 2 rfl, H.cell 3 rfl⟩) (fun hHeld => ?_)
        clear hK
        try simp only [Act.put, List.setIfInBounds_toArray, List.set_cons_zero, List.set_cons_succ]
        refine rg_take (i := 18) (v := ?_) rfl (by kernel_rfl) (by kernel_rfl) (by kernel_rfl) (fun _ _ _ h => h) (Or.inl ⟨by kernel_rfl, ?_⟩) (by assumption) ?_
        rotate_left 1
        · intro w' hSw
          try dsimp only at hSw
          go_simp
          first | done | with_reducible rfl | (rw [if_neg (by omega)]; first | done | with_reducible rfl)
        try simp only [Act.put, List.setIfInBounds_toArray, List.set_cons_zero, List.set_cons_succ]
        refine rg_take (i := 19) (v := ?_) rfl (by kernel_rfl) (by kernel_rfl) (by kernel_rfl) (fun _ _ _ h => h) (Or.inl ⟨by kernel_rfl, ?_⟩) (by assumption) ?_
        rotate_left 1
        · intro w' hSw
          try dsimp only at hSw
          go_simp
          first | done | with_reducible rfl | (rw [if_neg (by omega)]; first | done | with_reducible rfl)
        try simp only [Act.put, List.setIfInBounds_toArray, List.set_cons_zero, List.set_cons_succ]
        refine wpAnyH_done (by kernel_rfl) ?_ _
        clear hHeld
        obtain ⟨Q, hQ⟩ : ∃ Q, Q = mkb (be xid 4) ++ mkb (be 0 4) ++ mkb (be 2 4) ++ mkb (be prog 4) ++ mkb (be vers 4) ++ mkb (be proc 4) := ⟨_, rfl⟩
        rw [← hQ]
        have hQ1 : Q = mkb (be xid 4 ++ be 0 4 ++ be 2 4 ++ be prog 4 ++ be vers 4 ++ be proc 4) := by rw [hQ]; simp only [mkb_append]
        have hQ2 : Q.size = 24 := by rw [hQ1, mkb_size]; simp only [List.length_append, be_length]
        have HQ := Lib.hid hQ1
        clear hQ hQ1
        have p4 := H.cell 4 rfl
        go_wp2_with (fail)
        refine (refuint4 _ H).mono ?_
        rintro x ww ⟨rfl, zs, H⟩
        go_wp2_with (fail)
        refine (refuint4 _ H).mono ?_
        rintro x ww ⟨rfl, zs, H⟩
        go_upto_region 15 with (fail)
        obtain ⟨S, hS⟩ : ∃ S, S = Q ++ (mkb (be 0 4) ++ mkb (be 0 4)) := ⟨_, rfl⟩
        rw [← hS]
        have hS2 : S.size = 32 := by rw [hS, ByteArray.size_append, ByteArray.size_append, hQ2, mkb_size, be_length]
        have HS : Hid (S = mkb (be xid 4 ++ be 0 4 ++ be 2 4 ++ be prog 4 ++ be vers 4 ++ be proc 4 ++ (be 0 4 ++ be 0 4))) := by show _ = _; rw [hS, HQ.out]; simp only [mkb_append]
        clear hS HQ hQ2
        have H' := H.drew
        refine wp_region_held_drew (S := fun w' => w'.cell? ⟨b1, 10, none⟩ = some (.string args)) (by kernel_rfl) (H'.cell 10 rfl) (fun hHeld => ?_)
        generalize World.drew ww = w1 at *
        clear H p4
        have H := H'
        clear H'
        refine rg_take (i := 0) (v := ?_) rfl (by kernel_rfl) (by kernel_rfl) (by kernel_rfl) (fun _ _ _ h => h) (Or.inl ⟨by kernel_rfl, ?_⟩) (by assumption) ?_
        rotate_left 1
        · intro w' hSw
          try dsimp only at hSw
          go_simp
          first | done | with_reducible rfl | (rw [if_neg (by omega)]; first | done | with_reducible rfl)
        try simp only [Act.put, List.setIfInBounds_toArray, List.set_cons_zero, List.set_cons_succ]
        refine rg_take (i := 4) (v := ?_) rfl (by kernel_rfl) (by kernel_rfl) (by kernel_rfl) (fun _ _ _ h => h) (Or.inl ⟨by kernel_rfl, ?_⟩) (by assumption) ?_
        rotate_left 1
        · intro w' hSw
          try dsimp only at hSw
          go_simp
          first | done | with_reducible rfl | (rw [if_neg (by omega)]; first | done | with_reducible rfl)
        try simp only [Act.put, List.setIfInBounds_toArray, List.set_cons_zero, List.set_cons_succ]
        refine rg_take (i := 5) (v := ?_) rfl (by kernel_rfl) (by kernel_rfl) (by kernel_rfl) (fun _ _ _ h => h) (Or.inl ⟨by kernel_rfl, ?_⟩) (by assumption) ?_
        rotate_left 1
        · intro w' hSw
          try dsimp only at hSw
          go_simp
          first | done | with_reducible rfl | (rw [if_neg (by omega)]; first | done | with_reducible rfl)
        try simp only [Act.put, List.setIfInBounds_toArray, List.set_cons_zero, List.set_cons_succ]
        refine wpAnyH_ready (rs := [1]) (by kernel_rfl) (by simp) ?_
        refine rg_cons rfl (fun K hK => ?_) AllReadyH.nil
        go_simp
        refine (refuint4 _ H).mono ?_
        rintro x w1 ⟨rfl, zs, H⟩
        refine hK.out _ _ (H.cell 10 rfl) (fun hHeld => ?_)
        clear hK
        try simp only [Act.put, List.setIfInBounds_toArray, List.set_cons_zero, List.set_cons_succ]
        refine wpAnyH_ready (rs := [2]) (by kernel_rfl) (by simp) ?_
        refine rg_cons rfl (fun K hK => ?_) AllReadyH.nil
        go_simp
        refine (refuint4 _ H).mono ?_
        rintro x w1 ⟨rfl, zs, H⟩
        refine hK.out _ _ (H.cell 10 rfl) (fun hHeld => ?_)
        clear hK
        try simp only [Act.put, List.setIfInBounds_toArray, List.set_cons_zero, List.set_cons_succ]
        refine rg_take (i := 3) (v := ?_) rfl (by kernel_rfl) (by kernel_rfl) (by kernel_rfl) (fun _ _ _ h => h) (Or.inl ⟨by kernel_rfl, ?_⟩) (by assumption) ?_
        rotate_left 1
        · intro w' hSw
          try dsimp only at hSw
          go_simp
          first | done | with_reducible rfl | (rw [if_neg (by omega)]; first | done | with_reducible rfl)
        try simp only [Act.put, List.setIfInBounds_toArray, List.set_cons_zero, List.set_cons_succ]
        refine rg_take (i := 6) (v := ?_) rfl (by kernel_rfl) (by kernel_rfl) (by kernel_rfl) (fun _ _ _ h => h) (Or.inl ⟨by kernel_rfl, ?_⟩) (by assumption) ?_
        rotate_left 1
        · intro w' hSw
          try dsimp only at hSw
          go_simp
          first | done | with_reducible rfl | (rw [if_neg (by omega)]; first | done | with_reducible rfl)
        try simp only [Act.put, List.setIfInBounds_toArray, List.set_cons_zero, List.set_cons_succ]
        refine rg_take (i := 7) (v := ?_) rfl (by kernel_rfl) (by kernel_rfl) (by kernel_rfl) (fun _ _ _ h => h) (Or.inl ⟨by kernel_rfl, ?_⟩) (by assumption) ?_
        rotate_left 1
        · intro w' hSw
          try dsimp only at hSw
          go_simp
          first | done | with_reducible rfl | (rw [if_neg (by omega)]; first | done | with_reducible rfl)
        try simp only [Act.put, List.setIfInBounds_toArray, List.set_cons_zero, List.set_cons_succ]
        refine rg_take (i := 8) (v := ?_) rfl (by kernel_rfl) (by kernel_rfl) (by kernel_rfl) (fun _ _ _ h => h) (Or.inl ⟨by kernel_rfl, ?_⟩) (by assumption) ?_
        rotate_left 1
        · intro w' hSw
          try dsimp only at hSw
          go_simp
          first | done | with_reducible rfl | (rw [if_neg (by omega)]; first | done | with_reducible rfl)
        try simp only [Act.put, List.setIfInBounds_toArray, List.set_cons_zero, List.set_cons_succ]
        refine wpAnyH_done (by kernel_rfl) ?_ _
        clear hHeld
        obtain ⟨T, hT⟩ : ∃ T, T = S ++ (mkb (be 0 4) ++ mkb (be 0 4) ++ args) := ⟨_, rfl⟩
        rw [← hT]
        have hT1 : T = mkb (Cal.head ⟨xid, prog, vers, proc, false, stamp, mach, uid, gid, groups, args⟩) ++ args := by
          rw [hT, ← ByteArray.append_assoc]
          refine congrArg (· ++ args) ?_
          rw [HS.out]
          simp only [mkb_append]
          refine congrArg mkb ?_
          simp [Cal.head, List.append_assoc]; rfl
        have hT2 : T.size = (Cal.head ⟨xid, prog, vers, proc, false, stamp, mach, uid, gid, groups, args⟩).length + args.size := by rw [hT1, ByteArray.size_append, mkb_size]
        have HT := Lib.hid hT1; have HT2 := Lib.hid hT2
        clear hT hT1 hT2
        have p10 := H.cell 10 rfl
        by_cases h4 : args.size % 4 = 0
        · have h4' : ((args.size : Int) % 4 != 0) = false := by simp; omega
          by_cases h5 : T.size ≤ 65536
          · have h5' : decide (65536 < (T.size : Int)) = false := decide_eq_false (by omega)
            go_wp2_with (fail)
            go_ret2
            exact ⟨by rw [HR.out, Cal.put_ok HGO.out ⟨h4, by have := HT2.out; dsimp only; omega⟩, HT.out]; rfl, H.tail⟩
          · have h5' : decide (65536 < (T.size : Int)) = true := decide_eq_true (by omega)
            go_wp2_with (fail)
            go_ret2
            exact ⟨by rw [HR.out, Cal.put_long HGO.out (by have := HT2.out; dsimp only; omega)]; rfl, H.tail⟩
        · have h4' : ((args.size : Int) % 4 != 0) = true := by simp; omega
          go_wp2_with (fail)
          go_ret2
          exact ⟨by rw [HR.out, Cal.put_long HGO.out (fun h => h4 h.1)]; rfl, H.tail⟩
      · have HGO : Hid (Cal.good ⟨xid, prog, vers, proc, true, stamp, mach, uid, gid, groups, args⟩) := HGD.out.2 ⟨rfl, .inl rfl⟩
        have hcl := HCL.out HGO.out
        have hC4 : C.size ≤ 400 := by rw [hCC.out, mkb_size]; exact hcl
        go_upto_region 11 with (fail)
        have H' := H.drew
        refine wp_region_held_drew (S := fun w' => w'.cell? ⟨b1, 0, none⟩ = some (.int .i64 xid) ∧ w'.cell? ⟨b1, 1, none⟩ = some (.int .i64 prog) ∧ w'.cell? ⟨b1, 2, none⟩ = some (.int .i64 vers) ∧ w'.cell? ⟨b1, 3, none⟩ = some (.int .i64 proc)) (by kernel_rfl) ⟨H'.cell 0 rfl, H'.cell 1 rfl, H'.cell 2 rfl, H'.cell 3 rfl⟩ (fun hHeld => ?_)
        generalize wr.drew = w1 at *
        clear H p9 p4
        have H := H'
        clear H'
        refine rg_take (i := 0) (v := ?_) rfl (by kernel_rfl) (by kernel_rfl) (by kernel_rfl) (fun _ _ _ h => h) (Or.inl ⟨by kernel_rfl, ?_⟩) (by assumption) ?_
        rotate_left 1
        · intro w' hSw
          try dsimp only at hSw
          go_simp
          first | done | with_reducible rfl | (rw [if_neg (by omega)]; first | done | with_reducible rfl)
        try simp only [Act.put, List.setIfInBounds_toArray, List.set_cons_zero, List.set_cons_succ]
        refine rg_take (i := 1) (v := ?_) rfl (by kernel_rfl) (by kernel_rfl) (by kernel_rfl) (fun _ _ _ h => h) (Or.inl ⟨by kernel_rfl, ?_⟩) (by assumption) ?_
        rotate_left 1
        · intro w' hSw
          try dsimp only at hSw
          go_simp
          first | done | with_reducible rfl | (rw [if_neg (by omega)]; first | done | with_reducible rfl)
        try simp only [Act.put, List.setIfInBounds_toArray, List.set_cons_zero, List.set_cons_succ]
        refine rg_take (i := 7) (v := ?_) rfl (by kernel_rfl) (by kernel_rfl) (by kernel_rfl) (fun _ _ _ h => h) (Or.inl ⟨by kernel_rfl, ?_⟩) (by assumption) ?_
        rotate_left 1
        · intro w' hSw
          try dsimp only at hSw
          go_simp
          first | done | with_reducible rfl | (rw [if_neg (by omega)]; first | done | with_reducible rfl)
        try simp only [Act.put, List.setIfInBounds_toArray, List.set_cons_zero, List.set_cons_succ]
        refine rg_take (i := 8) (v := ?_) rfl (by kernel_rfl) (by kernel_rfl) (by kernel_rfl) (fun _ _ _ h => h) (Or.inl ⟨by kernel_rfl, ?_⟩) (by assumption) ?_
        rotate_left 1
        · intro w' hSw
          try dsimp only at hSw
          go_simp
          first | done | with_reducible rfl | (rw [if_neg (by omega)]; first | done | with_reducible rfl)
        try simp only [Act.put, List.setIfInBounds_toArray, List.set_cons_zero, List.set_cons_succ]
        refine rg_take (i := 11) (v := ?_) rfl (by kernel_rfl) (by kernel_rfl) (by kernel_rfl) (fun _ _ _ h => h) (Or.inl ⟨by kernel_rfl, ?_⟩) (by assumption) ?_
        rotate_left 1
        · intro w' hSw
          try dsimp only at hSw
          go_simp
          first | done | with_reducible rfl | (rw [if_neg (by omega)]; first | done | with_reducible rfl)
        try simp only [Act.put, List.setIfInBounds_toArray, List.set_cons_zero, List.set_cons_succ]
        refine rg_take (i := 12) (v := ?_) rfl (by kernel_rfl) (by kernel_rfl) (by kernel_rfl) (fun _ _ _ h => h) (Or.inl ⟨by kernel_rfl, ?_⟩) (by assumption) ?_
        rotate_left 1
        · intro w' hSw
          try dsimp only at hSw
          go_simp
          first | done | with_reducible rfl | (rw [if_neg (by omega)]; first | done | with_reducible rfl)
        try simp only [Act.put, List.setIfInBounds_toArray, List.set_cons_zero, List.set_cons_succ]
        refine rg_take (i := 15) (v := ?_) rfl (by kernel_rfl) (by kernel_rfl) (by kernel_rfl) (fun _ _ _ h => h) (Or.inl ⟨by kernel_rfl, ?_⟩) (by assumption) ?_
        rotate_left 1
        · intro w' hSw
          try dsimp only at hSw
          go_simp
          first | done | with_reducible rfl | (rw [if_neg (by omega)]; first | done | with_reducible rfl)
        try simp only [Act.put, List.setIfInBounds_toArray, List.set_cons_zero, List.set_cons_succ]
        refine rg_take (i := 16) (v := ?_) rfl (by kernel_rfl) (by kernel_rfl) (by kernel_rfl) (fun _ _ _ h => h) (Or.inl ⟨by kernel_rfl, ?_⟩) (by assumption) ?_
        rotate_left 1
        · intro w' hSw
          try dsimp only at hSw
          go_simp
          first | done | with_reducible rfl | (rw [if_neg (by omega)]; first | done | with_reducible rfl)
        try simp only [Act.put, List.setIfInBounds_toArray, List.set_cons_zero, List.set_cons_succ]
        refine wpAnyH_ready (rs := [2]) (by kernel_rfl) (by simp) ?_
        refine rg_cons rfl (fun K hK => ?_) AllReadyH.nil
        go_simp
        refine (refuint4 _ H).mono ?_
        rintro x w1 ⟨rfl, zs, H⟩
        refine hK.out _ _ (⟨H.cell 0 rfl, H.cell 1 rfl, H.cell 2 rfl, H.cell 3 rfl⟩) (fun hHeld => ?_)
        clear hK
        try simp only [Act.put, List.setIfInBounds_toArray, List.set_cons_zero, List.set_cons_succ]
        refine wpAnyH_ready (rs := [3]) (by kernel_rfl) (by simp) ?_
        refine rg_cons rfl (fun K hK => ?_) AllReadyH.nil
        go_simp
        refine (refuint4 _ H).mono ?_
        rintro x w1 ⟨rfl, zs, H⟩
        refine hK.out _ _ (⟨H.cell 0 rfl, H.cell 1 rfl, H.cell 2 rfl, H.cell 3 rfl⟩) (fun hHeld => ?_)
        clear hK
        try simp only [Act.put, List.setIfInBounds_toArray, List.set_cons_zero, List.set_cons_succ]
        refine rg_take (i := 4) (v := ?_) rfl (by kernel_rfl) (by kernel_rfl) (by kernel_rfl) (fun _ _ _ h => h) (Or.inl ⟨by kernel_rfl, ?_⟩) (by assumption) ?_
        rotate_left 1
        · intro w' hSw
          try dsimp only at hSw
          go_simp
          first | done | with_reducible rfl | (rw [if_neg (by omega)]; first | done | with_reducible rfl)
        try simp only [Act.put, List.setIfInBounds_toArray, List.set_cons_zero, List.set_cons_succ]
        refine wpAnyH_ready (rs := [5]) (by kernel_rfl) (by simp) ?_
        refine rg_cons rfl (fun K hK => ?_) AllReadyH.nil
        go_simp
        refine (refuint4 _ H).mono ?_
        rintro x w1 ⟨rfl, zs, H⟩
        refine hK.out _ _ (⟨H.cell 0 rfl, H.cell 1 rfl, H.cell 2 rfl, H.cell 3 rfl⟩) (fun hHeld => ?_)
        clear hK
        try simp only [Act.put, List.setIfInBounds_toArray, List.set_cons_zero, List.set_cons_succ]
        refine rg_take (i := 6) (v := ?_) rfl (by kernel_rfl) (by kernel_rfl) (by kernel_rfl) (fun _ _ _ h => h) (Or.inl ⟨by kernel_rfl, ?_⟩) (by assumption) ?_
        rotate_left 1
        · intro w' hSw
          try dsimp only at hSw
          go_simp
          first | done | with_reducible rfl | (rw [if_neg (by omega)]; first | done | with_reducible rfl)
        try simp only [Act.put, List.setIfInBounds_toArray, List.set_cons_zero, List.set_cons_succ]
        refine wpAnyH_ready (rs := [9]) (by kernel_rfl) (by simp) ?_
        refine rg_cons rfl (fun K hK => ?_) AllReadyH.nil
        go_simp
        refine (refuint4 _ H).mono ?_
        rintro x w1 ⟨rfl, zs, H⟩
        refine hK.out _ _ (⟨H.cell 0 rfl, H.cell 1 rfl, H.cell 2 rfl, H.cell 3 rfl⟩) (fun hHeld => ?_)
        clear hK
        try simp only [Act.put, List.setIfInBounds_toArray, List.set_cons_zero, List.set_cons_succ]
        refine rg_take (i := 10) (v := ?_) rfl (by kernel_rfl) (by kernel_rfl) (by kernel_rfl) (fun _ _ _ h => h) (Or.inl ⟨by kernel_rfl, ?_⟩) (by assumption) ?_
        rotate_left 1
        · intro w' hSw
          try dsimp only at hSw
          go_simp
          first | done | with_reducible rfl | (rw [if_neg (by omega)]; first | done | with_reducible rfl)
        try simp only [Act.put, List.setIfInBounds_toArray, List.set_cons_zero, List.set_cons_succ]
        refine wpAnyH_ready (rs := [13]) (by kernel_rfl) (by simp) ?_
        refine rg_cons rfl (fun K hK => ?_) AllReadyH.nil
        go_simp
        refine (refuint4 _ H).mono ?_
        rintro x w1 ⟨rfl, zs, H⟩
        refine hK.out _ _ (⟨H.cell 0 rfl, H.cell 1 rfl, H.cell 2 rfl, H.cell 3 rfl⟩) (fun hHeld => ?_)
        clear hK
        try simp only [Act.put, List.setIfInBounds_toArray, List.set_cons_zero, List.set_cons_succ]
        refine rg_take (i := 14) (v := ?_) rfl (by kernel_rfl) (by kernel_rfl) (by kernel_rfl) (fun _ _ _ h => h) (Or.inl ⟨by kernel_rfl, ?_⟩) (by assumption) ?_
        rotate_left 1
        · intro w' hSw
          try dsimp only at hSw
          go_simp
          first | done | with_reducible rfl | (rw [if_neg (by omega)]; first | done | with_reducible rfl)
        try simp only [Act.put, List.setIfInBounds_toArray, List.set_cons_zero, List.set_cons_succ]
        refine wpAnyH_ready (rs := [17]) (by kernel_rfl) (by simp) ?_
        refine rg_cons rfl (fun K hK => ?_) AllReadyH.nil
        go_simp
        refine (refuint4 _ H).mono ?_
        rintro x w1 ⟨rfl, zs, H⟩
        refine hK.out _ _ (⟨H.cell 0 rfl, H.cell 1 rfl, H.cell 2 rfl, H.cell 3 rfl⟩) (fun hHeld => ?_)
        clear hK
        try simp only [Act.put, List.setIfInBounds_toArray, List.set_cons_zero, List.set_cons_succ]
        refine rg_take (i := 18) (v := ?_) rfl (by kernel_rfl) (by kernel_rfl) (by kernel_rfl) (fun _ _ _ h => h) (Or.inl ⟨by kernel_rfl, ?_⟩) (by assumption) ?_
        rotate_left 1
        · intro w' hSw
          try dsimp only at hSw
          go_simp
          first | done | with_reducible rfl | (rw [if_neg (by omega)]; first | done | with_reducible rfl)
        try simp only [Act.put, List.setIfInBounds_toArray, List.set_cons_zero, List.set_cons_succ]
        refine rg_take (i := 19) (v := ?_) rfl (by kernel_rfl) (by kernel_rfl) (by kernel_rfl) (fun _ _ _ h => h) (Or.inl ⟨by kernel_rfl, ?_⟩) (by assumption) ?_
        rotate_left 1
        · intro w' hSw
          try dsimp only at hSw
          go_simp
          first | done | with_reducible rfl | (rw [if_neg (by omega)]; first | done | with_reducible rfl)
        try simp only [Act.put, List.setIfInBounds_toArray, List.set_cons_zero, List.set_cons_succ]
        refine wpAnyH_done (by kernel_rfl) ?_ _
        clear hHeld
        obtain ⟨Q, hQ⟩ : ∃ Q, Q = mkb (be xid 4) ++ mkb (be 0 4) ++ mkb (be 2 4) ++ mkb (be prog 4) ++ mkb (be vers 4) ++ mkb (be proc 4) := ⟨_, rfl⟩
        rw [← hQ]
        have hQ1 : Q = mkb (be xid 4 ++ be 0 4 ++ be 2 4 ++ be prog 4 ++ be vers 4 ++ be proc 4) := by rw [hQ]; simp only [mkb_append]
        have hQ2 : Q.size = 24 := by rw [hQ1, mkb_size]; simp only [List.length_append, be_length]
        have HQ := Lib.hid hQ1
        clear hQ hQ1
        have p4 := H.cell 4 rfl
        go_wp2_with (fail)
        refine (refuint4 _ H).mono ?_
        rintro x ww ⟨rfl, zs, H⟩
        go_wp2_with (fail)
        refine (refopaq4 C (by omega) H).mono ?_
        rintro x ww ⟨rfl, zo, H⟩
        go_upto_region 15 with (fail)
        obtain ⟨S, hS⟩ : ∃ S, S = Q ++ (mkb (be 1 4) ++ mkb (opaq (bl C))) := ⟨_, rfl⟩
        rw [← hS]
        have hS2 : S.size ≤ 500 := by rw [hS, ByteArray.size_append, ByteArray.size_append, hQ2, mkb_size, be_length]; omega
        have HS : Hid (S = mkb (be xid 4 ++ be 0 4 ++ be 2 4 ++ be prog 4 ++ be vers 4 ++ be proc 4 ++ (be 1 4 ++ opaq (Cal.credB ⟨xid, prog, vers, proc, true, stamp, mach, uid, gid, groups, args⟩)))) := by show _ = _; rw [hS, HQ.out, hCC.out, bl_mkb]; simp only [mkb_append]
        clear hS HQ hQ2
        have H' := H.drew
        refine wp_region_held_drew (S := fun w' => w'.cell? ⟨b1, 10, none⟩ = some (.string args)) (by kernel_rfl) (H'.cell 10 rfl) (fun hHeld => ?_)
        generalize World.drew ww = w1 at *
        clear H p4
        have H := H'
        clear H'
        refine rg_take (i := 0) (v := ?_) rfl (by kernel_rfl) (by kernel_rfl) (by kernel_rfl) (fun _ _ _ h => h) (Or.inl ⟨by kernel_rfl, ?_⟩) (by assumption) ?_
        rotate_left 1
        · intro w' hSw
          try dsimp only at hSw
          go_simp
          first | done | with_reducible rfl | (rw [if_neg (by omega)]; first | done | with_reducible rfl)
        try simp only [Act.put, List.setIfInBounds_toArray, List.set_cons_zero, List.set_cons_succ]
        refine rg_take (i := 4) (v := ?_) rfl (by kernel_rfl) (by kernel_rfl) (by kernel_rfl) (fun _ _ _ h => h) (Or.inl ⟨by kernel_rfl, ?_⟩) (by assumption) ?_
        rotate_left 1
        · intro w' hSw
          try dsimp only at hSw
          go_simp
          first | done | with_reducible rfl | (rw [if_neg (by omega)]; first | done | with_reducible rfl)
        try simp only [Act.put, List.setIfInBounds_toArray, List.set_cons_zero, List.set_cons_succ]
        refine rg_take (i := 5) (v := ?_) rfl (by kernel_rfl) (by kernel_rfl) (by kernel_rfl) (fun _ _ _ h => h) (Or.inl ⟨by kernel_rfl, ?_⟩) (by assumption) ?_
        rotate_left 1
        · intro w' hSw
          try dsimp only at hSw
          go_simp
          first | done | with_reducible rfl | (rw [if_neg (by omega)]; first | done | with_reducible rfl)
        try simp only [Act.put, List.setIfInBounds_toArray, List.set_cons_zero, List.set_cons_succ]
        refine wpAnyH_ready (rs := [1]) (by kernel_rfl) (by simp) ?_
        refine rg_cons rfl (fun K hK => ?_) AllReadyH.nil
        go_simp
        refine (refuint4 _ H).mono ?_
        rintro x w1 ⟨rfl, zs, H⟩
        refine hK.out _ _ (H.cell 10 rfl) (fun hHeld => ?_)
        clear hK
        try simp only [Act.put, List.setIfInBounds_toArray, List.set_cons_zero, List.set_cons_succ]
        refine wpAnyH_ready (rs := [2]) (by kernel_rfl) (by simp) ?_
        refine rg_cons rfl (fun K hK => ?_) AllReadyH.nil
        go_simp
        refine (refuint4 _ H).mono ?_
        rintro x w1 ⟨rfl, zs, H⟩
        refine hK.out _ _ (H.cell 10 rfl) (fun hHeld => ?_)
        clear hK
        try simp only [Act.put, List.setIfInBounds_toArray, List.set_cons_zero, List.set_cons_succ]
        refine rg_take (i := 3) (v := ?_) rfl (by kernel_rfl) (by kernel_rfl) (by kernel_rfl) (fun _ _ _ h => h) (Or.inl ⟨by kernel_rfl, ?_⟩) (by assumption) ?_
        rotate_left 1
        · intro w' hSw
          try dsimp only at hSw
          go_simp
          first | done | with_reducible rfl | (rw [if_neg (by omega)]; first | done | with_reducible rfl)
        try simp only [Act.put, List.setIfInBounds_toArray, List.set_cons_zero, List.set_cons_succ]
        refine rg_take (i := 6) (v := ?_) rfl (by kernel_rfl) (by kernel_rfl) (by kernel_rfl) (fun _ _ _ h => h) (Or.inl ⟨by kernel_rfl, ?_⟩) (by assumption) ?_
        rotate_left 1
        · intro w' hSw
          try dsimp only at hSw
          go_simp
          first | done | with_reducible rfl | (rw [if_neg (by omega)]; first | done | with_reducible rfl)
        try simp only [Act.put, List.setIfInBounds_toArray, List.set_cons_zero, List.set_cons_succ]
        refine rg_take (i := 7) (v := ?_) rfl (by kernel_rfl) (by kernel_rfl) (by kernel_rfl) (fun _ _ _ h => h) (Or.inl ⟨by kernel_rfl, ?_⟩) (by assumption) ?_
        rotate_left 1
        · intro w' hSw
          try dsimp only at hSw
          go_simp
          first | done | with_reducible rfl | (rw [if_neg (by omega)]; first | done | with_reducible rfl)
        try simp only [Act.put, List.setIfInBounds_toArray, List.set_cons_zero, List.set_cons_succ]
        refine rg_take (i := 8) (v := ?_) rfl (by kernel_rfl) (by kernel_rfl) (by kernel_rfl) (fun _ _ _ h => h) (Or.inl ⟨by kernel_rfl, ?_⟩) (by assumption) ?_
        rotate_left 1
        · intro w' hSw
          try dsimp only at hSw
          go_simp
          first | done | with_reducible rfl | (rw [if_neg (by omega)]; first | done | with_reducible rfl)
        try simp only [Act.put, List.setIfInBounds_toArray, List.set_cons_zero, List.set_cons_succ]
        refine wpAnyH_done (by kernel_rfl) ?_ _
        clear hHeld
        obtain ⟨T, hT⟩ : ∃ T, T = S ++ (mkb (be 0 4) ++ mkb (be 0 4) ++ args) := ⟨_, rfl⟩
        rw [← hT]
        have hT1 : T = mkb (Cal.head ⟨xid, prog, vers, proc, true, stamp, mach, uid, gid, groups, args⟩) ++ args := by
          rw [hT, ← ByteArray.append_assoc]
          refine congrArg (· ++ args) ?_
          rw [HS.out]
          simp only [mkb_append]
          refine congrArg mkb ?_
          simp [Cal.head, List.append_assoc]; rfl
        have hT2 : T.size = (Cal.head ⟨xid, prog, vers, proc, true, stamp, mach, uid, gid, groups, args⟩).length + args.size := by rw [hT1, ByteArray.size_append, mkb_size]
        have HT := Lib.hid hT1; have HT2 := Lib.hid hT2
        clear hT hT1 hT2
        have p10 := H.cell 10 rfl
        by_cases h4 : args.size % 4 = 0
        · have h4' : ((args.size : Int) % 4 != 0) = false := by simp; omega
          by_cases h5 : T.size ≤ 65536
          · have h5' : decide (65536 < (T.size : Int)) = false := decide_eq_false (by omega)
            go_wp2_with (fail)
            go_ret2
            exact ⟨by rw [HR.out, Cal.put_ok HGO.out ⟨h4, by have := HT2.out; dsimp only; omega⟩, HT.out]; rfl, H.tail⟩
          · have h5' : decide (65536 < (T.size : Int)) = true := decide_eq_true (by omega)
            go_wp2_with (fail)
            go_ret2
            exact ⟨by rw [HR.out, Cal.put_long HGO.out (by have := HT2.out; dsimp only; omega)]; rfl, H.tail⟩
        · have h4' : ((args.size : Int) % 4 != 0) = true := by simp; omega
          go_wp2_with (fail)
          go_ret2
          exact ⟨by rw [HR.out, Cal.put_long HGO.out (fun h => h4 h.1)]; rfl, H.tail⟩
end Go.Proofs.Ytkpcnklhboemcaa

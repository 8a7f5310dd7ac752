/- SectorDark: while the power is off nothing is done, and nothing is lost that lasts: lists of texts of bulk at most 1048576. -/
import Derived.Test.YtmlknjgcfplnlaaSeS
import Derived.Test.YtmlknjgcfplnlaaBits
import Derived.Test.YtmlknjgcfplnlaaLift
namespace Go.Proofs.Ytmlknjgcfplnlaa.SectorDark
open Go.RowKit Go.ChangeShapes Go.WideShapes Go.ChangeAt Go.Proofs.Ytmlknjgcfplnlaa
open Go.ChangeMaps (open_string shut_string)

def kept : ByteArray := ⟨#[107, 101, 112, 116]⟩
def lost : ByteArray := ⟨#[108, 111, 115, 116]⟩
def s1 : DS := ⟨blank 4, [(0, ⟨#[107, 101, 112, 116]⟩)], 0, 0, false, 1, 0⟩
def s2 : DS := ⟨[⟨#[107, 101, 112, 116]⟩, ByteArray.empty, ByteArray.empty, ByteArray.empty], [], 0, 0, false, 1, 1⟩
def s3 : DS := { s2 with left := 1 }
def s4 : DS := { s2 with off := true }
theorem t1 : (DS.new 4).write 0 ⟨#[107, 101, 112, 116]⟩ = (0, s1) := by rfl
theorem t2 : s1.flush = (0, s2) := by rfl
theorem t3 : s2.cut 1 0 = s3 := by rfl
theorem t4 : s3.write 1 ⟨#[108, 111, 115, 116]⟩ = (20, s4) := by
  have b0 : kb 0 0 = false := by decide
  have e : lz (kb 0) [(1, ⟨#[108, 111, 115, 116]⟩)] s2.las 1 = s2.las := by simp [lz, b0]
  show (20, ({ ((⟨s2.las, [(1, ⟨#[108, 111, 115, 116]⟩)], 0, 0, false, 1, 1⟩ : DS).lose 0) with off := true } : DS)) = _
  unfold DS.lose
  dsimp only
  rw [show ([(1, ⟨#[108, 111, 115, 116]⟩)] : List (Nat × ByteArray)).length = 1 from rfl, e]; rfl
theorem t5 (n : Int) (s : ByteArray) (h0 : 0 ≤ n) (h1 : n < 4) (hs : s.size ≤ 256) : s4.write n s = (20, s4) := by
  unfold DS.write
  rw [if_neg (by have : s4.las.length = 4 := rfl; omega), if_pos (show s4.off = true from rfl)]
theorem t6 : s4.flush = (20, s4) := rfl
theorem t7 : s4.read 0 = (ByteArray.empty, 20) := rfl
theorem t8 : s4.on = { s2 with left := 0 } := rfl
theorem t9 : s4.on.read 0 = (full ⟨#[107, 101, 112, 116]⟩, 0) ∧ s4.on.read 1 = (full ByteArray.empty, 0) := ⟨rfl, rfl⟩
theorem t10 (n : Int) (s : ByteArray) (h0 : 0 ≤ n) (h1 : n < 4) (hs : s.size ≤ 256) : (s4.on.write n s).1 = 0 := by
  unfold DS.write
  rw [if_neg (by have : s4.on.las.length = 4 := rfl; omega), if_neg (by decide)]
  have e : (s4.on.push n.toNat s).torn.1 = false := rfl
  rw [e, if_neg (by decide)]
theorem ok4 (l : List ByteArray) (q : List (Nat × ByteArray)) (lf : Int) (off : Bool) (n m : Int) (hlf : 0 ≤ lf ∧ lf ≤ 1) (h0 : 0 ≤ n ∧ n ≤ 2) (h1 : 0 ≤ m ∧ m ≤ 2) (hl : ∀ s ∈ l, s.size ≤ 256) (hq : ∀ p ∈ q, p.1 < l.length ∧ p.2.size ≤ 256) (hql : q.length ≤ 2) : (⟨l, q, lf, 0, off, n, m⟩ : DS).ok 2 :=
  ⟨hl, hq, ⟨hlf.1, by show lf ≤ _; omega⟩, hql, h0, h1⟩
theorem dat_le {l : List ByteArray} {x : ByteArray} (hx : x ∈ l) (h : sumW (l.map fun s => [.string s]) ≤ 1048576) : x.size ≤ 1048576 := by
  have h1 : wts [.string x] ≤ sumW (l.map fun s => [.string s]) := sumW_mem (List.mem_map.2 ⟨x, hx, rfl⟩)
  simp only [wts, wt] at h1
  omega
theorem and3 (x : Int) : bits .and .i64 x 3 = x % 4 := by
  have := i64_and_mask x 2 (by decide)
  simpa using this
theorem extract_le2 (s : ByteArray) (k : Nat) : (s.extract 0 k).size ≤ k := by rw [ByteArray.size_extract]; omega
theorem take4_of {s : ByteArray} {t : List UInt8} (h : (s.extract 0 4).data.toList = t) : ((s.extract 0 4).toList == t) = true := by
  rw [ByteArray.toList_eq, beq_iff_eq, h]
set_option maxRecDepth 100000 in
set_option maxHeartbeats 4000000 in
theorem walk (w : World) (A : Option Addr) (m c : Nat) (l : List ByteArray) (hrd : SlRd w A m 1 (l.map fun s => [.string s])) (hm : m ≤ 1048576) (hsum : sumW (l.map fun s => [.string s]) ≤ 1048576) (_hok : ∀ x ∈ l, x.size ≤ maxLen) (n : Int) (_hn : -9223372036854775808 ≤ n ∧ n ≤ 9223372036854775807) :
    Calls Try.prog 7 #[.slice A m c, .int .i64 n] w fun r w' => r = .returned (.bool true) ∧ Below w.heap.size w w' := by
  have H0 := St.init w
  have hlm : l.length = m := by have := hrd.1; simpa using this
  have HLM := Lib.hid hlm; have HRD := Lib.hid hrd; have HSM := Lib.hid hsum
  clear hlm hrd hsum _hok
  have T1 := Lib.hid t1; have T2 := Lib.hid t2; have T3 := Lib.hid t3; have T4 := Lib.hid t4; have T7 := Lib.hid t7; have T9 := Lib.hid t9
  have z0 := full_256 ByteArray.empty (by decide)
  have z1 := full_256 ⟨#[107, 101, 112, 116]⟩ (by decide)
  have hb0 : bl (full ByteArray.empty) = 0 :: zeros 255 := rfl
  have hb1 : ((full ⟨#[107, 101, 112, 116]⟩).extract 0 4).data.toList = [107, 101, 112, 116] := rfl
  have Z0 := Lib.hid z0; have Z1 := Lib.hid z1; have HB0 := Lib.hid hb0; have HB1 := Lib.hid hb1; clear z0 z1 hb0 hb1
  go_enter Try.func7, Try.ntmps7
  go_wp2_with (fail)
  refine (speaks_ok H0).mono ?_
  rintro e w1 ⟨rfl, H1⟩
  go_wp2_with (fail)
  refine (new_ok 4 (by decide) (by decide) H1).mono ?_
  rintro e w2 ⟨b, rfl, H2⟩
  go_wp2_with (fail)
  refine (write_ok b (DS.new 4) 0 ⟨#[107, 101, 112, 116]⟩ 0 (DS.ok_new 4) (by decide) (by decide) H2).mono ?_
  rw [T1.out]
  rintro e w3 ⟨rfl, H3⟩
  go_wp2_with (fail)
  refine (flush_ok b s1 2 (ok4 _ _ 0 _ 1 0 (by decide) (by decide) (by decide) (by decide) (by decide) (by decide)) (by decide) H3).mono ?_
  rw [T2.out]
  rintro e w4 ⟨rfl, H4⟩
  go_wp2_with (fail)
  refine (cut_ok b s2 1 0 H4).mono ?_
  rw [T3.out]
  rintro e w5 ⟨rfl, H5⟩
  go_wp2_with (fail)
  refine (write_ok b s3 1 ⟨#[108, 111, 115, 116]⟩ 2 (ok4 _ _ 1 _ 1 1 (by decide) (by decide) (by decide) (by decide) (by decide) (by decide)) (by decide) (by decide) H5).mono ?_
  rw [T4.out]
  rintro e w6 ⟨rfl, H6⟩
  have ok6 : s4.ok 2 := ok4 _ _ 0 _ 1 1 (by decide) (by decide) (by decide) (by decide) (by decide) (by decide)
  have ok7 : s4.on.ok 2 := ok6.ok_on
  go_wp2_with (fail)
  refine (off_ok b s4 H6).mono ?_
  rw [show s4.off = true from rfl]
  rintro e w7 ⟨rfl, rfl⟩
  go_wp2_with (fail)
  refine (counts_ok b s4 H6).mono ?_
  rw [show s4.wr = 1 from rfl, show s4.fl = 1 from rfl]
  rintro e w8 ⟨rfl, H7⟩
  go_wp2_with (fail)
  go_loopw [9] (fun i wr => ∃ k : Nat, k ≤ m ∧ k ≤ 20 ∧ i = .int .i64 k ∧ St w wr [Dsk b s4]) (fun i _ => m - (intOf i).toNat)
  case atStart => exact ⟨0, Nat.zero_le _, Nat.zero_le _, rfl, H7⟩
  case round =>
    obtain ⟨k, hk, hk2, rfl, H8⟩ := hrel
    clear H1 H2 H3 H4 H5 H6 H7
    by_cases hlt : k < m ∧ k < 20
    · obtain ⟨h1, h2⟩ := hlt
      have h1I : (k : Int) < m := by omega
      have h2I : (k : Int) < 20 := by omega
      obtain ⟨x, hx⟩ : ∃ x, l[k]? = some x := ⟨_, List.getElem?_eq_getElem (by rw [HLM.out]; exact h1)⟩
      obtain ⟨bq, o, hA, hb, hd0, _⟩ := SlRd.at HRD.out H8.below (i := k) (row := [.string x]) (by rw [List.getElem?_map, hx]; rfl)
      have hc0 := hd0 _ rfl
      rw [Nat.mul_one] at hc0
      have hcell : ∀ w', Below w.heap.size w w' → w'.cell? ⟨bq, o + k, none⟩ = some (.string x) := fun w' hb' => by
        obtain ⟨b3, o3, hA3, _, hd3, _⟩ := SlRd.at HRD.out hb' (i := k) (row := [.string x]) (by rw [List.getElem?_map, hx]; rfl)
        rw [hA] at hA3; injection hA3 with hA3; injection hA3 with hA3 hA4
        subst hA3 hA4
        have := hd3 _ rfl
        rwa [Nat.mul_one] at this
      have hxs := dat_le (List.mem_of_getElem? hx) HSM.out
      subst hA
      clear hd0 hx
      have HCL := Lib.hid hcell; clear hcell
      have ha := and3 k
      have hmn : min (x.size : Int) 256 ≤ 256 := Int.min_le_right ..
      have hmn0 : 0 ≤ min (x.size : Int) 256 := by omega
      have hmn1 : min (x.size : Int) 256 ≤ x.size := by omega
      have hcs := extract_le2 x (min (x.size : Int) 256).toNat
      have hcs2 : (x.extract 0 (min (x.size : Int) 256).toNat).size ≤ 256 := by omega
      have hk4 : 0 ≤ (k : Int) % 4 ∧ (k : Int) % 4 < 4 := by omega
      have hw5 := t5 ((k : Int) % 4) _ hk4.1 hk4.2 hcs2
      have hwc := fun (wq : World) (H : St w wq [Dsk b s4]) => write_ok b s4 ((k : Int) % 4) (x.extract 0 (min (x.size : Int) 256).toNat) 2 ok6 (by decide) (by omega) H
      rw [hw5] at hwc
      have hfc := fun (wq : World) (H : St w wq [Dsk b s4]) => flush_ok b s4 2 ok6 (by decide) H
      rw [t6] at hfc
      have HWC := Lib.hid hwc; have HFC := Lib.hid hfc; clear hwc hfc hw5 hk4 hcs hcs2
      go_wp2_with (fail)
      refine wp_region_held_drew (S := fun w' => w'.cell? ⟨bq, o + k, none⟩ = some (.string x)) (by kernel_rfl) hc0 (fun hHeld => ?_)
      have H9 := H8.drew
      generalize wr.drew = w6 at *
      refine rg_take (i := 0) (v := ?_) rfl (by kernel_rfl) (by kernel_rfl) (by kernel_rfl) (fun _ _ _ h => h) (Or.inl ⟨by kernel_rfl, ?_⟩) (by assumption) ?_
      rotate_left 1
      · intro w' hSw
        try dsimp only at hSw
        go_simp
        first | done | with_reducible rfl
      try simp only [Act.put, List.setIfInBounds_toArray, List.set_cons_zero, List.set_cons_succ]
      refine rg_take (i := 1) (v := ?_) rfl (by kernel_rfl) (by kernel_rfl) (by kernel_rfl) (fun _ _ _ h => h) (Or.inl ⟨by kernel_rfl, ?_⟩) (by assumption) ?_
      rotate_left 1
      · intro w' hSw
        try dsimp only at hSw
        go_simp
        first | done | with_reducible rfl
      try simp only [Act.put, List.setIfInBounds_toArray, List.set_cons_zero, List.set_cons_succ]
      refine rg_take (i := 2) (v := ?_) rfl (by kernel_rfl) (by kernel_rfl) (by kernel_rfl) (fun _ _ _ h => h) (Or.inl ⟨by kernel_rfl, ?_⟩) (by assumption) ?_
      rotate_left 1
      · intro w' hSw
        try dsimp only at hSw
        go_simp
        first | done | with_reducible rfl
      try simp only [Act.put, List.setIfInBounds_toArray, List.set_cons_zero, List.set_cons_succ]
      refine rg_take (i := 3) (v := ?_) rfl (by kernel_rfl) (by kernel_rfl) (by kernel_rfl) (fun _ _ _ h => h) (Or.inl ⟨by kernel_rfl, ?_⟩) (by assumption) ?_
      rotate_left 1
      · intro w' hSw
        try dsimp only at hSw
        go_simp
        first | done | with_reducible rfl
      try simp only [Act.put, List.setIfInBounds_toArray, List.set_cons_zero, List.set_cons_succ]
      refine rg_take (i := 4) (v := ?_) rfl (by kernel_rfl) (by kernel_rfl) (by kernel_rfl) (fun _ _ _ h => h) (Or.inl ⟨by kernel_rfl, ?_⟩) (by assumption) ?_
      rotate_left 1
      · intro w' hSw
        try dsimp only at hSw
        go_simp
        first | done | with_reducible rfl
      try simp only [Act.put, List.setIfInBounds_toArray, List.set_cons_zero, List.set_cons_succ]
      refine rg_take (i := 5) (v := ?_) rfl (by kernel_rfl) (by kernel_rfl) (by kernel_rfl) (fun _ _ _ h => h) (Or.inl ⟨by kernel_rfl, ?_⟩) (by assumption) ?_
      rotate_left 1
      · intro w' hSw
        try dsimp only at hSw
        go_simp
        first | done | with_reducible rfl
      try simp only [Act.put, List.setIfInBounds_toArray, List.set_cons_zero, List.set_cons_succ]
      refine rg_take (i := 6) (v := ?_) rfl (by kernel_rfl) (by kernel_rfl) (by kernel_rfl) (fun _ _ _ h => h) (Or.inl ⟨by kernel_rfl, ?_⟩) (by assumption) ?_
      rotate_left 1
      · intro w' hSw
        try dsimp only at hSw
        go_simp
        first | done | with_reducible rfl
      try simp only [Act.put, List.setIfInBounds_toArray, List.set_cons_zero, List.set_cons_succ]
      refine rg_take (i := 7) (v := ?_) rfl (by kernel_rfl) (by kernel_rfl) (by kernel_rfl) (fun _ _ _ h => h) (Or.inl ⟨by kernel_rfl, ?_⟩) (by assumption) ?_
      rotate_left 1
      · intro w' hSw
        try dsimp only at hSw
        go_simp
        first | done | with_reducible rfl
      try simp only [Act.put, List.setIfInBounds_toArray, List.set_cons_zero, List.set_cons_succ]
      refine rg_take (i := 8) (v := ?_) rfl (by kernel_rfl) (by kernel_rfl) (by kernel_rfl) (fun _ _ _ h => h) (Or.inl ⟨by kernel_rfl, ?_⟩) (by assumption) ?_
      rotate_left 1
      · intro w' hSw
        try dsimp only at hSw
        go_simp
        first | done | with_reducible rfl
      try simp only [Act.put, List.setIfInBounds_toArray, List.set_cons_zero, List.set_cons_succ]
      refine rg_take (i := 9) (v := ?_) rfl (by kernel_rfl) (by kernel_rfl) (by kernel_rfl) (fun _ _ _ h => h) (Or.inl ⟨by kernel_rfl, ?_⟩) (by assumption) ?_
      rotate_left 1
      · intro w' hSw
        try dsimp only at hSw
        go_simp
        first | done | with_reducible rfl
      try simp only [Act.put, List.setIfInBounds_toArray, List.set_cons_zero, List.set_cons_succ]
      refine rg_take (i := 10) (v := ?_) rfl (by kernel_rfl) (by kernel_rfl) (by kernel_rfl) (fun _ _ _ h => h) (Or.inl ⟨by kernel_rfl, ?_⟩) (by assumption) ?_
      rotate_left 1
      · intro w' hSw
        try dsimp only at hSw
        go_simp
        first | done | with_reducible rfl
      try simp only [Act.put, List.setIfInBounds_toArray, List.set_cons_zero, List.set_cons_succ]
      refine rg_take (i := 11) (v := ?_) rfl (by kernel_rfl) (by kernel_rfl) (by kernel_rfl) (fun _ _ _ h => h) (Or.inl ⟨by kernel_rfl, ?_⟩) (by assumption) ?_
      rotate_left 1
      · intro w' hSw
        try dsimp only at hSw
        go_simp
        first | done | with_reducible rfl
      try simp only [Act.put, List.setIfInBounds_toArray, List.set_cons_zero, List.set_cons_succ]
      refine rg_take (i := 12) (v := ?_) rfl (by kernel_rfl) (by kernel_rfl) (by kernel_rfl) (fun _ _ _ h => h) (Or.inl ⟨by kernel_rfl, ?_⟩) (by assumption) ?_
      rotate_left 1
      · intro w' hSw
        try dsimp only at hSw
        go_simp
        first | done | with_reducible rfl
      try simp only [Act.put, List.setIfInBounds_toArray, List.set_cons_zero, List.set_cons_succ]
      refine rg_take (i := 13) (v := ?_) rfl (by kernel_rfl) (by kernel_rfl) (by kernel_rfl) (fun _ _ _ h => h) (Or.inl ⟨by kernel_rfl, ?_⟩) (by assumption) ?_
      rotate_left 1
      · intro w' hSw
        try dsimp only at hSw
        go_simp
        first | done | with_reducible rfl
      try simp only [Act.put, List.setIfInBounds_toArray, List.set_cons_zero, List.set_cons_succ]
      refine wpAnyH_ready (rs := [14]) (by kernel_rfl) (by simp) ?_
      refine rg_cons rfl (fun K hK => ?_) AllReadyH.nil
      have hwc := HWC.out _ H9
      go_simp
      refine hwc.mono ?_
      clear hwc
      rintro e w7 ⟨rfl, H10⟩
      refine hK.out _ _ (HCL.out _ H10.below) (fun hHeld => ?_)
      clear hK
      try simp only [Act.put, List.setIfInBounds_toArray, List.set_cons_zero, List.set_cons_succ]
      refine rg_take (i := 15) (v := ?_) rfl (by kernel_rfl) (by kernel_rfl) (by kernel_rfl) (fun _ _ _ h => h) (Or.inl ⟨by kernel_rfl, ?_⟩) (by assumption) ?_
      rotate_left 1
      · intro w' hSw
        try dsimp only at hSw
        go_simp
        first | done | with_reducible rfl
      try simp only [Act.put, List.setIfInBounds_toArray, List.set_cons_zero, List.set_cons_succ]
      refine rg_take (i := 16) (v := ?_) rfl (by kernel_rfl) (by kernel_rfl) (by kernel_rfl) (fun _ _ _ h => h) (Or.inl ⟨by kernel_rfl, ?_⟩) (by assumption) ?_
      rotate_left 1
      · intro w' hSw
        try dsimp only at hSw
        go_simp
        first | done | with_reducible rfl
      try simp only [Act.put, List.setIfInBounds_toArray, List.set_cons_zero, List.set_cons_succ]
      refine rg_take (i := 17) (v := ?_) rfl (by kernel_rfl) (by kernel_rfl) (by kernel_rfl) (fun _ _ _ h => h) (Or.inl ⟨by kernel_rfl, ?_⟩) (by assumption) ?_
      rotate_left 1
      · intro w' hSw
        try dsimp only at hSw
        go_simp
        first | done | with_reducible rfl
      try simp only [Act.put, List.setIfInBounds_toArray, List.set_cons_zero, List.set_cons_succ]
      refine wpAnyH_ready (rs := [18]) (by kernel_rfl) (by simp) ?_
      refine rg_cons rfl (fun K hK => ?_) AllReadyH.nil
      have hwc := HFC.out _ H10
      go_simp
      refine hwc.mono ?_
      clear hwc
      rintro e w8 ⟨rfl, H11⟩
      refine hK.out _ _ (HCL.out _ H11.below) (fun hHeld => ?_)
      clear hK
      try simp only [Act.put, List.setIfInBounds_toArray, List.set_cons_zero, List.set_cons_succ]
      refine rg_take (i := 19) (v := ?_) rfl (by kernel_rfl) (by kernel_rfl) (by kernel_rfl) (fun _ _ _ h => h) (Or.inl ⟨by kernel_rfl, ?_⟩) (by assumption) ?_
      rotate_left 1
      · intro w' hSw
        try dsimp only at hSw
        go_simp
        first | done | with_reducible rfl
      try simp only [Act.put, List.setIfInBounds_toArray, List.set_cons_zero, List.set_cons_succ]
      refine rg_take (i := 20) (v := ?_) rfl (by kernel_rfl) (by kernel_rfl) (by kernel_rfl) (fun _ _ _ h => h) (Or.inl ⟨by kernel_rfl, ?_⟩) (by assumption) ?_
      rotate_left 1
      · intro w' hSw
        try dsimp only at hSw
        go_simp
        first | done | with_reducible rfl
      try simp only [Act.put, List.setIfInBounds_toArray, List.set_cons_zero, List.set_cons_succ]
      refine wpAnyH_done (by kernel_rfl) ?_ _
      go_wp2_with (fail)
      go_roundw
      case rel => exact ⟨k + 1, by omega, by omega, by go_num, H11⟩
      case measure => simp [intOf]; omega
    · have hq : ∃ q : Bool, True := ⟨true, trivial⟩
      by_cases h1 : k < m
      · have h1I : (k : Int) < m := by omega
        have h2I : decide ((k : Int) < 20) = false := decide_eq_false (by omega)
        clear hlt hq
        have hmod : 0 ≤ n % 4 ∧ n % 4 < 4 := by omega
        have h10 := t10 (n % 4) ⟨#[97]⟩ hmod.1 hmod.2 (by decide)
        have ha := and3 n
        have hwl := fun (wq : World) (H : St w wq [Dsk b s4.on]) => write_ok b s4.on (n % 4) ⟨#[97]⟩ 2 ok7 (by decide) (by decide) H
        rw [h10] at hwl
        have HWL := Lib.hid hwl; clear hwl hmod h10
        go_wp2_with (fail)
        refine (read_ok b s4 0 2 ok6 H8).mono ?_
        rw [T7.out]
        rintro e w9 ⟨rfl, H9⟩
        go_wp2_with (fail)
        refine (on_ok b s4 H9).mono ?_
        rintro e w10 ⟨rfl, H10⟩
        go_wp2_with (fail)
        refine (read_ok b s4.on 0 2 ok7 H10).mono ?_
        rw [T9.out.1]
        rintro e w11 ⟨rfl, H11⟩
        go_wp2_with (fail)
        refine (read_ok b s4.on 1 2 ok7 H11).mono ?_
        rw [T9.out.2]
        rintro e w12 ⟨rfl, H12⟩
        go_wp2_with (fail)
        refine (counts_ok b s4.on H12).mono ?_
        rw [show s4.on.wr = 1 from rfl, show s4.on.fl = 1 from rfl]
        rintro e w13 ⟨rfl, H13⟩
        have hs0 : 0 < (full ByteArray.empty).size := by rw [Z0.out]; decide
        have hx0 := head_of HB0.out hs0
        have hs1 : (4 : Int) ≤ (full ⟨#[107, 101, 112, 116]⟩).size := by rw [Z1.out]; decide
        have hx1 := take4_of HB1.out
        generalize full ByteArray.empty = f0 at *
        generalize full ⟨#[107, 101, 112, 116]⟩ = f1 at *
        go_wp2_with (fail)
        refine (HWL.out _ H13).mono ?_
        rintro e w14 ⟨rfl, H14⟩
        go_wp2_with (fail)
        go_ret
        exact ⟨rfl, H14.below⟩
      · have h1I : decide ((k : Int) < m) = false := decide_eq_false (by omega)
        have h1N : decide (k < m) = false := decide_eq_false h1
        clear hlt hq
        have hmod : 0 ≤ n % 4 ∧ n % 4 < 4 := by omega
        have h10 := t10 (n % 4) ⟨#[97]⟩ hmod.1 hmod.2 (by decide)
        have ha := and3 n
        have hwl := fun (wq : World) (H : St w wq [Dsk b s4.on]) => write_ok b s4.on (n % 4) ⟨#[97]⟩ 2 ok7 (by decide) (by decide) H
        rw [h10] at hwl
        have HWL := Lib.hid hwl; clear hwl hmod h10
        go_wp2_with (fail)
        refine (read_ok b s4 0 2 ok6 H8).mono ?_
        rw [T7.out]
        rintro e w9 ⟨rfl, H9⟩
        go_wp2_with (fail)
        refine (on_ok b s4 H9).mono ?_
        rintro e w10 ⟨rfl, H10⟩
        go_wp2_with (fail)
        refine (read_ok b s4.on 0 2 ok7 H10).mono ?_
        rw [T9.out.1]
        rintro e w11 ⟨rfl, H11⟩
        go_wp2_with (fail)
        refine (read_ok b s4.on 1 2 ok7 H11).mono ?_
        rw [T9.out.2]
        rintro e w12 ⟨rfl, H12⟩
        go_wp2_with (fail)
        refine (counts_ok b s4.on H12).mono ?_
        rw [show s4.on.wr = 1 from rfl, show s4.on.fl = 1 from rfl]
        rintro e w13 ⟨rfl, H13⟩
        have hs0 : 0 < (full ByteArray.empty).size := by rw [Z0.out]; decide
        have hx0 := head_of HB0.out hs0
        have hs1 : (4 : Int) ≤ (full ⟨#[107, 101, 112, 116]⟩).size := by rw [Z1.out]; decide
        have hx1 := take4_of HB1.out
        generalize full ByteArray.empty = f0 at *
        generalize full ⟨#[107, 101, 112, 116]⟩ = f1 at *
        go_wp2_with (fail)
        refine (HWL.out _ H13).mono ?_
        rintro e w14 ⟨rfl, H14⟩
        go_wp2_with (fail)
        go_ret
        exact ⟨rfl, H14.below⟩
theorem own : ownKnob Try.prog.godebug = none := by kernel_rfl
theorem laidOut : laidOutB Try.prog = true := by kernel_rfl
theorem readable : ∀ t ∈ Try.f7.params.toList, Try.prog.readableRec t = true ∧ t < Try.prog.types.size := by
  intro t ht
  rw [Try.params7] at ht
  simp only [List.mem_cons, List.not_mem_nil, or_false] at ht
  rcases ht with rfl | rfl
  all_goals exact ⟨by kernel_rfl, of_decide_eq_true (by kernel_rfl)⟩
theorem contract (H : Type) (enc : TypeId × Value → H) (W : World) (base : Nat) (args : Array Value) (ds gs : List (DataW H)) (before : List MemPlace)
    (hval : ∀ (j : Nat) t v, Try.f7.params[j]? = some t → args[j]? = some v → Value.okWide Try.prog W .any base t v)
    (hW : DataW.Whole enc Try.prog Try.f7.params.toList Rows.sectorDarkSpec.vars false W args.toList ds gs before) (hk : Rows.uptoSmall H (ds ++ gs) = true) :
    Calls Try.prog 7 args W fun e W' => ∃ v, e = .returned v ∧ Rows.sectorDarkSpec.post enc Try.prog Try.f7 false true false false W args v W' := by
  have hW' := hW
  obtain ⟨p, q, hA0, hV, rfl, _, _⟩ := hW
  have hA : DataW.TrodAll enc Try.prog W 0 (fun _ => true) true Try.f7.params.toList args.toList ds p := hA0
  rw [Try.params7] at hA hval
  obtain ⟨v0, vs0, d0, ds0, p0, q0, hargs, rfl, rfl, h0, r0⟩ := trodAll_cons hA
  obtain ⟨v1, vs1, d1, ds1, p1, q1, rfl, rfl, rfl, h1, r1⟩ := trodAll_cons r0
  obtain ⟨rfl, rfl, rfl⟩ := trodAll_nil r1
  obtain rfl : args = #[v0, v1] := by cases args; simp_all
  obtain ⟨rfl, rfl⟩ := trodVars_none hV
  clear hA0
  have hk2 : Rows.uptoBulkAll _ ≤ 1048576 := of_decide_eq_true hk
  rw [List.append_nil] at hk2
  obtain ⟨fuel0, hf0⟩ := h0
  obtain ⟨A0, n0, c0, hv0⟩ := okWide_slice Try.underlying22 (hval 0 22 v0 rfl rfl)
  subst hv0
  obtain ⟨A0', n0', c0', rows0, hc0, hn0, hrd0, hrow0, hbulk0⟩ := trod_slice_flat (ks := [.str]) (m := 8) Try.underlying22 (by kernel_rfl) (by kernel_rfl) (by decide) hf0
  dsimp only at hbulk0
  obtain ⟨rfl, rfl, rfl⟩ : A0' = A0 ∧ n0' = n0 ∧ c0' = c0 := by simp [Value.cells] at hc0; simp [hc0]
  obtain ⟨texts, rfl, hok0⟩ := rows_map (fun x : ByteArray => [.string x]) (fun x : ByteArray => x.size ≤ maxLen) rows0 (fun row hr => of_row_str row (hrow0 row hr))
  obtain ⟨n, rfl, rfl, rfl, wn⟩ := open_int Try.underlying3 (hval 1 3 v1 rfl rfl) h1
  refine (walk W A0' n0' c0' texts hrd0 (by
    have h1 := len_le_sum (ks := [.str]) _ hrow0 (by decide)
    have h2 := hrd0.1
    simp only [Rows.uptoBulkAll, Rows.uptoBulk] at hk2
    omega) (by
    simp only [Rows.uptoBulkAll, Rows.uptoBulk] at hk2
    omega) hok0 n (wf_i64 wn)).mono fun e W' ⟨he, hb⟩ => ?_
  exact ⟨_, he, law_post (tb := 4) laidOut readable rfl Try.underlying4 rfl hW' rfl rfl rfl hb⟩
set_option maxRecDepth 100000 in
theorem lifted (os : Os) (started : os.Started) (H : Type) (enc : TypeId × Value → H) (F : Stop.Interp) :
    ReturnsInHanded {} Try.checked os 7 .any ((Rows.OpenSpec.upto Rows.sectorDarkSpec).pre6 enc Try.prog Try.f7 Rows.sectorDarkUptoRow.domain false) (((Rows.OpenSpec.upto Rows.sectorDarkSpec).at F).post enc Try.prog Try.f7 false true false false) := by
  refine returnsInHanded_of_cond (C := Try.checked) (s := Rows.OpenSpec.upto Rows.sectorDarkSpec) (k := Rows.uptoSmall) rfl own started (by kernel_rfl) Try.func7
    (OpenSpec.witness (enc := enc) (C := Try.checked) (s := Rows.OpenSpec.upto Rows.sectorDarkSpec) (k := Rows.uptoSmall) rfl false ⟨#[], #[.slice none 0 0, .int .i64 0], []⟩ 8 (by kernel_rfl) (by kernel_rfl) (by kernel_rfl)
      (x := ([.nil, .lit (.int .i64 0)], [], [])) (by kernel_rfl) rfl (by kernel_rfl)) ?_
  intro W base args ds gs before hval hW _ hk _
  exact contract H enc W base args ds gs before hval hW hk
theorem proved : Rows.SectorDarkUptoSaid :=
  OpenClaim.holds_of_cond 7 Try.f7 rfl rfl rfl rfl rfl rfl rfl ⟨rfl, rfl, rfl, rfl, rfl⟩ rfl rfl rfl rfl rfl (by kernel_rfl) Try.func7 (by kernel_rfl)
    (of_decide_eq_true (by kernel_rfl)) (by unfold Func.isWrapper; first | (rw [if_pos (by decide +kernel)]; kernel_rfl) | (rw [if_neg (by decide +kernel)]; exact ⟨rfl, rfl⟩))
    (fun os started H enc _ F => lifted os started H enc F)
#print axioms proved

end Go.Proofs.Ytmlknjgcfplnlaa.SectorDark

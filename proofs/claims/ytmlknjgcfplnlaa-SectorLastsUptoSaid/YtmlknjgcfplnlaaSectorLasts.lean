/- SectorLasts: what was flushed outlasts any loss of power, but for sectors that were written since: lists of texts of bulk at most 1048576. -/
import Derived.Test.YtmlknjgcfplnlaaSeS
import Derived.Test.YtmlknjgcfplnlaaSLW
import Derived.Test.YtmlknjgcfplnlaaLift
namespace Go.Proofs.Ytmlknjgcfplnlaa.SectorLasts
open Go.RowKit Go.ChangeShapes Go.WideShapes Go.ChangeAt Go.Proofs.Ytmlknjgcfplnlaa

def cutb (x : ByteArray) : ByteArray := x.extract 0 (min (x.size : Int) 256).toNat
theorem cutb_size (x : ByteArray) : (cutb x).size ≤ 256 := by
  rw [cutb, ByteArray.size_extract]; omega
def mixL (l base : List ByteArray) (k : Nat) : List ByteArray := (l.take k).map cutb ++ base.drop k
theorem mixL_zero (l base : List ByteArray) : mixL l base 0 = base := by simp [mixL]
theorem mixL_length (l base : List ByteArray) (k : Nat) (h1 : k ≤ l.length) (h2 : k ≤ base.length) : (mixL l base k).length = base.length := by
  rw [mixL, List.length_append, List.length_map, List.length_take, List.length_drop]; omega
theorem mixL_set (l base : List ByteArray) (k : Nat) (x : ByteArray) (h : l[k]? = some x) (h2 : k < base.length) : (mixL l base k).set k (cutb x) = mixL l base (k + 1) := by
  have hk := (List.getElem?_eq_some_iff.1 h).1
  have e1 : ((l.take k).map cutb).length = k := by rw [List.length_map, List.length_take]; omega
  have e2 : l.take (k + 1) = l.take k ++ [x] := by rw [List.take_add_one, h]; rfl
  rw [mixL, mixL, e2, List.map_append, List.set_append_right _ _ (by omega), e1, Nat.sub_self, List.append_assoc, List.drop_eq_getElem_cons h2]; rfl
theorem mixL_old (l base : List ByteArray) (k : Nat) (x : ByteArray) (h : l[k]? = some x) (h2 : k < base.length) (i : Nat) (hi : i < k) : (mixL l base (k + 1))[i]? = (mixL l base k)[i]? := by
  rw [← mixL_set l base k x h h2, List.getElem?_set, if_neg (by omega)]
theorem mixL_new (l base : List ByteArray) (k : Nat) (x : ByteArray) (h : l[k]? = some x) (h2 : k < base.length) : (mixL l base (k + 1))[k]? = some (cutb x) := by
  have hk := (List.getElem?_eq_some_iff.1 h).1
  rw [← mixL_set l base k x h h2, List.getElem?_set, if_pos rfl, if_pos (by rw [mixL_length _ _ _ (by omega) (by omega)]; exact h2)]
def Calm (d : DS) : Prop := d.left = 0 ∧ d.off = false
theorem calm_write (d : DS) (hc : Calm d) (k : Nat) (s : ByteArray) (hk : k < d.las.length) (hs : s.size ≤ 256) : d.write k s = (0, (d.push k s).wrote) := by
  unfold DS.write
  rw [if_neg (by omega), if_neg (by rw [hc.2]; decide)]
  have e : (d.push k s).torn = (false, d.push k s) := if_pos hc.1
  rw [Int.toNat_natCast, e]; rfl
theorem calm_flush (d : DS) (hc : Calm d) : d.flush = (0, d.flushed) := by
  unfold DS.flush
  have e : d.torn = (false, d) := if_pos hc.1
  rw [if_neg (by rw [hc.2]; decide), e]; rfl
theorem lz_cases (f : Nat → Bool) (q : List (Nat × ByteArray)) (las : List ByteArray) : ∀ k i s, (lz f q las k)[i]? = some s → las[i]? = some s ∨ (i, s) ∈ q
  | 0, i, s, h => .inl h
  | k + 1, i, s, h => by
    rw [lz] at h
    split at h
    · rename_i p hp
      split at h
      · rw [List.getElem?_set] at h
        split at h
        · rename_i e
          split at h
          · injection h with h; subst h e; exact .inr (List.mem_of_getElem? hp)
          · cases h
        · exact lz_cases f q las k i s h
      · exact lz_cases f q las k i s h
    · exact lz_cases f q las k i s h
theorem src_cell {w : World} {A : Option Addr} {m : Nat} {l : List ByteArray} (hrd : SlRd w A m 1 (l.map fun s => [.string s])) {k : Nat} {x : ByteArray} (hx : l[k]? = some x) : ∃ b o, A = some ⟨b, o, none⟩ ∧ ∀ w', Below w.heap.size w w' → w'.cell? ⟨b, o + k, none⟩ = some (.string x) := by
  obtain ⟨bq, o, hA, _, _, _⟩ := SlRd.at hrd (Below.refl _ _) (i := k) (row := [.string x]) (by rw [List.getElem?_map, hx]; rfl)
  refine ⟨bq, o, hA, fun w' hb' => ?_⟩
  obtain ⟨b3, o3, hA3, _, hd3, _⟩ := SlRd.at hrd hb' (i := k) (row := [.string x]) (by rw [List.getElem?_map, hx]; rfl)
  rw [hA] at hA3; injection hA3 with hA3; injection hA3 with hA3 hA4
  subst hA3 hA4
  have := hd3 _ rfl
  rwa [Nat.mul_one] at this
theorem dat_le {l : List ByteArray} {x : ByteArray} (hx : x ∈ l) (h : sumW (l.map fun s => [.string s]) ≤ 1048576) : x.size ≤ 1048576 := by
  have h1 : wts [.string x] ≤ sumW (l.map fun s => [.string s]) := sumW_mem (List.mem_map.2 ⟨x, hx, rfl⟩)
  simp only [wts, wt] at h1
  omega
theorem arr_get {L : List ByteArray} {k : Nat} {y : ByteArray} (h : L[k]? = some y) : (strs L).toArray[k]? = some (.string y) := by rw [List.getElem?_toArray]; exact strs_get h
theorem arr_set (L : List ByteArray) (k : Nat) (x : ByteArray) : (strs L).toArray.setIfInBounds k (.string x) = (strs (L.set k x)).toArray := by
  rw [List.setIfInBounds_toArray, strs_set]
set_option maxRecDepth 100000 in
set_option maxHeartbeats 16000000 in
theorem walk (w : World) (A : Option Addr) (n c : Nat) (l : List ByteArray) (hrd : SlRd w A n 1 (l.map fun s => [.string s])) (hn : n ≤ 1048576) (hsum : sumW (l.map fun s => [.string s]) ≤ 1048576) (_hok : ∀ x ∈ l, x.size ≤ maxLen)
    (A2 : Option Addr) (n2 c2 : Nat) (l2 : List ByteArray) (hrd2 : SlRd w A2 n2 1 (l2.map fun s => [.string s])) (hn2 : n2 ≤ 1048576) (hsum2 : sumW (l2.map fun s => [.string s]) ≤ 1048576) (_hok2 : ∀ x ∈ l2, x.size ≤ maxLen)
    (keep : Int) (_hk : -9223372036854775808 ≤ keep ∧ keep ≤ 9223372036854775807) :
    Calls Try.prog 3 #[.slice A n c, .slice A2 n2 c2, .int .i64 keep] w fun r w' => r = .returned (.bool true) ∧ Below w.heap.size w w' := by
  have H0 := St.init w
  have hlm : l.length = n := by have := hrd.1; simpa using this
  have hlm2 : l2.length = n2 := by have := hrd2.1; simpa using this
  have HLM := Lib.hid hlm; have HRD := Lib.hid hrd; have HSM := Lib.hid hsum
  have HLM2 := Lib.hid hlm2; have HRD2 := Lib.hid hrd2; have HSM2 := Lib.hid hsum2
  clear hlm hrd hsum _hok hlm2 hrd2 hsum2 _hok2
  go_enter Try.func3, Try.ntmps3
  go_wp2_with (fail)
  refine (speaks_ok H0).mono ?_
  rintro e w1 ⟨rfl, H1⟩
  go_wp2_with (fail)
  refine (new_ok 8 (by decide) (by decide) H1).mono ?_
  rintro e w2 ⟨b, rfl, H2⟩
  have H3 : St w (w2.alloc (.cells #[.string ByteArray.empty, .string ByteArray.empty, .string ByteArray.empty, .string ByteArray.empty, .string ByteArray.empty, .string ByteArray.empty, .string ByteArray.empty, .string ByteArray.empty] 28)) [Pt w2.heap.size (strs (blank 8)).toArray 28, Dsk b (DS.new 8)] := H2.alloc (strs (blank 8)).toArray 28
  go_wp2_with (fail)
  obtain ⟨b9, hb9⟩ : ∃ x, x = w2.heap.size := ⟨_, rfl⟩
  rw [← hb9] at H3 ⊢
  clear hb9
  go_loopw [10] (fun i wr => ∃ (k : Nat) (d : DS), k ≤ n ∧ k ≤ 8 ∧ i = .int .i64 k ∧ Hid (d.ok k ∧ Calm d ∧ d.las.length = 8 ∧ d.now = mixL l (blank 8) k) ∧ St w wr [Pt b9 (strs (mixL l (blank 8) k)).toArray 28, Dsk b d]) (fun i _ => n - (intOf i).toNat)
  case atStart => exact ⟨0, DS.new 8, Nat.zero_le _, Nat.zero_le _, rfl, Lib.hid ⟨DS.ok_new 8, ⟨rfl, rfl⟩, rfl, by rw [mixL_zero]; rfl⟩, by rw [mixL_zero]; exact H3⟩
  case round =>
    obtain ⟨k, d, hk, hk8', rfl, HD, H5⟩ := hrel
    by_cases hlt : k < n ∧ k < 8
    · obtain ⟨h1, h2⟩ := hlt
      have hk8 : k < 8 := h2
      have h1I : (k : Int) < n := by omega
      have h2I : (k : Int) < 8 := by omega
      obtain ⟨x, hx⟩ : ∃ x, l[k]? = some x := ⟨_, List.getElem?_eq_getElem (by rw [HLM.out]; exact h1)⟩
      obtain ⟨bq, o, hA, hcell⟩ := src_cell HRD.out hx
      have hc0 := hcell _ H5.below
      have hxs := dat_le (List.mem_of_getElem? hx) HSM.out
      subst hA
      have hmn : min (x.size : Int) 256 ≤ 256 := Int.min_le_right ..
      have hmn0 : 0 ≤ min (x.size : Int) 256 := by omega
      have hmn1 : min (x.size : Int) 256 ≤ x.size := by omega
      obtain ⟨y, hy⟩ : ∃ y, (mixL l (blank 8) k)[k]? = some y := ⟨_, List.getElem?_eq_getElem (by rw [mixL_length _ _ _ (by rw [HLM.out]; exact hk) hk8']; exact hk8)⟩
      have hnw := mixL_new l (blank 8) k x hx hk8
      have HX := Lib.hid hx; have HCL := Lib.hid hcell; have HY := Lib.hid hy; have HNW := Lib.hid hnw; clear hcell hx hy hnw H1 H2 H3
      go_wp2_with (fail)
      refine wp_region_held_drew (S := fun w' => w'.cell? ⟨bq, o + k, none⟩ = some (.string x)) (by kernel_rfl) (HCL.out _ H5.drew.below) (fun hHeld => ?_)
      have H6 := H5.drew
      generalize wr.drew = w6 at *
      refine rg_take (i := 0) (v := ?_) rfl (by kernel_rfl) (by kernel_rfl) (by kernel_rfl) (fun _ _ _ h => h) (Or.inl ⟨by kernel_rfl, ?_⟩) (by assumption) ?_
      rotate_left 1
      · intro w' hSw
        try dsimp only at hSw
        go_simp
        first | done | with_reducible rfl
      try simp only [Act.put, List.setIfInBounds_toArray, List.set_cons_zero, List.set_cons_succ]
      refine rg_take (i := 1) (v := ?_) rfl (by kernel_rfl) (by kernel_rfl) (by kernel_rfl) (fun _ _ _ h => h) (Or.inl ⟨by kernel_rfl, ?_⟩) (by assumption) ?_
      rotate_left 1
      · intro w' hSw
        try dsimp only at hSw
        go_simp
        first | done | with_reducible rfl
      try simp only [Act.put, List.setIfInBounds_toArray, List.set_cons_zero, List.set_cons_succ]
      refine rg_take (i := 2) (v := ?_) rfl (by kernel_rfl) (by kernel_rfl) (by kernel_rfl) (fun _ _ _ h => h) (Or.inl ⟨by kernel_rfl, ?_⟩) (by assumption) ?_
      rotate_left 1
      · intro w' hSw
        try dsimp only at hSw
        go_simp
        first | done | with_reducible rfl
      try simp only [Act.put, List.setIfInBounds_toArray, List.set_cons_zero, List.set_cons_succ]
      refine rg_take (i := 3) (v := ?_) rfl (by kernel_rfl) (by kernel_rfl) (by kernel_rfl) (fun _ _ _ h => h) (Or.inl ⟨by kernel_rfl, ?_⟩) (by assumption) ?_
      rotate_left 1
      · intro w' hSw
        try dsimp only at hSw
        go_simp
        first | done | with_reducible rfl
      try simp only [Act.put, List.setIfInBounds_toArray, List.set_cons_zero, List.set_cons_succ]
      refine rg_take (i := 4) (v := ?_) rfl (by kernel_rfl) (by kernel_rfl) (by kernel_rfl) (fun _ _ _ h => h) (Or.inl ⟨by kernel_rfl, ?_⟩) (by assumption) ?_
      rotate_left 1
      · intro w' hSw
        try dsimp only at hSw
        go_simp
        first | done | with_reducible rfl
      try simp only [Act.put, List.setIfInBounds_toArray, List.set_cons_zero, List.set_cons_succ]
      refine rg_take (i := 5) (v := ?_) rfl (by kernel_rfl) (by kernel_rfl) (by kernel_rfl) (fun _ _ _ h => h) (Or.inl ⟨by kernel_rfl, ?_⟩) (by assumption) ?_
      rotate_left 1
      · intro w' hSw
        try dsimp only at hSw
        go_simp
        first | done | with_reducible rfl
      try simp only [Act.put, List.setIfInBounds_toArray, List.set_cons_zero, List.set_cons_succ]
      refine rg_take (i := 6) (v := ?_) rfl (by kernel_rfl) (by kernel_rfl) (by kernel_rfl) (fun _ _ _ h => h) (Or.inl ⟨by kernel_rfl, ?_⟩) (by assumption) ?_
      rotate_left 1
      · intro w' hSw
        try dsimp only at hSw
        go_simp
        first | done | with_reducible rfl
      try simp only [Act.put, List.setIfInBounds_toArray, List.set_cons_zero, List.set_cons_succ]
      refine rg_take (i := 7) (v := ?_) rfl (by kernel_rfl) (by kernel_rfl) (by kernel_rfl) (fun _ _ _ h => h) (Or.inl ⟨by kernel_rfl, ?_⟩) (by assumption) ?_
      rotate_left 1
      · intro w' hSw
        try dsimp only at hSw
        go_simp
        first | done | with_reducible rfl
      try simp only [Act.put, List.setIfInBounds_toArray, List.set_cons_zero, List.set_cons_succ]
      refine rg_take (i := 8) (v := ?_) rfl (by kernel_rfl) (by kernel_rfl) (by kernel_rfl) (fun _ _ _ h => h) (Or.inl ⟨by kernel_rfl, ?_⟩) (by assumption) ?_
      rotate_left 1
      · intro w' hSw
        try dsimp only at hSw
        go_simp
        first | done | with_reducible rfl
      try simp only [Act.put, List.setIfInBounds_toArray, List.set_cons_zero, List.set_cons_succ]
      refine rg_take (i := 9) (v := ?_) rfl (by kernel_rfl) (by kernel_rfl) (by kernel_rfl) (fun _ _ _ h => h) (Or.inl ⟨by kernel_rfl, ?_⟩) (by assumption) ?_
      rotate_left 1
      · intro w' hSw
        try dsimp only at hSw
        go_simp
        first | done | with_reducible rfl
      try simp only [Act.put, List.setIfInBounds_toArray, List.set_cons_zero, List.set_cons_succ]
      refine rg_take (i := 10) (v := ?_) rfl (by kernel_rfl) (by kernel_rfl) (by kernel_rfl) (fun _ _ _ h => h) (Or.inl ⟨by kernel_rfl, ?_⟩) (by assumption) ?_
      rotate_left 1
      · intro w' hSw
        try dsimp only at hSw
        go_simp
        first | done | with_reducible rfl
      try simp only [Act.put, List.setIfInBounds_toArray, List.set_cons_zero, List.set_cons_succ]
      refine rg_take (i := 11) (v := ?_) rfl (by kernel_rfl) (by kernel_rfl) (by kernel_rfl) (fun _ _ _ h => h) (Or.inl ⟨by kernel_rfl, ?_⟩) (by assumption) ?_
      rotate_left 1
      · intro w' hSw
        try dsimp only at hSw
        go_simp
        first | done | with_reducible rfl
      try simp only [Act.put, List.setIfInBounds_toArray, List.set_cons_zero, List.set_cons_succ]
      refine rg_take (i := 12) (v := ?_) rfl (by kernel_rfl) (by kernel_rfl) (by kernel_rfl) (fun _ _ _ h => h) (Or.inl ⟨by kernel_rfl, ?_⟩) (by assumption) ?_
      rotate_left 1
      · intro w' hSw
        try dsimp only at hSw
        go_simp
        first | done | with_reducible rfl
      try simp only [Act.put, List.setIfInBounds_toArray, List.set_cons_zero, List.set_cons_succ]
      refine wpAnyH_ready (rs := [13]) (by kernel_rfl) (by simp) ?_
      refine rg_cons rfl (fun K hK => ?_) AllReadyH.nil
      have p3 := H6.cell k (arr_get HY.out)
      have f3 := H6.frozen k
      have H7 := H6.set k (.string (cutb x))
      rw [arr_set, mixL_set _ _ k x HX.out (by rw [(show (blank 8).length = 8 from rfl)]; exact hk8)] at H7
      go_simp
      change K _ (w6.setCell ⟨b9, k, none⟩ (.string (cutb x)))
      refine hK.out _ _ (HCL.out _ H7.below) (fun hHeld => ?_)
      clear hK p3 f3
      try simp only [Act.put, List.setIfInBounds_toArray, List.set_cons_zero, List.set_cons_succ]
      refine wpAnyH_done (by kernel_rfl) ?_ _
      have p4 := H7.cell k (arr_get HNW.out)
      generalize w6.setCell ⟨b9, k, none⟩ (.string (cutb x)) = w7 at *
      clear hHeld
      have hwc := write_ok b d k (cutb x) k HD.out.1 (by omega) (by have := cutb_size x; omega) H7.r2
      rw [calm_write d HD.out.2.1 k (cutb x) (by rw [HD.out.2.2.1]; exact hk8) (cutb_size x)] at hwc
      have HWC := Lib.hid hwc; clear hwc
      go_wp2_with (fail)
      refine HWC.out.mono ?_
      rintro e w8 ⟨rfl, H8⟩
      go_wp2_with (fail)
      go_roundw
      case rel =>
        have okw := HD.out.1.ok_write k (cutb x)
        rw [calm_write d HD.out.2.1 k (cutb x) (by rw [HD.out.2.2.1]; exact hk8) (cutb_size x)] at okw
        exact ⟨k + 1, (d.push k (cutb x)).wrote, by omega, by omega, by go_num, Lib.hid ⟨okw, HD.out.2.1, HD.out.2.2.1, by show (d.push k (cutb x)).now = _; rw [DS.now_push, HD.out.2.2.2, mixL_set l (blank 8) k x HX.out hk8]⟩, H8.r2⟩
      case measure => simp [intOf]; omega
    · have hfin : k < n ∨ ¬ k < n := by omega
      rcases hfin with h1 | h1
      · have h1I : (k : Int) < n := by omega
        have h2I : decide ((k : Int) < 8) = false := decide_eq_false (by omega)
        as_aux_lemma =>
        have hfc := flush_ok b d k HD.out.1 (by omega) H5.r2
        rw [calm_flush d HD.out.2.1] at hfc
        have HFC := Lib.hid hfc; clear hfc H1 H2 H3
        go_wp2_with (fail)
        refine HFC.out.mono ?_
        rintro e w5 ⟨rfl, H6⟩
        have okf := HD.out.1.ok_flush
        rw [calm_flush d HD.out.2.1] at okf
        have hcal : Calm d.flushed := HD.out.2.1
        have hlas : d.flushed.las = mixL l (blank 8) k := HD.out.2.2.2
        have hfq : d.flushed.q = [] := rfl
        have hol : (mixL l (blank 8) k).length = 8 := by rw [mixL_length _ _ _ (by rw [HLM.out]; exact hk) hk8']; rfl
        have hos : ∀ s ∈ mixL l (blank 8) k, s.size ≤ 256 := fun s hs => by
          rw [mixL] at hs
          rcases List.mem_append.1 hs with hs | hs
          · obtain ⟨x, _, rfl⟩ := List.mem_map.1 hs; exact cutb_size x
          · have := (List.mem_replicate.1 (List.mem_of_mem_drop hs)).2; rw [this]; exact Nat.zero_le _
        have okf9 := okf.ok_mono (show k + 1 ≤ 9 by omega)
        clear okf HFC
        dsimp only at okf9
        generalize d.flushed = d1 at *
        generalize mixL l (blank 8) k = O at *
        have hsz : (Try.prog.info? 28).map (·.size) = some (strs O).toArray.size := by rw [List.size_toArray, strs_length, hol]; kernel_rfl
        have HD1 := Lib.hid (show d1.ok 9 ∧ Calm d1 ∧ d1.las = O ∧ d1.q = [] from ⟨okf9, hcal, hlas, hfq⟩)
        have HSZ := Lib.hid hsz; have HOL := Lib.hid hol; have HOS := Lib.hid hos; clear hsz hol hos okf9 hcal hlas hfq
        have HZ : St w (w5.alloc (.cells #[.string ByteArray.empty, .string ByteArray.empty, .string ByteArray.empty, .string ByteArray.empty, .string ByteArray.empty, .string ByteArray.empty, .string ByteArray.empty, .string ByteArray.empty] 28)) [Pt w5.heap.size (strs (blank 8)).toArray 28, Dsk b d1, Pt b9 (strs O).toArray 28] := H6.alloc (strs (blank 8)).toArray 28
        go_wp2_with (first | (with_reducible refine hold_store ?_) | ((with_reducible refine wpList_load_st (ty := 28) HZ.r3 ?_ ?_ Try.underlying28 ?_ ?_ ?_); rfl; rfl; rfl; exact HSZ.out))
        unfold Hold
        with_reducible refine wpList_store_st (ty := 28) HZ (strs O).toArray ?_ ?_ ?_ ?_ ?_ ?_ ?_
        rfl
        rfl
        rfl
        (rw [List.size_toArray, strs_length, HOL.out]; rfl)
        (exact HSZ.out)
        (exact List.all_eq_true.2 (strs_one _))
        intro w8 H8
        obtain ⟨b11, hb11⟩ : ∃ x, x = w5.heap.size := ⟨_, rfl⟩
        rw [← hb11] at H8 ⊢
        clear hb11 HZ H6
        go_wp2_with (fail)
        go_loopw [12] (fun i wr => ∃ (k : Nat) (d : DS), k ≤ n2 ∧ k ≤ 8 ∧ i = .int .i64 k ∧ Hid (d.ok (9 + k) ∧ Calm d ∧ d.las = O ∧ ∀ p ∈ d.q, p.1 < k ∧ (mixL l2 O k)[p.1]? = some p.2) ∧ St w wr [Pt b11 (strs (mixL l2 O k)).toArray 28, Dsk b d, Pt b9 (strs O).toArray 28]) (fun i _ => n2 - (intOf i).toNat)
        case atStart => exact ⟨0, d1, Nat.zero_le _, Nat.zero_le _, rfl, Lib.hid ⟨HD1.out.1, HD1.out.2.1, HD1.out.2.2.1, fun p hp => by rw [HD1.out.2.2.2] at hp; cases hp⟩, by rw [mixL_zero]; exact H8⟩
        clear HD
        case round =>
          clear hlt hk hk8' HD1
          obtain ⟨k, d, hk, hk8', rfl, HD, H5⟩ := hrel
          by_cases hlt : k < n2 ∧ k < 8
          · obtain ⟨h1, h2⟩ := hlt
            have hk8 : k < 8 := h2
            have h1I : (k : Int) < n2 := by omega
            have h2I : (k : Int) < 8 := by omega
            obtain ⟨x, hx⟩ : ∃ x, l2[k]? = some x := ⟨_, List.getElem?_eq_getElem (by rw [HLM2.out]; exact h1)⟩
            obtain ⟨bq, o, hA, hcell⟩ := src_cell HRD2.out hx
            have hc0 := hcell _ H5.below
            have hxs := dat_le (List.mem_of_getElem? hx) HSM2.out
            subst hA
            have hmn : min (x.size : Int) 256 ≤ 256 := Int.min_le_right ..
            have hmn0 : 0 ≤ min (x.size : Int) 256 := by omega
            have hmn1 : min (x.size : Int) 256 ≤ x.size := by omega
            obtain ⟨y, hy⟩ : ∃ y, (mixL l2 O k)[k]? = some y := ⟨_, List.getElem?_eq_getElem (by rw [mixL_length _ _ _ (by rw [HLM2.out]; exact hk) (by rw [HOL.out]; exact hk8'), HOL.out]; exact hk8)⟩
            have hnw := mixL_new l2 O k x hx (by rw [HOL.out]; exact hk8)
            have hold := mixL_old l2 O k x hx (by rw [HOL.out]; exact hk8)
            have HX := Lib.hid hx; have HCL := Lib.hid hcell; have HY := Lib.hid hy; have HNW := Lib.hid hnw; have HOLD := Lib.hid hold; clear hcell hx hy hnw hold H8
            go_wp2_with (fail)
            refine wp_region_held_drew (S := fun w' => w'.cell? ⟨bq, o + k, none⟩ = some (.string x)) (by kernel_rfl) (HCL.out _ H5.drew.below) (fun hHeld => ?_)
            have H6 := H5.drew
            generalize wr.drew = w6 at *
            refine rg_take (i := 0) (v := ?_) rfl (by kernel_rfl) (by kernel_rfl) (by kernel_rfl) (fun _ _ _ h => h) (Or.inl ⟨by kernel_rfl, ?_⟩) (by assumption) ?_
            rotate_left 1
            · intro w' hSw
              try dsimp only at hSw
              go_simp
              first | done | with_reducible rfl
            try simp only [Act.put, List.setIfInBounds_toArray, List.set_cons_zero, List.set_cons_succ]
            refine rg_take (i := 1) (v := ?_) rfl (by kernel_rfl) (by kernel_rfl) (by kernel_rfl) (fun _ _ _ h => h) (Or.inl ⟨by kernel_rfl, ?_⟩) (by assumption) ?_
            rotate_left 1
            · intro w' hSw
              try dsimp only at hSw
              go_simp
              first | done | with_reducible rfl
            try simp only [Act.put, List.setIfInBounds_toArray, List.set_cons_zero, List.set_cons_succ]
            refine rg_take (i := 2) (v := ?_) rfl (by kernel_rfl) (by kernel_rfl) (by kernel_rfl) (fun _ _ _ h => h) (Or.inl ⟨by kernel_rfl, ?_⟩) (by assumption) ?_
            rotate_left 1
            · intro w' hSw
              try dsimp only at hSw
              go_simp
              first | done | with_reducible rfl
            try simp only [Act.put, List.setIfInBounds_toArray, List.set_cons_zero, List.set_cons_succ]
            refine rg_take (i := 3) (v := ?_) rfl (by kernel_rfl) (by kernel_rfl) (by kernel_rfl) (fun _ _ _ h => h) (Or.inl ⟨by kernel_rfl, ?_⟩) (by assumption) ?_
            rotate_left 1
            · intro w' hSw
              try dsimp only at hSw
              go_simp
              first | done | with_reducible rfl
            try simp only [Act.put, List.setIfInBounds_toArray, List.set_cons_zero, List.set_cons_succ]
            refine rg_take (i := 4) (v := ?_) rfl (by kernel_rfl) (by kernel_rfl) (by kernel_rfl) (fun _ _ _ h => h) (Or.inl ⟨by kernel_rfl, ?_⟩) (by assumption) ?_
            rotate_left 1
            · intro w' hSw
              try dsimp only at hSw
              go_simp
              first | done | with_reducible rfl
            try simp only [Act.put, List.setIfInBounds_toArray, List.set_cons_zero, List.set_cons_succ]
            refine rg_take (i := 5) (v := ?_) rfl (by kernel_rfl) (by kernel_rfl) (by kernel_rfl) (fun _ _ _ h => h) (Or.inl ⟨by kernel_rfl, ?_⟩) (by assumption) ?_
            rotate_left 1
            · intro w' hSw
              try dsimp only at hSw
              go_simp
              first | done | with_reducible rfl
            try simp only [Act.put, List.setIfInBounds_toArray, List.set_cons_zero, List.set_cons_succ]
            refine rg_take (i := 6) (v := ?_) rfl (by kernel_rfl) (by kernel_rfl) (by kernel_rfl) (fun _ _ _ h => h) (Or.inl ⟨by kernel_rfl, ?_⟩) (by assumption) ?_
            rotate_left 1
            · intro w' hSw
              try dsimp only at hSw
              go_simp
              first | done | with_reducible rfl
            try simp only [Act.put, List.setIfInBounds_toArray, List.set_cons_zero, List.set_cons_succ]
            refine rg_take (i := 7) (v := ?_) rfl (by kernel_rfl) (by kernel_rfl) (by kernel_rfl) (fun _ _ _ h => h) (Or.inl ⟨by kernel_rfl, ?_⟩) (by assumption) ?_
            rotate_left 1
            · intro w' hSw
              try dsimp only at hSw
              go_simp
              first | done | with_reducible rfl
            try simp only [Act.put, List.setIfInBounds_toArray, List.set_cons_zero, List.set_cons_succ]
            refine rg_take (i := 8) (v := ?_) rfl (by kernel_rfl) (by kernel_rfl) (by kernel_rfl) (fun _ _ _ h => h) (Or.inl ⟨by kernel_rfl, ?_⟩) (by assumption) ?_
            rotate_left 1
            · intro w' hSw
              try dsimp only at hSw
              go_simp
              first | done | with_reducible rfl
            try simp only [Act.put, List.setIfInBounds_toArray, List.set_cons_zero, List.set_cons_succ]
            refine rg_take (i := 9) (v := ?_) rfl (by kernel_rfl) (by kernel_rfl) (by kernel_rfl) (fun _ _ _ h => h) (Or.inl ⟨by kernel_rfl, ?_⟩) (by assumption) ?_
            rotate_left 1
            · intro w' hSw
              try dsimp only at hSw
              go_simp
              first | done | with_reducible rfl
            try simp only [Act.put, List.setIfInBounds_toArray, List.set_cons_zero, List.set_cons_succ]
            refine rg_take (i := 10) (v := ?_) rfl (by kernel_rfl) (by kernel_rfl) (by kernel_rfl) (fun _ _ _ h => h) (Or.inl ⟨by kernel_rfl, ?_⟩) (by assumption) ?_
            rotate_left 1
            · intro w' hSw
              try dsimp only at hSw
              go_simp
              first | done | with_reducible rfl
            try simp only [Act.put, List.setIfInBounds_toArray, List.set_cons_zero, List.set_cons_succ]
            refine rg_take (i := 11) (v := ?_) rfl (by kernel_rfl) (by kernel_rfl) (by kernel_rfl) (fun _ _ _ h => h) (Or.inl ⟨by kernel_rfl, ?_⟩) (by assumption) ?_
            rotate_left 1
            · intro w' hSw
              try dsimp only at hSw
              go_simp
              first | done | with_reducible rfl
            try simp only [Act.put, List.setIfInBounds_toArray, List.set_cons_zero, List.set_cons_succ]
            refine rg_take (i := 12) (v := ?_) rfl (by kernel_rfl) (by kernel_rfl) (by kernel_rfl) (fun _ _ _ h => h) (Or.inl ⟨by kernel_rfl, ?_⟩) (by assumption) ?_
            rotate_left 1
            · intro w' hSw
              try dsimp only at hSw
              go_simp
              first | done | with_reducible rfl
            try simp only [Act.put, List.setIfInBounds_toArray, List.set_cons_zero, List.set_cons_succ]
            refine wpAnyH_ready (rs := [13]) (by kernel_rfl) (by simp) ?_
            refine rg_cons rfl (fun K hK => ?_) AllReadyH.nil
            have p3 := H6.cell k (arr_get HY.out)
            have f3 := H6.frozen k
            have H7 := H6.set k (.string (cutb x))
            rw [arr_set, mixL_set _ _ k x HX.out (by rw [HOL.out]; exact hk8)] at H7
            go_simp
            change K _ (w6.setCell ⟨b11, k, none⟩ (.string (cutb x)))
            refine hK.out _ _ (HCL.out _ H7.below) (fun hHeld => ?_)
            clear hK p3 f3
            try simp only [Act.put, List.setIfInBounds_toArray, List.set_cons_zero, List.set_cons_succ]
            refine wpAnyH_done (by kernel_rfl) ?_ _
            have p4 := H7.cell k (arr_get HNW.out)
            generalize w6.setCell ⟨b11, k, none⟩ (.string (cutb x)) = w7 at *
            clear hHeld
            have hwc := write_ok b d k (cutb x) (9 + k) HD.out.1 (by omega) (by have := cutb_size x; omega) H7.r2
            have hll : d.las.length = 8 := by rw [HD.out.2.2.1, HOL.out]
            rw [calm_write d HD.out.2.1 k (cutb x) (by rw [hll]; exact hk8) (cutb_size x)] at hwc
            have HWC := Lib.hid hwc; have HLL := Lib.hid hll; clear hwc hll
            go_wp2_with (fail)
            refine HWC.out.mono ?_
            rintro e w8 ⟨rfl, H8⟩
            go_wp2_with (fail)
            go_roundw
            case rel =>
              have okw := HD.out.1.ok_write k (cutb x)
              rw [calm_write d HD.out.2.1 k (cutb x) (by rw [HLL.out]; exact hk8) (cutb_size x)] at okw
              refine ⟨k + 1, (d.push k (cutb x)).wrote, by omega, by omega, by go_num, Lib.hid ⟨okw, HD.out.2.1, HD.out.2.2.1, fun p hp => ?_⟩, H8.r2⟩
              rcases List.mem_append.1 hp with hp | hp
              · obtain ⟨h3, h4⟩ := HD.out.2.2.2 p hp
                exact ⟨by omega, by rw [HOLD.out _ h3]; exact h4⟩
              · rw [List.mem_singleton] at hp; subst hp
                exact ⟨by dsimp only; omega, HNW.out⟩
            case measure => simp [intOf]; omega
          · have hfin : k < n2 ∨ ¬ k < n2 := by omega
            have hnl : (mixL l2 O k).length = 8 := by rw [mixL_length _ _ _ (by rw [HLM2.out]; exact hk) (by rw [HOL.out]; exact hk8'), HOL.out]
            have hcas : ∀ i s, (d.crash keep).las[i]? = some s → O[i]? = some s ∨ (mixL l2 O k)[i]? = some s := fun i s h => by
              rcases lz_cases _ _ _ _ _ _ h with h | h
              · exact .inl (by rw [← HD.out.2.2.1]; exact h)
              · exact .inr (HD.out.2.2.2 _ h).2
            have okc := (HD.out.1.ok_crash keep).ok_mono (show 9 + k ≤ 20 by omega)
            have hcl : (d.crash keep).las.length = 8 := by
              show (lz _ _ _ _).length = 8
              rw [lz_length, HD.out.2.2.1, HOL.out]
            have hcr := crash_ok b d keep (9 + k) HD.out.1 (by omega) H5.r2
            have hcn : (d.crash keep).now = (d.crash keep).las := DS.now_nil _ rfl
            have hco : (d.crash keep).off = false := rfl
            generalize d.crash keep = dc at *
            generalize mixL l2 O k = NW at *
            have HNL := Lib.hid hnl; have HCAS := Lib.hid hcas; have HCR := Lib.hid hcr; have HCN := Lib.hid hcn; have HCL := Lib.hid hcl; have HCO := Lib.hid hco; clear hnl hcas hcr hcn hcl hco H8
            rcases hfin with h1 | h1
            · have h1I : (k : Int) < n2 := by omega
              have h2I : decide ((k : Int) < 8) = false := decide_eq_false (by omega)
              as_aux_lemma =>
              clear hlt
              go_wp2_with (fail)
              refine HCR.out.mono ?_
              rintro e w9 ⟨rfl, H9⟩
              go_wp2_with (fail)
              go_loopw [13] (fun i wr => ∃ i' : Nat, i' ≤ 8 ∧ i = .int .i64 i' ∧ St w wr [Pt b11 (strs NW).toArray 28, Dsk b dc, Pt b9 (strs O).toArray 28]) (fun i _ => 8 - (intOf i).toNat)
              case atStart => exact ⟨0, Nat.zero_le _, rfl, H9.r2⟩
              case round =>
                clear H5 H9
                obtain ⟨i, hi, rfl, H9⟩ := hrel
                by_cases hlt3 : i < 8
                · have hiI : (i : Int) < 8 := by omega
                  obtain ⟨v, hv⟩ : ∃ v, dc.las[i]? = some v := ⟨_, List.getElem?_eq_getElem (by rw [HCL.out]; exact hlt3)⟩
                  obtain ⟨oi, hoi⟩ : ∃ v, O[i]? = some v := ⟨_, List.getElem?_eq_getElem (by rw [HOL.out]; exact hlt3)⟩
                  obtain ⟨ni, hni⟩ : ∃ v, NW[i]? = some v := ⟨_, List.getElem?_eq_getElem (by rw [HNL.out]; exact hlt3)⟩
                  have hos := HOS.out oi (List.mem_of_getElem? hoi)
                  have hcv := HCAS.out i v hv
                  have hri : dc.read i = (full v, 0) := by
                    unfold DS.read
                    rw [if_neg (by rw [HCL.out]; omega), if_neg (by rw [HCO.out]; decide), Int.toNat_natCast, HCN.out, List.getD_eq_getElem?_getD, hv]; rfl
                  have hvm := List.mem_of_getElem? hv
                  have HOI := Lib.hid hoi; have HNI := Lib.hid hni; have HVM := Lib.hid hvm; clear hv hoi hni hvm
                  by_cases heq : full v = full oi
                  · have hb1 : ((full v).toList == (full oi).toList) = true := by rw [heq]; simp
                    have HEQ := Lib.hid heq; clear heq hcv
                    go_wp2_with (fail)
                    refine (read_ok b dc i 20 okc H9.r2).mono ?_
                    rw [hri]
                    rintro e w10 ⟨rfl, H10⟩
                    have hp9 := H10.r3.cell i (arr_get HOI.out)
                    have hp11 := H10.r2.cell i (arr_get HNI.out)
                    go_wp2_with (fail)
                    refine (full_ok oi (by omega) H10).mono ?_
                    rintro e w11 ⟨rfl, H11⟩
                    have hp11' := H11.r2.cell i (arr_get HNI.out)
                    clear hri
                    go_wp2_with (fail)
                    go_roundw
                    case rel => exact ⟨i + 1, by omega, by go_num, H11.r2⟩
                    case measure => simp [intOf]; omega
                  · have hb1 : ((full v).toList == (full oi).toList) = false := by
                      rw [beq_eq_false_iff_ne, ByteArray.toList_eq, ByteArray.toList_eq]
                      exact fun he => heq (bl_inj he)
                    have hvn : v = ni := by
                      rcases hcv with h | h
                      · rw [HOI.out] at h; injection h with h; exact absurd (by rw [h]) heq
                      · rw [HNI.out] at h; injection h with h; exact h.symm
                    subst hvn
                    have hnis : v.size ≤ 256 := okc.las v HVM.out
                    have HEQ := Lib.hid heq; clear heq hcv
                    go_wp2_with (fail)
                    refine (read_ok b dc i 20 okc H9.r2).mono ?_
                    rw [hri]
                    rintro e w10 ⟨rfl, H10⟩
                    have hp9 := H10.r3.cell i (arr_get HOI.out)
                    have hp11 := H10.r2.cell i (arr_get HNI.out)
                    go_wp2_with (fail)
                    refine (full_ok oi (by omega) H10).mono ?_
                    rintro e w11 ⟨rfl, H11⟩
                    have hp11' := H11.r2.cell i (arr_get HNI.out)
                    clear hri
                    go_wp2_with (fail)
                    refine (full_ok v (by omega) H11).mono ?_
                    rintro e w12 ⟨rfl, H12⟩
                    go_wp2_with (fail)
                    go_roundw
                    case rel => exact ⟨i + 1, by omega, by go_num, H12.r2⟩
                    case measure => simp [intOf]; omega
                · obtain rfl : i = 8 := by omega
                  go_wp2_with (fail)
                  go_ret
                  exact ⟨rfl, H9.below⟩
            · have h1I : decide ((k : Int) < n2) = false := decide_eq_false (by omega)
              have h1N : decide (k < n2) = false := decide_eq_false h1
              as_aux_lemma =>
              clear hlt
              go_wp2_with (fail)
              refine HCR.out.mono ?_
              rintro e w9 ⟨rfl, H9⟩
              go_wp2_with (fail)
              go_loopw [13] (fun i wr => ∃ i' : Nat, i' ≤ 8 ∧ i = .int .i64 i' ∧ St w wr [Pt b11 (strs NW).toArray 28, Dsk b dc, Pt b9 (strs O).toArray 28]) (fun i _ => 8 - (intOf i).toNat)
              case atStart => exact ⟨0, Nat.zero_le _, rfl, H9.r2⟩
              case round =>
                clear H5 H9
                obtain ⟨i, hi, rfl, H9⟩ := hrel
                by_cases hlt3 : i < 8
                · have hiI : (i : Int) < 8 := by omega
                  obtain ⟨v, hv⟩ : ∃ v, dc.las[i]? = some v := ⟨_, List.getElem?_eq_getElem (by rw [HCL.out]; exact hlt3)⟩
                  obtain ⟨oi, hoi⟩ : ∃ v, O[i]? = some v := ⟨_, List.getElem?_eq_getElem (by rw [HOL.out]; exact hlt3)⟩
                  obtain ⟨ni, hni⟩ : ∃ v, NW[i]? = some v := ⟨_, List.getElem?_eq_getElem (by rw [HNL.out]; exact hlt3)⟩
                  have hos := HOS.out oi (List.mem_of_getElem? hoi)
                  have hcv := HCAS.out i v hv
                  have hri : dc.read i = (full v, 0) := by
                    unfold DS.read
                    rw [if_neg (by rw [HCL.out]; omega), if_neg (by rw [HCO.out]; decide), Int.toNat_natCast, HCN.out, List.getD_eq_getElem?_getD, hv]; rfl
                  have hvm := List.mem_of_getElem? hv
                  have HOI := Lib.hid hoi; have HNI := Lib.hid hni; have HVM := Lib.hid hvm; clear hv hoi hni hvm
                  by_cases heq : full v = full oi
                  · have hb1 : ((full v).toList == (full oi).toList) = true := by rw [heq]; simp
                    have HEQ := Lib.hid heq; clear heq hcv
                    go_wp2_with (fail)
                    refine (read_ok b dc i 20 okc H9.r2).mono ?_
                    rw [hri]
                    rintro e w10 ⟨rfl, H10⟩
                    have hp9 := H10.r3.cell i (arr_get HOI.out)
                    have hp11 := H10.r2.cell i (arr_get HNI.out)
                    go_wp2_with (fail)
                    refine (full_ok oi (by omega) H10).mono ?_
                    rintro e w11 ⟨rfl, H11⟩
                    have hp11' := H11.r2.cell i (arr_get HNI.out)
                    clear hri
                    go_wp2_with (fail)
                    go_roundw
                    case rel => exact ⟨i + 1, by omega, by go_num, H11.r2⟩
                    case measure => simp [intOf]; omega
                  · have hb1 : ((full v).toList == (full oi).toList) = false := by
                      rw [beq_eq_false_iff_ne, ByteArray.toList_eq, ByteArray.toList_eq]
                      exact fun he => heq (bl_inj he)
                    have hvn : v = ni := by
                      rcases hcv with h | h
                      · rw [HOI.out] at h; injection h with h; exact absurd (by rw [h]) heq
                      · rw [HNI.out] at h; injection h with h; exact h.symm
                    subst hvn
                    have hnis : v.size ≤ 256 := okc.las v HVM.out
                    have HEQ := Lib.hid heq; clear heq hcv
                    go_wp2_with (fail)
                    refine (read_ok b dc i 20 okc H9.r2).mono ?_
                    rw [hri]
                    rintro e w10 ⟨rfl, H10⟩
                    have hp9 := H10.r3.cell i (arr_get HOI.out)
                    have hp11 := H10.r2.cell i (arr_get HNI.out)
                    go_wp2_with (fail)
                    refine (full_ok oi (by omega) H10).mono ?_
                    rintro e w11 ⟨rfl, H11⟩
                    have hp11' := H11.r2.cell i (arr_get HNI.out)
                    clear hri
                    go_wp2_with (fail)
                    refine (full_ok v (by omega) H11).mono ?_
                    rintro e w12 ⟨rfl, H12⟩
                    go_wp2_with (fail)
                    go_roundw
                    case rel => exact ⟨i + 1, by omega, by go_num, H12.r2⟩
                    case measure => simp [intOf]; omega
                · obtain rfl : i = 8 := by omega
                  go_wp2_with (fail)
                  go_ret
                  exact ⟨rfl, H9.below⟩
      · have h1I : decide ((k : Int) < n) = false := decide_eq_false (by omega)
        have h1N : decide (k < n) = false := decide_eq_false h1
        as_aux_lemma =>
        have hfc := flush_ok b d k HD.out.1 (by omega) H5.r2
        rw [calm_flush d HD.out.2.1] at hfc
        have HFC := Lib.hid hfc; clear hfc H1 H2 H3
        go_wp2_with (fail)
        refine HFC.out.mono ?_
        rintro e w5 ⟨rfl, H6⟩
        have okf := HD.out.1.ok_flush
        rw [calm_flush d HD.out.2.1] at okf
        have hcal : Calm d.flushed := HD.out.2.1
        have hlas : d.flushed.las = mixL l (blank 8) k := HD.out.2.2.2
        have hfq : d.flushed.q = [] := rfl
        have hol : (mixL l (blank 8) k).length = 8 := by rw [mixL_length _ _ _ (by rw [HLM.out]; exact hk) hk8']; rfl
        have hos : ∀ s ∈ mixL l (blank 8) k, s.size ≤ 256 := fun s hs => by
          rw [mixL] at hs
          rcases List.mem_append.1 hs with hs | hs
          · obtain ⟨x, _, rfl⟩ := List.mem_map.1 hs; exact cutb_size x
          · have := (List.mem_replicate.1 (List.mem_of_mem_drop hs)).2; rw [this]; exact Nat.zero_le _
        have okf9 := okf.ok_mono (show k + 1 ≤ 9 by omega)
        clear okf HFC
        dsimp only at okf9
        generalize d.flushed = d1 at *
        generalize mixL l (blank 8) k = O at *
        have hsz : (Try.prog.info? 28).map (·.size) = some (strs O).toArray.size := by rw [List.size_toArray, strs_length, hol]; kernel_rfl
        have HD1 := Lib.hid (show d1.ok 9 ∧ Calm d1 ∧ d1.las = O ∧ d1.q = [] from ⟨okf9, hcal, hlas, hfq⟩)
        have HSZ := Lib.hid hsz; have HOL := Lib.hid hol; have HOS := Lib.hid hos; clear hsz hol hos okf9 hcal hlas hfq
        have HZ : St w (w5.alloc (.cells #[.string ByteArray.empty, .string ByteArray.empty, .string ByteArray.empty, .string ByteArray.empty, .string ByteArray.empty, .string ByteArray.empty, .string ByteArray.empty, .string ByteArray.empty] 28)) [Pt w5.heap.size (strs (blank 8)).toArray 28, Dsk b d1, Pt b9 (strs O).toArray 28] := H6.alloc (strs (blank 8)).toArray 28
        go_wp2_with (first | (with_reducible refine hold_store ?_) | ((with_reducible refine wpList_load_st (ty := 28) HZ.r3 ?_ ?_ Try.underlying28 ?_ ?_ ?_); rfl; rfl; rfl; exact HSZ.out))
        unfold Hold
        with_reducible refine wpList_store_st (ty := 28) HZ (strs O).toArray ?_ ?_ ?_ ?_ ?_ ?_ ?_
        rfl
        rfl
        rfl
        (rw [List.size_toArray, strs_length, HOL.out]; rfl)
        (exact HSZ.out)
        (exact List.all_eq_true.2 (strs_one _))
        intro w8 H8
        obtain ⟨b11, hb11⟩ : ∃ x, x = w5.heap.size := ⟨_, rfl⟩
        rw [← hb11] at H8 ⊢
        clear hb11 HZ H6
        go_wp2_with (fail)
        go_loopw [12] (fun i wr => ∃ (k : Nat) (d : DS), k ≤ n2 ∧ k ≤ 8 ∧ i = .int .i64 k ∧ Hid (d.ok (9 + k) ∧ Calm d ∧ d.las = O ∧ ∀ p ∈ d.q, p.1 < k ∧ (mixL l2 O k)[p.1]? = some p.2) ∧ St w wr [Pt b11 (strs (mixL l2 O k)).toArray 28, Dsk b d, Pt b9 (strs O).toArray 28]) (fun i _ => n2 - (intOf i).toNat)
        case atStart => exact ⟨0, d1, Nat.zero_le _, Nat.zero_le _, rfl, Lib.hid ⟨HD1.out.1, HD1.out.2.1, HD1.out.2.2.1, fun p hp => by rw [HD1.out.2.2.2] at hp; cases hp⟩, by rw [mixL_zero]; exact H8⟩
        clear HD
        case round =>
          clear hlt hk hk8' HD1
          obtain ⟨k, d, hk, hk8', rfl, HD, H5⟩ := hrel
          by_cases hlt : k < n2 ∧ k < 8
          · obtain ⟨h1, h2⟩ := hlt
            have hk8 : k < 8 := h2
            have h1I : (k : Int) < n2 := by omega
            have h2I : (k : Int) < 8 := by omega
            obtain ⟨x, hx⟩ : ∃ x, l2[k]? = some x := ⟨_, List.getElem?_eq_getElem (by rw [HLM2.out]; exact h1)⟩
            obtain ⟨bq, o, hA, hcell⟩ := src_cell HRD2.out hx
            have hc0 := hcell _ H5.below
            have hxs := dat_le (List.mem_of_getElem? hx) HSM2.out
            subst hA
            have hmn : min (x.size : Int) 256 ≤ 256 := Int.min_le_right ..
            have hmn0 : 0 ≤ min (x.size : Int) 256 := by omega
            have hmn1 : min (x.size : Int) 256 ≤ x.size := by omega
            obtain ⟨y, hy⟩ : ∃ y, (mixL l2 O k)[k]? = some y := ⟨_, List.getElem?_eq_getElem (by rw [mixL_length _ _ _ (by rw [HLM2.out]; exact hk) (by rw [HOL.out]; exact hk8'), HOL.out]; exact hk8)⟩
            have hnw := mixL_new l2 O k x hx (by rw [HOL.out]; exact hk8)
            have hold := mixL_old l2 O k x hx (by rw [HOL.out]; exact hk8)
            have HX := Lib.hid hx; have HCL := Lib.hid hcell; have HY := Lib.hid hy; have HNW := Lib.hid hnw; have HOLD := Lib.hid hold; clear hcell hx hy hnw hold H8
            go_wp2_with (fail)
            refine wp_region_held_drew (S := fun w' => w'.cell? ⟨bq, o + k, none⟩ = some (.string x)) (by kernel_rfl) (HCL.out _ H5.drew.below) (fun hHeld => ?_)
            have H6 := H5.drew
            generalize wr.drew = w6 at *
            refine rg_take (i := 0) (v := ?_) rfl (by kernel_rfl) (by kernel_rfl) (by kernel_rfl) (fun _ _ _ h => h) (Or.inl ⟨by kernel_rfl, ?_⟩) (by assumption) ?_
            rotate_left 1
            · intro w' hSw
              try dsimp only at hSw
              go_simp
              first | done | with_reducible rfl
            try simp only [Act.put, List.setIfInBounds_toArray, List.set_cons_zero, List.set_cons_succ]
            refine rg_take (i := 1) (v := ?_) rfl (by kernel_rfl) (by kernel_rfl) (by kernel_rfl) (fun _ _ _ h => h) (Or.inl ⟨by kernel_rfl, ?_⟩) (by assumption) ?_
            rotate_left 1
            · intro w' hSw
              try dsimp only at hSw
              go_simp
              first | done | with_reducible rfl
            try simp only [Act.put, List.setIfInBounds_toArray, List.set_cons_zero, List.set_cons_succ]
            refine rg_take (i := 2) (v := ?_) rfl (by kernel_rfl) (by kernel_rfl) (by kernel_rfl) (fun _ _ _ h => h) (Or.inl ⟨by kernel_rfl, ?_⟩) (by assumption) ?_
            rotate_left 1
            · intro w' hSw
              try dsimp only at hSw
              go_simp
              first | done | with_reducible rfl
            try simp only [Act.put, List.setIfInBounds_toArray, List.set_cons_zero, List.set_cons_succ]
            refine rg_take (i := 3) (v := ?_) rfl (by kernel_rfl) (by kernel_rfl) (by kernel_rfl) (fun _ _ _ h => h) (Or.inl ⟨by kernel_rfl, ?_⟩) (by assumption) ?_
            rotate_left 1
            · intro w' hSw
              try dsimp only at hSw
              go_simp
              first | done | with_reducible rfl
            try simp only [Act.put, List.setIfInBounds_toArray, List.set_cons_zero, List.set_cons_succ]
            refine rg_take (i := 4) (v := ?_) rfl (by kernel_rfl) (by kernel_rfl) (by kernel_rfl) (fun _ _ _ h => h) (Or.inl ⟨by kernel_rfl, ?_⟩) (by assumption) ?_
            rotate_left 1
            · intro w' hSw
              try dsimp only at hSw
              go_simp
              first | done | with_reducible rfl
            try simp only [Act.put, List.setIfInBounds_toArray, List.set_cons_zero, List.set_cons_succ]
            refine rg_take (i := 5) (v := ?_) rfl (by kernel_rfl) (by kernel_rfl) (by kernel_rfl) (fun _ _ _ h => h) (Or.inl ⟨by kernel_rfl, ?_⟩) (by assumption) ?_
            rotate_left 1
            · intro w' hSw
              try dsimp only at hSw
              go_simp
              first | done | with_reducible rfl
            try simp only [Act.put, List.setIfInBounds_toArray, List.set_cons_zero, List.set_cons_succ]
            refine rg_take (i := 6) (v := ?_) rfl (by kernel_rfl) (by kernel_rfl) (by kernel_rfl) (fun _ _ _ h => h) (Or.inl ⟨by kernel_rfl, ?_⟩) (by assumption) ?_
            rotate_left 1
            · intro w' hSw
              try dsimp only at hSw
              go_simp
              first | done | with_reducible rfl
            try simp only [Act.put, List.setIfInBounds_toArray, List.set_cons_zero, List.set_cons_succ]
            refine rg_take (i := 7) (v := ?_) rfl (by kernel_rfl) (by kernel_rfl) (by kernel_rfl) (fun _ _ _ h => h) (Or.inl ⟨by kernel_rfl, ?_⟩) (by assumption) ?_
            rotate_left 1
            · intro w' hSw
              try dsimp only at hSw
              go_simp
              first | done | with_reducible rfl
            try simp only [Act.put, List.setIfInBounds_toArray, List.set_cons_zero, List.set_cons_succ]
            refine rg_take (i := 8) (v := ?_) rfl (by kernel_rfl) (by kernel_rfl) (by kernel_rfl) (fun _ _ _ h => h) (Or.inl ⟨by kernel_rfl, ?_⟩) (by assumption) ?_
            rotate_left 1
            · intro w' hSw
              try dsimp only at hSw
              go_simp
              first | done | with_reducible rfl
            try simp only [Act.put, List.setIfInBounds_toArray, List.set_cons_zero, List.set_cons_succ]
            refine rg_take (i := 9) (v := ?_) rfl (by kernel_rfl) (by kernel_rfl) (by kernel_rfl) (fun _ _ _ h => h) (Or.inl ⟨by kernel_rfl, ?_⟩) (by assumption) ?_
            rotate_left 1
            · intro w' hSw
              try dsimp only at hSw
              go_simp
              first | done | with_reducible rfl
            try simp only [Act.put, List.setIfInBounds_toArray, List.set_cons_zero, List.set_cons_succ]
            refine rg_take (i := 10) (v := ?_) rfl (by kernel_rfl) (by kernel_rfl) (by kernel_rfl) (fun _ _ _ h => h) (Or.inl ⟨by kernel_rfl, ?_⟩) (by assumption) ?_
            rotate_left 1
            · intro w' hSw
              try dsimp only at hSw
              go_simp
              first | done | with_reducible rfl
            try simp only [Act.put, List.setIfInBounds_toArray, List.set_cons_zero, List.set_cons_succ]
            refine rg_take (i := 11) (v := ?_) rfl (by kernel_rfl) (by kernel_rfl) (by kernel_rfl) (fun _ _ _ h => h) (Or.inl ⟨by kernel_rfl, ?_⟩) (by assumption) ?_
            rotate_left 1
            · intro w' hSw
              try dsimp only at hSw
              go_simp
              first | done | with_reducible rfl
            try simp only [Act.put, List.setIfInBounds_toArray, List.set_cons_zero, List.set_cons_succ]
            refine rg_take (i := 12) (v := ?_) rfl (by kernel_rfl) (by kernel_rfl) (by kernel_rfl) (fun _ _ _ h => h) (Or.inl ⟨by kernel_rfl, ?_⟩) (by assumption) ?_
            rotate_left 1
            · intro w' hSw
              try dsimp only at hSw
              go_simp
              first | done | with_reducible rfl
            try simp only [Act.put, List.setIfInBounds_toArray, List.set_cons_zero, List.set_cons_succ]
            refine wpAnyH_ready (rs := [13]) (by kernel_rfl) (by simp) ?_
            refine rg_cons rfl (fun K hK => ?_) AllReadyH.nil
            have p3 := H6.cell k (arr_get HY.out)
            have f3 := H6.frozen k
            have H7 := H6.set k (.string (cutb x))
            rw [arr_set, mixL_set _ _ k x HX.out (by rw [HOL.out]; exact hk8)] at H7
            go_simp
            change K _ (w6.setCell ⟨b11, k, none⟩ (.string (cutb x)))
            refine hK.out _ _ (HCL.out _ H7.below) (fun hHeld => ?_)
            clear hK p3 f3
            try simp only [Act.put, List.setIfInBounds_toArray, List.set_cons_zero, List.set_cons_succ]
            refine wpAnyH_done (by kernel_rfl) ?_ _
            have p4 := H7.cell k (arr_get HNW.out)
            generalize w6.setCell ⟨b11, k, none⟩ (.string (cutb x)) = w7 at *
            clear hHeld
            have hwc := write_ok b d k (cutb x) (9 + k) HD.out.1 (by omega) (by have := cutb_size x; omega) H7.r2
            have hll : d.las.length = 8 := by rw [HD.out.2.2.1, HOL.out]
            rw [calm_write d HD.out.2.1 k (cutb x) (by rw [hll]; exact hk8) (cutb_size x)] at hwc
            have HWC := Lib.hid hwc; have HLL := Lib.hid hll; clear hwc hll
            go_wp2_with (fail)
            refine HWC.out.mono ?_
            rintro e w8 ⟨rfl, H8⟩
            go_wp2_with (fail)
            go_roundw
            case rel =>
              have okw := HD.out.1.ok_write k (cutb x)
              rw [calm_write d HD.out.2.1 k (cutb x) (by rw [HLL.out]; exact hk8) (cutb_size x)] at okw
              refine ⟨k + 1, (d.push k (cutb x)).wrote, by omega, by omega, by go_num, Lib.hid ⟨okw, HD.out.2.1, HD.out.2.2.1, fun p hp => ?_⟩, H8.r2⟩
              rcases List.mem_append.1 hp with hp | hp
              · obtain ⟨h3, h4⟩ := HD.out.2.2.2 p hp
                exact ⟨by omega, by rw [HOLD.out _ h3]; exact h4⟩
              · rw [List.mem_singleton] at hp; subst hp
                exact ⟨by dsimp only; omega, HNW.out⟩
            case measure => simp [intOf]; omega
          · have hfin : k < n2 ∨ ¬ k < n2 := by omega
            have hnl : (mixL l2 O k).length = 8 := by rw [mixL_length _ _ _ (by rw [HLM2.out]; exact hk) (by rw [HOL.out]; exact hk8'), HOL.out]
            have hcas : ∀ i s, (d.crash keep).las[i]? = some s → O[i]? = some s ∨ (mixL l2 O k)[i]? = some s := fun i s h => by
              rcases lz_cases _ _ _ _ _ _ h with h | h
              · exact .inl (by rw [← HD.out.2.2.1]; exact h)
              · exact .inr (HD.out.2.2.2 _ h).2
            have okc := (HD.out.1.ok_crash keep).ok_mono (show 9 + k ≤ 20 by omega)
            have hcl : (d.crash keep).las.length = 8 := by
              show (lz _ _ _ _).length = 8
              rw [lz_length, HD.out.2.2.1, HOL.out]
            have hcr := crash_ok b d keep (9 + k) HD.out.1 (by omega) H5.r2
            have hcn : (d.crash keep).now = (d.crash keep).las := DS.now_nil _ rfl
            have hco : (d.crash keep).off = false := rfl
            generalize d.crash keep = dc at *
            generalize mixL l2 O k = NW at *
            have HNL := Lib.hid hnl; have HCAS := Lib.hid hcas; have HCR := Lib.hid hcr; have HCN := Lib.hid hcn; have HCL := Lib.hid hcl; have HCO := Lib.hid hco; clear hnl hcas hcr hcn hcl hco H8
            rcases hfin with h1 | h1
            · have h1I : (k : Int) < n2 := by omega
              have h2I : decide ((k : Int) < 8) = false := decide_eq_false (by omega)
              as_aux_lemma =>
              clear hlt
              go_wp2_with (fail)
              refine HCR.out.mono ?_
              rintro e w9 ⟨rfl, H9⟩
              go_wp2_with (fail)
              go_loopw [13] (fun i wr => ∃ i' : Nat, i' ≤ 8 ∧ i = .int .i64 i' ∧ St w wr [Pt b11 (strs NW).toArray 28, Dsk b dc, Pt b9 (strs O).toArray 28]) (fun i _ => 8 - (intOf i).toNat)
              case atStart => exact ⟨0, Nat.zero_le _, rfl, H9.r2⟩
              case round =>
                clear H5 H9
                obtain ⟨i, hi, rfl, H9⟩ := hrel
                by_cases hlt3 : i < 8
                · have hiI : (i : Int) < 8 := by omega
                  obtain ⟨v, hv⟩ : ∃ v, dc.las[i]? = some v := ⟨_, List.getElem?_eq_getElem (by rw [HCL.out]; exact hlt3)⟩
                  obtain ⟨oi, hoi⟩ : ∃ v, O[i]? = some v := ⟨_, List.getElem?_eq_getElem (by rw [HOL.out]; exact hlt3)⟩
                  obtain ⟨ni, hni⟩ : ∃ v, NW[i]? = some v := ⟨_, List.getElem?_eq_getElem (by rw [HNL.out]; exact hlt3)⟩
                  have hos := HOS.out oi (List.mem_of_getElem? hoi)
                  have hcv := HCAS.out i v hv
                  have hri : dc.read i = (full v, 0) := by
                    unfold DS.read
                    rw [if_neg (by rw [HCL.out]; omega), if_neg (by rw [HCO.out]; decide), Int.toNat_natCast, HCN.out, List.getD_eq_getElem?_getD, hv]; rfl
                  have hvm := List.mem_of_getElem? hv
                  have HOI := Lib.hid hoi; have HNI := Lib.hid hni; have HVM := Lib.hid hvm; clear hv hoi hni hvm
                  by_cases heq : full v = full oi
                  · have hb1 : ((full v).toList == (full oi).toList) = true := by rw [heq]; simp
                    have HEQ := Lib.hid heq; clear heq hcv
                    go_wp2_with (fail)
                    refine (read_ok b dc i 20 okc H9.r2).mono ?_
                    rw [hri]
                    rintro e w10 ⟨rfl, H10⟩
                    have hp9 := H10.r3.cell i (arr_get HOI.out)
                    have hp11 := H10.r2.cell i (arr_get HNI.out)
                    go_wp2_with (fail)
                    refine (full_ok oi (by omega) H10).mono ?_
                    rintro e w11 ⟨rfl, H11⟩
                    have hp11' := H11.r2.cell i (arr_get HNI.out)
                    clear hri
                    go_wp2_with (fail)
                    go_roundw
                    case rel => exact ⟨i + 1, by omega, by go_num, H11.r2⟩
                    case measure => simp [intOf]; omega
                  · have hb1 : ((full v).toList == (full oi).toList) = false := by
                      rw [beq_eq_false_iff_ne, ByteArray.toList_eq, ByteArray.toList_eq]
                      exact fun he => heq (bl_inj he)
                    have hvn : v = ni := by
                      rcases hcv with h | h
                      · rw [HOI.out] at h; injection h with h; exact absurd (by rw [h]) heq
                      · rw [HNI.out] at h; injection h with h; exact h.symm
                    subst hvn
                    have hnis : v.size ≤ 256 := okc.las v HVM.out
                    have HEQ := Lib.hid heq; clear heq hcv
                    go_wp2_with (fail)
                    refine (read_ok b dc i 20 okc H9.r2).mono ?_
                    rw [hri]
                    rintro e w10 ⟨rfl, H10⟩
                    have hp9 := H10.r3.cell i (arr_get HOI.out)
                    have hp11 := H10.r2.cell i (arr_get HNI.out)
                    go_wp2_with (fail)
                    refine (full_ok oi (by omega) H10).mono ?_
                    rintro e w11 ⟨rfl, H11⟩
                    have hp11' := H11.r2.cell i (arr_get HNI.out)
                    clear hri
                    go_wp2_with (fail)
                    refine (full_ok v (by omega) H11).mono ?_
                    rintro e w12 ⟨rfl, H12⟩
                    go_wp2_with (fail)
                    go_roundw
                    case rel => exact ⟨i + 1, by omega, by go_num, H12.r2⟩
                    case measure => simp [intOf]; omega
                · obtain rfl : i = 8 := by omega
                  go_wp2_with (fail)
                  go_ret
                  exact ⟨rfl, H9.below⟩
            · have h1I : decide ((k : Int) < n2) = false := decide_eq_false (by omega)
              have h1N : decide (k < n2) = false := decide_eq_false h1
              as_aux_lemma =>
              clear hlt
              go_wp2_with (fail)
              refine HCR.out.mono ?_
              rintro e w9 ⟨rfl, H9⟩
              go_wp2_with (fail)
              go_loopw [13] (fun i wr => ∃ i' : Nat, i' ≤ 8 ∧ i = .int .i64 i' ∧ St w wr [Pt b11 (strs NW).toArray 28, Dsk b dc, Pt b9 (strs O).toArray 28]) (fun i _ => 8 - (intOf i).toNat)
              case atStart => exact ⟨0, Nat.zero_le _, rfl, H9.r2⟩
              case round =>
                clear H5 H9
                obtain ⟨i, hi, rfl, H9⟩ := hrel
                by_cases hlt3 : i < 8
                · have hiI : (i : Int) < 8 := by omega
                  obtain ⟨v, hv⟩ : ∃ v, dc.las[i]? = some v := ⟨_, List.getElem?_eq_getElem (by rw [HCL.out]; exact hlt3)⟩
                  obtain ⟨oi, hoi⟩ : ∃ v, O[i]? = some v := ⟨_, List.getElem?_eq_getElem (by rw [HOL.out]; exact hlt3)⟩
                  obtain ⟨ni, hni⟩ : ∃ v, NW[i]? = some v := ⟨_, List.getElem?_eq_getElem (by rw [HNL.out]; exact hlt3)⟩
                  have hos := HOS.out oi (List.mem_of_getElem? hoi)
                  have hcv := HCAS.out i v hv
                  have hri : dc.read i = (full v, 0) := by
                    unfold DS.read
                    rw [if_neg (by rw [HCL.out]; omega), if_neg (by rw [HCO.out]; decide), Int.toNat_natCast, HCN.out, List.getD_eq_getElem?_getD, hv]; rfl
                  have hvm := List.mem_of_getElem? hv
                  have HOI := Lib.hid hoi; have HNI := Lib.hid hni; have HVM := Lib.hid hvm; clear hv hoi hni hvm
                  by_cases heq : full v = full oi
                  · have hb1 : ((full v).toList == (full oi).toList) = true := by rw [heq]; simp
                    have HEQ := Lib.hid heq; clear heq hcv
                    go_wp2_with (fail)
                    refine (read_ok b dc i 20 okc H9.r2).mono ?_
                    rw [hri]
                    rintro e w10 ⟨rfl, H10⟩
                    have hp9 := H10.r3.cell i (arr_get HOI.out)
                    have hp11 := H10.r2.cell i (arr_get HNI.out)
                    go_wp2_with (fail)
                    refine (full_ok oi (by omega) H10).mono ?_
                    rintro e w11 ⟨rfl, H11⟩
                    have hp11' := H11.r2.cell i (arr_get HNI.out)
                    clear hri
                    go_wp2_with (fail)
                    go_roundw
                    case rel => exact ⟨i + 1, by omega, by go_num, H11.r2⟩
                    case measure => simp [intOf]; omega
                  · have hb1 : ((full v).toList == (full oi).toList) = false := by
                      rw [beq_eq_false_iff_ne, ByteArray.toList_eq, ByteArray.toList_eq]
                      exact fun he => heq (bl_inj he)
                    have hvn : v = ni := by
                      rcases hcv with h | h
                      · rw [HOI.out] at h; injection h with h; exact absurd (by rw [h]) heq
                      · rw [HNI.out] at h; injection h with h; exact h.symm
                    subst hvn
                    have hnis : v.size ≤ 256 := okc.las v HVM.out
                    have HEQ := Lib.hid heq; clear heq hcv
                    go_wp2_with (fail)
                    refine (read_ok b dc i 20 okc H9.r2).mono ?_
                    rw [hri]
                    rintro e w10 ⟨rfl, H10⟩
                    have hp9 := H10.r3.cell i (arr_get HOI.out)
                    have hp11 := H10.r2.cell i (arr_get HNI.out)
                    go_wp2_with (fail)
                    refine (full_ok oi (by omega) H10).mono ?_
                    rintro e w11 ⟨rfl, H11⟩
                    have hp11' := H11.r2.cell i (arr_get HNI.out)
                    clear hri
                    go_wp2_with (fail)
                    refine (full_ok v (by omega) H11).mono ?_
                    rintro e w12 ⟨rfl, H12⟩
                    go_wp2_with (fail)
                    go_roundw
                    case rel => exact ⟨i + 1, by omega, by go_num, H12.r2⟩
                    case measure => simp [intOf]; omega
                · obtain rfl : i = 8 := by omega
                  go_wp2_with (fail)
                  go_ret
                  exact ⟨rfl, H9.below⟩
theorem own : ownKnob Try.prog.godebug = none := by kernel_rfl
theorem laidOut : laidOutB Try.prog = true := by kernel_rfl
theorem readable : ∀ t ∈ Try.f3.params.toList, Try.prog.readableRec t = true ∧ t < Try.prog.types.size := by
  intro t ht
  rw [Try.params3] at ht
  simp only [List.mem_cons, List.not_mem_nil, or_false] at ht
  rcases ht with rfl | rfl | rfl
  all_goals exact ⟨by kernel_rfl, of_decide_eq_true (by kernel_rfl)⟩
theorem contract (H : Type) (enc : TypeId × Value → H) (W : World) (base : Nat) (args : Array Value) (ds gs : List (DataW H)) (before : List MemPlace)
    (hval : ∀ (j : Nat) t v, Try.f3.params[j]? = some t → args[j]? = some v → Value.okWide Try.prog W .any base t v)
    (hW : DataW.Whole enc Try.prog Try.f3.params.toList Rows.sectorLastsSpec.vars false W args.toList ds gs before) (hk : Rows.uptoSmall H (ds ++ gs) = true) :
    Calls Try.prog 3 args W fun e W' => ∃ v, e = .returned v ∧ Rows.sectorLastsSpec.post enc Try.prog Try.f3 false true false false W args v W' := by
  have hW' := hW
  obtain ⟨p, q, hA0, hV, rfl, _, _⟩ := hW
  have hA : DataW.TrodAll enc Try.prog W 0 (fun _ => true) true Try.f3.params.toList args.toList ds p := hA0
  rw [Try.params3] at hA hval
  obtain ⟨v0, vs0, d0, ds0, p0, q0, hargs, rfl, rfl, h0, r0⟩ := trodAll_cons hA
  obtain ⟨v1, vs1, d1, ds1, p1, q1, rfl, rfl, rfl, h1, r1⟩ := trodAll_cons r0
  obtain ⟨v2, vs2, d2, ds2, p2, q2, rfl, rfl, rfl, h2, r2⟩ := trodAll_cons r1
  obtain ⟨rfl, rfl, rfl⟩ := trodAll_nil r2
  obtain rfl : args = #[v0, v1, v2] := by cases args; simp_all
  obtain ⟨rfl, rfl⟩ := trodVars_none hV
  clear hA0
  have hk2 : Rows.uptoBulkAll _ ≤ 1048576 := of_decide_eq_true hk
  rw [List.append_nil] at hk2
  obtain ⟨fuel0, hf0⟩ := h0
  obtain ⟨A0, n0, c0, hv0⟩ := okWide_slice Try.underlying22 (hval 0 22 v0 rfl rfl)
  subst hv0
  obtain ⟨A0', n0', c0', rows0, hc0, hn0, hrd0, hrow0, hbulk0⟩ := trod_slice_flat (ks := [.str]) (m := 8) Try.underlying22 (by kernel_rfl) (by kernel_rfl) (by decide) hf0
  dsimp only at hbulk0
  obtain ⟨rfl, rfl, rfl⟩ : A0' = A0 ∧ n0' = n0 ∧ c0' = c0 := by simp [Value.cells] at hc0; simp [hc0]
  obtain ⟨first, rfl, hok0⟩ := rows_map (fun x : ByteArray => [.string x]) (fun x : ByteArray => x.size ≤ maxLen) rows0 (fun row hr => of_row_str row (hrow0 row hr))
  obtain ⟨fuel1, hf1⟩ := h1
  obtain ⟨A1, n1, c1, hv1⟩ := okWide_slice Try.underlying22 (hval 1 22 v1 rfl rfl)
  subst hv1
  obtain ⟨A1', n1', c1', rows1, hc1, hn1, hrd1, hrow1, hbulk1⟩ := trod_slice_flat (ks := [.str]) (m := 8) Try.underlying22 (by kernel_rfl) (by kernel_rfl) (by decide) hf1
  dsimp only at hbulk1
  obtain ⟨rfl, rfl, rfl⟩ : A1' = A1 ∧ n1' = n1 ∧ c1' = c1 := by simp [Value.cells] at hc1; simp [hc1]
  obtain ⟨second, rfl, hok1⟩ := rows_map (fun x : ByteArray => [.string x]) (fun x : ByteArray => x.size ≤ maxLen) rows1 (fun row hr => of_row_str row (hrow1 row hr))
  obtain ⟨keep, rfl, rfl, rfl, wkeep⟩ := open_int Try.underlying3 (hval 2 3 v2 rfl rfl) h2
  refine (walk W A0' n0' c0' first hrd0 (by
    have h1 := len_le_sum (ks := [.str]) _ hrow0 (by decide)
    have h2 := hrd0.1
    simp only [Rows.uptoBulkAll, Rows.uptoBulk] at hk2
    omega) (by
    simp only [Rows.uptoBulkAll, Rows.uptoBulk] at hk2
    omega) hok0 A1' n1' c1' second hrd1 (by
    have h1 := len_le_sum (ks := [.str]) _ hrow1 (by decide)
    have h2 := hrd1.1
    simp only [Rows.uptoBulkAll, Rows.uptoBulk] at hk2
    omega) (by
    simp only [Rows.uptoBulkAll, Rows.uptoBulk] at hk2
    omega) hok1 keep (wf_i64 wkeep)).mono fun e W' ⟨he, hb⟩ => ?_
  exact ⟨_, he, law_post (tb := 4) laidOut readable rfl Try.underlying4 rfl hW' rfl rfl rfl hb⟩
set_option maxRecDepth 100000 in
theorem lifted (os : Os) (started : os.Started) (H : Type) (enc : TypeId × Value → H) (F : Stop.Interp) :
    ReturnsInHanded {} Try.checked os 3 .any ((Rows.OpenSpec.upto Rows.sectorLastsSpec).pre6 enc Try.prog Try.f3 Rows.sectorLastsUptoRow.domain false) (((Rows.OpenSpec.upto Rows.sectorLastsSpec).at F).post enc Try.prog Try.f3 false true false false) := by
  refine returnsInHanded_of_cond (C := Try.checked) (s := Rows.OpenSpec.upto Rows.sectorLastsSpec) (k := Rows.uptoSmall) rfl own started (by kernel_rfl) Try.func3
    (OpenSpec.witness (enc := enc) (C := Try.checked) (s := Rows.OpenSpec.upto Rows.sectorLastsSpec) (k := Rows.uptoSmall) rfl false ⟨#[], #[.slice none 0 0, .slice none 0 0, .int .i64 0], []⟩ 8 (by kernel_rfl) (by kernel_rfl) (by kernel_rfl)
      (x := ([.nil, .nil, .lit (.int .i64 0)], [], [])) (by kernel_rfl) rfl (by kernel_rfl)) ?_
  intro W base args ds gs before hval hW _ hk _
  exact contract H enc W base args ds gs before hval hW hk
theorem proved : Rows.SectorLastsUptoSaid :=
  OpenClaim.holds_of_cond 3 Try.f3 rfl rfl rfl rfl rfl rfl rfl ⟨rfl, rfl, rfl, rfl, rfl⟩ rfl rfl rfl rfl rfl (by kernel_rfl) Try.func3 (by kernel_rfl)
    (of_decide_eq_true (by kernel_rfl)) (by unfold Func.isWrapper; first | (rw [if_pos (by decide +kernel)]; kernel_rfl) | (rw [if_neg (by decide +kernel)]; exact ⟨rfl, rfl⟩))
    (fun os started H enc _ F => lifted os started H enc F)
#print axioms proved

end Go.Proofs.Ytmlknjgcfplnlaa.SectorLasts

/- XdrBack: what was put is taken as it was, and cut short anywhere it is told: of things of bulk at most 1048576. -/
import Derived.Test.YtcmpocabjhlnfaaXdrI
import Derived.Test.YtcmpocabjhlnfaaXdrL
import Derived.Deep.RegionHeld3
import Derived.Deep.DeepCutAuto
namespace Go.Proofs.Ytcmpocabjhlnfaa.XdrBack
open Go.RowKit Go.ChangeShapes Go.WideShapes Go.ChangeAt Go.Proofs.Ytcmpocabjhlnfaa
open Go.ChangeMaps (open_string shut_string)

theorem rd0 (x : Item) (h : x.kind % 5 = 0) (R : List UInt8) (m : Int) : (cutR (x.out ++ R) m).nat 4 = (if (x.out.length : Int) ≤ m then x.n % 4294967296 else 0, cutR R (m - x.out.length)) := by
  rw [show x.out = be x.n 4 by simp [Item.out, h], cutR_nat4, be_length]; rfl
theorem rd1 (x : Item) (h : x.kind % 5 = 1) (hn : -9223372036854775808 ≤ x.n ∧ x.n ≤ 9223372036854775807) (R : List UInt8) (m : Int) : (cutR (x.out ++ R) m).nat 8 = (if (x.out.length : Int) ≤ m then x.n else 0, cutR R (m - x.out.length)) := by
  rw [show x.out = be x.n 8 by simp [Item.out, h], cutR_nat8 _ hn, be_length]; rfl
theorem rd2 (x : Item) (h : x.kind % 5 = 2) (R : List UInt8) (m : Int) : (cutR (x.out ++ R) m).bool = (decide ((x.out.length : Int) ≤ m) && decide (x.n % 2 = 0), cutR R (m - x.out.length)) := by
  rw [show x.out = be (if decide (x.n % 2 = 0) then 1 else 0) 4 by simp [Item.out, h], cutR_bool, be_length]; rfl
theorem rd3 (x : Item) (h : x.kind % 5 = 3) (hs : x.text.size ≤ 1048576) (R : List UInt8) (m : Int) : (cutR (x.out ++ R) m).opqe x.text.size = (if (x.out.length : Int) ≤ m then x.text else ByteArray.empty, cutR R (m - x.out.length)) := by
  rw [show x.out = opaq (bl x.text) by simp [Item.out, h], cutR_opaq _ _ _ _ (by rw [bl_length]; omega) (by rw [bl_length]; omega), mkb_bl]
theorem rd4 (x : Item) (h : x.kind % 5 = 4) (R : List UInt8) (m : Int) : (cutR (x.out ++ R) m).fixed x.text.size = (if (x.out.length : Int) ≤ m then x.text else ByteArray.empty, cutR R (m - x.out.length)) := by
  have e := cutR_fixed (bl x.text) R m
  rw [bl_length] at e
  rw [show x.out = fixed (bl x.text) by simp [Item.out, h], e, mkb_bl]
/-- at a list that is fixed -/
theorem ap {α β : Type} {f g : β → α} (h : ∀ m, f m = g m) : ∀ (_ : List UInt8) (m : β), f m = g m := fun _ m => h m
theorem outs_drop (l : List Item) (k : Nat) (x : Item) (hx : l[k]? = some x) : outs (l.drop k) = x.out ++ outs (l.drop (k + 1)) := by
  obtain ⟨hk, rfl⟩ := List.getElem?_eq_some_iff.1 hx
  unfold outs
  rw [List.drop_eq_getElem_cons hk]; rfl
theorem outs_split (l : List Item) (k : Nat) : (outs (l.take k)).length + (outs (l.drop k)).length = (outs l).length := by
  unfold outs
  rw [← List.length_append, ← List.flatMap_append, List.take_append_drop]
theorem cutR_le (l : List UInt8) (m : Int) : (cutR l m).s.size ≤ l.length := by
  unfold cutR
  split
  · exact Nat.zero_le _
  · show (mkb _).size ≤ _
    rw [mkb_size, List.length_take]; omega

set_option maxRecDepth 100000 in
set_option maxHeartbeats 16000000 in
theorem walk (w : World) (A : Option Addr) (n c : Nat) (l : List Item) (hrd : SlRd w A n 3 (l.map Item.cells)) (hn : n ≤ 1048576) (hsum : sumW (l.map Item.cells) ≤ 1048576) (hok : ∀ x ∈ l, x.ok) (cut : Int) (hcut : -9223372036854775808 ≤ cut ∧ cut ≤ 9223372036854775807) :
    Calls Try.prog 8 #[.slice A n c, .int .i64 cut] w fun r w' => r = .returned (.bool true) ∧ Below w.heap.size w w' := by
  have H0 := St.init w
  have hn0 : l.length = n := by have := hrd.1; simpa using this
  have HN := Lib.hid hn0; have HRD := Lib.hid hrd; have HOK := Lib.hid hok; clear hn0 hrd hok
  go_enter Try.func8, Try.ntmps8
  go_wp2_with (first | (go_at_call 9; refine (speaks_ok H0).mono ?_; rintro x w1 ⟨rfl, H1⟩))
  have H2 := (H1.alloc #[.slice none 0 0] 25).newWr
  obtain ⟨bw, hbw⟩ : ∃ bw, bw = w1.heap.size := ⟨_, rfl⟩
  rw [← hbw] at H2 ⊢
  generalize w1.alloc (.cells #[.slice none 0 0] 25) = w2 at *
  clear H1 hbw
  go_loopw [6] (fun i wr => ∃ k : Nat, k ≤ n ∧ i = .int .i64 k ∧ St w wr [Wr bw one 25 (outs (l.take k))]) (fun i _ => n - (intOf i).toNat)
  case atStart => exact ⟨0, Nat.zero_le _, rfl, H2⟩
  case round =>
    obtain ⟨k, hk, rfl, H5⟩ := hrel
    have hlen := outs_take_len l k hsum
    by_cases hlt : k < n
    · obtain ⟨x, hx⟩ : ∃ x, l[k]? = some x := ⟨_, List.getElem?_eq_getElem (by rw [HN.out]; exact hlt)⟩
      obtain ⟨b, o, hA, hb, hd0, hcell⟩ := SlRd.at HRD.out H5.below (i := k) (row := x.cells) (by rw [List.getElem?_map, hx]; rfl)
      have hxok := HOK.out x (List.mem_of_getElem? hx)
      have hxt := text_le l x (List.mem_of_getElem? hx) hsum
      have hc0 := hd0 _ rfl
      have hc1 := hcell 1 _ rfl
      have hc2 := hcell 2 _ rfl
      have HOT := Lib.hid (outs_take l k x hx)
      subst hA
      clear hcell hd0 hx
      obtain ⟨xk, xn, xt⟩ := x
      obtain ⟨hxk, hxn⟩ := hxok
      dsimp only at *
      have H6 := H5.alloc #[.int .i64 xk, .int .i64 xn, .string xt] 33
      have hm : xk % 5 = 0 ∨ xk % 5 = 1 ∨ xk % 5 = 2 ∨ xk % 5 = 3 ∨ xk % 5 = 4 := by omega
      have hbn : b ≠ wr.heap.size := by have := H5.size; omega
      rcases hm with hm | hm | hm | hm | hm
      all_goals have HM := Lib.hid hm; clear hm
      · have HO : Hid (outs (l.take (k + 1)) = outs (l.take k) ++ be xn 4) := by show _ = _; rw [HOT.out]; simp [Item.out, HM.out]
        go_wp2_with (first | (go_at_call 15; refine (kind_ok _ hxk _).mono ?_; rw [HM.out]; rintro x w5 ⟨rfl, rfl⟩))
        refine (wuint_ok _ _ mk_one _ _ _ (by omega) H6.r2).mono ?_
        rintro x w7 ⟨rfl, H7⟩
        try simp only [reduceIte, Bool.false_eq_true] at H7
        rw [← HO.out] at H7
        go_wp2_with (fail)
        go_roundw
        case rel => exact ⟨k + 1, by omega, by go_num, H7.r2.tail⟩
        case measure => simp [intOf]; omega
      · have HO : Hid (outs (l.take (k + 1)) = outs (l.take k) ++ be xn 8) := by show _ = _; rw [HOT.out]; simp [Item.out, HM.out]
        go_wp2_with (first | (go_at_call 15; refine (kind_ok _ hxk _).mono ?_; rw [HM.out]; rintro x w5 ⟨rfl, rfl⟩))
        refine (whyper_ok _ _ mk_one _ _ _ (by omega) H6.r2).mono ?_
        rintro x w7 ⟨rfl, H7⟩
        try simp only [reduceIte, Bool.false_eq_true] at H7
        rw [← HO.out] at H7
        go_wp2_with (fail)
        go_roundw
        case rel => exact ⟨k + 1, by omega, by go_num, H7.r2.tail⟩
        case measure => simp [intOf]; omega
      · by_cases h2 : xn % 2 = 0
        · have ht : (xn.tmod 2 == 0) = true := by rw [tmod2]; simpa using h2
          have HT2 := Lib.hid h2; clear h2
          have HO : Hid (outs (l.take (k + 1)) = outs (l.take k) ++ be 1 4) := by show _ = _; rw [HOT.out]; simp [Item.out, HM.out, HT2.out]
          go_wp2_with (first | (go_at_call 15; refine (kind_ok _ hxk _).mono ?_; rw [HM.out]; rintro x w5 ⟨rfl, rfl⟩))
          refine (wbool_ok _ _ mk_one _ _ true (by omega) H6.r2).mono ?_
          rintro x w7 ⟨rfl, H7⟩
          try simp only [reduceIte, Bool.false_eq_true] at H7
          rw [← HO.out] at H7
          go_wp2_with (fail)
          go_roundw
          case rel => exact ⟨k + 1, by omega, by go_num, H7.r2.tail⟩
          case measure => simp [intOf]; omega
        · have ht : (xn.tmod 2 == 0) = false := by rw [tmod2]; simpa using h2
          have HT2 := Lib.hid h2; clear h2
          have HO : Hid (outs (l.take (k + 1)) = outs (l.take k) ++ be 0 4) := by show _ = _; rw [HOT.out]; simp [Item.out, HM.out, HT2.out]
          go_wp2_with (first | (go_at_call 15; refine (kind_ok _ hxk _).mono ?_; rw [HM.out]; rintro x w5 ⟨rfl, rfl⟩))
          refine (wbool_ok _ _ mk_one _ _ false (by omega) H6.r2).mono ?_
          rintro x w7 ⟨rfl, H7⟩
          try simp only [reduceIte, Bool.false_eq_true] at H7
          rw [← HO.out] at H7
          go_wp2_with (fail)
          go_roundw
          case rel => exact ⟨k + 1, by omega, by go_num, H7.r2.tail⟩
          case measure => simp [intOf]; omega
      · have HO : Hid (outs (l.take (k + 1)) = outs (l.take k) ++ opaq (bl xt)) := by show _ = _; rw [HOT.out]; simp [Item.out, HM.out]
        go_wp2_with (first | (go_at_call 15; refine (kind_ok _ hxk _).mono ?_; rw [HM.out]; rintro x w5 ⟨rfl, rfl⟩))
        refine (wopaque_ok _ _ mk_one _ _ _ (by omega) (by omega) H6.r2).mono ?_
        rintro x w7 ⟨rfl, H7⟩
        try simp only [reduceIte, Bool.false_eq_true] at H7
        rw [← HO.out] at H7
        go_wp2_with (fail)
        go_roundw
        case rel => exact ⟨k + 1, by omega, by go_num, H7.r2.tail⟩
        case measure => simp [intOf]; omega
      · have HO : Hid (outs (l.take (k + 1)) = outs (l.take k) ++ fixed (bl xt)) := by show _ = _; rw [HOT.out]; simp [Item.out, HM.out]
        go_wp2_with (first | (go_at_call 15; refine (kind_ok _ hxk _).mono ?_; rw [HM.out]; rintro x w5 ⟨rfl, rfl⟩))
        refine (wfixed_ok _ _ mk_one _ _ _ (by omega) (by omega) H6.r2).mono ?_
        rintro x w7 ⟨rfl, H7⟩
        try simp only [reduceIte, Bool.false_eq_true] at H7
        rw [← HO.out] at H7
        go_wp2_with (fail)
        go_roundw
        case rel => exact ⟨k + 1, by omega, by go_num, H7.r2.tail⟩
        case measure => simp [intOf]; omega
    · obtain rfl : n = k := by omega
      have ht : l.take n = l := List.take_of_length_le (by rw [HN.out]; exact Nat.le_refl _)
      rw [ht] at H5 hlen
      obtain ⟨S, hS⟩ : ∃ S, S = mkb (outs l) := ⟨_, rfl⟩
      have hS4 := (outs_len l).1
      have hSz : S.size = (outs l).length := by rw [hS, mkb_size]
      rw [← hSz] at hS4 hlen
      have hm4 : ((S.size : Int) % 4 != 0) = false := by simp; omega
      have HSE := Lib.hid hS; have HSZ := Lib.hid hSz; have HM4 := Lib.hid hS4
      clear hS hSz ht hlt hS4
      have hsr : (⟨S, 0⟩ : RS) = cutR (outs l) (S.size : Int) := by rw [cutR_all _ _ (by rw [← HSZ.out]; exact Int.le_refl _), ← HSE.out]
      have HSR := Lib.hid hsr; clear hsr
      go_upto_region 21 with (first | (go_at_call 14; refine (bytes_ok _ _ mk_one _ _ H5).mono ?_; rw [← HSE.out]; rintro x w2 ⟨rfl, rfl⟩))
      go_cut [66] (fun s wx => ∃ t : Bool, s = .bool t ∧ (t = false → 0 ≤ cut ∧ cut ≤ S.size) ∧ St w wx [Wr bw one 25 (outs l)])
      case first =>
        by_cases hc0 : cut < 0
        · go_wp2_with (fail)
          go_meet
          exact ⟨true, rfl, (fun h => by cases h), H5⟩
        · have hd0 : decide (cut < 0) = false := decide_eq_false hc0
          by_cases hc1 : cut > S.size
          · have hd1 : decide (cut > S.size) = true := decide_eq_true hc1
            go_wp2_with (fail)
            go_meet
            exact ⟨true, rfl, (fun h => by cases h), H5⟩
          · have hd1 : decide (cut > S.size) = false := decide_eq_false hc1
            go_wp2_with (fail)
            go_meet
            exact ⟨false, rfl, fun h => ⟨by omega, by omega⟩, H5⟩
      case rest =>
      obtain ⟨t, rfl, hcq, H3'⟩ := hcut
      have HCQ := Lib.hid hcq; clear hcq H5
      go_upto_if 66 with (fail)
      go_cut [1] (fun s wx => ∃ q : Nat, q ≤ S.size ∧ s = .int .i64 q ∧ St w wx [Wr bw one 25 (outs l)])
      case first =>
        cases t
        · obtain ⟨hc1, hc2⟩ := HCQ.out rfl
          obtain ⟨q, rfl⟩ : ∃ q : Nat, cut = (q : Int) := ⟨cut.toNat, by omega⟩
          go_wp2_with (fail)
          go_meet
          exact ⟨q, by omega, rfl, H3'⟩
        · go_wp2_with (fail)
          go_meet
          exact ⟨S.size, Nat.le_refl _, rfl, H3'⟩
      case rest =>
        obtain ⟨q, hq, rfl, H3⟩ := hcut
        have hsq : (⟨S.extract 0 q, 0⟩ : RS) = cutR (outs l) (q : Int) := by rw [cutR_pos _ _ (by omega), HSE.out, mkb_extract, List.drop_zero, Nat.sub_zero, Int.toNat_natCast]
        have HSQ := Lib.hid hsq; clear hsq
        go_wp2_with (fail)
        go_region_held3 (fun _ => True) (trivial) (first | (go_at_call 21; refine (open_ok S H3.drew).mono ?_; rintro x w4 ⟨rb, rfl, H4⟩) | (go_at_call 21; refine (open_ok (S.extract 0 q) H4).mono ?_; rintro x w5 ⟨tb, rfl, H5⟩))
        rw [HSQ.out] at H5
        try rw [HSR.out] at H5
        have H6 := H5.r3.tail
        clear H3 H4 H5
        go_wp2_with (fail)
        go_loopw [11] (fun i wr => ∃ k : Nat, k ≤ n ∧ i = .int .i64 k ∧ St w wr [Rdr tb (cutR (outs (l.drop k)) (((q : Nat) : Int) - ((outs (l.take k)).length : Nat))), Rdr rb (cutR (outs (l.drop k)) ((S.size : Int) - ((outs (l.take k)).length : Nat)))]) (fun i _ => n - (intOf i).toNat)
        case atStart => exact ⟨0, Nat.zero_le _, rfl, by simpa [outs] using H6⟩
        case round =>
          obtain ⟨k, hk, rfl, H5⟩ := hrel
          have hL := outs_split l k
          rw [← HSZ.out] at hL
          by_cases hlt : k < n
          · obtain ⟨x, hx⟩ : ∃ x, l[k]? = some x := ⟨_, List.getElem?_eq_getElem (by rw [HN.out]; exact hlt)⟩
            obtain ⟨b, o, hA, hb, hd0, hcell⟩ := SlRd.at HRD.out H5.below (i := k) (row := x.cells) (by rw [List.getElem?_map, hx]; rfl)
            have hxok := HOK.out x (List.mem_of_getElem? hx)
            have hxt := text_le l x (List.mem_of_getElem? hx) hsum
            have hc0 := hd0 _ rfl
            have hc1 := hcell 1 _ rfl
            have hc2 := hcell 2 _ rfl
            have hD : (outs (l.take (k + 1))).length = (outs (l.take k)).length + x.out.length := by rw [outs_take l k x hx, List.length_append]
            rw [outs_drop l k x hx] at H5 hL
            have z1 := cutR_le (x.out ++ outs (l.drop (k + 1))) ((S.size : Int) - ((outs (l.take k)).length : Nat))
            have z2 := cutR_le (x.out ++ outs (l.drop (k + 1))) (((q : Nat) : Int) - ((outs (l.take k)).length : Nat))
            rw [List.length_append] at hL z1 z2
            replace z1 := Nat.le_trans z1 (show _ ≤ 4194304 by omega)
            replace z2 := Nat.le_trans z2 (show _ ≤ 4194304 by omega)
            subst hA
            clear hcell hd0 hx
            obtain ⟨R, hR⟩ : ∃ R, outs (l.drop (k + 1)) = R := ⟨_, rfl⟩
            obtain ⟨D, hDD⟩ : ∃ D, (outs (l.take (k + 1))).length = D := ⟨_, rfl⟩
            rw [hR] at H5 hL z1 z2
            rw [hDD] at hD
            have HR := Lib.hid hR; have HDD := Lib.hid hDD; clear hR hDD
            generalize (outs (l.take k)).length = C at *
            obtain ⟨xk, xn, xt⟩ := x
            obtain ⟨hxk, hxn⟩ := hxok
            dsimp only at *
            have H6 := H5.alloc #[.int .i64 xk, .int .i64 xn, .string xt] 33
            have hm : xk % 5 = 0 ∨ xk % 5 = 1 ∨ xk % 5 = 2 ∨ xk % 5 = 3 ∨ xk % 5 = 4 := by omega
            have hbn : b ≠ wr.heap.size := by have := H5.size; omega
            rcases hm with hm | hm | hm | hm | hm
            all_goals have HM := Lib.hid hm; clear hm
            · have a1 : bits .and .i64 xn 4294967295 = xn % 4294967296 := i64_and_mask xn 32 (by decide)
              have e1 : (cutR (Item.out ⟨xk, xn, xt⟩ ++ R) ((S.size : Int) - C)).nat 4 = (xn % 4294967296, cutR R ((S.size : Int) - D)) := by
                rw [show (S.size : Int) - D = (S.size : Int) - C - (Item.out ⟨xk, xn, xt⟩).length by omega]
                exact (rd0 ⟨xk, xn, xt⟩ HM.out R ((S.size : Int) - C)).trans (by rw [if_pos (show ((Item.out ⟨xk, xn, xt⟩).length : Int) ≤ (S.size : Int) - C by omega)])
              have e2 : ((cutR (Item.out ⟨xk, xn, xt⟩ ++ R) (((q : Nat) : Int) - C)).nat 4).2 = cutR R (((q : Nat) : Int) - D) := by
                rw [show ((q : Nat) : Int) - D = ((q : Nat) : Int) - C - (Item.out ⟨xk, xn, xt⟩).length by omega]
                rw [rd0 ⟨xk, xn, xt⟩ HM.out R (((q : Nat) : Int) - C)]
              have E1 := Lib.hid e1; have E2 := Lib.hid e2; clear e1 e2
              have HD' := Lib.hid hD; have HL' := Lib.hid hL; clear hD hL
              go_wp2_with (first | (go_at_call 15; refine (kind_ok _ hxk _).mono ?_; rw [HM.out]; rintro x w5 ⟨rfl, rfl⟩))
              obtain ⟨bx, hbx⟩ : ∃ bx, bx = wr.heap.size := ⟨_, rfl⟩
              rw [← hbx] at H6 hbn ⊢
              generalize wr.alloc (.cells #[.int .i64 xk, .int .i64 xn, .string xt] 33) = w5 at *
              have c1 := H6.cell 1 rfl
              clear hc0 hc1 hc2 hbx
              go_region_held3 (fun w' => w'.cell? ⟨bx, 1, none⟩ = some (.int .i64 xn)) (first | exact c1 | exact H7.r2.cell 1 rfl)  (first | (go_at_call 25; refine (uint_ok _ _ (by omega) H6.drew.r3).mono ?_; rw [E1.out]; rintro x w7 ⟨rfl, H7⟩))
              clear c1
              have c2 := H7.r2.cell 2 rfl
              go_wp2_with (first | (go_at_call 25; refine (uint_ok _ _ (by omega) H7.r3).mono ?_; rw [E2.out]; rintro x w8 ⟨rfl, H8⟩))
              go_roundw
              case rel => exact ⟨k + 1, by omega, by go_num, by rw [HR.out, HDD.out]; exact H8.r3.tail⟩
              case measure => simp [intOf]; omega
            · have e1 : (cutR (Item.out ⟨xk, xn, xt⟩ ++ R) ((S.size : Int) - C)).nat 8 = (xn, cutR R ((S.size : Int) - D)) := by
                rw [show (S.size : Int) - D = (S.size : Int) - C - (Item.out ⟨xk, xn, xt⟩).length by omega]
                exact (rd1 ⟨xk, xn, xt⟩ HM.out hxn R ((S.size : Int) - C)).trans (by rw [if_pos (show ((Item.out ⟨xk, xn, xt⟩).length : Int) ≤ (S.size : Int) - C by omega)])
              have e2 : ((cutR (Item.out ⟨xk, xn, xt⟩ ++ R) (((q : Nat) : Int) - C)).nat 8).2 = cutR R (((q : Nat) : Int) - D) := by
                rw [show ((q : Nat) : Int) - D = ((q : Nat) : Int) - C - (Item.out ⟨xk, xn, xt⟩).length by omega]
                rw [rd1 ⟨xk, xn, xt⟩ HM.out hxn R (((q : Nat) : Int) - C)]
              have E1 := Lib.hid e1; have E2 := Lib.hid e2; clear e1 e2
              have HD' := Lib.hid hD; have HL' := Lib.hid hL; clear hD hL
              go_wp2_with (first | (go_at_call 15; refine (kind_ok _ hxk _).mono ?_; rw [HM.out]; rintro x w5 ⟨rfl, rfl⟩))
              obtain ⟨bx, hbx⟩ : ∃ bx, bx = wr.heap.size := ⟨_, rfl⟩
              rw [← hbx] at H6 hbn ⊢
              generalize wr.alloc (.cells #[.int .i64 xk, .int .i64 xn, .string xt] 33) = w5 at *
              have c1 := H6.cell 1 rfl
              clear hc0 hc1 hc2 hbx
              go_region_held3 (fun w' => w'.cell? ⟨bx, 1, none⟩ = some (.int .i64 xn)) (first | exact c1 | exact H7.r2.cell 1 rfl)  (first | (go_at_call 26; refine (hyper_ok _ _ (by omega) H6.drew.r3).mono ?_; rw [E1.out]; rintro x w7 ⟨rfl, H7⟩))
              clear c1
              have c2 := H7.r2.cell 2 rfl
              go_wp2_with (first | (go_at_call 26; refine (hyper_ok _ _ (by omega) H7.r3).mono ?_; rw [E2.out]; rintro x w8 ⟨rfl, H8⟩))
              go_roundw
              case rel => exact ⟨k + 1, by omega, by go_num, by rw [HR.out, HDD.out]; exact H8.r3.tail⟩
              case measure => simp [intOf]; omega
            · by_cases h2 : xn % 2 = 0
              · have ht : (xn.tmod 2 == 0) = true := by rw [tmod2]; simpa using h2
                have e0 := fun m => rd2 ⟨xk, xn, xt⟩ HM.out R m
                rw [show decide ((⟨xk, xn, xt⟩ : Item).n % 2 = 0) = true from decide_eq_true h2] at e0
                have e0' : ∀ m, RS.bool (cutR (Item.out ⟨xk, xn, xt⟩ ++ R) m) = (if ((Item.out ⟨xk, xn, xt⟩).length : Int) ≤ m then true else false, cutR R (m - (Item.out ⟨xk, xn, xt⟩).length)) := fun m => by rw [e0, Bool.and_true]; by_cases h : ((Item.out ⟨xk, xn, xt⟩).length : Int) ≤ m <;> simp [h]
                have HT2 := Lib.hid h2; have E0 := Lib.hid e0'; clear h2 e0 e0'
                have e1 : (cutR (Item.out ⟨xk, xn, xt⟩ ++ R) ((S.size : Int) - C)).bool = (true, cutR R ((S.size : Int) - D)) := by
                  rw [show (S.size : Int) - D = (S.size : Int) - C - (Item.out ⟨xk, xn, xt⟩).length by omega]
                  exact (ap E0.out R ((S.size : Int) - C)).trans (by rw [if_pos (show ((Item.out ⟨xk, xn, xt⟩).length : Int) ≤ (S.size : Int) - C by omega)])
                have e2 : ((cutR (Item.out ⟨xk, xn, xt⟩ ++ R) (((q : Nat) : Int) - C)).bool).2 = cutR R (((q : Nat) : Int) - D) := by
                  rw [show ((q : Nat) : Int) - D = ((q : Nat) : Int) - C - (Item.out ⟨xk, xn, xt⟩).length by omega]
                  rw [ap E0.out R (((q : Nat) : Int) - C)]
                have E1 := Lib.hid e1; have E2 := Lib.hid e2; clear e1 e2
                have HD' := Lib.hid hD; have HL' := Lib.hid hL; clear hD hL
                go_wp2_with (first | (go_at_call 15; refine (kind_ok _ hxk _).mono ?_; rw [HM.out]; rintro x w5 ⟨rfl, rfl⟩))
                obtain ⟨bx, hbx⟩ : ∃ bx, bx = wr.heap.size := ⟨_, rfl⟩
                rw [← hbx] at H6 hbn ⊢
                generalize wr.alloc (.cells #[.int .i64 xk, .int .i64 xn, .string xt] 33) = w5 at *
                have c1 := H6.cell 1 rfl
                clear hc0 hc1 hc2 hbx
                go_region_held3 (fun w' => w'.cell? ⟨bx, 1, none⟩ = some (.int .i64 xn)) (first | exact c1 | exact H7.r2.cell 1 rfl)  (first | (go_at_call 22; refine (bool_ok _ _ (by omega) H6.drew.r3).mono ?_; rw [E1.out]; rintro x w7 ⟨rfl, H7⟩))
                clear c1
                have c2 := H7.r2.cell 2 rfl
                go_wp2_with (first | (go_at_call 22; refine (bool_ok _ _ (by omega) H7.r3).mono ?_; rw [E2.out]; rintro x w8 ⟨rfl, H8⟩))
                go_roundw
                case rel => exact ⟨k + 1, by omega, by go_num, by rw [HR.out, HDD.out]; exact H8.r3.tail⟩
                case measure => simp [intOf]; omega
              · have ht : (xn.tmod 2 == 0) = false := by rw [tmod2]; simpa using h2
                have e0 := fun m => rd2 ⟨xk, xn, xt⟩ HM.out R m
                rw [show decide ((⟨xk, xn, xt⟩ : Item).n % 2 = 0) = false from decide_eq_false h2] at e0
                have e0' : ∀ m, RS.bool (cutR (Item.out ⟨xk, xn, xt⟩ ++ R) m) = (if ((Item.out ⟨xk, xn, xt⟩).length : Int) ≤ m then false else false, cutR R (m - (Item.out ⟨xk, xn, xt⟩).length)) := fun m => by rw [e0, Bool.and_false]; by_cases h : ((Item.out ⟨xk, xn, xt⟩).length : Int) ≤ m <;> simp [h]
                have HT2 := Lib.hid h2; have E0 := Lib.hid e0'; clear h2 e0 e0'
                have e1 : (cutR (Item.out ⟨xk, xn, xt⟩ ++ R) ((S.size : Int) - C)).bool = (false, cutR R ((S.size : Int) - D)) := by
                  rw [show (S.size : Int) - D = (S.size : Int) - C - (Item.out ⟨xk, xn, xt⟩).length by omega]
                  exact (ap E0.out R ((S.size : Int) - C)).trans (by rw [if_pos (show ((Item.out ⟨xk, xn, xt⟩).length : Int) ≤ (S.size : Int) - C by omega)])
                have e2 : ((cutR (Item.out ⟨xk, xn, xt⟩ ++ R) (((q : Nat) : Int) - C)).bool).2 = cutR R (((q : Nat) : Int) - D) := by
                  rw [show ((q : Nat) : Int) - D = ((q : Nat) : Int) - C - (Item.out ⟨xk, xn, xt⟩).length by omega]
                  rw [ap E0.out R (((q : Nat) : Int) - C)]
                have E1 := Lib.hid e1; have E2 := Lib.hid e2; clear e1 e2
                have HD' := Lib.hid hD; have HL' := Lib.hid hL; clear hD hL
                go_wp2_with (first | (go_at_call 15; refine (kind_ok _ hxk _).mono ?_; rw [HM.out]; rintro x w5 ⟨rfl, rfl⟩))
                obtain ⟨bx, hbx⟩ : ∃ bx, bx = wr.heap.size := ⟨_, rfl⟩
                rw [← hbx] at H6 hbn ⊢
                generalize wr.alloc (.cells #[.int .i64 xk, .int .i64 xn, .string xt] 33) = w5 at *
                have c1 := H6.cell 1 rfl
                clear hc0 hc1 hc2 hbx
                go_region_held3 (fun w' => w'.cell? ⟨bx, 1, none⟩ = some (.int .i64 xn)) (first | exact c1 | exact H7.r2.cell 1 rfl)  (first | (go_at_call 22; refine (bool_ok _ _ (by omega) H6.drew.r3).mono ?_; rw [E1.out]; rintro x w7 ⟨rfl, H7⟩))
                clear c1
                have c2 := H7.r2.cell 2 rfl
                go_wp2_with (first | (go_at_call 22; refine (bool_ok _ _ (by omega) H7.r3).mono ?_; rw [E2.out]; rintro x w8 ⟨rfl, H8⟩))
                go_roundw
                case rel => exact ⟨k + 1, by omega, by go_num, by rw [HR.out, HDD.out]; exact H8.r3.tail⟩
                case measure => simp [intOf]; omega
            · have e1 : (cutR (Item.out ⟨xk, xn, xt⟩ ++ R) ((S.size : Int) - C)).opqe xt.size = (xt, cutR R ((S.size : Int) - D)) := by
                rw [show (S.size : Int) - D = (S.size : Int) - C - (Item.out ⟨xk, xn, xt⟩).length by omega]
                exact (rd3 ⟨xk, xn, xt⟩ HM.out hxt R ((S.size : Int) - C)).trans (by rw [if_pos (show ((Item.out ⟨xk, xn, xt⟩).length : Int) ≤ (S.size : Int) - C by omega)])
              have e2 : ((cutR (Item.out ⟨xk, xn, xt⟩ ++ R) (((q : Nat) : Int) - C)).opqe xt.size).2 = cutR R (((q : Nat) : Int) - D) := by
                rw [show ((q : Nat) : Int) - D = ((q : Nat) : Int) - C - (Item.out ⟨xk, xn, xt⟩).length by omega]
                rw [rd3 ⟨xk, xn, xt⟩ HM.out hxt R (((q : Nat) : Int) - C)]
              have E1 := Lib.hid e1; have E2 := Lib.hid e2; clear e1 e2
              have HD' := Lib.hid hD; have HL' := Lib.hid hL; clear hD hL
              go_wp2_with (first | (go_at_call 15; refine (kind_ok _ hxk _).mono ?_; rw [HM.out]; rintro x w5 ⟨rfl, rfl⟩))
              obtain ⟨bx, hbx⟩ : ∃ bx, bx = wr.heap.size := ⟨_, rfl⟩
              rw [← hbx] at H6 hbn ⊢
              generalize wr.alloc (.cells #[.int .i64 xk, .int .i64 xn, .string xt] 33) = w5 at *
              have c1 := H6.cell 2 rfl
              clear hc0 hc1 hc2 hbx
              go_region_held3 (fun w' => w'.cell? ⟨bx, 2, none⟩ = some (.string xt)) (first | exact c1 | exact H7.r2.cell 2 rfl)  (first | (go_at_call 24; refine (opaque_ok _ _ xt.size (by omega) H6.drew.r3).mono ?_; rw [E1.out]; rintro x w7 ⟨rfl, H7⟩))
              clear c1
              have c2 := H7.r2.cell 2 rfl
              go_wp2_with (first | (go_at_call 24; refine (opaque_ok _ _ xt.size (by omega) H7.r3).mono ?_; rw [E2.out]; rintro x w8 ⟨rfl, H8⟩))
              go_roundw
              case rel => exact ⟨k + 1, by omega, by go_num, by rw [HR.out, HDD.out]; exact H8.r3.tail⟩
              case measure => simp [intOf]; omega
            · have e1 : (cutR (Item.out ⟨xk, xn, xt⟩ ++ R) ((S.size : Int) - C)).fixed xt.size = (xt, cutR R ((S.size : Int) - D)) := by
                rw [show (S.size : Int) - D = (S.size : Int) - C - (Item.out ⟨xk, xn, xt⟩).length by omega]
                exact (rd4 ⟨xk, xn, xt⟩ HM.out R ((S.size : Int) - C)).trans (by rw [if_pos (show ((Item.out ⟨xk, xn, xt⟩).length : Int) ≤ (S.size : Int) - C by omega)])
              have e2 : ((cutR (Item.out ⟨xk, xn, xt⟩ ++ R) (((q : Nat) : Int) - C)).fixed xt.size).2 = cutR R (((q : Nat) : Int) - D) := by
                rw [show ((q : Nat) : Int) - D = ((q : Nat) : Int) - C - (Item.out ⟨xk, xn, xt⟩).length by omega]
                rw [rd4 ⟨xk, xn, xt⟩ HM.out R (((q : Nat) : Int) - C)]
              have E1 := Lib.hid e1; have E2 := Lib.hid e2; clear e1 e2
              have HD' := Lib.hid hD; have HL' := Lib.hid hL; clear hD hL
              go_wp2_with (first | (go_at_call 15; refine (kind_ok _ hxk _).mono ?_; rw [HM.out]; rintro x w5 ⟨rfl, rfl⟩))
              obtain ⟨bx, hbx⟩ : ∃ bx, bx = wr.heap.size := ⟨_, rfl⟩
              rw [← hbx] at H6 hbn ⊢
              generalize wr.alloc (.cells #[.int .i64 xk, .int .i64 xn, .string xt] 33) = w5 at *
              have c1 := H6.cell 2 rfl
              clear hc0 hc1 hc2 hbx
              go_region_held3 (fun w' => w'.cell? ⟨bx, 2, none⟩ = some (.string xt)) (first | exact c1 | exact H7.r2.cell 2 rfl)  (first | (go_at_call 27; refine (fixed_ok _ _ xt.size (by omega) (by omega) H6.drew.r3).mono ?_; rw [E1.out]; rintro x w7 ⟨rfl, H7⟩))
              clear c1
              have c2 := H7.r2.cell 2 rfl
              go_wp2_with (first | (go_at_call 27; refine (fixed_ok _ _ xt.size (by omega) (by omega) H7.r3).mono ?_; rw [E2.out]; rintro x w8 ⟨rfl, H8⟩))
              go_roundw
              case rel => exact ⟨k + 1, by omega, by go_num, by rw [HR.out, HDD.out]; exact H8.r3.tail⟩
              case measure => simp [intOf]; omega
          · obtain rfl : n = k := by omega
            have hd : l.drop n = [] := List.drop_of_length_le (by rw [HN.out]; exact Nat.le_refl _)
            have ht : l.take n = l := List.take_of_length_le (by rw [HN.out]; exact Nat.le_refl _)
            rw [hd, ht, show outs [] = [] from rfl, ← HSZ.out] at H5
            have f1 : (cutR [] ((S.size : Int) - (S.size : Nat))).fin = 0 := by rw [cutR_fin, if_neg (by omega)]
            have F1 := Lib.hid f1
            clear hd ht hL hlt f1
            by_cases hqs : q < S.size
            · have f2 : (cutR [] (((q : Nat) : Int) - (S.size : Nat))).fin = 5 := by rw [cutR_fin, if_pos (by omega)]
              have hd1 : decide (q < S.size) = true := decide_eq_true hqs
              have hd2 : decide (((q : Nat) : Int) < (S.size : Int)) = true := decide_eq_true (by omega)
              have F2 := Lib.hid f2; clear f2
              go_wp2_with (fail)
              refine (end_ok _ _ H5.r2).mono ?_
              rw [F1.out]
              rintro x w7 ⟨rfl, rfl⟩
              go_wp2_with (fail)
              refine (end_ok _ _ H5).mono ?_
              rw [F2.out]
              rintro x w8 ⟨rfl, rfl⟩
              go_wp2_with (fail)
              go_ret
              exact ⟨rfl, H5.below⟩
            · have f2 : (cutR [] (((q : Nat) : Int) - (S.size : Nat))).fin = 0 := by rw [cutR_fin, if_neg (by omega)]
              have hd1 : decide (q < S.size) = false := decide_eq_false hqs
              have hd2 : decide (((q : Nat) : Int) < (S.size : Int)) = false := decide_eq_false (by omega)
              have F2 := Lib.hid f2; clear f2
              go_wp2_with (fail)
              refine (end_ok _ _ H5.r2).mono ?_
              rw [F1.out]
              rintro x w7 ⟨rfl, rfl⟩
              go_wp2_with (fail)
              refine (end_ok _ _ H5).mono ?_
              rw [F2.out]
              rintro x w8 ⟨rfl, rfl⟩
              go_wp2_with (fail)
              go_ret
              exact ⟨rfl, H5.below⟩
theorem own : ownKnob Try.prog.godebug = none := by kernel_rfl
theorem laidOut : laidOutB Try.prog = true := by kernel_rfl
theorem readable : ∀ t ∈ Try.f8.params.toList, Try.prog.readableRec t = true ∧ t < Try.prog.types.size := by
  intro t ht
  rw [Try.params8] at ht
  simp only [List.mem_cons, List.not_mem_nil, or_false] at ht
  rcases ht with rfl | rfl
  all_goals exact ⟨by kernel_rfl, of_decide_eq_true (by kernel_rfl)⟩
theorem contract (H : Type) (enc : TypeId × Value → H) (W : World) (base : Nat) (args : Array Value) (ds gs : List (DataW H)) (before : List MemPlace)
    (hval : ∀ (j : Nat) t v, Try.f8.params[j]? = some t → args[j]? = some v → Value.okWide Try.prog W .any base t v)
    (hW : DataW.Whole enc Try.prog Try.f8.params.toList Rows.xdrBackSpec.vars false W args.toList ds gs before) (hk : Rows.uptoSmall H (ds ++ gs) = true) :
    Calls Try.prog 8 args W fun e W' => ∃ v, e = .returned v ∧ Rows.xdrBackSpec.post enc Try.prog Try.f8 false true false false W args v W' := by
  have hW' := hW
  obtain ⟨p, q, hA0, hV, rfl, _, _⟩ := hW
  have hA : DataW.TrodAll enc Try.prog W 0 (fun _ => true) true Try.f8.params.toList args.toList ds p := hA0
  rw [Try.params8] at hA hval
  obtain ⟨v0, vs0, d0, ds0, p0, q0, hargs, rfl, rfl, h0, r0⟩ := trodAll_cons hA
  obtain ⟨v1, vs1, d1, ds1, p1, q1, rfl, rfl, rfl, h1, r1⟩ := trodAll_cons r0
  obtain ⟨rfl, rfl, rfl⟩ := trodAll_nil r1
  obtain rfl : args = #[v0, v1] := by cases args; simp_all
  obtain ⟨rfl, rfl⟩ := trodVars_none hV
  clear hA0
  have hk2 : Rows.uptoBulkAll _ ≤ 1048576 := of_decide_eq_true hk
  rw [List.append_nil] at hk2
  obtain ⟨fuel0, hf0⟩ := h0
  obtain ⟨A0, n0, c0, hv0⟩ := okWide_slice Try.underlying30 (hval 0 30 v0 rfl rfl)
  subst hv0
  obtain ⟨A0', n0', c0', rows0, hc0, hn0, hrd0, hrow0, hbulk0⟩ := trod_slice_flat (ks := Item.kinds) (m := 8) Try.underlying30 (by kernel_rfl) (by kernel_rfl) (by decide) hf0
  dsimp only at hbulk0
  obtain ⟨rfl, rfl, rfl⟩ : A0' = A0 ∧ n0' = n0 ∧ c0' = c0 := by simp [Value.cells] at hc0; simp [hc0]
  obtain ⟨l, rfl, hok0⟩ := rows_map Item.cells Item.ok rows0 (fun row hr => Item.of_row row (hrow0 row hr))
  obtain ⟨cut, rfl, rfl, rfl, wcut⟩ := open_int Try.underlying3 (hval 1 3 v1 rfl rfl) h1
  refine (walk W A0' n0' c0' l hrd0 (by
    have h1 := len_le_sum (ks := Item.kinds) _ hrow0 (by decide)
    have h2 := hrd0.1
    simp only [Rows.uptoBulkAll, Rows.uptoBulk] at hk2
    omega) (by
    simp only [Rows.uptoBulkAll, Rows.uptoBulk] at hk2
    omega) hok0 cut (wf_i64 wcut)).mono fun e W' ⟨he, hb⟩ => ?_
  exact ⟨_, he, law_post (tb := 4) laidOut readable rfl Try.underlying4 rfl hW' rfl rfl rfl hb⟩
set_option maxRecDepth 100000 in
theorem lifted (os : Os) (started : os.Started) (H : Type) (enc : TypeId × Value → H) (F : Stop.Interp) :
    ReturnsInHanded {} Try.checked os 8 .any ((Rows.OpenSpec.upto Rows.xdrBackSpec).pre6 enc Try.prog Try.f8 Rows.xdrBackUptoRow.domain false) (((Rows.OpenSpec.upto Rows.xdrBackSpec).at F).post enc Try.prog Try.f8 false true false false) := by
  refine returnsInHanded_of_cond (C := Try.checked) (s := Rows.OpenSpec.upto Rows.xdrBackSpec) (k := Rows.uptoSmall) rfl own started (by kernel_rfl) Try.func8
    (OpenSpec.witness (enc := enc) (C := Try.checked) (s := Rows.OpenSpec.upto Rows.xdrBackSpec) (k := Rows.uptoSmall) rfl false ⟨#[], #[.slice none 0 0, .int .i64 0], []⟩ 8 (by kernel_rfl) (by kernel_rfl) (by kernel_rfl)
      (x := ([.nil, .lit (.int .i64 0)], [], [])) (by kernel_rfl) rfl (by kernel_rfl)) ?_
  intro W base args ds gs before hval hW _ hk _
  exact contract H enc W base args ds gs before hval hW hk
theorem proved : Rows.XdrBackUptoSaid :=
  OpenClaim.holds_of_cond 8 Try.f8 rfl rfl rfl rfl rfl rfl rfl ⟨rfl, rfl, rfl, rfl, rfl⟩ rfl rfl rfl rfl rfl (by kernel_rfl) Try.func8 (by kernel_rfl)
    (of_decide_eq_true (by kernel_rfl)) (by unfold Func.isWrapper; first | (rw [if_pos (by decide +kernel)]; kernel_rfl) | (rw [if_neg (by decide +kernel)]; exact ⟨rfl, rfl⟩))
    (fun os started H enc _ F => lifted os started H enc F)
#print axioms proved

end Go.Proofs.Ytcmpocabjhlnfaa.XdrBack

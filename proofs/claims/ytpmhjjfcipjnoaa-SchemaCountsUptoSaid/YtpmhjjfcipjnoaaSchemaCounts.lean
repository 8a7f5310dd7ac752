/- SchemaCounts: a list is as long as its things are, and four bytes more for each and for its end: of texts of bulk at most 1048576. -/
import Derived.Test.YtpmhjjfcipjnoaaSmY
import Derived.Test.YtpmhjjfcipjnoaaLift
import Derived.Test.YtpmhjjfcipjnoaaLiftC
import Derived.Deep.DeepCutAuto
namespace Go.Proofs.Ytpmhjjfcipjnoaa.SchemaCounts
open Go.RowKit Go.ChangeShapes Go.WideShapes Go.ChangeAt Go.Proofs.Ytpmhjjfcipjnoaa
open Go.ChangeMaps (open_string shut_string)

theorem sum_str {l : List ByteArray} : (l.map fun s => 16 + s.size).sum ≤ 16 * sumW (l.map fun x => [Value.string x]) := by
  induction l with
  | nil => simp
  | cons x r ih =>
    rw [List.map_cons, List.sum_cons, List.map_cons, sumW]
    simp only [wts, wt]
    omega
theorem str_le {l : List ByteArray} {x : ByteArray} (hx : x ∈ l) (h : sumW (l.map fun x => [Value.string x]) ≤ 1048576) : x.size ≤ 1048576 := by
  have h1 : wts [Value.string x] ≤ sumW (l.map fun x => [Value.string x]) := sumW_mem (List.mem_map.2 ⟨x, hx, rfl⟩)
  simp only [wts, wt] at h1
  omega
theorem sum_take (f : ByteArray → Nat) (l : List ByteArray) (k : Nat) : ((l.take k).map f).sum ≤ (l.map f).sum := by
  have := congrArg (fun l => (l.map f).sum) (List.take_append_drop k l)
  rw [List.map_append, List.sum_append] at this
  omega
theorem szs_take {l : List ByteArray} {k : Nat} {x : ByteArray} (h : l[k]? = some x) : szs (l.take (k + 1)) = szs (l.take k) + (8 + (x.size + 3) / 4 * 4) := by
  rw [List.take_add_one, h, szs, szs, List.map_append, List.sum_append]; simp
theorem lng_take {l : List ByteArray} {k : Nat} {x : ByteArray} (n : Nat) (h : l[k]? = some x) : lng n (l.take (k + 1)) = (lng n (l.take k) || decide (n < x.size)) := by
  rw [List.take_add_one, h, lng, lng, List.any_append]; simp
theorem enc_end {w0 w' : World} {F : List Assn} {x : Ending} {b : Bool} {z : Nat} {s : ByteArray} (hs : s.size = z) (h : EncE w0 F (if b = true then .error 4 else if 65536 < z then .error 2 else .ok s) x w') :
    ∃ v e, x = .returned (.tuple #[.string v, .int .i64 e]) ∧ (b = true → e = 4) ∧ (b = false → 65536 < z → e = 2) ∧ (b = false → z ≤ 65536 → e = 0 ∧ v.size = z) ∧ St w0 w' F := by
  cases b with
  | true =>
    rw [if_pos rfl] at h
    exact ⟨_, _, h.1, fun _ => rfl, (fun h => by cases h), (fun h => by cases h), h.2⟩
  | false =>
    rw [if_neg (by decide)] at h
    by_cases hz : 65536 < z
    · rw [if_pos hz] at h
      exact ⟨_, _, h.1, (fun h => by cases h), fun _ _ => rfl, fun _ h' => by omega, h.2⟩
    · rw [if_neg hz] at h
      exact ⟨_, _, h.1, (fun h => by cases h), fun _ h' => absurd h' hz, fun _ _ => ⟨rfl, hs⟩, h.2⟩
theorem szs_le (T : List ByteArray) : szs T ≤ (T.map fun s => 16 + s.size).sum := by
  induction T with
  | nil => simp [szs]
  | cons x r ih =>
    unfold szs at ih ⊢
    rw [List.map_cons, List.sum_cons, List.map_cons, List.sum_cons]; omega
set_option maxRecDepth 100000 in
set_option maxHeartbeats 4000000 in
theorem walk (w : World) (A : Option Addr) (n c : Nat) (l : List ByteArray) (hrd : SlRd w A n 1 (l.map fun x => [.string x])) (hn : n ≤ 1048576) (hsum : sumW (l.map fun x => [.string x]) ≤ 1048576) (_hok : ∀ x ∈ l, x.size ≤ maxLen) (hcap : n ≤ c ∧ c ≤ maxLen)
    (most : Int) (hm : -9223372036854775808 ≤ most ∧ most ≤ 9223372036854775807) :
    Calls Try.prog 7 #[.slice A n c, .int .i64 most] w fun r w' => r = .returned (.bool true) ∧ Below w.heap.size w w' := by
  have H0 := St.init w
  have hln : n = l.length := by have := hrd.1; simpa using this.symm
  have hrs : RdS w A l := fun j x hx => by
    obtain ⟨b, o, h1, h2⟩ := (SlRd.src hrd (Below.refl _ _)).2 j (.string x) (by rw [List.getElem?_map, hx]; rfl)
    exact ⟨b, o, h1, h2⟩
  have hwl : (l.map fun s => 16 + s.size).sum ≤ 16 * 1048576 := Nat.le_trans sum_str (Nat.mul_le_mul_left _ hsum)
  have hall : ∀ x ∈ l, x.size ≤ 1048576 := fun x hx => str_le hx hsum
  have HLN := Lib.hid hln; have HRS := Lib.hid hrs; have HWL := Lib.hid hwl; have HAL := Lib.hid hall
  clear hln hrs hwl hall hrd hsum
  obtain ⟨hc1, hc2⟩ := hcap
  go_enter Try.func7, Try.ntmps7
  go_wp2_with (fail)
  refine (speaks_ok H0).mono ?_
  rintro x w1 ⟨rfl, H1⟩
  clear H0
  go_upto_region 3 with (fail)
  go_cut [19] (fun s wx => ∃ t : Bool, s = .bool t ∧ (t = false → 1 ≤ most ∧ most ≤ 99999) ∧ wx = w1)
  case first =>
    by_cases h1 : most < 1
    · go_wp2_with (fail)
      go_meet
      exact ⟨true, rfl, (fun h => by cases h), rfl⟩
    · by_cases h2 : most > 99999
      · go_wp2_with (fail)
        go_meet
        exact ⟨true, rfl, (fun h => by cases h), rfl⟩
      · go_wp2_with (fail)
        go_meet
        exact ⟨false, rfl, fun _ => ⟨by omega, by omega⟩, rfl⟩
  obtain ⟨t, rfl, hmq, hwc⟩ := hcut
  subst hwc
  have HMQ := Lib.hid hmq; clear hmq
  go_upto_if 19 with (fail)
  go_cut [1] (fun m wx => ∃ mm : Nat, 1 ≤ mm ∧ mm ≤ 99999 ∧ m = .int .i64 mm ∧ wc = wx)
  case first =>
    cases t
    · obtain ⟨m1, m2⟩ := HMQ.out rfl
      obtain ⟨m, rfl⟩ := Int.eq_ofNat_of_zero_le (show 0 ≤ most by omega)
      go_wp2_with (fail)
      go_meet
      exact ⟨m, by omega, by omega, rfl, rfl⟩
    · go_wp2_with (fail)
      go_meet
      exact ⟨9, by omega, by omega, rfl, rfl⟩
  obtain ⟨mm, hm1, hm2, rfl, hw2⟩ := hcut
  subst hw2
  clear hm HMQ
  go_upto_region 5 with (fail)
  go_upto_if 22 with (fail)
  go_cut [0] (fun a wx => ∃ (T : List ByteArray) (k : Nat), Hid (k = T.length) ∧ k ≤ 1000 ∧ Hid (RdS w A T) ∧ Hid ((T.map fun s => 16 + s.size).sum ≤ 16 * 1048576) ∧ Hid (∀ x ∈ T, x.size ≤ 1048576) ∧ a = .slice A k c ∧ wx = wc)
  case first =>
    by_cases h1 : n > 1000
    · have h1I : (n : Int) > 1000 := by omega
      have hk : 1000 = (l.take 1000).length := by have := HLN.out; rw [List.length_take]; omega
      have hw2 : ((l.take 1000).map fun s => 16 + s.size).sum ≤ 16 * 1048576 := Nat.le_trans (sum_take _ l 1000) HWL.out
      have hal : ∀ x ∈ l.take 1000, x.size ≤ 1048576 := fun x hx => HAL.out x (List.mem_of_mem_take hx)
      have hrd : RdS w A (l.take 1000) := HRS.out.firsts 1000
      have HK := Lib.hid hk; have HW2 := Lib.hid hw2; have HAL2 := Lib.hid hal; have HRD := Lib.hid hrd
      clear hk hw2 hal hrd
      have hcI : (1000 : Int) ≤ (c : Int) := by omega
      go_wp2_with (fail)
      go_meet
      exact ⟨l.take 1000, 1000, HK, by omega, HRD, HW2, HAL2, rfl, rfl⟩
    · have h1I : ¬ (n : Int) > 1000 := by omega
      go_wp2_with (fail)
      go_meet
      exact ⟨l, n, HLN, by omega, HRS, HWL, HAL, rfl, rfl⟩
  obtain ⟨T, k, HK, hk, HRT, HWT, HAT, rfl, hwc⟩ := hcut
  subst hwc
  clear HRS HWL HAL HLN hn _hok hc1
  obtain ⟨D, hD⟩ : ∃ D, D = mkb (dbs (dgl 5 mm [])) := ⟨_, rfl⟩
  have hdg := digs_ok mm hm1 hm2 H1
  rw [← hD] at hdg
  have hform : (⟨#[42, 40, 111]⟩ ++ D ++ ⟨#[41]⟩ : ByteArray) = cntF mm := by
    apply bl_inj
    rw [bl_append, bl_append, hD, bl_mkb, cntF, bl_mkb]; rfl
  have hDz : D.size ≤ 9 := by
    have h := (cnt_parse mm hm1 hm2).2
    rw [← hform, ByteArray.size_append, ByteArray.size_append] at h
    omega
  obtain ⟨s, hs, henc⟩ := enc_count mm hm1 hm2 T (by have := HK.out; omega)
  have hfz := (cnt_parse mm hm1 hm2).2
  have he := fun (w' : World) (F : List Assn) (AN : Option Addr) (cN : Nat) (AT : Option Addr) (cT : Nat) (hN : RdI w' AN [(k : Int)]) (hT : RdS w' AT T) (H : St w w' F) => encode_ok (cntF mm) (by omega) AN cN AT cT [(k : Int)] T (by simp) (by have := HK.out; omega) (fun x hx => by have := HAT.out x hx; omega) (by unfold wgt; have := HWT.out; simp only [List.length_singleton]; omega) hN hT H
  rw [HK.out, henc, ← HK.out] at he
  have HDG := Lib.hid hdg; have HF := Lib.hid hform; have HS := Lib.hid hs; have HE := Lib.hid he
  clear hdg hform hs he henc hD hfz
  go_wp2_with (fail)
  refine HDG.out.mono ?_
  rintro x w2 ⟨rfl, H2⟩
  clear HDG
  have hz1 : 3 + D.size ≤ 9223372036854775807 := by omega
  have hz2 : (⟨#[42, 40, 111]⟩ ++ D : ByteArray).size + 1 ≤ 9223372036854775807 := by
    rw [ByteArray.size_append]; show 3 + D.size + 1 ≤ _; omega
  go_upto_region 8 with (fail)
  rw [HF.out]
  clear hz1 hz2 HF hDz
  obtain ⟨i0, hi, hz0, hz1, hz2⟩ := info_parts infoStr
  have H3 := (H2.alloc #[.int .i64 k] 3).alloc #[] 9
  simp only [World.size_alloc] at H3
  have hsrc : Src ((w2.alloc (.cells #[.int .i64 k] 3)).alloc (.cells #[] 9)) A k (svs T) := RdS.src HK.out (HRT.out.keep H3)
  have HSRC := Lib.hid hsrc; clear hsrc
  have H4 := St.emptyRow (size := 1) H3
  clear H3
  go_upto_region 9 with (at_builtin; refine wpList_append_any (by rfl) _ _ _ (by rfl) 9 i0 (.string ByteArray.empty) 1 16 Try.underlying24 hi hz0 hz1 hz2 rfl (by decide) _ 0 0 [] H4 (by rfl) A k c (svs T) (by rfl) (by rw [svs_length, ← HK.out, Nat.mul_one]) HSRC.out (svs_one T) (by unfold maxLen; omega) (by omega) ?_; rw [List.nil_append, Nat.zero_add]; intro A6 c6 w6 H6)
  have hI : RdI w6 (some ⟨w2.heap.size, 0, none⟩) [(k : Int)] := fun j x hx => by
    match j, hx with
    | 0, hx => injection hx with hx; subst hx; exact ⟨_, _, rfl, H6.r2.cell 0 rfl⟩
  have hS : RdS w6 A6 T := RdS.row H6
  obtain ⟨b1, hb1⟩ : ∃ x, x = w2.heap.size := ⟨_, rfl⟩
  rw [← hb1] at hI H6 ⊢
  have H7 := H6.alloc #[.slice (some ⟨b1, 0, none⟩) 1 1, .slice A6 k c6] 26
  obtain ⟨b6, hb6⟩ : ∃ x, x = w6.heap.size := ⟨_, rfl⟩
  rw [← hb6] at H7 ⊢
  have hE := HE.out _ _ (some ⟨b1, 0, none⟩) 1 A6 c6 (hI.keep ((St.init _).more _)) (hS.keep ((St.init _).more _)) H7
  rw [List.length_singleton] at hE
  generalize w6.alloc (.cells #[.slice (some ⟨b1, 0, none⟩) 1 1, .slice A6 k c6] 26) = w7 at *
  clear hI hS hb1 hb6 H6 HE HSRC H4 H2 hi hz0 hz1 hz2
  have p0 := H7.cell 0 rfl
  have p1 := H7.cell 1 rfl
  have HE := Lib.hid hE; clear hE
  go_wp2_with (fail)
  refine HE.out.mono ?_
  intro x w8 hx
  obtain ⟨v, e, rfl, e1, e2, e3, H8⟩ := enc_end HS.out hx
  have H8 := H8.tail.tail.tail
  have E1 := Lib.hid e1; have E2 := Lib.hid e2; have E3 := Lib.hid e3
  clear hx e1 e2 e3 HE p0 p1 H7 HS
  have hzz : 4 + szs T ≤ 16777220 := by have := szs_le T; have := HWT.out; omega
  have HZZ := Lib.hid hzz; clear hzz
  go_upto_region 12 with (fail)
  go_loopw [9, 10, 11] (fun sz lg iv wr => ∃ (j z : Nat) (b : Bool), j ≤ k ∧ Hid (z = 4 + szs (T.take j)) ∧ Hid (b = lng mm (T.take j)) ∧ sz = .int .i64 z ∧ lg = .bool b ∧ iv = .int .i64 j ∧ wr = w8) (fun _ _ iv _ => k - (intOf iv).toNat)
  case atStart => exact ⟨0, 4, false, Nat.zero_le _, rfl, rfl, rfl, rfl, rfl, rfl⟩
  case round =>
    obtain ⟨j, z, b, hj, HZ, HB, rfl, rfl, rfl, rfl⟩ := hrel
    by_cases hlt : j < k
    · obtain ⟨x, hx⟩ : ∃ x, T[j]? = some x := ⟨_, List.getElem?_eq_getElem (by have := HK.out; omega)⟩
      obtain ⟨g, o, rfl, cx⟩ := HRT.out.keep H8 j x hx
      have hxs := HAT.out x (List.mem_of_getElem? hx)
      have hz' : z ≤ 16777220 := by have h1 := HZ.out; have h2 := HZZ.out; have h3 := sum_take (fun x => 8 + (x.size + 3) / 4 * 4) T j; unfold szs at h1 h2; omega
      have hz2 : Hid (z + (8 + (x.size + 3) / 4 * 4) = 4 + szs (T.take (j + 1))) := by show _ = _; rw [szs_take hx, HZ.out]; omega
      have hb2 : Hid ((b || decide (mm < x.size)) = lng mm (T.take (j + 1))) := by show _ = _; rw [lng_take mm hx, HB.out]
      have hltI : (j : Int) < k := by omega
      clear HZ HB HZZ
      cases b with
      | true =>
        rw [Bool.true_or] at hb2
        go_wp2_with (fail)
        exact ⟨⟨j + 1, z + (8 + (x.size + 3) / 4 * 4), true, by omega, hz2, hb2, by congr 1, rfl, by trivial, by first | trivial | rfl⟩, by simp only [intOf]; omega⟩
      | false =>
        rw [Bool.false_or] at hb2
        by_cases hmx : mm < x.size
        · have hmI : (x.size : Int) > mm := by omega
          rw [decide_eq_true hmx] at hb2
          go_wp2_with (fail)
          exact ⟨⟨j + 1, z + (8 + (x.size + 3) / 4 * 4), true, by omega, hz2, hb2, by congr 1, rfl, by trivial, by first | trivial | rfl⟩, by simp only [intOf]; omega⟩
        · have hmI : ¬ (x.size : Int) > mm := by omega
          rw [decide_eq_false hmx] at hb2
          go_wp2_with (fail)
          exact ⟨⟨j + 1, z + (8 + (x.size + 3) / 4 * 4), false, by omega, hz2, hb2, by congr 1, rfl, by trivial, by first | trivial | rfl⟩, by simp only [intOf]; omega⟩
    · obtain rfl : j = k := by omega
      have hltI : ¬ (j : Int) < j := by omega
      have hTt : T.take j = T := List.take_of_length_le (by have := HK.out; omega)
      have hz : z = 4 + szs T := by have := HZ.out; rw [hTt] at this; exact this
      have hb : lng mm T = b := by have := HB.out; rw [hTt] at this; exact this.symm
      have hz' : z ≤ 16777220 := by have h2 := HZZ.out; omega
      have e1 := E1.out; have e2 := E2.out; have e3 := E3.out
      rw [hb, ← hz] at e3
      rw [hb, ← hz] at e2
      rw [hb] at e1
      clear E1 E2 E3 hb hz hTt HZ HB HZZ
      cases b with
      | true =>
        obtain rfl : e = 4 := e1 rfl
        clear e1 e2 e3
        go_wp2_with (fail)
        go_ret
        exact ⟨rfl, H8.below⟩
      | false =>
        by_cases hzz : 65536 < z
        · obtain rfl : e = 2 := e2 rfl hzz
          have hzI : (z : Int) > 65536 := by omega
          clear e1 e2 e3
          go_wp2_with (fail)
          go_ret
          exact ⟨rfl, H8.below⟩
        · obtain ⟨rfl, hv⟩ := e3 rfl (by omega)
          have hzI : ¬ (z : Int) > 65536 := by omega
          have hvI : ((v.size : Int) == z) = true := by rw [hv]; simp
          clear e1 e2 e3 hv
          go_wp2_with (fail)
          go_ret
          exact ⟨rfl, H8.below⟩
theorem own : ownKnob Try.prog.godebug = none := by kernel_rfl
theorem laidOut : laidOutB Try.prog = true := by kernel_rfl
theorem readable : ∀ t ∈ Try.f7.params.toList, Try.prog.readableRec t = true ∧ t < Try.prog.types.size := by
  intro t ht
  rw [Try.params7] at ht
  simp only [List.mem_cons, List.not_mem_nil, or_false] at ht
  rcases ht with rfl | rfl
  all_goals exact ⟨by kernel_rfl, of_decide_eq_true (by kernel_rfl)⟩
set_option maxRecDepth 100000 in
theorem contract (H : Type) (enc : TypeId × Value → H) (W : World) (base : Nat) (args : Array Value) (ds gs : List (DataW H)) (before : List MemPlace)
    (hval : ∀ (j : Nat) t v, Try.f7.params[j]? = some t → args[j]? = some v → Value.okWide Try.prog W .any base t v)
    (hW : DataW.Whole enc Try.prog Try.f7.params.toList Rows.schemaCountsSpec.vars false W args.toList ds gs before) (hk : Rows.uptoSmall H (ds ++ gs) = true) :
    Calls Try.prog 7 args W fun e W' => ∃ v, e = .returned v ∧ Rows.schemaCountsSpec.post enc Try.prog Try.f7 false true false false W args v W' := by
  have hW' := hW
  obtain ⟨p, q, hA0, hV, rfl, _, _⟩ := hW
  have hA : DataW.TrodAll enc Try.prog W 0 (fun _ => true) true Try.f7.params.toList args.toList ds p := hA0
  rw [Try.params7] at hA hval
  obtain ⟨v0, vs0, d0, ds0, p0, q0, hargs, rfl, rfl, h0, r0⟩ := trodAll_cons hA
  obtain ⟨v1, vs1, d1, ds1, p1, q1, rfl, rfl, rfl, h1, r1⟩ := trodAll_cons r0
  obtain ⟨rfl, rfl, rfl⟩ := trodAll_nil r1
  obtain rfl : args = #[v0, v1] := by cases args; simp_all
  obtain ⟨rfl, rfl⟩ := trodVars_none hV
  clear hA0
  have hk2 : Rows.uptoBulkAll _ ≤ 1048576 := of_decide_eq_true hk
  rw [List.append_nil] at hk2
  obtain ⟨fuel0, hf0⟩ := h0
  obtain ⟨A0, n0, c0, hv0⟩ := okWide_slice Try.underlying24 (hval 0 24 v0 rfl rfl)
  subst hv0
  obtain ⟨A0', n0', c0', rows0, hc0, hn0, hrd0, hrow0, hbulk0⟩ := trod_slice_flat (ks := [.str]) (m := 8) Try.underlying24 (by kernel_rfl) (by kernel_rfl) (by decide) hf0
  dsimp only at hbulk0
  obtain ⟨rfl, rfl, rfl⟩ : A0' = A0 ∧ n0' = n0 ∧ c0' = c0 := by simp [Value.cells] at hc0; simp [hc0]
  obtain ⟨l, rfl, hok0⟩ := rows_map (fun x : ByteArray => [.string x]) (fun x : ByteArray => x.size ≤ maxLen) rows0 (fun row hr => of_row_str row (hrow0 row hr))
  obtain ⟨most, rfl, rfl, rfl, wmost⟩ := open_int Try.underlying3 (hval 1 3 v1 rfl rfl) h1
  refine (walk W A0' n0' c0' l hrd0 (by
    have h1 := len_le_sum (ks := [.str]) _ hrow0 (by decide)
    have h2 := hrd0.1
    simp only [Rows.uptoBulkAll, Rows.uptoBulk] at hk2
    omega) (by
    simp only [Rows.uptoBulkAll, Rows.uptoBulk] at hk2
    omega) hok0 (trod_cap Try.underlying24 hf0 _ _ _ hc0) most (wf_i64 wmost)).mono fun e W' ⟨he, hb⟩ => ?_
  exact ⟨_, he, law_post (tb := 4) laidOut readable rfl Try.underlying4 rfl hW' rfl rfl rfl hb⟩
set_option maxRecDepth 100000 in
theorem lifted (os : Os) (started : os.Started) (H : Type) (enc : TypeId × Value → H) (F : Stop.Interp) :
    ReturnsInHanded {} Try.checked os 7 .any ((Rows.OpenSpec.upto Rows.schemaCountsSpec).pre6 enc Try.prog Try.f7 Rows.schemaCountsUptoRow.domain false) (((Rows.OpenSpec.upto Rows.schemaCountsSpec).at F).post enc Try.prog Try.f7 false true false false) := by
  refine returnsInHanded_of_cond (C := Try.checked) (s := Rows.OpenSpec.upto Rows.schemaCountsSpec) (k := Rows.uptoSmall) rfl own started (by kernel_rfl) Try.func7
    (OpenSpec.witness (enc := enc) (C := Try.checked) (s := Rows.OpenSpec.upto Rows.schemaCountsSpec) (k := Rows.uptoSmall) rfl false ⟨#[], #[.slice none 0 0, .int .i64 0], []⟩ 8 (by kernel_rfl) (by kernel_rfl) (by kernel_rfl)
      (x := ([.nil, .lit (.int .i64 0)], [], [])) (by kernel_rfl) rfl (by kernel_rfl)) ?_
  intro W base args ds gs before hval hW _ hk _
  exact contract H enc W base args ds gs before hval hW hk
theorem proved : Rows.SchemaCountsUptoSaid :=
  OpenClaim.holds_of_cond 7 Try.f7 rfl rfl rfl rfl rfl rfl rfl ⟨rfl, rfl, rfl, rfl, rfl⟩ rfl rfl rfl rfl rfl (by kernel_rfl) Try.func7 (by kernel_rfl)
    (of_decide_eq_true (by kernel_rfl)) (by unfold Func.isWrapper; first | (rw [if_pos (by decide +kernel)]; kernel_rfl) | (rw [if_neg (by decide +kernel)]; exact ⟨rfl, rfl⟩))
    (fun os started H enc _ F => lifted os started H enc F)
#print axioms proved

end Go.Proofs.Ytpmhjjfcipjnoaa.SchemaCounts

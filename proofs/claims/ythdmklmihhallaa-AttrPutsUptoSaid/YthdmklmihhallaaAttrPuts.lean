/- AttrPuts: the numbers of every Attr, and back, whatever stands behind them: slices of at most 1048576 numbers. -/
import Derived.Test.YthdmklmihhallaaAtR
import Derived.Test.YthdmklmihhallaaAtE
import Derived.Test.YthdmklmihhallaaInts
import Derived.Test.YthdmklmihhallaaLift
import Derived.Outline
namespace Go.Proofs.Ythdmklmihhallaa.AttrPuts
open Go.RowKit Go.ChangeShapes Go.WideShapes Go.ChangeAt Go.Proofs.Ythdmklmihhallaa

theorem rd_row {w0 w : World} {A : Option Addr} {n c : Nat} {l : List Int} {F : List Assn} (H : St w0 w (Row 3 1 A n c (ivs l) :: F)) : Rd w A l := fun i x hx => by
  have hl := H.row_length
  have hi := (List.getElem?_eq_some_iff.1 hx).1
  rw [ivs_length, Nat.mul_one] at hl
  obtain ⟨g, o, rfl⟩ := H.row_form (by omega)
  exact ⟨g, o, rfl, H.row_cell i (by rw [ivs, List.getElem?_map, hx]; rfl)⟩
theorem rd_pt {w0 w : World} {b : Nat} {T : TypeId} {l : List Int} {F : List Assn} (H : St w0 w (Pt b (ivs l).toArray T :: F)) : Rd w (some ⟨b, 0, none⟩) l := fun i x hx =>
  ⟨b, 0, rfl, by rw [Nat.zero_add]; exact H.cell i (ivs_get l i x hx)⟩
theorem row_cap {w0 w : World} {e : TypeId} {size : Nat} {A : Option Addr} {n c : Nat} {xs : List Value} {L : List Assn} (H : St w0 w (Row e size A n c xs :: L)) : n ≤ c ∧ c ≤ maxLen := by
  rcases H.row_cases with ⟨_, h, h2, _⟩ | ⟨g, o, cur, fr, _, _, _, h1, h2, _⟩
  · rw [h, h2]; exact ⟨Nat.le_refl _, Nat.zero_le _⟩
  · exact ⟨h1, h2⟩
theorem src_rd {w : World} {A : Option Addr} {l : List Int} {n : Nat} (hl : l.length = n) (h : Rd w A l) : Src w A n (ivs l) := .of (by rw [ivs_length, hl]) fun j u hu => by
  rw [ivs, List.getElem?_map] at hu
  obtain ⟨x, hx, rfl⟩ := Option.map_eq_some_iff.1 hu
  exact h j x hx
set_option maxRecDepth 100000 in
set_option maxHeartbeats 8000000 in
theorem walk (w : World) (n0 : Int) (_h0 : -9223372036854775808 ≤ n0 ∧ n0 ≤ 9223372036854775807) (n1 : Int) (_h1 : -9223372036854775808 ≤ n1 ∧ n1 ≤ 9223372036854775807) (n2 : Int) (_h2 : -9223372036854775808 ≤ n2 ∧ n2 ≤ 9223372036854775807) (n3 : Int) (_h3 : -9223372036854775808 ≤ n3 ∧ n3 ≤ 9223372036854775807) (n4 : Int) (_h4 : -9223372036854775808 ≤ n4 ∧ n4 ≤ 9223372036854775807) (n5 : Int) (_h5 : -9223372036854775808 ≤ n5 ∧ n5 ≤ 9223372036854775807) (n6 : Int) (_h6 : -9223372036854775808 ≤ n6 ∧ n6 ≤ 9223372036854775807) (n7 : Int) (_h7 : -9223372036854775808 ≤ n7 ∧ n7 ≤ 9223372036854775807) (n8 : Int) (_h8 : -9223372036854775808 ≤ n8 ∧ n8 ≤ 9223372036854775807) (n9 : Int) (_h9 : -9223372036854775808 ≤ n9 ∧ n9 ≤ 9223372036854775807) (n10 : Int) (_h10 : -9223372036854775808 ≤ n10 ∧ n10 ≤ 9223372036854775807) (n11 : Int) (_h11 : -9223372036854775808 ≤ n11 ∧ n11 ≤ 9223372036854775807) (n12 : Int) (_h12 : -9223372036854775808 ≤ n12 ∧ n12 ≤ 9223372036854775807) (n13 : Int) (_h13 : -9223372036854775808 ≤ n13 ∧ n13 ≤ 9223372036854775807) (n14 : Int) (_h14 : -9223372036854775808 ≤ n14 ∧ n14 ≤ 9223372036854775807) (n15 : Int) (_h15 : -9223372036854775808 ≤ n15 ∧ n15 ≤ 9223372036854775807) (n16 : Int) (_h16 : -9223372036854775808 ≤ n16 ∧ n16 ≤ 9223372036854775807)
    (A : Option Addr) (n c : Nat) (more : List Int) (hrd : SlRd w A n 1 (more.map fun x => [.int .i64 x])) (hn : n ≤ 1048576) (_hsum : sumW (more.map fun x => [.int .i64 x]) ≤ 1048576) (_hok : ∀ x ∈ more, -9223372036854775808 ≤ x ∧ x ≤ 9223372036854775807) :
    Calls Try.prog 5 #[.agg #[.int .i64 n0, .int .i64 n1, .int .i64 n2, .int .i64 n3, .int .i64 n4, .int .i64 n5, .int .i64 n6, .int .i64 n7, .int .i64 n8, .int .i64 n9, .int .i64 n10, .int .i64 n11, .int .i64 n12, .int .i64 n13, .int .i64 n14, .int .i64 n15, .int .i64 n16], .slice A n c] w fun r w' => r = .returned (.bool true) ∧ Below w.heap.size w w' := by
  have H0 := (St.init w).alloc #[.int .i64 n0, .int .i64 n1, .int .i64 n2, .int .i64 n3, .int .i64 n4, .int .i64 n5, .int .i64 n6, .int .i64 n7, .int .i64 n8, .int .i64 n9, .int .i64 n10, .int .i64 n11, .int .i64 n12, .int .i64 n13, .int .i64 n14, .int .i64 n15, .int .i64 n16] 35
  obtain ⟨i0, hi, hz0, hz1, hz2⟩ := info_parts infoInt
  have hlm : more.length = n := by have := hrd.1; simpa using this
  have hrd2 : ∀ w', Below w.heap.size w w' → Rd w' A more := fun w' hb => Rd.of (SlRd.src hrd hb).2
  have HRD := Lib.hid hrd2; have HLM := Lib.hid hlm; clear hrd hlm hrd2
  go_enter Try.func5, Try.ntmps5
  go_wp2_with (first | (with_reducible refine hold_store ?_) | (go_at_call 8; refine (speaks_ok H0).mono ?_; rintro x w1 ⟨rfl, H1⟩; have HZ := H1.alloc (ivs (List.replicate 17 0)).toArray 29; rw [zero_cells] at HZ; have p0 := H1.cell 0 rfl; have p1 := H1.cell 1 rfl; have p2 := H1.cell 2 rfl; have p3 := H1.cell 3 rfl; have p4 := H1.cell 4 rfl; have p5 := H1.cell 5 rfl; have p6 := H1.cell 6 rfl; have p7 := H1.cell 7 rfl; have p8 := H1.cell 8 rfl; have p9 := H1.cell 9 rfl; have p10 := H1.cell 10 rfl; have p11 := H1.cell 11 rfl; have p12 := H1.cell 12 rfl; have p13 := H1.cell 13 rfl; have p14 := H1.cell 14 rfl; have p15 := H1.cell 15 rfl; have p16 := H1.cell 16 rfl))
  unfold Hold
  with_reducible refine wpList_store_st (ty := 29) (HZ) (#[.int .i64 n0, .int .i64 n1, .int .i64 n2, .int .i64 n3, .int .i64 n4, .int .i64 n5, .int .i64 n6, .int .i64 n7, .int .i64 n8, .int .i64 n9, .int .i64 n10, .int .i64 n11, .int .i64 n12, .int .i64 n13, .int .i64 n14, .int .i64 n15, .int .i64 n16]) ?_ ?_ ?_ ?_ ?_ ?_ ?_
  rfl
  rfl
  rfl
  rfl
  kernel_rfl
  rfl
  intro w2 H2
  clear p0 p1 p2 p3 p4 p5 p6 p7 p8 p9 p10 p11 p12 p13 p14 p15 p16 HZ H0
  obtain ⟨bn, hbn⟩ : ∃ b, b = w.heap.size := ⟨_, rfl⟩
  obtain ⟨ba, hba⟩ : ∃ b, b = w1.heap.size := ⟨_, rfl⟩
  rw [← hba] at H2 ⊢
  rw [← hbn] at H2 ⊢
  clear hbn hba H1
  obtain ⟨l, hl⟩ : ∃ l, l = [n0, n1, n2, n3, n4, n5, n6, n7, n8, n9, n10, n11, n12, n13, n14, n15, n16] := ⟨_, rfl⟩
  have hll : l.length = 17 := by rw [hl]; rfl
  have he : (#[.int .i64 n0, .int .i64 n1, .int .i64 n2, .int .i64 n3, .int .i64 n4, .int .i64 n5, .int .i64 n6, .int .i64 n7, .int .i64 n8, .int .i64 n9, .int .i64 n10, .int .i64 n11, .int .i64 n12, .int .i64 n13, .int .i64 n14, .int .i64 n15, .int .i64 n16] : Array Value) = (ivs l).toArray := by rw [hl]; rfl
  rw [he] at H2 ⊢
  have hsz : (Try.prog.info? 29).map (·.size) = some (ivs l).toArray.size := by rw [List.size_toArray, ivs_length, hll]; kernel_rfl
  have heq := eql_attr l hll
  have heq2 := eql_attr (List.replicate 17 0) rfl
  have hgd : Try.prog.eqGuardType Try.prog.depth 29 = false := by kernel_rfl
  have HLL := Lib.hid hll; have HSZ := Lib.hid hsz; clear hl hll he hsz
  clear _h0 _h1 _h2 _h3 _h4 _h5 _h6 _h7 _h8 _h9 _h10 _h11 _h12 _h13 _h14 _h15 _h16
  go_wp2_with ((with_reducible refine wpList_load_st (ty := 29) H2 ?_ ?_ Try.underlying29 ?_ ?_ ?_); rfl; rfl; rfl; exact HSZ.out)
  refine (put_ok l HLL.out H2).mono ?_
  rintro e w3 ⟨Ap, cp, rfl, H3⟩
  go_wp2_with (fail)
  have hi1 := ints_ok Ap cp l (some ⟨bn, 0, none⟩) 17 l (by rw [HLL.out]; decide) (by rw [HLL.out]; decide) w3 (rd_row H3) (rd_pt H3.r3)
  rw [HLL.out, decide_eq_true rfl] at hi1
  refine hi1.mono ?_
  rintro e w4 ⟨rfl, k, rfl⟩
  have H4 := H3.drewN k
  generalize w3.drewN k = w4 at *
  clear hi1 H3 H2
  have H5 := (H4.alloc #[] 3).emptyRow (size := 1)
  have s1 := Lib.hid (src_rd HLL.out (rd_row H5.r2))
  have tok1 : True := trivial
  go_wp2_with (first  | (at_builtin; refine wpList_append_any (by rfl) _ _ _ (by rfl) 3 i0 (.int .i64 0) 1 8 Try.underlying23 hi hz0 hz1 hz2 rfl (by decide) A5 17 c5 (ivs l) H6 (by rfl) A n c (ivs more) (by rfl) (by rw [ivs_length, HLM.out, Nat.mul_one]) (src_rd HLM.out (HRD.out _ H6.below)) (ivs_one more) (by unfold maxLen; omega) (by omega) ?_; intro A6 c6 w6 H7)  | (at_builtin; have _t := tok1; refine wpList_append_any (by rfl) _ _ _ (by rfl) 3 i0 (.int .i64 0) 1 8 Try.underlying23 hi hz0 hz1 hz2 rfl (by decide) _ 0 0 [] H5 (by rfl) Ap 17 cp (ivs l) (by rfl) (by rw [ivs_length, HLL.out]) s1.out (ivs_one l) (by decide) (by decide) ?_; rw [List.nil_append, Nat.zero_add]; intro A5 c5 w5 H6; clear tok1 _t))
  have e7 : ivs l ++ ivs more = ivs (l ++ more) := by rw [ivs, ivs, ivs, List.map_append]
  rw [e7] at H7
  have hcap := row_cap H7
  unfold maxLen at hcap
  have hg := get_yes A6 (17 + n) c6 (l ++ more) (by rw [List.length_append, HLL.out, HLM.out]) (by omega) (by omega) hcap.1 hcap.2 w6 (rd_row H7)
  rw [List.take_left' HLL.out, List.drop_left' HLL.out, show 17 + n - 17 = n by omega] at hg
  clear hcap e7
  refine hg.mono ?_
  rintro e w7 ⟨A8, c8, rfl, H8⟩
  have H9 := H7.frame H8
  simp only [List.cons_append, List.nil_append] at H9
  clear hg H8 H7 H6 H5 s1
  have HZ := H9.alloc (ivs (List.replicate 17 0)).toArray 29
  rw [zero_cells] at HZ
  go_wp2_with (with_reducible refine hold_store ?_)
  unfold Hold
  with_reducible refine wpList_store_st (ty := 29) HZ (ivs l).toArray ?_ ?_ ?_ ?_ ?_ ?_ ?_
  rfl
  rfl
  rfl
  (rw [List.size_toArray, ivs_length, HLL.out]; rfl)
  (exact HSZ.out)
  (exact List.all_eq_true.2 (ivs_one _))
  intro w8 H10
  obtain ⟨bb, hbb⟩ : ∃ b, b = w7.heap.size := ⟨_, rfl⟩
  rw [← hbb] at H10 ⊢
  clear hbb HZ H9
  have H11 := (H10.alloc #[] 3).emptyRow (size := 1)
  have s2 : Src (w8.alloc (.cells #[] 3)) (some ⟨bn, 0, none⟩) 16 (ivs (l.take 16)) := src_rd (by rw [List.length_take, HLL.out]; rfl) (fun i x hx => (rd_pt (H11.ord 7 [6, 0, 1, 2, 3, 4, 5])) i x (by rw [List.getElem?_take] at hx; split at hx <;> simp_all))
  have S2 := Lib.hid s2; clear s2
  go_wp2_with (at_builtin; refine wpList_append_any (by rfl) _ _ _ (by rfl) 3 i0 (.int .i64 0) 1 8 Try.underlying23 hi hz0 hz1 hz2 rfl (by decide) _ 0 0 [] H11 (by rfl) (some ⟨bn, 0, none⟩) 16 17 (ivs (l.take 16)) (by rfl) (by rw [ivs_length, List.length_take, HLL.out]; rfl) S2.out (ivs_one _) (by decide) (by decide) ?_; rw [List.nil_append, Nat.zero_add]; intro A9 c9 w9 H12)
  have hgn := get_no A9 16 c9 (by decide) w9
  refine hgn.mono ?_
  rintro e w10 ⟨rfl, H13⟩
  have H14 := H12.frame H13
  rw [List.nil_append] at H14
  clear hgn H13 H12 H11 S2
  have HZ := H14.alloc (ivs (List.replicate 17 0)).toArray 29
  rw [zero_cells] at HZ
  go_wp2_with (with_reducible refine hold_store ?_)
  unfold Hold
  with_reducible refine wpList_store_st (ty := 29) (HZ) ((ivs (List.replicate 17 0)).toArray) ?_ ?_ ?_ ?_ ?_ ?_ ?_
  rfl
  rfl
  rfl
  rfl
  kernel_rfl
  rfl
  intro w11 H15
  obtain ⟨bc, hbc⟩ : ∃ b, b = w10.heap.size := ⟨_, rfl⟩
  rw [← hbc] at H15 ⊢
  clear hbc HZ H14
  go_wp2_with (first | ((with_reducible refine wpList_load_st (ty := 29) (H15.ord 3 [2, 0, 1]) ?_ ?_ Try.underlying29 ?_ ?_ ?_); rfl; rfl; rfl; exact HSZ.out) | ((with_reducible refine wpList_load_st (ty := 29) (H15.ord 7 [6, 0, 1, 2, 3, 4, 5]) ?_ ?_ Try.underlying29 ?_ ?_ ?_); rfl; rfl; rfl; exact HSZ.out))
  have hi2 := ints_ok A8 c8 more A c more (by rw [HLM.out]; omega) (by rw [HLM.out]; omega) w11 (rd_row (H15.ord 4 [3, 0, 1, 2])) (HRD.out _ H15.below)
  rw [HLM.out, decide_eq_true rfl] at hi2
  refine hi2.mono ?_
  rintro e w12 ⟨rfl, k2, rfl⟩
  have H16 := H15.drewN k2
  generalize w11.drewN k2 = w12 at *
  clear hi2 H15
  rw [zero_cells] at H16 heq2
  go_wp2_with ((with_reducible refine wpList_load_st (ty := 29) H16 ?_ ?_ Try.underlying29 ?_ ?_ ?_); rfl; rfl; rfl; kernel_rfl)
  go_ret
  exact ⟨rfl, H16.below⟩
theorem own : ownKnob Try.prog.godebug = none := by kernel_rfl
theorem laidOut : laidOutB Try.prog = true := by kernel_rfl
theorem readable : ∀ t ∈ Try.f5.params.toList, Try.prog.readableRec t = true ∧ t < Try.prog.types.size := by
  intro t ht
  rw [Try.params5] at ht
  simp only [List.mem_cons, List.not_mem_nil, or_false] at ht
  rcases ht with rfl | rfl
  all_goals exact ⟨by kernel_rfl, of_decide_eq_true (by kernel_rfl)⟩
theorem contract (H : Type) (enc : TypeId × Value → H) (W : World) (base : Nat) (args : Array Value) (ds gs : List (DataW H)) (before : List MemPlace)
    (hval : ∀ (j : Nat) t v, Try.f5.params[j]? = some t → args[j]? = some v → Value.okWide Try.prog W .any base t v)
    (hW : DataW.Whole enc Try.prog Try.f5.params.toList Rows.attrPutsSpec.vars false W args.toList ds gs before) (hk : Rows.uptoSmall H (ds ++ gs) = true) :
    Calls Try.prog 5 args W fun e W' => ∃ v, e = .returned v ∧ Rows.attrPutsSpec.post enc Try.prog Try.f5 false true false false W args v W' := by
  have hW' := hW
  obtain ⟨p, q, hA0, hV, rfl, _, _⟩ := hW
  have hA : DataW.TrodAll enc Try.prog W 0 (fun _ => true) true Try.f5.params.toList args.toList ds p := hA0
  rw [Try.params5] at hA hval
  obtain ⟨v0, vs0, d0, ds0, p0, q0, hargs, rfl, rfl, h0, r0⟩ := trodAll_cons hA
  obtain ⟨v1, vs1, d1, ds1, p1, q1, rfl, rfl, rfl, h1, r1⟩ := trodAll_cons r0
  obtain ⟨rfl, rfl, rfl⟩ := trodAll_nil r1
  obtain rfl : args = #[v0, v1] := by cases args; simp_all
  obtain ⟨rfl, rfl⟩ := trodVars_none hV
  clear hA0
  have hk2 : Rows.uptoBulkAll _ ≤ 1048576 := of_decide_eq_true hk
  rw [List.append_nil] at hk2
  obtain ⟨cs0, hv0, hsz0⟩ := okWide_array Try.underlying35 (hval 0 35 v0 rfl rfl)
  subst hv0
  rw [show Try.prog.cellsOf 35 = 17 by kernel_rfl] at hsz0
  obtain ⟨l0⟩ := cs0
  obtain ⟨fuel0, hf0⟩ := h0
  obtain ⟨hrow0, hbulk0⟩ := trod_flat 8 35 [.int .i64, .int .i64, .int .i64, .int .i64, .int .i64, .int .i64, .int .i64, .int .i64, .int .i64, .int .i64, .int .i64, .int .i64, .int .i64, .int .i64, .int .i64, .int .i64, .int .i64] (by kernel_rfl) _ _ _ hf0
  simp only [Value.cells] at hrow0 hbulk0
  match l0, hsz0, hrow0, hbulk0, hval, hf0, hW', hk2 with
  | [c0_0, c0_1, c0_2, c0_3, c0_4, c0_5, c0_6, c0_7, c0_8, c0_9, c0_10, c0_11, c0_12, c0_13, c0_14, c0_15, c0_16], _, hrow0, hbulk0, hval, hf0, hW', hk2 =>
  obtain ⟨⟨n0, rfl, wn0⟩, ⟨n1, rfl, wn1⟩, ⟨n2, rfl, wn2⟩, ⟨n3, rfl, wn3⟩, ⟨n4, rfl, wn4⟩, ⟨n5, rfl, wn5⟩, ⟨n6, rfl, wn6⟩, ⟨n7, rfl, wn7⟩, ⟨n8, rfl, wn8⟩, ⟨n9, rfl, wn9⟩, ⟨n10, rfl, wn10⟩, ⟨n11, rfl, wn11⟩, ⟨n12, rfl, wn12⟩, ⟨n13, rfl, wn13⟩, ⟨n14, rfl, wn14⟩, ⟨n15, rfl, wn15⟩, ⟨n16, rfl, wn16⟩, _⟩ := hrow0
  obtain ⟨fuel1, hf1⟩ := h1
  obtain ⟨A1, n1, c1, hv1⟩ := okWide_slice Try.underlying23 (hval 1 23 v1 rfl rfl)
  subst hv1
  obtain ⟨A1', n1', c1', rows1, hc1, hn1, hrd1, hrow1, hbulk1⟩ := trod_slice_flat (ks := [.int .i64]) (m := 8) Try.underlying23 (by kernel_rfl) (by kernel_rfl) (by decide) hf1
  dsimp only at hbulk1
  obtain ⟨rfl, rfl, rfl⟩ : A1' = A1 ∧ n1' = n1 ∧ c1' = c1 := by simp [Value.cells] at hc1; simp [hc1]
  obtain ⟨more, rfl, hok1⟩ := rows_map (fun x : Int => [.int .i64 x]) (fun x : Int => -9223372036854775808 ≤ x ∧ x ≤ 9223372036854775807) rows1 (fun row hr => of_row_int row (hrow1 row hr))
  refine (walk W n0 (wf_i64 wn0) n1 (wf_i64 wn1) n2 (wf_i64 wn2) n3 (wf_i64 wn3) n4 (wf_i64 wn4) n5 (wf_i64 wn5) n6 (wf_i64 wn6) n7 (wf_i64 wn7) n8 (wf_i64 wn8) n9 (wf_i64 wn9) n10 (wf_i64 wn10) n11 (wf_i64 wn11) n12 (wf_i64 wn12) n13 (wf_i64 wn13) n14 (wf_i64 wn14) n15 (wf_i64 wn15) n16 (wf_i64 wn16) A1' n1' c1' more hrd1 (by
    have h1 := len_le_sum (ks := [.int .i64]) _ hrow1 (by decide)
    have h2 := hrd1.1
    simp only [Rows.uptoBulkAll] at hk2
    omega) (by
    simp only [Rows.uptoBulkAll] at hk2
    omega) hok1).mono fun e W' ⟨he, hb⟩ => ?_
  exact ⟨_, he, law_post (tb := 4) laidOut readable rfl Try.underlying4 rfl hW' rfl rfl rfl hb⟩
set_option maxRecDepth 100000 in
theorem lifted (os : Os) (started : os.Started) (H : Type) (enc : TypeId × Value → H) (F : Stop.Interp) :
    ReturnsInHanded {} Try.checked os 5 .any ((Rows.OpenSpec.upto Rows.attrPutsSpec).pre6 enc Try.prog Try.f5 Rows.attrPutsUptoRow.domain false) (((Rows.OpenSpec.upto Rows.attrPutsSpec).at F).post enc Try.prog Try.f5 false true false false) := by
  refine returnsInHanded_of_cond (C := Try.checked) (s := Rows.OpenSpec.upto Rows.attrPutsSpec) (k := Rows.uptoSmall) rfl own started (by kernel_rfl) Try.func5
    (OpenSpec.witness (enc := enc) (C := Try.checked) (s := Rows.OpenSpec.upto Rows.attrPutsSpec) (k := Rows.uptoSmall) rfl false ⟨#[], #[.agg #[.int .i64 0, .int .i64 0, .int .i64 0, .int .i64 0, .int .i64 0, .int .i64 0, .int .i64 0, .int .i64 0, .int .i64 0, .int .i64 0, .int .i64 0, .int .i64 0, .int .i64 0, .int .i64 0, .int .i64 0, .int .i64 0, .int .i64 0], .slice none 0 0], []⟩ 8 (by kernel_rfl) (by kernel_rfl) (by kernel_rfl)
      (x := ([.agg [.lit (.int .i64 0), .lit (.int .i64 0), .lit (.int .i64 0), .lit (.int .i64 0), .lit (.int .i64 0), .lit (.int .i64 0), .lit (.int .i64 0), .lit (.int .i64 0), .lit (.int .i64 0), .lit (.int .i64 0), .lit (.int .i64 0), .lit (.int .i64 0), .lit (.int .i64 0), .lit (.int .i64 0), .lit (.int .i64 0), .lit (.int .i64 0), .lit (.int .i64 0)], .nil], [], [])) (by kernel_rfl) rfl (by kernel_rfl)) ?_
  intro W base args ds gs before hval hW _ hk _
  exact contract H enc W base args ds gs before hval hW hk
theorem proved : Rows.AttrPutsUptoSaid :=
  OpenClaim.holds_of_cond 5 Try.f5 rfl rfl rfl rfl rfl rfl rfl ⟨rfl, rfl, rfl, rfl, rfl⟩ rfl rfl rfl rfl rfl (by kernel_rfl) Try.func5 (by kernel_rfl)
    (of_decide_eq_true (by kernel_rfl)) (by unfold Func.isWrapper; first | (rw [if_pos (by decide +kernel)]; kernel_rfl) | (rw [if_neg (by decide +kernel)]; exact ⟨rfl, rfl⟩))
    (fun os started H enc _ F => lifted os started H enc F)
#print axioms proved

end Go.Proofs.Ythdmklmihhallaa.AttrPuts

/- XdrPuts: a writer puts the document's bytes of every list of things, and no writer puts nothing: of things of bulk at most 1048576. -/
import Derived.Test.YtcmpocabjhlnfaaXdrI
import Derived.Deep.RegionHeld3
namespace Go.Proofs.Ytcmpocabjhlnfaa.XdrPuts
open Go.RowKit Go.ChangeShapes Go.WideShapes Go.ChangeAt Go.Proofs.Ytcmpocabjhlnfaa
open Go.ChangeMaps (open_string shut_string)

set_option maxRecDepth 100000 in
set_option maxHeartbeats 4000000 in
theorem walk (w : World) (A : Option Addr) (n c : Nat) (l : List Item) (hrd : SlRd w A n 3 (l.map Item.cells)) (hn : n ≤ 1048576) (hsum : sumW (l.map Item.cells) ≤ 1048576) (hok : ∀ x ∈ l, x.ok) :
    Calls Try.prog 4 #[.slice A n c] w fun r w' => r = .returned (.bool true) ∧ Below w.heap.size w w' := by
  obtain ⟨i0, hi0, hz0, hz1, hz2⟩ := info_parts infoU8
  have H0 := St.init w
  have hn0 : l.length = n := by have := hrd.1; simpa using this
  have HN := Lib.hid hn0; have HRD := Lib.hid hrd; have HOK := Lib.hid hok; clear hn0 hrd hok
  go_enter Try.func4, Try.ntmps4
  go_wp2_with (first | (go_at_call 9; refine (speaks_ok H0).mono ?_; rintro x w1 ⟨rfl, H1⟩))
  have H2 := (H1.alloc #[.slice none 0 0] 25).newWr
  obtain ⟨bw, hbw⟩ : ∃ bw, bw = w1.heap.size := ⟨_, rfl⟩
  rw [← hbw] at H2 ⊢
  generalize w1.alloc (.cells #[.slice none 0 0] 25) = w2 at *
  clear H1 hbw
  have H3 := (H2.nilRow 5 1).r2
  go_loopw [5, 6] (fun v i wr => ∃ k : Nat, k ≤ n ∧ i = .int .i64 k ∧ ∃ A' c', v = .slice A' (outs (l.take k)).length c' ∧ St w wr [Wr bw one 25 (outs (l.take k)), Row 5 1 A' (outs (l.take k)).length c' (bv (outs (l.take k)))]) (fun _ i _ => n - (intOf i).toNat)
  case atStart => exact ⟨0, Nat.zero_le _, rfl, none, 0, rfl, H3⟩
  case round =>
    obtain ⟨k, hk, rfl, A', c', rfl, H5⟩ := hrel
    have hlen := outs_take_len l k hsum
    by_cases hlt : k < n
    · obtain ⟨x, hx⟩ : ∃ x, l[k]? = some x := ⟨_, List.getElem?_eq_getElem (by rw [HN.out]; exact hlt)⟩
      obtain ⟨b, o, hA, hb, hd0, hcell⟩ := SlRd.at HRD.out H5.below (i := k) (row := x.cells) (by rw [List.getElem?_map, hx]; rfl)
      have hxok := HOK.out x (List.mem_of_getElem? hx)
      have hxt := text_le l x (List.mem_of_getElem? hx) hsum
      have hc0 := hd0 _ rfl
      have hc1 := hcell 1 _ rfl
      have hc2 := hcell 2 _ rfl
      have HOT := Lib.hid (outs_take l k x hx)
      have hfl := fixed_len (bl x.text)
      have hol := opaq_len (bl x.text)
      rw [bl_length] at hfl
      subst hA
      clear hcell hd0 hx
      obtain ⟨xk, xn, xt⟩ := x
      obtain ⟨hxk, hxn⟩ := hxok
      dsimp only at *
      have H6 := H5.alloc #[.int .i64 xk, .int .i64 xn, .string xt] 33
      have hm : xk % 5 = 0 ∨ xk % 5 = 1 ∨ xk % 5 = 2 ∨ xk % 5 = 3 ∨ xk % 5 = 4 := by omega
      have hbn : b ≠ wr.heap.size := by have := H5.size; omega
      have HFL := Lib.hid hfl; have HOL := Lib.hid hol; clear hfl hol
      have b4 : ∀ m, (be m 4).length = 4 := fun m => be_length m 4
      have b8 : ∀ m, (be m 8).length = 8 := fun m => be_length m 8
      have B4 := Lib.hid b4; have B8 := Lib.hid b8; clear b4 b8
      rcases hm with hm | hm | hm | hm | hm
      all_goals have HM := Lib.hid hm; clear hm
      · have hbl := B4.out xn
        have HO : Hid (outs (l.take (k + 1)) = outs (l.take k) ++ be xn 4) := by show _ = _; rw [HOT.out]; simp [Item.out, HM.out]
        go_wp2_with (first | (go_at_call 15; refine (kind_ok _ hxk _).mono ?_; rw [HM.out]; rintro x w5 ⟨rfl, rfl⟩))
        refine (wuint_ok _ _ mk_one _ _ _ (by omega) H6.r2).mono ?_
        rintro x w7 ⟨rfl, H7⟩
        try simp only [reduceIte, Bool.false_eq_true] at H7
        have c7 := H7.r2.cell 1 rfl
        have d7 := H7.r2.cell 2 rfl
        go_wp2_with (fail)
        refine (wuint_nil _ _).mono ?_
        rintro x w8 ⟨rfl, rfl⟩
        go_wp2_with (fail)
        refine (refuint_ok _ H7).mono ?_
        rintro x w8 ⟨rfl, H8⟩
        clear c7 d7
        generalize outs (l.take k) = q at *
        go_wp2_with (at_builtin; refine wpList_append_str (by rfl) _ _ _ _ (by rfl) 5 i0 Try.underlying23 Try.underlying9 hi0 hz0 hz1 hz2 A' q.length c' (bv q) H8.r3 (by rfl) _ (by rfl) (by rw [mkb_size]; unfold maxLen; omega) (by rw [mkb_size]; omega) ?_; intro A2 c2 w9 H9)
        rw [strCells_bv, bl_mkb, ← bv_append, mkb_size, ← List.length_append, ← HO.out] at H9
        have e9 : q.length + (mkb (be xn 4)).size = (outs (l.take (k + 1))).length := by rw [HO.out, mkb_size, List.length_append]
        go_roundw
        case rel => exact ⟨k + 1, by omega, by go_num, A2, c2, by rw [← e9], H9.r3.tail.r2⟩
        case measure => simp [intOf]; omega
      · have hbl := B8.out xn
        have HO : Hid (outs (l.take (k + 1)) = outs (l.take k) ++ be xn 8) := by show _ = _; rw [HOT.out]; simp [Item.out, HM.out]
        go_wp2_with (first | (go_at_call 15; refine (kind_ok _ hxk _).mono ?_; rw [HM.out]; rintro x w5 ⟨rfl, rfl⟩))
        refine (whyper_ok _ _ mk_one _ _ _ (by omega) H6.r2).mono ?_
        rintro x w7 ⟨rfl, H7⟩
        try simp only [reduceIte, Bool.false_eq_true] at H7
        have c7 := H7.r2.cell 1 rfl
        have d7 := H7.r2.cell 2 rfl
        go_wp2_with (fail)
        refine (whyper_nil _ _).mono ?_
        rintro x w8 ⟨rfl, rfl⟩
        go_wp2_with (fail)
        refine (refhyper_ok _ H7).mono ?_
        rintro x w8 ⟨rfl, H8⟩
        clear c7 d7
        generalize outs (l.take k) = q at *
        go_wp2_with (at_builtin; refine wpList_append_str (by rfl) _ _ _ _ (by rfl) 5 i0 Try.underlying23 Try.underlying9 hi0 hz0 hz1 hz2 A' q.length c' (bv q) H8.r3 (by rfl) _ (by rfl) (by rw [mkb_size]; unfold maxLen; omega) (by rw [mkb_size]; omega) ?_; intro A2 c2 w9 H9)
        rw [strCells_bv, bl_mkb, ← bv_append, mkb_size, ← List.length_append, ← HO.out] at H9
        have e9 : q.length + (mkb (be xn 8)).size = (outs (l.take (k + 1))).length := by rw [HO.out, mkb_size, List.length_append]
        go_roundw
        case rel => exact ⟨k + 1, by omega, by go_num, A2, c2, by rw [← e9], H9.r3.tail.r2⟩
        case measure => simp [intOf]; omega
      · by_cases h2 : xn % 2 = 0
        · have ht : (xn.tmod 2 == 0) = true := by rw [tmod2]; simpa using h2
          have HT2 := Lib.hid h2; clear h2
          have hbl := B4.out 1
          have HO : Hid (outs (l.take (k + 1)) = outs (l.take k) ++ be 1 4) := by show _ = _; rw [HOT.out]; simp [Item.out, HM.out, HT2.out]
          go_wp2_with (first | (go_at_call 15; refine (kind_ok _ hxk _).mono ?_; rw [HM.out]; rintro x w5 ⟨rfl, rfl⟩))
          refine (wbool_ok _ _ mk_one _ _ true (by omega) H6.r2).mono ?_
          rintro x w7 ⟨rfl, H7⟩
          try simp only [reduceIte, Bool.false_eq_true] at H7
          have c7 := H7.r2.cell 1 rfl
          have d7 := H7.r2.cell 2 rfl
          go_wp2_with (fail)
          refine (wbool_nil _ _).mono ?_
          rintro x w8 ⟨rfl, rfl⟩
          go_wp2_with (fail)
          refine (refuint_ok _ H7).mono ?_
          rintro x w8 ⟨rfl, H8⟩
          clear c7 d7
          generalize outs (l.take k) = q at *
          go_wp2_with (at_builtin; refine wpList_append_str (by rfl) _ _ _ _ (by rfl) 5 i0 Try.underlying23 Try.underlying9 hi0 hz0 hz1 hz2 A' q.length c' (bv q) H8.r3 (by rfl) _ (by rfl) (by rw [mkb_size]; unfold maxLen; omega) (by rw [mkb_size]; omega) ?_; intro A2 c2 w9 H9)
          rw [strCells_bv, bl_mkb, ← bv_append, mkb_size, ← List.length_append, ← HO.out] at H9
          have e9 : q.length + (mkb (be 1 4)).size = (outs (l.take (k + 1))).length := by rw [HO.out, mkb_size, List.length_append]
          go_roundw
          case rel => exact ⟨k + 1, by omega, by go_num, A2, c2, by rw [← e9], H9.r3.tail.r2⟩
          case measure => simp [intOf]; omega
        · have ht : (xn.tmod 2 == 0) = false := by rw [tmod2]; simpa using h2
          have HT2 := Lib.hid h2; clear h2
          have hbl := B4.out 0
          have HO : Hid (outs (l.take (k + 1)) = outs (l.take k) ++ be 0 4) := by show _ = _; rw [HOT.out]; simp [Item.out, HM.out, HT2.out]
          go_wp2_with (first | (go_at_call 15; refine (kind_ok _ hxk _).mono ?_; rw [HM.out]; rintro x w5 ⟨rfl, rfl⟩))
          refine (wbool_ok _ _ mk_one _ _ false (by omega) H6.r2).mono ?_
          rintro x w7 ⟨rfl, H7⟩
          try simp only [reduceIte, Bool.false_eq_true] at H7
          have c7 := H7.r2.cell 1 rfl
          have d7 := H7.r2.cell 2 rfl
          go_wp2_with (fail)
          refine (wbool_nil _ _).mono ?_
          rintro x w8 ⟨rfl, rfl⟩
          go_wp2_with (fail)
          refine (refuint_ok _ H7).mono ?_
          rintro x w8 ⟨rfl, H8⟩
          clear c7 d7
          generalize outs (l.take k) = q at *
          go_wp2_with (at_builtin; refine wpList_append_str (by rfl) _ _ _ _ (by rfl) 5 i0 Try.underlying23 Try.underlying9 hi0 hz0 hz1 hz2 A' q.length c' (bv q) H8.r3 (by rfl) _ (by rfl) (by rw [mkb_size]; unfold maxLen; omega) (by rw [mkb_size]; omega) ?_; intro A2 c2 w9 H9)
          rw [strCells_bv, bl_mkb, ← bv_append, mkb_size, ← List.length_append, ← HO.out] at H9
          have e9 : q.length + (mkb (be 0 4)).size = (outs (l.take (k + 1))).length := by rw [HO.out, mkb_size, List.length_append]
          go_roundw
          case rel => exact ⟨k + 1, by omega, by go_num, A2, c2, by rw [← e9], H9.r3.tail.r2⟩
          case measure => simp [intOf]; omega
      · have hbl : (opaq (bl xt)).length ≤ 1048600 := by have := HFL.out; have := HOL.out; omega
        have HO : Hid (outs (l.take (k + 1)) = outs (l.take k) ++ opaq (bl xt)) := by show _ = _; rw [HOT.out]; simp [Item.out, HM.out]
        go_wp2_with (first | (go_at_call 15; refine (kind_ok _ hxk _).mono ?_; rw [HM.out]; rintro x w5 ⟨rfl, rfl⟩))
        refine (wopaque_ok _ _ mk_one _ _ _ (by omega) (by omega) H6.r2).mono ?_
        rintro x w7 ⟨rfl, H7⟩
        try simp only [reduceIte, Bool.false_eq_true] at H7
        have c7 := H7.r2.cell 1 rfl
        have d7 := H7.r2.cell 2 rfl
        go_wp2_with (fail)
        refine (wopaque_nil _ _).mono ?_
        rintro x w8 ⟨rfl, rfl⟩
        go_wp2_with (fail)
        refine (refopaq_ok _ (by omega) H7).mono ?_
        rintro x w8 ⟨rfl, H8⟩
        clear c7 d7
        generalize outs (l.take k) = q at *
        go_wp2_with (at_builtin; refine wpList_append_str (by rfl) _ _ _ _ (by rfl) 5 i0 Try.underlying23 Try.underlying9 hi0 hz0 hz1 hz2 A' q.length c' (bv q) H8.r3 (by rfl) _ (by rfl) (by rw [mkb_size]; unfold maxLen; omega) (by rw [mkb_size]; omega) ?_; intro A2 c2 w9 H9)
        rw [strCells_bv, bl_mkb, ← bv_append, mkb_size, ← List.length_append, ← HO.out] at H9
        have e9 : q.length + (mkb (opaq (bl xt))).size = (outs (l.take (k + 1))).length := by rw [HO.out, mkb_size, List.length_append]
        go_roundw
        case rel => exact ⟨k + 1, by omega, by go_num, A2, c2, by rw [← e9], H9.r3.tail.r2⟩
        case measure => simp [intOf]; omega
      · have hbl : (fixed (bl xt)).length ≤ 1048600 := by have := HFL.out; omega
        have HO : Hid (outs (l.take (k + 1)) = outs (l.take k) ++ fixed (bl xt)) := by show _ = _; rw [HOT.out]; simp [Item.out, HM.out]
        go_wp2_with (first | (go_at_call 15; refine (kind_ok _ hxk _).mono ?_; rw [HM.out]; rintro x w5 ⟨rfl, rfl⟩))
        refine (wfixed_ok _ _ mk_one _ _ _ (by omega) (by omega) H6.r2).mono ?_
        rintro x w7 ⟨rfl, H7⟩
        try simp only [reduceIte, Bool.false_eq_true] at H7
        have c7 := H7.r2.cell 1 rfl
        have d7 := H7.r2.cell 2 rfl
        go_wp2_with (fail)
        refine (wfixed_nil _ _).mono ?_
        rintro x w8 ⟨rfl, rfl⟩
        go_wp2_with (fail)
        refine (reffixed_ok _ (by omega) H7).mono ?_
        rintro x w8 ⟨rfl, H8⟩
        clear c7 d7
        generalize outs (l.take k) = q at *
        go_wp2_with (at_builtin; refine wpList_append_str (by rfl) _ _ _ _ (by rfl) 5 i0 Try.underlying23 Try.underlying9 hi0 hz0 hz1 hz2 A' q.length c' (bv q) H8.r3 (by rfl) _ (by rfl) (by rw [mkb_size]; unfold maxLen; omega) (by rw [mkb_size]; omega) ?_; intro A2 c2 w9 H9)
        rw [strCells_bv, bl_mkb, ← bv_append, mkb_size, ← List.length_append, ← HO.out] at H9
        have e9 : q.length + (mkb (fixed (bl xt))).size = (outs (l.take (k + 1))).length := by rw [HO.out, mkb_size, List.length_append]
        go_roundw
        case rel => exact ⟨k + 1, by omega, by go_num, A2, c2, by rw [← e9], H9.r3.tail.r2⟩
        case measure => simp [intOf]; omega
    · have hcv := fun j => (H5.drewN j).r2.toStr (P := Try.prog) (src := 23) (dst := 9) Try.underlying23 Try.underlying5 Try.underlying9
      go_wp2_with (fail)
      go_quiet ((first | (go_at_call 14; with_reducible exact quiet_here (bytes_nil _)) | (go_at_call 14; exact quiet_here (bytes_ok _ _ mk_one _ _ (H5.drewN _)))))
      go_wp2
      go_ret
      exact ⟨rfl, (H5.drewN nq).below⟩
theorem own : ownKnob Try.prog.godebug = none := by kernel_rfl
theorem laidOut : laidOutB Try.prog = true := by kernel_rfl
theorem readable : ∀ t ∈ Try.f4.params.toList, Try.prog.readableRec t = true ∧ t < Try.prog.types.size := by
  intro t ht
  rw [Try.params4] at ht
  simp only [List.mem_cons, List.not_mem_nil, or_false] at ht
  subst ht
  exact ⟨by kernel_rfl, of_decide_eq_true (by kernel_rfl)⟩
theorem contract (H : Type) (enc : TypeId × Value → H) (W : World) (base : Nat) (args : Array Value) (ds gs : List (DataW H)) (before : List MemPlace)
    (hval : ∀ (j : Nat) t v, Try.f4.params[j]? = some t → args[j]? = some v → Value.okWide Try.prog W .any base t v)
    (hW : DataW.Whole enc Try.prog Try.f4.params.toList Rows.xdrPutsSpec.vars false W args.toList ds gs before) (hk : Rows.uptoSmall H (ds ++ gs) = true) :
    Calls Try.prog 4 args W fun e W' => ∃ v, e = .returned v ∧ Rows.xdrPutsSpec.post enc Try.prog Try.f4 false true false false W args v W' := by
  have hW' := hW
  obtain ⟨p, q, hA0, hV, rfl, _, _⟩ := hW
  have hA : DataW.TrodAll enc Try.prog W 0 (fun _ => true) true Try.f4.params.toList args.toList ds p := hA0
  rw [Try.params4] at hA hval
  obtain ⟨v0, vs0, d0, ds0, p0, q0, hargs, rfl, rfl, h0, r0⟩ := trodAll_cons hA
  obtain ⟨rfl, rfl, rfl⟩ := trodAll_nil r0
  obtain rfl : args = #[v0] := by cases args; simp_all
  obtain ⟨rfl, rfl⟩ := trodVars_none hV
  clear hA0
  have hk2 : Rows.uptoBulkAll _ ≤ 1048576 := of_decide_eq_true hk
  rw [List.append_nil] at hk2
  obtain ⟨fuel0, hf0⟩ := h0
  obtain ⟨A0, n0, c0, hv0⟩ := okWide_slice Try.underlying30 (hval 0 30 v0 rfl rfl)
  subst hv0
  obtain ⟨A0', n0', c0', rows0, hc0, hn0, hrd0, hrow0, hbulk0⟩ := trod_slice_flat (ks := Item.kinds) (m := 8) Try.underlying30 (by kernel_rfl) (by kernel_rfl) (by decide) hf0
  dsimp only at hbulk0
  obtain ⟨rfl, rfl, rfl⟩ : A0' = A0 ∧ n0' = n0 ∧ c0' = c0 := by simp [Value.cells] at hc0; simp [hc0]
  obtain ⟨l, rfl, hok0⟩ := rows_map Item.cells Item.ok rows0 (fun row hr => Item.of_row row (hrow0 row hr))
  refine (walk W A0' n0' c0' l hrd0 (by
    have h1 := len_le_sum (ks := Item.kinds) _ hrow0 (by decide)
    have h2 := hrd0.1
    simp only [Rows.uptoBulkAll] at hk2
    omega) (by
    simp only [Rows.uptoBulkAll] at hk2
    omega) hok0).mono fun e W' ⟨he, hb⟩ => ?_
  exact ⟨_, he, law_post (tb := 4) laidOut readable rfl Try.underlying4 rfl hW' rfl rfl rfl hb⟩
set_option maxRecDepth 100000 in
theorem lifted (os : Os) (started : os.Started) (H : Type) (enc : TypeId × Value → H) (F : Stop.Interp) :
    ReturnsInHanded {} Try.checked os 4 .any ((Rows.OpenSpec.upto Rows.xdrPutsSpec).pre6 enc Try.prog Try.f4 Rows.xdrPutsUptoRow.domain false) (((Rows.OpenSpec.upto Rows.xdrPutsSpec).at F).post enc Try.prog Try.f4 false true false false) := by
  refine returnsInHanded_of_cond (C := Try.checked) (s := Rows.OpenSpec.upto Rows.xdrPutsSpec) (k := Rows.uptoSmall) rfl own started (by kernel_rfl) Try.func4
    (OpenSpec.witness (enc := enc) (C := Try.checked) (s := Rows.OpenSpec.upto Rows.xdrPutsSpec) (k := Rows.uptoSmall) rfl false ⟨#[], #[.slice none 0 0], []⟩ 8 (by kernel_rfl) (by kernel_rfl) (by kernel_rfl)
      (x := ([.nil], [], [])) (by kernel_rfl) rfl (by kernel_rfl)) ?_
  intro W base args ds gs before hval hW _ hk _
  exact contract H enc W base args ds gs before hval hW hk
theorem proved : Rows.XdrPutsUptoSaid :=
  OpenClaim.holds_of_cond 4 Try.f4 rfl rfl rfl rfl rfl rfl rfl ⟨rfl, rfl, rfl, rfl, rfl⟩ rfl rfl rfl rfl rfl (by kernel_rfl) Try.func4 (by kernel_rfl)
    (of_decide_eq_true (by kernel_rfl)) (by unfold Func.isWrapper; first | (rw [if_pos (by decide +kernel)]; kernel_rfl) | (rw [if_neg (by decide +kernel)]; exact ⟨rfl, rfl⟩))
    (fun os started H enc _ F => lifted os started H enc F)
#print axioms proved

end Go.Proofs.Ytcmpocabjhlnfaa.XdrPuts

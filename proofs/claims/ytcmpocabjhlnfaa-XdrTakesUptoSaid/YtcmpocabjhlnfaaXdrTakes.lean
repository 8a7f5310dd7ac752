/- XdrTakes: any bytes, taken apart in any order of things, are taken as the document says: of bytes and things of bulk at most 1048576. -/
import Derived.Test.YtcmpocabjhlnfaaXdrI
import Derived.Deep.RegionHeld3
namespace Go.Proofs.Ytcmpocabjhlnfaa.XdrTakes
open Go.RowKit Go.ChangeShapes Go.WideShapes Go.ChangeAt Go.Proofs.Ytcmpocabjhlnfaa
open Go.ChangeMaps (open_string shut_string)

set_option maxRecDepth 100000 in
set_option maxHeartbeats 4000000 in
theorem walk (w : World) (s : ByteArray) (hs : s.size ≤ 1048576) (A : Option Addr) (n c : Nat) (l : List Item) (hrd : SlRd w A n 3 (l.map Item.cells)) (hn : n ≤ 1048576) (_hsum : sumW (l.map Item.cells) ≤ 1048576) (hok : ∀ x ∈ l, x.ok) :
    Calls Try.prog 7 #[.string s, .slice A n c] w fun r w' => r = .returned (.bool true) ∧ Below w.heap.size w w' := by
  have H0 := St.init w
  have hn0 : l.length = n := by have := hrd.1; simpa using this
  have HN := Lib.hid hn0; have HRD := Lib.hid hrd; have HOK := Lib.hid hok; clear hn0 hrd hok
  go_enter Try.func7, Try.ntmps7
  go_wp2_with (first | (go_at_call 9; refine (speaks_ok H0).mono ?_; rintro x w1 ⟨rfl, H1⟩) | (go_at_call 21; refine (open_ok _ H1).mono ?_; rintro x w2 ⟨rb, rfl, H2⟩))
  have H3 := (H2.alloc #[.string s, .int .i64 0, .int .i64 0] 48)
  have H4 := (H3.shutRf (i := 0) (s := s) (Nat.zero_le _) (by rw [ByteArray.extract_zero_size])).r2
  obtain ⟨wb, hwb⟩ : ∃ wb, wb = w2.heap.size := ⟨_, rfl⟩
  rw [← hwb] at H4 ⊢
  generalize w2.alloc (.cells #[.string s, .int .i64 0, .int .i64 0] 48) = w3 at *
  clear H3 hwb
  go_loopw [7] (fun i wr => ∃ k : Nat, k ≤ n ∧ i = .int .i64 k ∧ ∃ r : RS, r.s.size ≤ 1048576 ∧ St w wr [Rdr rb r, Rfr wb s r]) (fun i _ => n - (intOf i).toNat)
  case atStart => exact ⟨0, Nat.zero_le _, rfl, _, hs, H4⟩
  case round =>
    obtain ⟨k, hk, rfl, r, hr, H5⟩ := hrel
    by_cases hlt : k < n
    · obtain ⟨x, hx⟩ : ∃ x, l[k]? = some x := ⟨_, List.getElem?_eq_getElem (by rw [HN.out]; exact hlt)⟩
      obtain ⟨b, o, hA, hb, hd0, hcell⟩ := SlRd.at HRD.out H5.below (i := k) (row := x.cells) (by rw [List.getElem?_map, hx]; rfl)
      have hxok := HOK.out x (List.mem_of_getElem? hx)
      have hc0 := hd0 _ rfl
      have hc1 := hcell 1 _ rfl
      have hc2 := hcell 2 _ rfl
      subst hA
      clear hcell hd0 hx
      obtain ⟨xk, xn, xt⟩ := x
      obtain ⟨hxk, hxn⟩ := hxok
      dsimp only at *
      have H6 := H5.alloc #[.int .i64 xk, .int .i64 xn, .string xt] 33
      have hm : xk % 5 = 0 ∨ xk % 5 = 1 ∨ xk % 5 = 2 ∨ xk % 5 = 3 ∨ xk % 5 = 4 := by omega
      have hbn : b ≠ wr.heap.size := by have := H5.size; omega
      rcases hm with hm | hm | hm | hm | hm
      all_goals have HM := Lib.hid hm; clear hm
      · go_wp2_with (first | (go_at_call 15; refine (kind_ok _ hxk _).mono ?_; rw [HM.out]; rintro x w5 ⟨rfl, rfl⟩) | (go_at_call 25; refine (uint_ok _ _ (by omega) H6.r2).mono ?_; rintro x w7 ⟨rfl, H7⟩)  | (go_at_call 29; refine (refnum4_ok _ _ _ (by omega) H7.r3).mono ?_; rintro x w8 ⟨rfl, H8⟩))
        have hq := r.nat_le 4
        have HH : ∃ q : RS, q.s.size ≤ 1048576 ∧ St w w8 [Rfr wb s q, Rdr rb q, Pt wr.heap.size #[.int .i64 xk, .int .i64 xn, .string xt] 33] := ⟨_, by omega, H8⟩
        clear H7 H8 hq hc0 hc1 hc2 hbn
        obtain ⟨q, hq, H9⟩ := HH
        obtain ⟨i, H10, hi, hqs⟩ := H9.openRf
        have hsz : (q.s.size : Int) = (s.size : Int) - i := by rw [hqs, ByteArray.size_extract]; omega
        have c0 := H10.cell 0 rfl
        have c1 := H10.cell 1 rfl
        clear hqs H10
        have hww : IntKind.i64.wrap ((s.size : Int) - i) = (s.size : Int) - i := IntWalk.i64_in _ (by omega)
        go_quiet ((first | (go_at_call 28; exact quiet_here (left_ok _ _ (H9.drewN _).r2)) | (go_at_call 23; exact quiet_here (end_ok _ _ (H9.drewN _).r2)) | (go_at_call 33; exact quiet_drew (refend_ok _ _ _ (by omega) (H9.drewN _)))))
        go_wp2
        go_roundw
        case rel => exact ⟨k + 1, by omega, by go_num, q, hq, (H9.drewN nq).r3.tail.r2⟩
        case measure => simp [intOf]; omega
      · go_wp2_with (first | (go_at_call 15; refine (kind_ok _ hxk _).mono ?_; rw [HM.out]; rintro x w5 ⟨rfl, rfl⟩) | (go_at_call 26; refine (hyper_ok _ _ (by omega) H6.r2).mono ?_; rintro x w7 ⟨rfl, H7⟩)  | (go_at_call 29; refine (refnum8_ok _ _ _ (by omega) H7.r3).mono ?_; rintro x w8 ⟨rfl, H8⟩))
        have hq := r.nat_le 8
        have HH : ∃ q : RS, q.s.size ≤ 1048576 ∧ St w w8 [Rfr wb s q, Rdr rb q, Pt wr.heap.size #[.int .i64 xk, .int .i64 xn, .string xt] 33] := ⟨_, by omega, H8⟩
        clear H7 H8 hq hc0 hc1 hc2 hbn
        obtain ⟨q, hq, H9⟩ := HH
        obtain ⟨i, H10, hi, hqs⟩ := H9.openRf
        have hsz : (q.s.size : Int) = (s.size : Int) - i := by rw [hqs, ByteArray.size_extract]; omega
        have c0 := H10.cell 0 rfl
        have c1 := H10.cell 1 rfl
        clear hqs H10
        have hww : IntKind.i64.wrap ((s.size : Int) - i) = (s.size : Int) - i := IntWalk.i64_in _ (by omega)
        go_quiet ((first | (go_at_call 28; exact quiet_here (left_ok _ _ (H9.drewN _).r2)) | (go_at_call 23; exact quiet_here (end_ok _ _ (H9.drewN _).r2)) | (go_at_call 33; exact quiet_drew (refend_ok _ _ _ (by omega) (H9.drewN _)))))
        go_wp2
        go_roundw
        case rel => exact ⟨k + 1, by omega, by go_num, q, hq, (H9.drewN nq).r3.tail.r2⟩
        case measure => simp [intOf]; omega
      · go_wp2_with (first | (go_at_call 15; refine (kind_ok _ hxk _).mono ?_; rw [HM.out]; rintro x w5 ⟨rfl, rfl⟩) | (go_at_call 22; refine (bool_ok _ _ (by omega) H6.r2).mono ?_; rintro x w7 ⟨rfl, H7⟩)  | (go_at_call 30; refine (refbool_ok _ _ _ (by omega) H7.r3).mono ?_; rintro x w8 ⟨rfl, H8⟩))
        have hq := r.bool_le
        have HH : ∃ q : RS, q.s.size ≤ 1048576 ∧ St w w8 [Rfr wb s q, Rdr rb q, Pt wr.heap.size #[.int .i64 xk, .int .i64 xn, .string xt] 33] := ⟨_, by omega, H8⟩
        clear H7 H8 hq hc0 hc1 hc2 hbn
        obtain ⟨q, hq, H9⟩ := HH
        obtain ⟨i, H10, hi, hqs⟩ := H9.openRf
        have hsz : (q.s.size : Int) = (s.size : Int) - i := by rw [hqs, ByteArray.size_extract]; omega
        have c0 := H10.cell 0 rfl
        have c1 := H10.cell 1 rfl
        clear hqs H10
        have hww : IntKind.i64.wrap ((s.size : Int) - i) = (s.size : Int) - i := IntWalk.i64_in _ (by omega)
        go_quiet ((first | (go_at_call 28; exact quiet_here (left_ok _ _ (H9.drewN _).r2)) | (go_at_call 23; exact quiet_here (end_ok _ _ (H9.drewN _).r2)) | (go_at_call 33; exact quiet_drew (refend_ok _ _ _ (by omega) (H9.drewN _)))))
        go_wp2
        go_roundw
        case rel => exact ⟨k + 1, by omega, by go_num, q, hq, (H9.drewN nq).r3.tail.r2⟩
        case measure => simp [intOf]; omega
      · go_wp2_with (first | (go_at_call 15; refine (kind_ok _ hxk _).mono ?_; rw [HM.out]; rintro x w5 ⟨rfl, rfl⟩))
        obtain ⟨bx, hbx⟩ : ∃ bx, bx = wr.heap.size := ⟨_, rfl⟩
        rw [← hbx] at H6 hbn ⊢
        generalize wr.alloc (.cells #[.int .i64 xk, .int .i64 xn, .string xt] 33) = w5 at *
        have c1 := H6.cell 1 rfl
        have HBX := Lib.hid hbx
        clear hc0 hc1 hc2 hbx
        go_region_held3 (fun w' => w'.cell? ⟨bx, 1, none⟩ = some (.int .i64 xn)) (first | exact c1 | exact H8.r3.cell 1 rfl | exact H7.r2.cell 1 rfl)  (first | (go_at_call 24; refine (opaque_ok _ _ _ (by omega) H6.drew.r2).mono ?_; rintro x w7 ⟨rfl, H7⟩) | (go_at_call 31; refine (refopaque_ok _ _ _ _ (by omega) H7.r3).mono ?_; rintro x w8 ⟨rfl, H8⟩))
        go_wp2
        have hq := r.opaque_le xn
        rw [HBX.out] at H8
        have hc0 := 0; have hc1 := 0; have hc2 := 0
        have HH : ∃ q : RS, q.s.size ≤ 1048576 ∧ St w w8 [Rfr wb s q, Rdr rb q, Pt wr.heap.size #[.int .i64 xk, .int .i64 xn, .string xt] 33] := ⟨_, by omega, H8⟩
        clear H7 H8 hq hc0 hc1 hc2 hbn
        obtain ⟨q, hq, H9⟩ := HH
        obtain ⟨i, H10, hi, hqs⟩ := H9.openRf
        have hsz : (q.s.size : Int) = (s.size : Int) - i := by rw [hqs, ByteArray.size_extract]; omega
        have c0 := H10.cell 0 rfl
        have c1 := H10.cell 1 rfl
        clear hqs H10
        have hww : IntKind.i64.wrap ((s.size : Int) - i) = (s.size : Int) - i := IntWalk.i64_in _ (by omega)
        go_quiet ((first | (go_at_call 28; exact quiet_here (left_ok _ _ (H9.drewN _).r2)) | (go_at_call 23; exact quiet_here (end_ok _ _ (H9.drewN _).r2)) | (go_at_call 33; exact quiet_drew (refend_ok _ _ _ (by omega) (H9.drewN _)))))
        go_wp2
        go_roundw
        case rel => exact ⟨k + 1, by omega, by go_num, q, hq, (H9.drewN nq).r3.tail.r2⟩
        case measure => simp [intOf]; omega
      · have ht : xn.tmod 100 < 100 := Int.tmod_lt_of_pos _ (by decide)
        have HT := Lib.hid ht; clear ht
        go_wp2_with (first | (go_at_call 15; refine (kind_ok _ hxk _).mono ?_; rw [HM.out]; rintro x w5 ⟨rfl, rfl⟩) | (go_at_call 27; refine (fixed_ok _ _ _ (by omega) (by have := HT.out; omega) H6.r2).mono ?_; rintro x w7 ⟨rfl, H7⟩)  | (go_at_call 32; refine (reftext_ok _ _ _ _ (by omega) H7.r3).mono ?_; rintro x w8 ⟨rfl, H8⟩))
        have hq := r.fixed_le (xn.tmod 100)
        have HH : ∃ q : RS, q.s.size ≤ 1048576 ∧ St w w8 [Rfr wb s q, Rdr rb q, Pt wr.heap.size #[.int .i64 xk, .int .i64 xn, .string xt] 33] := ⟨_, by omega, H8⟩
        clear H7 H8 hq hc0 hc1 hc2 hbn
        obtain ⟨q, hq, H9⟩ := HH
        obtain ⟨i, H10, hi, hqs⟩ := H9.openRf
        have hsz : (q.s.size : Int) = (s.size : Int) - i := by rw [hqs, ByteArray.size_extract]; omega
        have c0 := H10.cell 0 rfl
        have c1 := H10.cell 1 rfl
        clear hqs H10
        have hww : IntKind.i64.wrap ((s.size : Int) - i) = (s.size : Int) - i := IntWalk.i64_in _ (by omega)
        go_quiet ((first | (go_at_call 28; exact quiet_here (left_ok _ _ (H9.drewN _).r2)) | (go_at_call 23; exact quiet_here (end_ok _ _ (H9.drewN _).r2)) | (go_at_call 33; exact quiet_drew (refend_ok _ _ _ (by omega) (H9.drewN _)))))
        go_wp2
        go_roundw
        case rel => exact ⟨k + 1, by omega, by go_num, q, hq, (H9.drewN nq).r3.tail.r2⟩
        case measure => simp [intOf]; omega
    · go_wp2_with (first | (go_at_call 23; refine (end_ok _ _ H5).mono ?_; rintro x w7 ⟨rfl, rfl⟩) | (go_at_call 33; refine (refend_ok _ _ _ (by omega) H5.r2).mono ?_; rintro x w8 ⟨rfl, nn, rfl⟩))
      go_ret
      exact ⟨rfl, (H5.drewN nn).below⟩
theorem own : ownKnob Try.prog.godebug = none := by kernel_rfl
theorem laidOut : laidOutB Try.prog = true := by kernel_rfl
theorem readable : ∀ t ∈ Try.f7.params.toList, Try.prog.readableRec t = true ∧ t < Try.prog.types.size := by
  intro t ht
  rw [Try.params7] at ht
  simp only [List.mem_cons, List.not_mem_nil, or_false] at ht
  rcases ht with rfl | rfl
  all_goals exact ⟨by kernel_rfl, of_decide_eq_true (by kernel_rfl)⟩
theorem contract (H : Type) (enc : TypeId × Value → H) (W : World) (base : Nat) (args : Array Value) (ds gs : List (DataW H)) (before : List MemPlace)
    (hval : ∀ (j : Nat) t v, Try.f7.params[j]? = some t → args[j]? = some v → Value.okWide Try.prog W .any base t v)
    (hW : DataW.Whole enc Try.prog Try.f7.params.toList Rows.xdrTakesSpec.vars false W args.toList ds gs before) (hk : Rows.uptoSmall H (ds ++ gs) = true) :
    Calls Try.prog 7 args W fun e W' => ∃ v, e = .returned v ∧ Rows.xdrTakesSpec.post enc Try.prog Try.f7 false true false false W args v W' := by
  have hW' := hW
  obtain ⟨p, q, hA0, hV, rfl, _, _⟩ := hW
  have hA : DataW.TrodAll enc Try.prog W 0 (fun _ => true) true Try.f7.params.toList args.toList ds p := hA0
  rw [Try.params7] at hA hval
  obtain ⟨v0, vs0, d0, ds0, p0, q0, hargs, rfl, rfl, h0, r0⟩ := trodAll_cons hA
  obtain ⟨v1, vs1, d1, ds1, p1, q1, rfl, rfl, rfl, h1, r1⟩ := trodAll_cons r0
  obtain ⟨rfl, rfl, rfl⟩ := trodAll_nil r1
  obtain rfl : args = #[v0, v1] := by cases args; simp_all
  obtain ⟨rfl, rfl⟩ := trodVars_none hV
  clear hA0
  have hk2 : Rows.uptoBulkAll _ ≤ 1048576 := of_decide_eq_true hk
  rw [List.append_nil] at hk2
  obtain ⟨s, rfl, rfl, rfl, ws⟩ := open_string Try.underlying9 (hval 0 9 v0 rfl rfl) h0
  obtain ⟨fuel1, hf1⟩ := h1
  obtain ⟨A1, n1, c1, hv1⟩ := okWide_slice Try.underlying30 (hval 1 30 v1 rfl rfl)
  subst hv1
  obtain ⟨A1', n1', c1', rows1, hc1, hn1, hrd1, hrow1, hbulk1⟩ := trod_slice_flat (ks := Item.kinds) (m := 8) Try.underlying30 (by kernel_rfl) (by kernel_rfl) (by decide) hf1
  dsimp only at hbulk1
  obtain ⟨rfl, rfl, rfl⟩ : A1' = A1 ∧ n1' = n1 ∧ c1' = c1 := by simp [Value.cells] at hc1; simp [hc1]
  obtain ⟨l, rfl, hok1⟩ := rows_map Item.cells Item.ok rows1 (fun row hr => Item.of_row row (hrow1 row hr))
  refine (walk W s (by
    have hz : (s.data.toList).length = s.size := bl_length s
    simp only [Rows.uptoBulkAll, Rows.uptoBulk] at hk2
    omega) A1' n1' c1' l hrd1 (by
    have h1 := len_le_sum (ks := Item.kinds) _ hrow1 (by decide)
    have h2 := hrd1.1
    simp only [Rows.uptoBulkAll, Rows.uptoBulk] at hk2
    omega) (by
    simp only [Rows.uptoBulkAll, Rows.uptoBulk] at hk2
    omega) hok1).mono fun e W' ⟨he, hb⟩ => ?_
  exact ⟨_, he, law_post (tb := 4) laidOut readable rfl Try.underlying4 rfl hW' rfl rfl rfl hb⟩
set_option maxRecDepth 100000 in
theorem lifted (os : Os) (started : os.Started) (H : Type) (enc : TypeId × Value → H) (F : Stop.Interp) :
    ReturnsInHanded {} Try.checked os 7 .any ((Rows.OpenSpec.upto Rows.xdrTakesSpec).pre6 enc Try.prog Try.f7 Rows.xdrTakesUptoRow.domain false) (((Rows.OpenSpec.upto Rows.xdrTakesSpec).at F).post enc Try.prog Try.f7 false true false false) := by
  refine returnsInHanded_of_cond (C := Try.checked) (s := Rows.OpenSpec.upto Rows.xdrTakesSpec) (k := Rows.uptoSmall) rfl own started (by kernel_rfl) Try.func7
    (OpenSpec.witness (enc := enc) (C := Try.checked) (s := Rows.OpenSpec.upto Rows.xdrTakesSpec) (k := Rows.uptoSmall) rfl false ⟨#[], #[.string .empty, .slice none 0 0], []⟩ 8 (by kernel_rfl) (by kernel_rfl) (by kernel_rfl)
      (x := ([.lit (.string []), .nil], [], [])) (by kernel_rfl) rfl (by kernel_rfl)) ?_
  intro W base args ds gs before hval hW _ hk _
  exact contract H enc W base args ds gs before hval hW hk
theorem proved : Rows.XdrTakesUptoSaid :=
  OpenClaim.holds_of_cond 7 Try.f7 rfl rfl rfl rfl rfl rfl rfl ⟨rfl, rfl, rfl, rfl, rfl⟩ rfl rfl rfl rfl rfl (by kernel_rfl) Try.func7 (by kernel_rfl)
    (of_decide_eq_true (by kernel_rfl)) (by unfold Func.isWrapper; first | (rw [if_pos (by decide +kernel)]; kernel_rfl) | (rw [if_neg (by decide +kernel)]; exact ⟨rfl, rfl⟩))
    (fun os started H enc _ F => lifted os started H enc F)
#print axioms proved

end Go.Proofs.Ytcmpocabjhlnfaa.XdrTakes

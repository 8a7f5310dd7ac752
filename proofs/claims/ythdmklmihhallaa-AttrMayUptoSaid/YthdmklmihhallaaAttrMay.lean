/- AttrMay: who may do what is the document's, of all modes and callers, over lists of groups of at most 1048576 numbers. -/
import Derived.Test.YthdmklmihhallaaAtD
import Derived.Test.YthdmklmihhallaaLift
import Derived.Test.YthdmklmihhallaaSLA
import Derived.Deep.RegionHeld3
namespace Go.Proofs.Ythdmklmihhallaa.AttrMay
open Go.RowKit Go.ChangeShapes Go.WideShapes Go.ChangeAt Go.Proofs.Ythdmklmihhallaa

theorem keepS {w0 w : World} {b6 b8 : Nat} {m o1 g1 u1 g2 : Int} {T T' : TypeId} {L : List Assn} (H : St w0 w (Pt b8 (attrC m o1 g1) T :: Pt b6 #[.int .i64 o1, .int .i64 g1, .int .i64 u1, .int .i64 g2] T' :: L)) : w.cell? ⟨b6, 0, none⟩ = some (.int .i64 o1) ∧ w.cell? ⟨b6, 1, none⟩ = some (.int .i64 g1) ∧ w.cell? ⟨b6, 2, none⟩ = some (.int .i64 u1) ∧ w.cell? ⟨b6, 3, none⟩ = some (.int .i64 g2) ∧ w.cell? ⟨b8, 0, none⟩ = some (.int .i64 0) ∧ w.cell? ⟨b8, 1, none⟩ = some (.int .i64 m) ∧ w.cell? ⟨b8, 2, none⟩ = some (.int .i64 0) ∧ w.cell? ⟨b8, 3, none⟩ = some (.int .i64 o1) ∧ w.cell? ⟨b8, 4, none⟩ = some (.int .i64 g1) ∧ w.cell? ⟨b8, 5, none⟩ = some (.int .i64 0) ∧ w.cell? ⟨b8, 6, none⟩ = some (.int .i64 0) ∧ w.cell? ⟨b8, 7, none⟩ = some (.int .i64 0) ∧ w.cell? ⟨b8, 8, none⟩ = some (.int .i64 0) ∧ w.cell? ⟨b8, 9, none⟩ = some (.int .i64 0) ∧ w.cell? ⟨b8, 10, none⟩ = some (.int .i64 0) ∧ w.cell? ⟨b8, 11, none⟩ = some (.int .i64 0) ∧ w.cell? ⟨b8, 12, none⟩ = some (.int .i64 0) ∧ w.cell? ⟨b8, 13, none⟩ = some (.int .i64 0) ∧ w.cell? ⟨b8, 14, none⟩ = some (.int .i64 0) ∧ w.cell? ⟨b8, 15, none⟩ = some (.int .i64 0) ∧ w.cell? ⟨b8, 16, none⟩ = some (.int .i64 0) :=
  ⟨H.r2.cell 0 rfl, H.r2.cell 1 rfl, H.r2.cell 2 rfl, H.r2.cell 3 rfl, H.cell 0 rfl, H.cell 1 rfl, H.cell 2 rfl, H.cell 3 rfl, H.cell 4 rfl, H.cell 5 rfl, H.cell 6 rfl, H.cell 7 rfl, H.cell 8 rfl, H.cell 9 rfl, H.cell 10 rfl, H.cell 11 rfl, H.cell 12 rfl, H.cell 13 rfl, H.cell 14 rfl, H.cell 15 rfl, H.cell 16 rfl⟩
set_option maxHeartbeats 4000000 in
theorem walk (w : World) (m : Int) (_hm : -9223372036854775808 ≤ m ∧ m ≤ 9223372036854775807) (o1 : Int) (_ho1 : -9223372036854775808 ≤ o1 ∧ o1 ≤ 9223372036854775807) (g1 : Int) (_hg1 : -9223372036854775808 ≤ g1 ∧ g1 ≤ 9223372036854775807) (u1 : Int) (_hu1 : -9223372036854775808 ≤ u1 ∧ u1 ≤ 9223372036854775807) (g2 : Int) (_hg2 : -9223372036854775808 ≤ g2 ∧ g2 ≤ 9223372036854775807) (bt : Int) (_hbt : -9223372036854775808 ≤ bt ∧ bt ≤ 9223372036854775807) (n6 : Int) (_hn6 : -9223372036854775808 ≤ n6 ∧ n6 ≤ 9223372036854775807)
    (A : Option Addr) (n c : Nat) (l : List Int) (hrd : SlRd w A n 1 (l.map fun x => [.int .i64 x])) (hn : n ≤ 1048576) (_hs : sumW (l.map fun x => [.int .i64 x]) ≤ 1048576) (_hok : ∀ x ∈ l, -9223372036854775808 ≤ x ∧ x ≤ 9223372036854775807) :
    Calls Try.prog 3 #[.agg #[.int .i64 m, .int .i64 o1, .int .i64 g1, .int .i64 u1, .int .i64 g2, .int .i64 bt, .int .i64 n6], .slice A n c] w fun r w' => r = .returned (.bool true) ∧ Below w.heap.size w w' := by
  have H0 := (St.init w).alloc #[.int .i64 m, .int .i64 o1, .int .i64 g1, .int .i64 u1, .int .i64 g2, .int .i64 bt, .int .i64 n6] 22
  have HRD := Lib.hid hrd; clear hrd
  go_enter Try.func3, Try.ntmps3
  go_wp2_with (first | (go_at_call 8; refine (speaks_ok H0).mono ?_; rintro x w1 ⟨rfl, H1⟩))
  have c0 := H1.cell 0 rfl
  have c1 := H1.cell 1 rfl
  have c2 := H1.cell 2 rfl
  have c3 := H1.cell 3 rfl
  have c4 := H1.cell 4 rfl
  have c5 := H1.cell 5 rfl
  generalize w.heap.size = bx at *
  go_region_held3 (fun w' => w'.cell? ⟨bx, 0, none⟩ = some (.int .i64 m) ∧ w'.cell? ⟨bx, 1, none⟩ = some (.int .i64 o1) ∧ w'.cell? ⟨bx, 2, none⟩ = some (.int .i64 g1) ∧ w'.cell? ⟨bx, 3, none⟩ = some (.int .i64 u1) ∧ w'.cell? ⟨bx, 4, none⟩ = some (.int .i64 g2) ∧ w'.cell? ⟨bx, 5, none⟩ = some (.int .i64 bt))  (first | exact ⟨c0, c1, c2, c3, c4, c5⟩ | go_keep) (fail)
  have H2 := (H1.alloc #[.int .i64 o1, .int .i64 g1, .int .i64 u1, .int .i64 g2] 25).drew
  clear c0 c1 c2 c3 c4 c5
  generalize w1.heap.size = b6 at *
  generalize (w1.alloc (.cells #[.int .i64 o1, .int .i64 g1, .int .i64 u1, .int .i64 g2] 25)).drew = w2 at *
  have d0 := H2.cell 0 rfl
  have d1 := H2.cell 1 rfl
  have HZ := H2.alloc (attrC 0 0 0) 29
  go_wp2_with (with_reducible refine hold_store ?_)
  unfold Hold
  with_reducible refine wpList_store_st (ty := 29) (HZ) (attrC m o1 g1) ?_ ?_ ?_ ?_ ?_ ?_ ?_
  rfl
  rfl
  rfl
  rfl
  kernel_rfl
  rfl
  intro w3 H3
  clear d0 d1 HZ
  generalize w2.heap.size = b8 at *
  go_wp2_with (fail)
  have H4 := ((H3.alloc #[] 3).drew).emptyRow (size := 1)
  obtain ⟨i0, hi, hz0, hz1, hz2⟩ := info_parts infoInt
  obtain ⟨hl, hc⟩ := SlRd.src HRD.out H4.below
  subst hl
  have hsrc := Src.of (n := l.length) (by simp) hc
  have hR : ∀ w', St w w' [] → Rd w' A l := fun w' H' => Rd.of (SlRd.src HRD.out H'.below).2
  have HS := Lib.hid hsrc; have HRR := Lib.hid hR; have H4' := Lib.hid H4; clear hsrc hc hR HRD H1 H2
  have be : ∀ b : Bool, (b == b) = true := fun b => by simp
  go_region_held3 (fun w' => w'.cell? ⟨b6, 0, none⟩ = some (.int .i64 o1) ∧ w'.cell? ⟨b6, 1, none⟩ = some (.int .i64 g1) ∧ w'.cell? ⟨b6, 2, none⟩ = some (.int .i64 u1) ∧ w'.cell? ⟨b6, 3, none⟩ = some (.int .i64 g2) ∧ w'.cell? ⟨b8, 0, none⟩ = some (.int .i64 0) ∧ w'.cell? ⟨b8, 1, none⟩ = some (.int .i64 m) ∧ w'.cell? ⟨b8, 2, none⟩ = some (.int .i64 0) ∧ w'.cell? ⟨b8, 3, none⟩ = some (.int .i64 o1) ∧ w'.cell? ⟨b8, 4, none⟩ = some (.int .i64 g1) ∧ w'.cell? ⟨b8, 5, none⟩ = some (.int .i64 0) ∧ w'.cell? ⟨b8, 6, none⟩ = some (.int .i64 0) ∧ w'.cell? ⟨b8, 7, none⟩ = some (.int .i64 0) ∧ w'.cell? ⟨b8, 8, none⟩ = some (.int .i64 0) ∧ w'.cell? ⟨b8, 9, none⟩ = some (.int .i64 0) ∧ w'.cell? ⟨b8, 10, none⟩ = some (.int .i64 0) ∧ w'.cell? ⟨b8, 11, none⟩ = some (.int .i64 0) ∧ w'.cell? ⟨b8, 12, none⟩ = some (.int .i64 0) ∧ w'.cell? ⟨b8, 13, none⟩ = some (.int .i64 0) ∧ w'.cell? ⟨b8, 14, none⟩ = some (.int .i64 0) ∧ w'.cell? ⟨b8, 15, none⟩ = some (.int .i64 0) ∧ w'.cell? ⟨b8, 16, none⟩ = some (.int .i64 0)) (first | exact keepS H3 | exact keepS H3.drew | exact keepS H4'.out.tail | exact keepS H5.tail | exact keepS H6)  (first | (go_at_call 9; refine (may_ok _ _ _ _ _ _ _ _ _ (fun o => Rd.row (H5.more o)) (by omega) H5.tail).mono ?_; rintro x w6 ⟨rfl, H6⟩)  | (go_at_call 10; refine (refmay_ok _ _ _ _ _ _ _ _ _ _ (HRR.out _ H6.tail.tail.tail) (by omega)).mono ?_; rintro x w7 ⟨rfl, rfl⟩)  | (refine step_append_any (by rfl) _ _ _ (by rfl) 3 i0 (.int .i64 0) 1 8 Try.underlying23 hi hz0 hz1 hz2 rfl (by decide) _ 0 0 [] H4'.out (by rfl) A l.length c (l.map fun x => .int .i64 x) (by rfl) (by simp) HS.out (by simp [Value.oneCell']) (by unfold maxLen; omega) (by omega) ?_; rw [List.nil_append, Nat.zero_add]; intro A5 c5 w5 H5))
  go_wp2_with (fail)
  go_ret
  exact ⟨rfl, H6.below⟩
theorem own : ownKnob Try.prog.godebug = none := by kernel_rfl
theorem laidOut : laidOutB Try.prog = true := by kernel_rfl
theorem readable : ∀ t ∈ Try.f3.params.toList, Try.prog.readableRec t = true ∧ t < Try.prog.types.size := by
  intro t ht
  rw [Try.params3] at ht
  simp only [List.mem_cons, List.not_mem_nil, or_false] at ht
  rcases ht with rfl | rfl
  all_goals exact ⟨by kernel_rfl, of_decide_eq_true (by kernel_rfl)⟩
theorem contract (H : Type) (enc : TypeId × Value → H) (W : World) (base : Nat) (args : Array Value) (ds gs : List (DataW H)) (before : List MemPlace)
    (hval : ∀ (j : Nat) t v, Try.f3.params[j]? = some t → args[j]? = some v → Value.okWide Try.prog W .any base t v)
    (hW : DataW.Whole enc Try.prog Try.f3.params.toList Rows.attrMaySpec.vars false W args.toList ds gs before) (hk : Rows.uptoSmall H (ds ++ gs) = true) :
    Calls Try.prog 3 args W fun e W' => ∃ v, e = .returned v ∧ Rows.attrMaySpec.post enc Try.prog Try.f3 false true false false W args v W' := by
  have hW' := hW
  obtain ⟨p, q, hA0, hV, rfl, _, _⟩ := hW
  have hA : DataW.TrodAll enc Try.prog W 0 (fun _ => true) true Try.f3.params.toList args.toList ds p := hA0
  rw [Try.params3] at hA hval
  obtain ⟨v0, vs0, d0, ds0, p0, q0, hargs, rfl, rfl, h0, r0⟩ := trodAll_cons hA
  obtain ⟨v1, vs1, d1, ds1, p1, q1, rfl, rfl, rfl, h1, r1⟩ := trodAll_cons r0
  obtain ⟨rfl, rfl, rfl⟩ := trodAll_nil r1
  obtain rfl : args = #[v0, v1] := by cases args; simp_all
  obtain ⟨rfl, rfl⟩ := trodVars_none hV
  clear hA0
  have hk2 : Rows.uptoBulkAll _ ≤ 1048576 := of_decide_eq_true hk
  rw [List.append_nil] at hk2
  obtain ⟨cs0, hv0, hsz0⟩ := okWide_array Try.underlying22 (hval 0 22 v0 rfl rfl)
  subst hv0
  rw [show Try.prog.cellsOf 22 = 7 by kernel_rfl] at hsz0
  obtain ⟨l0⟩ := cs0
  obtain ⟨fuel0, hf0⟩ := h0
  obtain ⟨hrow0, hbulk0⟩ := trod_flat 8 22 [.int .i64, .int .i64, .int .i64, .int .i64, .int .i64, .int .i64, .int .i64] (by kernel_rfl) _ _ _ hf0
  simp only [Value.cells] at hrow0 hbulk0
  match l0, hsz0, hrow0, hbulk0, hval, hf0, hW', hk2 with
  | [c0_0, c0_1, c0_2, c0_3, c0_4, c0_5, c0_6], _, hrow0, hbulk0, hval, hf0, hW', hk2 =>
  obtain ⟨⟨n0, rfl, wn0⟩, ⟨n1, rfl, wn1⟩, ⟨n2, rfl, wn2⟩, ⟨n3, rfl, wn3⟩, ⟨n4, rfl, wn4⟩, ⟨n5, rfl, wn5⟩, ⟨n6, rfl, wn6⟩, _⟩ := hrow0
  obtain ⟨fuel1, hf1⟩ := h1
  obtain ⟨A1, n1, c1, hv1⟩ := okWide_slice Try.underlying23 (hval 1 23 v1 rfl rfl)
  subst hv1
  obtain ⟨A1', n1', c1', rows1, hc1, hn1, hrd1, hrow1, hbulk1⟩ := trod_slice_flat (ks := [.int .i64]) (m := 8) Try.underlying23 (by kernel_rfl) (by kernel_rfl) (by decide) hf1
  dsimp only at hbulk1
  obtain ⟨rfl, rfl, rfl⟩ : A1' = A1 ∧ n1' = n1 ∧ c1' = c1 := by simp [Value.cells] at hc1; simp [hc1]
  obtain ⟨l, rfl, hok1⟩ := rows_map (fun x : Int => [.int .i64 x]) (fun x : Int => -9223372036854775808 ≤ x ∧ x ≤ 9223372036854775807) rows1 (fun row hr => of_row_int row (hrow1 row hr))
  refine (walk W n0 (wf_i64 wn0) n1 (wf_i64 wn1) n2 (wf_i64 wn2) n3 (wf_i64 wn3) n4 (wf_i64 wn4) n5 (wf_i64 wn5) n6 (wf_i64 wn6) A1' n1' c1' l hrd1 (by
    have h1 := len_le_sum (ks := [.int .i64]) _ hrow1 (by decide)
    have h2 := hrd1.1
    simp only [Rows.uptoBulkAll] at hk2
    omega) (by
    simp only [Rows.uptoBulkAll] at hk2
    omega) hok1).mono fun e W' ⟨he, hb⟩ => ?_
  exact ⟨_, he, law_post (tb := 4) laidOut readable rfl Try.underlying4 rfl hW' rfl rfl rfl hb⟩
set_option maxRecDepth 100000 in
theorem lifted (os : Os) (started : os.Started) (H : Type) (enc : TypeId × Value → H) (F : Stop.Interp) :
    ReturnsInHanded {} Try.checked os 3 .any ((Rows.OpenSpec.upto Rows.attrMaySpec).pre6 enc Try.prog Try.f3 Rows.attrMayUptoRow.domain false) (((Rows.OpenSpec.upto Rows.attrMaySpec).at F).post enc Try.prog Try.f3 false true false false) := by
  refine returnsInHanded_of_cond (C := Try.checked) (s := Rows.OpenSpec.upto Rows.attrMaySpec) (k := Rows.uptoSmall) rfl own started (by kernel_rfl) Try.func3
    (OpenSpec.witness (enc := enc) (C := Try.checked) (s := Rows.OpenSpec.upto Rows.attrMaySpec) (k := Rows.uptoSmall) rfl false ⟨#[], #[.agg #[.int .i64 0, .int .i64 0, .int .i64 0, .int .i64 0, .int .i64 0, .int .i64 0, .int .i64 0], .slice none 0 0], []⟩ 8 (by kernel_rfl) (by kernel_rfl) (by kernel_rfl)
      (x := ([.agg [.lit (.int .i64 0), .lit (.int .i64 0), .lit (.int .i64 0), .lit (.int .i64 0), .lit (.int .i64 0), .lit (.int .i64 0), .lit (.int .i64 0)], .nil], [], [])) (by kernel_rfl) rfl (by kernel_rfl)) ?_
  intro W base args ds gs before hval hW _ hk _
  exact contract H enc W base args ds gs before hval hW hk
theorem proved : Rows.AttrMayUptoSaid :=
  OpenClaim.holds_of_cond 3 Try.f3 rfl rfl rfl rfl rfl rfl rfl ⟨rfl, rfl, rfl, rfl, rfl⟩ rfl rfl rfl rfl rfl (by kernel_rfl) Try.func3 (by kernel_rfl)
    (of_decide_eq_true (by kernel_rfl)) (by unfold Func.isWrapper; first | (rw [if_pos (by decide +kernel)]; kernel_rfl) | (rw [if_neg (by decide +kernel)]; exact ⟨rfl, rfl⟩))
    (fun os started H enc _ F => lifted os started H enc F)
#print axioms proved

end Go.Proofs.Ythdmklmihhallaa.AttrMay

/- DrcStrangers: what one caller was answered is told to no other, for no other number and no other call: of texts of bulk at most 1048576. -/
import Derived.Test.YtkkpcjpdpjpohaaDrE
import Derived.Test.YtkkpcjpdpjpohaaLift
import Derived.Test.YtkkpcjpdpjpohaaLiftC
import Derived.Laws.StructEq
import Derived.ChangeKeysEq
import Derived.Deep.DeepCutAuto
namespace Go.Proofs.Ytkkpcjpdpjpohaa.DrcStrangers
open Go.RowKit Go.ChangeShapes Go.WideShapes Go.ChangeAt Go.Proofs.Ytkkpcjpdpjpohaa
open Go.ChangeMaps (open_string shut_string)

theorem str_beq (a b : ByteArray) : (a.toList == b.toList) = decide (a = b) := by
  by_cases h : a = b
  · subst h; simp
  · rw [decide_eq_false h, beq_eq_false_iff_ne, ByteArray.toList_eq, ByteArray.toList_eq]
    exact fun he => h (bl_inj he)
theorem arr_eq (a0 a1 b0 b1 : Int) (w : World) : (Op.equalIn 10000 22 (.agg #[.int .i64 a0, .int .i64 a1]) (.agg #[.int .i64 b0, .int .i64 b1])).run Try.prog w = .ok (decide (a0 = b0) && decide (a1 = b1)) w := by
  have hi := Try.underlying3
  obtain ⟨i, hinf⟩ : ∃ i, Try.prog.info? 3 = some i := by
    cases h : Try.prog.info? 3 with
    | none => have : (Try.prog.info? 3).isSome = true := by kernel_rfl
              rw [h] at this; cases this
    | some i => exact ⟨i, rfl⟩
  have hc : Try.prog.cellsOf 3 = 1 := by kernel_rfl
  rw [run_equalIn_array w 9999 _ _ Try.underlying22 hinf, hc]
  rw [show List.range 2 = [0, 1] from rfl]
  by_cases h0 : a0 = b0
  · by_cases h1 : a1 = b1
    · simp [Op.eqItems, go_sem, hi, h0, h1]
    · simp [Op.eqItems, go_sem, hi, h0, h1]
  · simp [Op.eqItems, go_sem, hi, h0]
set_option maxRecDepth 100000 in
set_option maxHeartbeats 4000000 in
theorem walk (w : World) (a0 : Int) (ha0 : -9223372036854775808 ≤ a0 ∧ a0 ≤ 9223372036854775807) (a1 : Int) (ha1 : -9223372036854775808 ≤ a1 ∧ a1 ≤ 9223372036854775807)
    (b0 : Int) (_hb0 : -9223372036854775808 ≤ b0 ∧ b0 ≤ 9223372036854775807) (b1 : Int) (_hb1 : -9223372036854775808 ≤ b1 ∧ b1 ≤ 9223372036854775807) (c0 : ByteArray) (_hc0 : c0.size ≤ 1048576) (c1 : ByteArray) (_hc1 : c1.size ≤ 1048576) :
    Calls Try.prog 3 #[.agg #[.int .i64 a0, .int .i64 a1], .agg #[.int .i64 b0, .int .i64 b1], .agg #[.string c0, .string c1]] w fun r w' => r = .returned (.bool true) ∧ Below w.heap.size w w' := by
  have H0 := (((St.init w).alloc #[.int .i64 a0, .int .i64 a1] 22).alloc #[.int .i64 b0, .int .i64 b1] 22).alloc #[.string c0, .string c1] 23
  simp only [World.size_alloc] at H0
  obtain ⟨b3, hb3⟩ : ∃ x, x = w.heap.size := ⟨_, rfl⟩
  obtain ⟨b4, hb4⟩ : ∃ x, x = w.heap.size + 1 := ⟨_, rfl⟩
  obtain ⟨b5, hb5⟩ : ∃ x, x = w.heap.size + 1 + 1 := ⟨_, rfl⟩
  have HA0 := Lib.hid ha0; have HA1 := Lib.hid ha1
  clear ha0 ha1 _hb0 _hb1
  go_enter Try.func3, Try.ntmps3
  go_upto_region 1 with (fail)
  rw [← hb5] at H0 ⊢
  rw [← hb4] at H0 ⊢
  rw [← hb3] at H0 ⊢
  generalize ((w.alloc (.cells #[.int .i64 a0, .int .i64 a1] 22)).alloc (.cells #[.int .i64 b0, .int .i64 b1] 22)).alloc (.cells #[.string c0, .string c1] 23) = w1 at *
  clear hb3 hb4 hb5
  go_wp2_with (fail)
  refine (speaks16_ok H0).mono ?_
  rintro x w2 ⟨rfl, H1⟩
  clear H0
  have p0 := H1.cell 0 (v := .string c0) rfl
  have p1 := H1.cell 1 (v := .string c1) rfl
  by_cases hz0 : c0.size ≤ 900
  rotate_left 1
  · have hzI : decide ((c0.size : Int) > 900) = true := decide_eq_true (by omega)
    have hzN : decide (900 < c0.size) = true := decide_eq_true (by omega)
    have hzP : (c0.size : Int) > 900 := by omega
    clear hz0
    go_wp2_with (fail)
    go_ret
    exact ⟨rfl, H1.below⟩
  have hzI : decide ((c0.size : Int) > 900) = false := decide_eq_false (by omega)
  have hzN : decide (900 < c0.size) = false := decide_eq_false (by omega)
  by_cases hz1 : c1.size ≤ 900
  rotate_left 1
  · have hzP : (c1.size : Int) > 900 := by omega
    clear hz0 hz1
    go_wp2_with (fail)
    go_ret
    exact ⟨rfl, H1.below⟩
  have hzP : ¬ (c1.size : Int) > 900 := by omega
  have HZ0 := Lib.hid hz0; clear hz0 hz1
  go_wp2_with (fail)
  clear hzI hzN p0 p1
  refine (dnew_ok 5 H1).mono ?_
  rintro x w3 ⟨b, rfl, A, H2⟩
  clear H1
  have p0 := (H2.ord 5 [2, 0, 1, 3, 4]).cell 0 (v := .string c0) rfl
  have q0 := (H2.ord 5 [4, 0, 1, 2, 3]).cell 0 (v := .int .i64 a0) rfl
  have q1 := (H2.ord 5 [4, 0, 1, 2, 3]).cell 1 (v := .int .i64 a1) rfl
  have hp := dput_ok b (DS.new 5) a0 a1 c0 ⟨#[120]⟩ ⟨by decide, by decide⟩ HA0.out HA1.out (new_len2 5) ⟨A, H2⟩
  have HP := Lib.hid hp; clear hp H2
  go_wp2_with (fail)
  refine HP.out.mono ?_
  intro x w4 hx
  unfold DPutE at hx
  rw [if_pos ⟨HZ0.out, by decide⟩] at hx
  obtain ⟨rfl, A, H3⟩ := hx
  clear HP p0 q0 q1
  have p0 := (H3.ord 5 [2, 0, 1, 3, 4]).cell 0 (v := .string c0) rfl
  have p1 := (H3.ord 5 [2, 0, 1, 3, 4]).cell 1 (v := .string c1) rfl
  have r0 := (H3.ord 5 [3, 0, 1, 2, 4]).cell 0 (v := .int .i64 b0) rfl
  have r1 := (H3.ord 5 [3, 0, 1, 2, 4]).cell 1 (v := .int .i64 b1) rfl
  have hl := dlook_ok b ((DS.new 5).put a0 a1 c0 ⟨#[120]⟩) b0 b1 c1 (by rw [DS.put_length]; exact (new_len2 5).2) ⟨A, H3⟩
  obtain ⟨AE, hAE⟩ : ∃ b, b = (decide (a0 = b0) && decide (a1 = b1)) := ⟨_, rfl⟩
  obtain ⟨XE, hXE⟩ : ∃ b, b = decide (c0 = c1) := ⟨_, rfl⟩
  obtain ⟨rp, fl, hrp, hfl, hcs⟩ : ∃ rp fl, (((DS.new 5).put a0 a1 c0 ⟨#[120]⟩).best b0 b1 c1).reply = rp ∧ decide ((((DS.new 5).put a0 a1 c0 ⟨#[120]⟩).best b0 b1 c1).age > 0) = fl ∧ ((AE = true ∧ XE = true ∧ fl = true ∧ rp = ⟨#[120]⟩) ∨ ((AE = false ∨ (AE = true ∧ XE = false)) ∧ fl = false ∧ rp = ⟨#[]⟩)) := by
    refine ⟨_, _, rfl, rfl, ?_⟩
    rw [best_one]
    by_cases h : a0 = b0 ∧ a1 = b1 ∧ c0 = c1
    · rw [if_pos h]
      refine .inl ⟨by rw [hAE, decide_eq_true h.1, decide_eq_true h.2.1]; rfl, by rw [hXE, decide_eq_true h.2.2], rfl, rfl⟩
    · rw [if_neg h]
      refine .inr ⟨?_, rfl, rfl⟩
      cases hA : AE with
      | false => exact .inl rfl
      | true =>
        rw [hA] at hAE
        have h1 := (Bool.and_eq_true _ _).mp hAE.symm
        refine .inr ⟨rfl, ?_⟩
        rw [hXE]
        exact decide_eq_false fun hc => h ⟨of_decide_eq_true h1.1, of_decide_eq_true h1.2, hc⟩
  rw [hrp, hfl] at hl
  have har : ∀ w, (binOp .eql 22 (.agg #[.int .i64 a0, .int .i64 a1]) (.agg #[.int .i64 b0, .int .i64 b1])).run Try.prog w = .ok (.bool AE) w := fun w => by
    rw [run_eql_struct, arr_eq, ← hAE]; rfl
  have hxx : (c0.toList == c1.toList) = XE := by rw [str_beq, ← hXE]
  have HCS := Lib.hid hcs
  have HL := Lib.hid hl; clear hl H3 hrp hfl hcs hXE hAE
  go_wp2_with (fail)
  refine HL.out.mono ?_
  rintro x w5 ⟨rfl, A, H4⟩
  clear HL p0 p1 r0 r1
  have p0 := (H4.ord 5 [2, 0, 1, 3, 4]).cell 0 (v := .string c0) rfl
  have p1 := (H4.ord 5 [2, 0, 1, 3, 4]).cell 1 (v := .string c1) rfl
  have q0 := (H4.ord 5 [4, 0, 1, 2, 3]).cell 0 (v := .int .i64 a0) rfl
  have q1 := (H4.ord 5 [4, 0, 1, 2, 3]).cell 1 (v := .int .i64 a1) rfl
  have r0 := (H4.ord 5 [3, 0, 1, 2, 4]).cell 0 (v := .int .i64 b0) rfl
  have r1 := (H4.ord 5 [3, 0, 1, 2, 4]).cell 1 (v := .int .i64 b1) rfl
  have hs1 : ((⟨#[120]⟩ : ByteArray).toList == (⟨#[120]⟩ : ByteArray).toList) = true := by simp
  have hs2 : ((⟨#[]⟩ : ByteArray).toList == (⟨#[120]⟩ : ByteArray).toList) = false := by rw [str_beq]; exact decide_eq_false (fun h => absurd (congrArg ByteArray.size h) (by decide))
  rcases HCS.out with ⟨rfl, rfl, rfl, rfl⟩ | ⟨rfl | ⟨rfl, rfl⟩, rfl, rfl⟩
  · clear HCS hs2
    go_wp2_with (fail)
    go_ret
    exact ⟨rfl, H4.below⟩
  · clear HCS hs1
    go_wp2_with (fail)
    go_ret
    exact ⟨rfl, H4.below⟩
  · clear HCS hs1
    go_wp2_with (fail)
    go_ret
    exact ⟨rfl, H4.below⟩
theorem own : ownKnob Try.prog.godebug = none := by kernel_rfl
theorem laidOut : laidOutB Try.prog = true := by kernel_rfl
theorem readable : ∀ t ∈ Try.f3.params.toList, Try.prog.readableRec t = true ∧ t < Try.prog.types.size := by
  intro t ht
  rw [Try.params3] at ht
  simp only [List.mem_cons, List.not_mem_nil, or_false] at ht
  rcases ht with rfl | rfl | rfl
  all_goals exact ⟨by kernel_rfl, of_decide_eq_true (by kernel_rfl)⟩
set_option maxRecDepth 100000 in
theorem contract (H : Type) (enc : TypeId × Value → H) (W : World) (base : Nat) (args : Array Value) (ds gs : List (DataW H)) (before : List MemPlace)
    (hval : ∀ (j : Nat) t v, Try.f3.params[j]? = some t → args[j]? = some v → Value.okWide Try.prog W .any base t v)
    (hW : DataW.Whole enc Try.prog Try.f3.params.toList Rows.drcStrangersSpec.vars false W args.toList ds gs before) (hk : Rows.uptoSmall H (ds ++ gs) = true) :
    Calls Try.prog 3 args W fun e W' => ∃ v, e = .returned v ∧ Rows.drcStrangersSpec.post enc Try.prog Try.f3 false true false false W args v W' := by
  have hW' := hW
  obtain ⟨p, q, hA0, hV, rfl, _, _⟩ := hW
  have hA : DataW.TrodAll enc Try.prog W 0 (fun _ => true) true Try.f3.params.toList args.toList ds p := hA0
  rw [Try.params3] at hA hval
  obtain ⟨v0, vs0, d0, ds0, p0, q0, hargs, rfl, rfl, h0, r0⟩ := trodAll_cons hA
  obtain ⟨v1, vs1, d1, ds1, p1, q1, rfl, rfl, rfl, h1, r1⟩ := trodAll_cons r0
  obtain ⟨v2, vs2, d2, ds2, p2, q2, rfl, rfl, rfl, h2, r2⟩ := trodAll_cons r1
  obtain ⟨rfl, rfl, rfl⟩ := trodAll_nil r2
  obtain rfl : args = #[v0, v1, v2] := by cases args; simp_all
  obtain ⟨rfl, rfl⟩ := trodVars_none hV
  clear hA0
  have hk2 : Rows.uptoBulkAll _ ≤ 1048576 := of_decide_eq_true hk
  rw [List.append_nil] at hk2
  obtain ⟨cs0, hv0, hsz0⟩ := okWide_array Try.underlying22 (hval 0 22 v0 rfl rfl)
  subst hv0
  rw [show Try.prog.cellsOf 22 = 2 by kernel_rfl] at hsz0
  obtain ⟨l0⟩ := cs0
  obtain ⟨fuel0, hf0⟩ := h0
  obtain ⟨hrow0, hbulk0⟩ := trod_flat 8 22 [.int .i64, .int .i64] (by kernel_rfl) _ _ _ hf0
  simp only [Value.cells] at hrow0 hbulk0
  match l0, hsz0, hrow0, hbulk0, hval, hf0, hW', hk2 with
  | [c0_0, c0_1], _, hrow0, hbulk0, hval, hf0, hW', hk2 =>
  obtain ⟨⟨a0, rfl, wa0⟩, ⟨a1, rfl, wa1⟩, _⟩ := hrow0
  obtain ⟨cs1, hv1, hsz1⟩ := okWide_array Try.underlying22 (hval 1 22 v1 rfl rfl)
  subst hv1
  rw [show Try.prog.cellsOf 22 = 2 by kernel_rfl] at hsz1
  obtain ⟨l1⟩ := cs1
  obtain ⟨fuel1, hf1⟩ := h1
  obtain ⟨hrow1, hbulk1⟩ := trod_flat 8 22 [.int .i64, .int .i64] (by kernel_rfl) _ _ _ hf1
  simp only [Value.cells] at hrow1 hbulk1
  match l1, hsz1, hrow1, hbulk1, hval, hf1, hW', hk2 with
  | [c1_0, c1_1], _, hrow1, hbulk1, hval, hf1, hW', hk2 =>
  obtain ⟨⟨b0, rfl, wb0⟩, ⟨b1, rfl, wb1⟩, _⟩ := hrow1
  obtain ⟨cs2, hv2, hsz2⟩ := okWide_array Try.underlying23 (hval 2 23 v2 rfl rfl)
  subst hv2
  rw [show Try.prog.cellsOf 23 = 2 by kernel_rfl] at hsz2
  obtain ⟨l2⟩ := cs2
  obtain ⟨fuel2, hf2⟩ := h2
  obtain ⟨hrow2, hbulk2⟩ := trod_flat 8 23 [.str, .str] (by kernel_rfl) _ _ _ hf2
  simp only [Value.cells] at hrow2 hbulk2
  match l2, hsz2, hrow2, hbulk2, hval, hf2, hW', hk2 with
  | [c2_0, c2_1], _, hrow2, hbulk2, hval, hf2, hW', hk2 =>
  obtain ⟨⟨c0, rfl, _⟩, ⟨c1, rfl, _⟩, _⟩ := hrow2
  refine (walk W a0 (wf_i64 wa0) a1 (wf_i64 wa1) b0 (wf_i64 wb0) b1 (wf_i64 wb1) c0 (by simp only [Rows.uptoBulkAll] at hk2; simp only [wts, wt, Array.toList] at hbulk2; omega) c1 (by simp only [Rows.uptoBulkAll] at hk2; simp only [wts, wt, Array.toList] at hbulk2; omega)).mono fun e W' ⟨he, hb⟩ => ?_
  exact ⟨_, he, law_post (tb := 4) laidOut readable rfl Try.underlying4 rfl hW' rfl rfl rfl hb⟩
set_option maxRecDepth 100000 in
theorem lifted (os : Os) (started : os.Started) (H : Type) (enc : TypeId × Value → H) (F : Stop.Interp) :
    ReturnsInHanded {} Try.checked os 3 .any ((Rows.OpenSpec.upto Rows.drcStrangersSpec).pre6 enc Try.prog Try.f3 Rows.drcStrangersUptoRow.domain false) (((Rows.OpenSpec.upto Rows.drcStrangersSpec).at F).post enc Try.prog Try.f3 false true false false) := by
  refine returnsInHanded_of_cond (C := Try.checked) (s := Rows.OpenSpec.upto Rows.drcStrangersSpec) (k := Rows.uptoSmall) rfl own started (by kernel_rfl) Try.func3
    (OpenSpec.witness (enc := enc) (C := Try.checked) (s := Rows.OpenSpec.upto Rows.drcStrangersSpec) (k := Rows.uptoSmall) rfl false ⟨#[], #[.agg #[.int .i64 0, .int .i64 0], .agg #[.int .i64 0, .int .i64 0], .agg #[.string .empty, .string .empty]], []⟩ 8 (by kernel_rfl) (by kernel_rfl) (by kernel_rfl)
      (x := ([.agg [.lit (.int .i64 0), .lit (.int .i64 0)], .agg [.lit (.int .i64 0), .lit (.int .i64 0)], .agg [.lit (.string []), .lit (.string [])]], [], [])) (by kernel_rfl) rfl (by kernel_rfl)) ?_
  intro W base args ds gs before hval hW _ hk _
  exact contract H enc W base args ds gs before hval hW hk
theorem proved : Rows.DrcStrangersUptoSaid :=
  OpenClaim.holds_of_cond 3 Try.f3 rfl rfl rfl rfl rfl rfl rfl ⟨rfl, rfl, rfl, rfl, rfl⟩ rfl rfl rfl rfl rfl (by kernel_rfl) Try.func3 (by kernel_rfl)
    (of_decide_eq_true (by kernel_rfl)) (by unfold Func.isWrapper; first | (rw [if_pos (by decide +kernel)]; kernel_rfl) | (rw [if_neg (by decide +kernel)]; exact ⟨rfl, rfl⟩))
    (fun os started H enc _ F => lifted os started H enc F)
#print axioms proved

end Go.Proofs.Ytkkpcjpdpjpohaa.DrcStrangers

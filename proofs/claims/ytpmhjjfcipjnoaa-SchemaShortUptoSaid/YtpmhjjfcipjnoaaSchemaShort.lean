/- SchemaShort: bytes that are cut short aren't taken, and bytes more aren't either: of texts of bulk at most 1048576. -/
import Derived.Test.YtpmhjjfcipjnoaaSmM
import Derived.Test.YtpmhjjfcipjnoaaSmW
import Derived.Test.YtpmhjjfcipjnoaaLift
import Derived.Test.YtpmhjjfcipjnoaaLiftC
import Derived.Deep.DeepCutAuto
namespace Go.Proofs.Ytpmhjjfcipjnoaa.SchemaShort
open Go.RowKit Go.ChangeShapes Go.WideShapes Go.ChangeAt Go.Proofs.Ytpmhjjfcipjnoaa
open Go.ChangeMaps (open_string shut_string)

-- the longer one, and the answer: §1 w, §2 H
set_option maxRecDepth 100000 in
set_option maxHeartbeats 2000000 in
theorem walk (w : World) (form : ByteArray) (hf : form.size ≤ 1048576) (s : ByteArray) (hs : s.size ≤ 1048576) (cut : Int) (_ : -9223372036854775808 ≤ cut ∧ cut ≤ 9223372036854775807) :
    Calls Try.prog 3 #[.string form, .string s, .int .i64 cut] w fun r w' => r = .returned (.bool true) ∧ Below w.heap.size w w' := by
  have H0 := St.init w
  obtain ⟨o, ho⟩ : ∃ o, o = decodeF form s := ⟨_, rfl⟩
  have hd := fun (w1 : World) (F : List Assn) (H : St w w1 F) => decode_ok form s (by omega) (by omega) H
  rw [← ho] at hd
  have HD := Lib.hid hd; have HO := Lib.hid ho
  clear hd ho
  go_enter Try.func3, Try.ntmps3
  go_wp2_with (fail)
  refine (speaks_ok H0).mono ?_
  rintro x w1 ⟨rfl, H1⟩
  clear H0
  go_wp2_with (fail)
  refine (HD.out _ _ H1).mono ?_
  intro x w2 hx
  cases o with
  | error e =>
    obtain ⟨rfl, H2⟩ := hx
    have he : (e != 0) = true := bne_iff_ne.2 (decodeF_err HO.out.symm)
    have H3 := H2.alloc #[.slice none 0 0, .slice none 0 0] 26
    go_wp2_with (fail)
    go_ret
    exact ⟨rfl, H3.below⟩
  | ok v =>
    obtain ⟨A, c, B, d, rfl, H2⟩ := hx
    have H2 := H2.tail.tail
    obtain ⟨nN, hnN⟩ : ∃ x, x = v.1.length := ⟨_, rfl⟩
    obtain ⟨nT, hnT⟩ : ∃ x, x = v.2.length := ⟨_, rfl⟩
    rw [← hnN, ← hnT]
    clear hnN hnT
    have H3 := H2.alloc #[.slice A nN c, .slice B nT d] 26
    obtain ⟨b7, hb7⟩ : ∃ b, b = w2.heap.size := ⟨_, rfl⟩
    go_upto_region 4 with (fail)
    rw [← hb7] at H3 ⊢
    generalize w2.alloc (.cells #[.slice A nN c, .slice B nT d] 26) = w3 at *
    clear hb7 H2 H1
    by_cases hz : s.size ≤ 65000
    rotate_left 1
    · have hzI : (s.size : Int) > 65000 := by omega
      clear hz
      go_wp2_with (fail)
      go_ret
      exact ⟨rfl, H3.below⟩
    have hzI : ¬ (s.size : Int) > 65000 := by omega
    obtain ⟨hc1, hc2⟩ := dec_short HO.out.symm
    have hc2 := hc2 hz
    have hd2 := fun (w1 : World) (F : List Assn) (H : St w w1 F) => decode_ok form (s ++ ⟨#[0, 0, 0, 0]⟩) (by omega) (by rw [ByteArray.size_append]; show s.size + 4 ≤ _; omega) H
    rw [hc2] at hd2
    have HC := Lib.hid hc1; have HD2 := Lib.hid hd2
    clear hc1 hc2 hd2 hz
    by_cases hc : 0 ≤ cut ∧ cut < s.size
    · obtain ⟨c9, rfl⟩ := Int.eq_ofNat_of_zero_le hc.1
      have hcI : ¬ ((c9 : Int) < 0) := by omega
      have hcJ : (c9 : Int) < s.size := by omega
      have hcK : ¬ (s.size : Int) ≤ (c9 : Int) := by omega
      have hz0 : ((s.size : Int) == 0) = false := beq_eq_false_iff_ne.2 (by omega)
      have hdc := fun (w1 : World) (F : List Assn) (H : St w w1 F) => decode_ok form (s.extract 0 c9) (by omega) (by have := extract_le s 0 c9; omega) H
      rw [HC.out c9 (by omega)] at hdc
      have HDC := Lib.hid hdc
      clear hdc hc
      go_wp2_with (fail)
      refine (HDC.out _ _ H3).mono ?_
      rintro x w4 ⟨rfl, H4⟩
      have H5 := H4.alloc #[.slice none 0 0, .slice none 0 0] 26
      obtain ⟨b9, hb9⟩ : ∃ b, b = w4.heap.size := ⟨_, rfl⟩
      go_upto_region 9 with (fail)
      rw [← hb9] at H5 ⊢
      generalize w4.alloc (.cells #[.slice none 0 0, .slice none 0 0] 26) = w5 at *
      clear hb9 H4
      have hcat : s.size + 4 ≤ 9223372036854775807 := by omega
      go_wp2_with (fail)
      refine (HD2.out _ _ (H5)).mono ?_
      rintro x w6 ⟨rfl, H6⟩
      have H7 := H6.alloc #[.slice none 0 0, .slice none 0 0] 26
      obtain ⟨b11, hb11⟩ : ∃ b, b = w6.heap.size := ⟨_, rfl⟩
      go_upto_region 10 with (fail)
      rw [← hb11] at H7 ⊢
      generalize w6.alloc (.cells #[.slice none 0 0, .slice none 0 0] 26) = w7 at *
      clear hb11 H6
      have r0 := H7.cell 0 rfl
      have r1 := H7.cell 1 rfl
      have q0 := H7.r2.cell 0 rfl
      go_wp2_with (fail)
      go_ret
      exact ⟨rfl, H7.below⟩
    · by_cases hs0 : s.size = 0
      · have hz0 : ((s.size : Int) == 0) = true := beq_iff_eq.2 (by omega)
        have hse : s = ByteArray.empty := by
          obtain ⟨dd⟩ := s
          have : dd = #[] := Array.size_eq_zero_iff.1 hs0
          subst this; rfl
        have hd3 := fun (w1 : World) (F : List Assn) (H : St w w1 F) => decode_ok form ByteArray.empty (by omega) (by decide) H
        rw [show decodeF form ByteArray.empty = .ok v from by rw [← hse]; exact HO.out.symm] at hd3
        have HD3 := Lib.hid hd3
        clear hd3 hse
        by_cases hcn : cut < 0
        · clear hs0 hc
          go_wp2_with (fail)
          refine (HD3.out _ _ H3).mono ?_
          rintro x w4 ⟨A2, c2, B2, d2, rfl, H4⟩
          have H4 := H4.tail.tail
          obtain ⟨n2, hn2⟩ : ∃ x, x = v.1.length := ⟨_, rfl⟩
          obtain ⟨t2, ht2⟩ : ∃ x, x = v.2.length := ⟨_, rfl⟩
          rw [← hn2, ← ht2]
          clear hn2 ht2
          have H5 := H4.alloc #[.slice A2 n2 c2, .slice B2 t2 d2] 26
          obtain ⟨b9, hb9⟩ : ∃ b, b = w4.heap.size := ⟨_, rfl⟩
          go_upto_region 9 with (fail)
          rw [← hb9] at H5 ⊢
          generalize w4.alloc (.cells #[.slice A2 n2 c2, .slice B2 t2 d2] 26) = w5 at *
          clear hb9 H4
          have hcat : s.size + 4 ≤ 9223372036854775807 := by omega
          go_wp2_with (fail)
          refine (HD2.out _ _ (H5)).mono ?_
          rintro x w6 ⟨rfl, H6⟩
          have H7 := H6.alloc #[.slice none 0 0, .slice none 0 0] 26
          obtain ⟨b11, hb11⟩ : ∃ b, b = w6.heap.size := ⟨_, rfl⟩
          go_upto_region 10 with (fail)
          rw [← hb11] at H7 ⊢
          generalize w6.alloc (.cells #[.slice none 0 0, .slice none 0 0] 26) = w7 at *
          clear hb11 H6
          have r0 := H7.cell 0 rfl
          have r1 := H7.cell 1 rfl
          go_wp2_with (fail)
          go_ret
          exact ⟨rfl, H7.below⟩
        · have hcK : (s.size : Int) ≤ cut := by omega
          clear hs0 hc
          go_wp2_with (fail)
          refine (HD3.out _ _ H3).mono ?_
          rintro x w4 ⟨A2, c2, B2, d2, rfl, H4⟩
          have H4 := H4.tail.tail
          obtain ⟨n2, hn2⟩ : ∃ x, x = v.1.length := ⟨_, rfl⟩
          obtain ⟨t2, ht2⟩ : ∃ x, x = v.2.length := ⟨_, rfl⟩
          rw [← hn2, ← ht2]
          clear hn2 ht2
          have H5 := H4.alloc #[.slice A2 n2 c2, .slice B2 t2 d2] 26
          obtain ⟨b9, hb9⟩ : ∃ b, b = w4.heap.size := ⟨_, rfl⟩
          go_upto_region 9 with (fail)
          rw [← hb9] at H5 ⊢
          generalize w4.alloc (.cells #[.slice A2 n2 c2, .slice B2 t2 d2] 26) = w5 at *
          clear hb9 H4
          have hcat : s.size + 4 ≤ 9223372036854775807 := by omega
          go_wp2_with (fail)
          refine (HD2.out _ _ (H5)).mono ?_
          rintro x w6 ⟨rfl, H6⟩
          have H7 := H6.alloc #[.slice none 0 0, .slice none 0 0] 26
          obtain ⟨b11, hb11⟩ : ∃ b, b = w6.heap.size := ⟨_, rfl⟩
          go_upto_region 10 with (fail)
          rw [← hb11] at H7 ⊢
          generalize w6.alloc (.cells #[.slice none 0 0, .slice none 0 0] 26) = w7 at *
          clear hb11 H6
          have r0 := H7.cell 0 rfl
          have r1 := H7.cell 1 rfl
          go_wp2_with (fail)
          go_ret
          exact ⟨rfl, H7.below⟩
      · have hz0 : ((s.size : Int) == 0) = false := beq_eq_false_iff_ne.2 (by omega)
        have hdc := fun (w1 : World) (F : List Assn) (H : St w w1 F) => decode_ok form ByteArray.empty (by omega) (by decide) H
        have hem : s.extract 0 0 = ByteArray.empty := ByteArray.extract_eq_empty_iff.2 (by omega)
        rw [show decodeF form ByteArray.empty = .error 5 from by rw [← hem]; exact HC.out 0 (by omega)] at hdc
        have HDC := Lib.hid hdc
        clear hdc hem
        by_cases hcn : cut < 0
        · clear hs0 hc
          go_wp2_with (fail)
          refine (HDC.out _ _ H3).mono ?_
          rintro x w4 ⟨rfl, H4⟩
          have H5 := H4.alloc #[.slice none 0 0, .slice none 0 0] 26
          obtain ⟨b9, hb9⟩ : ∃ b, b = w4.heap.size := ⟨_, rfl⟩
          go_upto_region 9 with (fail)
          rw [← hb9] at H5 ⊢
          generalize w4.alloc (.cells #[.slice none 0 0, .slice none 0 0] 26) = w5 at *
          clear hb9 H4
          have hcat : s.size + 4 ≤ 9223372036854775807 := by omega
          go_wp2_with (fail)
          refine (HD2.out _ _ (H5)).mono ?_
          rintro x w6 ⟨rfl, H6⟩
          have H7 := H6.alloc #[.slice none 0 0, .slice none 0 0] 26
          obtain ⟨b11, hb11⟩ : ∃ b, b = w6.heap.size := ⟨_, rfl⟩
          go_upto_region 10 with (fail)
          rw [← hb11] at H7 ⊢
          generalize w6.alloc (.cells #[.slice none 0 0, .slice none 0 0] 26) = w7 at *
          clear hb11 H6
          have r0 := H7.cell 0 rfl
          have r1 := H7.cell 1 rfl
          have q0 := H7.r2.cell 0 rfl
          go_wp2_with (fail)
          go_ret
          exact ⟨rfl, H7.below⟩
        · have hcK : (s.size : Int) ≤ cut := by omega
          clear hs0 hc
          go_wp2_with (fail)
          refine (HDC.out _ _ H3).mono ?_
          rintro x w4 ⟨rfl, H4⟩
          have H5 := H4.alloc #[.slice none 0 0, .slice none 0 0] 26
          obtain ⟨b9, hb9⟩ : ∃ b, b = w4.heap.size := ⟨_, rfl⟩
          go_upto_region 9 with (fail)
          rw [← hb9] at H5 ⊢
          generalize w4.alloc (.cells #[.slice none 0 0, .slice none 0 0] 26) = w5 at *
          clear hb9 H4
          have hcat : s.size + 4 ≤ 9223372036854775807 := by omega
          go_wp2_with (fail)
          refine (HD2.out _ _ (H5)).mono ?_
          rintro x w6 ⟨rfl, H6⟩
          have H7 := H6.alloc #[.slice none 0 0, .slice none 0 0] 26
          obtain ⟨b11, hb11⟩ : ∃ b, b = w6.heap.size := ⟨_, rfl⟩
          go_upto_region 10 with (fail)
          rw [← hb11] at H7 ⊢
          generalize w6.alloc (.cells #[.slice none 0 0, .slice none 0 0] 26) = w7 at *
          clear hb11 H6
          have r0 := H7.cell 0 rfl
          have r1 := H7.cell 1 rfl
          have q0 := H7.r2.cell 0 rfl
          go_wp2_with (fail)
          go_ret
          exact ⟨rfl, H7.below⟩
theorem own : ownKnob Try.prog.godebug = none := by kernel_rfl
theorem laidOut : laidOutB Try.prog = true := by kernel_rfl
theorem readable : ∀ t ∈ Try.f3.params.toList, Try.prog.readableRec t = true ∧ t < Try.prog.types.size := by
  intro t ht
  rw [Try.params3] at ht
  simp only [List.mem_cons, List.not_mem_nil, or_false] at ht
  rcases ht with rfl | rfl | rfl
  all_goals exact ⟨by kernel_rfl, of_decide_eq_true (by kernel_rfl)⟩
set_option maxRecDepth 100000 in
theorem contract (H : Type) (enc : TypeId × Value → H) (W : World) (base : Nat) (args : Array Value) (ds gs : List (DataW H)) (before : List MemPlace)
    (hval : ∀ (j : Nat) t v, Try.f3.params[j]? = some t → args[j]? = some v → Value.okWide Try.prog W .any base t v)
    (hW : DataW.Whole enc Try.prog Try.f3.params.toList Rows.schemaShortSpec.vars false W args.toList ds gs before) (hk : Rows.uptoSmall H (ds ++ gs) = true) :
    Calls Try.prog 3 args W fun e W' => ∃ v, e = .returned v ∧ Rows.schemaShortSpec.post enc Try.prog Try.f3 false true false false W args v W' := by
  have hW' := hW
  obtain ⟨p, q, hA0, hV, rfl, _, _⟩ := hW
  have hA : DataW.TrodAll enc Try.prog W 0 (fun _ => true) true Try.f3.params.toList args.toList ds p := hA0
  rw [Try.params3] at hA hval
  obtain ⟨v0, vs0, d0, ds0, p0, q0, hargs, rfl, rfl, h0, r0⟩ := trodAll_cons hA
  obtain ⟨v1, vs1, d1, ds1, p1, q1, rfl, rfl, rfl, h1, r1⟩ := trodAll_cons r0
  obtain ⟨v2, vs2, d2, ds2, p2, q2, rfl, rfl, rfl, h2, r2⟩ := trodAll_cons r1
  obtain ⟨rfl, rfl, rfl⟩ := trodAll_nil r2
  obtain rfl : args = #[v0, v1, v2] := by cases args; simp_all
  obtain ⟨rfl, rfl⟩ := trodVars_none hV
  clear hA0
  have hk2 : Rows.uptoBulkAll _ ≤ 1048576 := of_decide_eq_true hk
  rw [List.append_nil] at hk2
  obtain ⟨form, rfl, rfl, rfl, wform⟩ := open_string Try.underlying9 (hval 0 9 v0 rfl rfl) h0
  obtain ⟨s, rfl, rfl, rfl, ws⟩ := open_string Try.underlying9 (hval 1 9 v1 rfl rfl) h1
  obtain ⟨cut, rfl, rfl, rfl, wcut⟩ := open_int Try.underlying3 (hval 2 3 v2 rfl rfl) h2
  refine (walk W form (by
    have hz : (form.data.toList).length = form.size := bl_length form
    simp only [Rows.uptoBulkAll, Rows.uptoBulk] at hk2
    omega) s (by
    have hz : (s.data.toList).length = s.size := bl_length s
    simp only [Rows.uptoBulkAll, Rows.uptoBulk] at hk2
    omega) cut (wf_i64 wcut)).mono fun e W' ⟨he, hb⟩ => ?_
  exact ⟨_, he, law_post (tb := 4) laidOut readable rfl Try.underlying4 rfl hW' rfl rfl rfl hb⟩
set_option maxRecDepth 100000 in
theorem lifted (os : Os) (started : os.Started) (H : Type) (enc : TypeId × Value → H) (F : Stop.Interp) :
    ReturnsInHanded {} Try.checked os 3 .any ((Rows.OpenSpec.upto Rows.schemaShortSpec).pre6 enc Try.prog Try.f3 Rows.schemaShortUptoRow.domain false) (((Rows.OpenSpec.upto Rows.schemaShortSpec).at F).post enc Try.prog Try.f3 false true false false) := by
  refine returnsInHanded_of_cond (C := Try.checked) (s := Rows.OpenSpec.upto Rows.schemaShortSpec) (k := Rows.uptoSmall) rfl own started (by kernel_rfl) Try.func3
    (OpenSpec.witness (enc := enc) (C := Try.checked) (s := Rows.OpenSpec.upto Rows.schemaShortSpec) (k := Rows.uptoSmall) rfl false ⟨#[], #[.string .empty, .string .empty, .int .i64 0], []⟩ 8 (by kernel_rfl) (by kernel_rfl) (by kernel_rfl)
      (x := ([.lit (.string []), .lit (.string []), .lit (.int .i64 0)], [], [])) (by kernel_rfl) rfl (by kernel_rfl)) ?_
  intro W base args ds gs before hval hW _ hk _
  exact contract H enc W base args ds gs before hval hW hk
theorem proved : Rows.SchemaShortUptoSaid :=
  OpenClaim.holds_of_cond 3 Try.f3 rfl rfl rfl rfl rfl rfl rfl ⟨rfl, rfl, rfl, rfl, rfl⟩ rfl rfl rfl rfl rfl (by kernel_rfl) Try.func3 (by kernel_rfl)
    (of_decide_eq_true (by kernel_rfl)) (by unfold Func.isWrapper; first | (rw [if_pos (by decide +kernel)]; kernel_rfl) | (rw [if_neg (by decide +kernel)]; exact ⟨rfl, rfl⟩))
    (fun os started H enc _ F => lifted os started H enc F)
#print axioms proved

end Go.Proofs.Ytpmhjjfcipjnoaa.SchemaShort

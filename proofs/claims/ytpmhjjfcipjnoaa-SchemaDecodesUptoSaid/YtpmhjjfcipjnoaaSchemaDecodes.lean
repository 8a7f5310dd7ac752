/- SchemaDecodes: any bytes by any form: the value, or what is wrong; what was taken is laid out as just these bytes: of texts of bulk at most 1048576. -/
import Derived.Test.YtpmhjjfcipjnoaaSmM
import Derived.Test.YtpmhjjfcipjnoaaSnD
import Derived.Test.YtpmhjjfcipjnoaaLift
import Derived.Test.YtpmhjjfcipjnoaaLiftC
import Derived.Deep.DeepCutAuto
namespace Go.Proofs.Ytpmhjjfcipjnoaa.SchemaDecodes
open Go.RowKit Go.ChangeShapes Go.WideShapes Go.ChangeAt Go.Proofs.Ytpmhjjfcipjnoaa
open Go.ChangeMaps (open_string shut_string)

set_option maxRecDepth 100000 in
set_option maxHeartbeats 4000000 in
theorem walk (w : World) (form : ByteArray) (hf : form.size ≤ 1048576) (s : ByteArray) (hs : s.size ≤ 1048576) :
    Calls Try.prog 5 #[.string form, .string s] w fun r w' => r = .returned (.bool true) ∧ Below w.heap.size w w' := by
  have H0 := St.init w
  go_enter Try.func5, Try.ntmps5
  go_wp2_with (fail)
  refine (speaks_ok H0).mono ?_
  rintro x w1 ⟨rfl, H1⟩
  clear H0
  go_wp2_with (fail)
  refine (decode_ok form s (by omega) (by omega) H1).mono ?_
  intro x w2 hx
  obtain ⟨N, T, e, AN, cN, AT, cT, rfl, ho, H2⟩ := hx.ans
  clear hx H1
  have H3 := H2.alloc #[.slice AN N.length cN, .slice AT T.length cT] 26
  obtain ⟨b5, hb5⟩ : ∃ b, b = w2.heap.size := ⟨_, rfl⟩
  go_upto_region 4 with (fail)
  rw [← hb5] at H3 ⊢
  generalize w2.alloc (.cells #[.slice AN N.length cN, .slice AT T.length cT] 26) = w3 at *
  clear hb5 H2
  go_wp2_with (fail)
  refine (rdecode_ok form s (by omega) (by omega) H3).mono ?_
  intro x w4 hx
  obtain ⟨N2, T2, e2, BN, dN, BT, dT, rfl, ho2, H4⟩ := hx.ans
  clear hx H3
  obtain ⟨rfl, rfl, rfl⟩ : e2 = e ∧ N2 = N ∧ T2 = T := by
    rcases ho with ⟨h1, h2⟩ | ⟨h1, h2, h3, h4⟩ <;> rcases ho2 with ⟨k1, k2⟩ | ⟨k1, k2, k3, k4⟩
    · rw [h2] at k2; injection k2 with k2; injection k2 with k2 k3; exact ⟨by rw [h1, k1], k2.symm, k3.symm⟩
    · rw [h2] at k2; cases k2
    · rw [h2] at k2; cases k2
    · rw [h2] at k2; injection k2 with k2; exact ⟨k2.symm, by rw [h3, k3], by rw [h4, k4]⟩
  have hz : N2.length + T2.length ≤ 65537000 ∧ tz (N2, T2) ≤ 65536 ∧ (e2 = 0 → encodeF form N2 T2 = .ok s) := by
    rcases ho with ⟨h1, h2⟩ | ⟨h1, h2, h3, h4⟩
    · have := dec_bound h2
      exact ⟨this.1, this.2.1, fun _ => this.2.2.1⟩
    · subst h3 h4; exact ⟨by simp, by simp [tz], fun h => absurd h h1⟩
  obtain ⟨hz1, hz2, hz3⟩ := hz
  have HZ1 := Lib.hid hz1; have HZ2 := Lib.hid hz2; have HZ3 := Lib.hid hz3
  clear hz1 hz2 hz3 ho ho2
  have H5 := H4.alloc #[.slice BN N2.length dN, .slice BT T2.length dT] 32
  obtain ⟨b7, hb7⟩ : ∃ b, b = w4.heap.size := ⟨_, rfl⟩
  go_upto_region 5 with (fail)
  rw [← hb7] at H5 ⊢
  generalize w4.alloc (.cells #[.slice BN N2.length dN, .slice BT T2.length dT] 32) = w5 at *
  clear hb7 H4
  have p0 := (H5.ord 4 [3, 0, 1, 2]).cell 0 rfl
  have p1 := (H5.ord 4 [3, 0, 1, 2]).cell 1 rfl
  have q0 := H5.cell 0 rfl
  have q1 := H5.cell 1 rfl
  have r1 := RdI.row (H5.ord 5 [4, 0, 1, 2, 3])
  have r2 := RdS.row (H5.ord 6 [5, 0, 1, 2, 3, 4])
  have r3 := RdI.row H5.r2
  have r4 := RdS.row H5.r3
  have hsm := same_ok N2 T2 AN BN AT BT cN dN cT dT (by have := HZ1.out; omega) (by have := HZ1.out; omega) r1 r2 r3 r4 H5
  have HSM := Lib.hid hsm; have R1 := Lib.hid r1; have R2 := Lib.hid r2
  clear hsm r1 r2 r3 r4
  have hee : (e2 != e2) = false := by simp
  go_wp2_with (fail)
  refine HSM.out.mono ?_
  rintro x w6 ⟨rfl, H6⟩
  clear HSM p0 p1 q0 q1 hee H5
  have p0 := (H6.ord 4 [3, 0, 1, 2]).cell 0 rfl
  have p1 := (H6.ord 4 [3, 0, 1, 2]).cell 1 rfl
  by_cases h0 : e2 = 0
  · subst h0
    have henc := HZ3.out rfl
    have r1 := RdI.row (H6.ord 5 [4, 0, 1, 2, 3])
    have r2 := RdS.row (H6.ord 6 [5, 0, 1, 2, 3, 4])
    have hE := encode_ok form (by omega) AN cN AT cT N2 T2 (by have := HZ1.out; omega) (by have := HZ1.out; omega) (fun x hx => by have := tz_mem (N := N2) hx; have := HZ2.out; omega) (by rw [wgt_tz]; have := HZ1.out; have := HZ2.out; dsimp only; omega) r1 r2 H6
    rw [henc] at hE
    have HE := Lib.hid hE
    clear hE henc r1 r2
    go_wp2_with (fail)
    refine HE.out.mono ?_
    rintro x w7 ⟨rfl, H7⟩
    clear HE p0 p1
    have hss : (s.toList == s.toList) = true := by simp
    go_wp2_with (fail)
    go_ret
    exact ⟨rfl, H7.below⟩
  · have hne : (e2 != 0) = true := bne_iff_ne.2 h0
    go_wp2_with (fail)
    go_ret
    exact ⟨rfl, H6.below⟩
theorem own : ownKnob Try.prog.godebug = none := by kernel_rfl
theorem laidOut : laidOutB Try.prog = true := by kernel_rfl
theorem readable : ∀ t ∈ Try.f5.params.toList, Try.prog.readableRec t = true ∧ t < Try.prog.types.size := by
  intro t ht
  rw [Try.params5] at ht
  simp only [List.mem_cons, List.not_mem_nil, or_false] at ht
  rcases ht with rfl | rfl
  all_goals exact ⟨by kernel_rfl, of_decide_eq_true (by kernel_rfl)⟩
set_option maxRecDepth 100000 in
theorem contract (H : Type) (enc : TypeId × Value → H) (W : World) (base : Nat) (args : Array Value) (ds gs : List (DataW H)) (before : List MemPlace)
    (hval : ∀ (j : Nat) t v, Try.f5.params[j]? = some t → args[j]? = some v → Value.okWide Try.prog W .any base t v)
    (hW : DataW.Whole enc Try.prog Try.f5.params.toList Rows.schemaDecodesSpec.vars false W args.toList ds gs before) (hk : Rows.uptoSmall H (ds ++ gs) = true) :
    Calls Try.prog 5 args W fun e W' => ∃ v, e = .returned v ∧ Rows.schemaDecodesSpec.post enc Try.prog Try.f5 false true false false W args v W' := by
  have hW' := hW
  obtain ⟨p, q, hA0, hV, rfl, _, _⟩ := hW
  have hA : DataW.TrodAll enc Try.prog W 0 (fun _ => true) true Try.f5.params.toList args.toList ds p := hA0
  rw [Try.params5] at hA hval
  obtain ⟨v0, vs0, d0, ds0, p0, q0, hargs, rfl, rfl, h0, r0⟩ := trodAll_cons hA
  obtain ⟨v1, vs1, d1, ds1, p1, q1, rfl, rfl, rfl, h1, r1⟩ := trodAll_cons r0
  obtain ⟨rfl, rfl, rfl⟩ := trodAll_nil r1
  obtain rfl : args = #[v0, v1] := by cases args; simp_all
  obtain ⟨rfl, rfl⟩ := trodVars_none hV
  clear hA0
  have hk2 : Rows.uptoBulkAll _ ≤ 1048576 := of_decide_eq_true hk
  rw [List.append_nil] at hk2
  obtain ⟨form, rfl, rfl, rfl, wform⟩ := open_string Try.underlying9 (hval 0 9 v0 rfl rfl) h0
  obtain ⟨s, rfl, rfl, rfl, ws⟩ := open_string Try.underlying9 (hval 1 9 v1 rfl rfl) h1
  refine (walk W form (by
    have hz : (form.data.toList).length = form.size := bl_length form
    simp only [Rows.uptoBulkAll, Rows.uptoBulk] at hk2
    omega) s (by
    have hz : (s.data.toList).length = s.size := bl_length s
    simp only [Rows.uptoBulkAll, Rows.uptoBulk] at hk2
    omega)).mono fun e W' ⟨he, hb⟩ => ?_
  exact ⟨_, he, law_post (tb := 4) laidOut readable rfl Try.underlying4 rfl hW' rfl rfl rfl hb⟩
set_option maxRecDepth 100000 in
theorem lifted (os : Os) (started : os.Started) (H : Type) (enc : TypeId × Value → H) (F : Stop.Interp) :
    ReturnsInHanded {} Try.checked os 5 .any ((Rows.OpenSpec.upto Rows.schemaDecodesSpec).pre6 enc Try.prog Try.f5 Rows.schemaDecodesUptoRow.domain false) (((Rows.OpenSpec.upto Rows.schemaDecodesSpec).at F).post enc Try.prog Try.f5 false true false false) := by
  refine returnsInHanded_of_cond (C := Try.checked) (s := Rows.OpenSpec.upto Rows.schemaDecodesSpec) (k := Rows.uptoSmall) rfl own started (by kernel_rfl) Try.func5
    (OpenSpec.witness (enc := enc) (C := Try.checked) (s := Rows.OpenSpec.upto Rows.schemaDecodesSpec) (k := Rows.uptoSmall) rfl false ⟨#[], #[.string .empty, .string .empty], []⟩ 8 (by kernel_rfl) (by kernel_rfl) (by kernel_rfl)
      (x := ([.lit (.string []), .lit (.string [])], [], [])) (by kernel_rfl) rfl (by kernel_rfl)) ?_
  intro W base args ds gs before hval hW _ hk _
  exact contract H enc W base args ds gs before hval hW hk
theorem proved : Rows.SchemaDecodesUptoSaid :=
  OpenClaim.holds_of_cond 5 Try.f5 rfl rfl rfl rfl rfl rfl rfl ⟨rfl, rfl, rfl, rfl, rfl⟩ rfl rfl rfl rfl rfl (by kernel_rfl) Try.func5 (by kernel_rfl)
    (of_decide_eq_true (by kernel_rfl)) (by unfold Func.isWrapper; first | (rw [if_pos (by decide +kernel)]; kernel_rfl) | (rw [if_neg (by decide +kernel)]; exact ⟨rfl, rfl⟩))
    (fun os started H enc _ F => lifted os started H enc F)
#print axioms proved

end Go.Proofs.Ytpmhjjfcipjnoaa.SchemaDecodes

/- HandlePuts: the handle of every three numbers, and back; the verifier of every boot: for every three numbers. -/
import Derived.Test.YthpcncebjkfjkaaHdC
import Derived.Test.YthpcncebjkfjkaaLift
namespace Go.Proofs.Ythpcncebjkfjkaa.HandlePuts
open Go.RowKit Go.ChangeShapes Go.WideShapes Go.ChangeAt Go.Proofs.Ythpcncebjkfjkaa
open Go.ChangeMaps (open_string shut_string)

theorem ver_eq (f id : Int) (h1 : inI64 f) (h2 : inI64 id) (h : ¬ f = id) : ((mkb (be f 8)).toList == (mkb (be id 8)).toList) = false := by
  refine toList_ne ?_
  intro he
  have := congrArg num (mkb_inj he)
  rw [num_be8 f h1, num_be8 id h2] at this
  exact h this
set_option maxHeartbeats 1000000 in
theorem walk (w : World) (f : Int) (hf : -9223372036854775808 ≤ f ∧ f ≤ 9223372036854775807) (id : Int) (hid : -9223372036854775808 ≤ id ∧ id ≤ 9223372036854775807) (gen : Int) (hgen : -9223372036854775808 ≤ gen ∧ gen ≤ 9223372036854775807) :
    Calls Try.prog 6 #[.int .i64 f, .int .i64 id, .int .i64 gen] w fun r w' => r = .returned (.bool true) ∧ Below w.heap.size w w' := by
  have Hw := St.init w
  have HG := Lib.hid (get_put f id gen hf hid hgen)
  have HI := Lib.hid (isH_put f id gen)
  have HZ := Lib.hid (hb_size f id gen)
  have HV := Lib.hid (ver_eq f id hf hid)
  clear hf hid hgen
  go_enter Try.func6, Try.ntmps6
  go_wp2_with (fail)
  refine (hspeaks_ok Hw).mono ?_
  rintro e w1 ⟨rfl, H0⟩
  by_cases hfi : f = id
  · subst hfi
    go_wp2_with (fail)
    refine (hput_ok f f gen H0).mono ?_
    rintro e w2 ⟨rfl, H2⟩
    go_wp2_with (fail)
    refine (hget_ok _ (by rw [HZ.out]; decide) H2).mono ?_
    rw [HG.out, HI.out]
    dsimp only
    rintro e w3 ⟨rfl, H3⟩
    go_wp2_with (fail)
    refine (hnumber_ok _ (by rw [HZ.out]; decide) H3).mono ?_
    rintro e w4 ⟨rfl, H4⟩
    go_wp2_with (fail)
    refine (refhnumber_ok _ (by rw [HZ.out]; decide) H4).mono ?_
    rintro e w5 ⟨rfl, H5⟩
    go_wp2_with (fail)
    refine (refhput_ok f f gen H5).mono ?_
    rintro e w6 ⟨rfl, H6⟩
    generalize numB (mkb (hb f f gen)) = nb at *
    go_wp2_with (fail)
    refine (verifier_ok f H6).mono ?_
    rintro e w7 ⟨rfl, H7⟩
    go_wp2_with (fail)
    refine (refhyper_ok f H7).mono ?_
    rintro e w8 ⟨rfl, H8⟩
    go_wp2_with (fail)
    refine (verifier_ok f H8).mono ?_
    rintro e w9 ⟨rfl, H9⟩
    go_wp2_with (fail)
    refine (verifier_ok f H9).mono ?_
    rintro e w10 ⟨rfl, H10⟩
    go_wp2_with (fail)
    go_ret
    exact ⟨rfl, H10.below⟩
  · have hv := HV.out hfi
    have hbe : (f == id) = false := by rw [beq_eq_false_iff_ne]; exact hfi
    have HFI := Lib.hid hfi; clear hfi
    go_wp2_with (fail)
    refine (hput_ok f id gen H0).mono ?_
    rintro e w2 ⟨rfl, H2⟩
    go_wp2_with (fail)
    refine (hget_ok _ (by rw [HZ.out]; decide) H2).mono ?_
    rw [HG.out, HI.out]
    dsimp only
    rintro e w3 ⟨rfl, H3⟩
    go_wp2_with (fail)
    refine (hnumber_ok _ (by rw [HZ.out]; decide) H3).mono ?_
    rintro e w4 ⟨rfl, H4⟩
    go_wp2_with (fail)
    refine (refhnumber_ok _ (by rw [HZ.out]; decide) H4).mono ?_
    rintro e w5 ⟨rfl, H5⟩
    go_wp2_with (fail)
    refine (refhput_ok f id gen H5).mono ?_
    rintro e w6 ⟨rfl, H6⟩
    generalize numB (mkb (hb f id gen)) = nb at *
    go_wp2_with (fail)
    refine (verifier_ok f H6).mono ?_
    rintro e w7 ⟨rfl, H7⟩
    go_wp2_with (fail)
    refine (refhyper_ok f H7).mono ?_
    rintro e w8 ⟨rfl, H8⟩
    go_wp2_with (fail)
    refine (verifier_ok f H8).mono ?_
    rintro e w9 ⟨rfl, H9⟩
    go_wp2_with (fail)
    refine (verifier_ok id H9).mono ?_
    rintro e w10 ⟨rfl, H10⟩
    go_wp2_with (fail)
    go_ret
    exact ⟨rfl, H10.below⟩
theorem own : ownKnob Try.prog.godebug = none := by kernel_rfl
theorem laidOut : laidOutB Try.prog = true := by kernel_rfl
theorem readable : ∀ t ∈ Try.f6.params.toList, Try.prog.readableRec t = true ∧ t < Try.prog.types.size := by
  intro t ht
  rw [Try.params6] at ht
  simp only [List.mem_cons, List.not_mem_nil, or_false] at ht
  rcases ht with rfl | rfl | rfl
  all_goals exact ⟨by kernel_rfl, of_decide_eq_true (by kernel_rfl)⟩
theorem contract (H : Type) (enc : TypeId × Value → H) (W : World) (base : Nat) (args : Array Value) (ds gs : List (DataW H)) (before : List MemPlace)
    (hval : ∀ (j : Nat) t v, Try.f6.params[j]? = some t → args[j]? = some v → Value.okWide Try.prog W .any base t v)
    (hW : DataW.Whole enc Try.prog Try.f6.params.toList Rows.handlePutsSpec.vars false W args.toList ds gs before) :
    Calls Try.prog 6 args W fun e W' => ∃ v, e = .returned v ∧ Rows.handlePutsSpec.post enc Try.prog Try.f6 false true false false W args v W' := by
  have hW' := hW
  obtain ⟨p, q, hA0, hV, rfl, _, _⟩ := hW
  have hA : DataW.TrodAll enc Try.prog W 0 (fun _ => true) true Try.f6.params.toList args.toList ds p := hA0
  rw [Try.params6] at hA hval
  obtain ⟨v0, vs0, d0, ds0, p0, q0, hargs, rfl, rfl, h0, r0⟩ := trodAll_cons hA
  obtain ⟨v1, vs1, d1, ds1, p1, q1, rfl, rfl, rfl, h1, r1⟩ := trodAll_cons r0
  obtain ⟨v2, vs2, d2, ds2, p2, q2, rfl, rfl, rfl, h2, r2⟩ := trodAll_cons r1
  obtain ⟨rfl, rfl, rfl⟩ := trodAll_nil r2
  obtain rfl : args = #[v0, v1, v2] := by cases args; simp_all
  obtain ⟨rfl, rfl⟩ := trodVars_none hV
  clear hA0
  obtain ⟨f, rfl, rfl, rfl, wf⟩ := open_int Try.underlying3 (hval 0 3 v0 rfl rfl) h0
  obtain ⟨id, rfl, rfl, rfl, wid⟩ := open_int Try.underlying3 (hval 1 3 v1 rfl rfl) h1
  obtain ⟨gen, rfl, rfl, rfl, wgen⟩ := open_int Try.underlying3 (hval 2 3 v2 rfl rfl) h2
  refine (walk W f (wf_i64 wf) id (wf_i64 wid) gen (wf_i64 wgen)).mono fun e W' ⟨he, hb⟩ => ?_
  exact ⟨_, he, law_post (tb := 4) laidOut readable rfl Try.underlying4 rfl hW' rfl rfl rfl hb⟩
set_option maxRecDepth 100000 in
theorem lifted (os : Os) (started : os.Started) (H : Type) (enc : TypeId × Value → H) :
    ReturnsInHanded {} Try.checked os 6 .any (Rows.handlePutsSpec.pre6 enc Try.prog Try.f6 Rows.handlePutsRow.domain false) (Rows.handlePutsSpec.post enc Try.prog Try.f6 false true false false) := by
  refine returnsInHanded_of_change (C := Try.checked) (s := Rows.handlePutsSpec) own started (by kernel_rfl) Try.func6
    (ChangeSpec.witness6 (enc := enc) (C := Try.checked) false ⟨#[], #[.int .i64 0, .int .i64 0, .int .i64 0], []⟩ 8 (by kernel_rfl) (by kernel_rfl) (by kernel_rfl) (by kernel_rfl)) ?_
  intro W base args ds gs before hval hW _ _
  exact contract H enc W base args ds gs before hval hW
theorem proved : Rows.HandlePutsSaid :=
  OpenClaim.holds_of_wide 6 Try.f6 rfl rfl rfl rfl rfl rfl rfl ⟨rfl, rfl, rfl, rfl, rfl⟩ rfl rfl rfl rfl rfl (by kernel_rfl) Try.func6 (by kernel_rfl)
    (of_decide_eq_true (by kernel_rfl)) (by unfold Func.isWrapper; first | (rw [if_pos (by decide +kernel)]; kernel_rfl) | (rw [if_neg (by decide +kernel)]; exact ⟨rfl, rfl⟩))
    (fun os started H enc _ => lifted os started H enc)
#print axioms proved

end Go.Proofs.Ythpcncebjkfjkaa.HandlePuts

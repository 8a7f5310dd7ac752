/- HandleApart: handles of different files differ, and each tells just its file: for every two numbers. -/
import Derived.Test.YthpcncebjkfjkaaHdC
import Derived.Test.YthpcncebjkfjkaaLift
namespace Go.Proofs.Ythpcncebjkfjkaa.HandleApart
open Go.RowKit Go.ChangeShapes Go.WideShapes Go.ChangeAt Go.Proofs.Ythpcncebjkfjkaa
open Go.ChangeMaps (open_string shut_string)

theorem hb_eq (a b : Int) (h1 : inI64 a) (h2 : inI64 b) (h : ¬ a = b) : ((mkb (hb 1 a a)).toList == (mkb (hb 1 b b)).toList) = false := by
  refine toList_ne ?_
  intro he
  have h3 := get_put 1 a a ⟨by decide, by decide⟩ h1 h1
  rw [he, get_put 1 b b ⟨by decide, by decide⟩ h2 h2] at h3
  injection h3 with _ h3
  injection h3 with h3 _
  exact h h3.symm
set_option maxHeartbeats 1000000 in
theorem walk (w : World) (a : Int) (ha : -9223372036854775808 ≤ a ∧ a ≤ 9223372036854775807) (b : Int) (hb : -9223372036854775808 ≤ b ∧ b ≤ 9223372036854775807) :
    Calls Try.prog 4 #[.int .i64 a, .int .i64 b] w fun r w' => r = .returned (.bool true) ∧ Below w.heap.size w w' := by
  have Hw := St.init w
  have hn := numB_put 1 a a ⟨by decide, by decide⟩ ha ha
  have HZ := Lib.hid (hb_size 1 a a)
  have HV := Lib.hid (hb_eq a b ha hb)
  by_cases h1 : 1 ≤ a
  · rw [if_pos ⟨rfl, h1, rfl⟩] at hn
    have HN := Lib.hid hn
    clear ha hb hn
    go_enter Try.func4, Try.ntmps4
    go_wp2_with (fail)
    refine (hspeaks_ok Hw).mono ?_
    rintro e w1 ⟨rfl, H0⟩
    by_cases hab : a = b
    · subst hab
      go_wp2_with (fail)
      refine (hput_ok 1 a a H0).mono ?_
      rintro e w2 ⟨rfl, H2⟩
      go_wp2_with (fail)
      refine (hput_ok 1 a a H2).mono ?_
      rintro e w3 ⟨rfl, H3⟩
      go_wp2_with (fail)
      refine (hnumber_ok _ (by rw [HZ.out]; decide) H3).mono ?_
      rw [HN.out]
      dsimp only
      rintro e w4 ⟨rfl, H4⟩
      have hz : ((mkb (hb 1 a a)).size : Int) = 28 := by rw [HZ.out]; rfl
      go_wp2_with (fail)
      go_ret
      exact ⟨rfl, H4.below⟩
    · have hv := HV.out hab
      have hb' : (a == b) = false := by rw [beq_eq_false_iff_ne]; exact hab
      have HAB := Lib.hid hab; clear hab
      go_wp2_with (fail)
      refine (hput_ok 1 a a H0).mono ?_
      rintro e w2 ⟨rfl, H2⟩
      go_wp2_with (fail)
      refine (hput_ok 1 b b H2).mono ?_
      rintro e w3 ⟨rfl, H3⟩
      go_wp2_with (fail)
      refine (hnumber_ok _ (by rw [HZ.out]; decide) H3).mono ?_
      rw [HN.out]
      dsimp only
      rintro e w4 ⟨rfl, H4⟩
      have hz : ((mkb (hb 1 a a)).size : Int) = 28 := by rw [HZ.out]; rfl
      go_wp2_with (fail)
      go_ret
      exact ⟨rfl, H4.below⟩
  · rw [if_neg (fun h => h1 h.2.1)] at hn
    have h1' : decide (1 ≤ a) = false := decide_eq_false h1
    have HN := Lib.hid hn
    clear ha hb hn
    go_enter Try.func4, Try.ntmps4
    go_wp2_with (fail)
    refine (hspeaks_ok Hw).mono ?_
    rintro e w1 ⟨rfl, H0⟩
    by_cases hab : a = b
    · subst hab
      go_wp2_with (fail)
      refine (hput_ok 1 a a H0).mono ?_
      rintro e w2 ⟨rfl, H2⟩
      go_wp2_with (fail)
      refine (hput_ok 1 a a H2).mono ?_
      rintro e w3 ⟨rfl, H3⟩
      go_wp2_with (fail)
      refine (hnumber_ok _ (by rw [HZ.out]; decide) H3).mono ?_
      rw [HN.out]
      dsimp only
      rintro e w4 ⟨rfl, H4⟩
      have hz : ((mkb (hb 1 a a)).size : Int) = 28 := by rw [HZ.out]; rfl
      go_wp2_with (fail)
      go_ret
      exact ⟨rfl, H4.below⟩
    · have hv := HV.out hab
      have hb' : (a == b) = false := by rw [beq_eq_false_iff_ne]; exact hab
      have HAB := Lib.hid hab; clear hab
      go_wp2_with (fail)
      refine (hput_ok 1 a a H0).mono ?_
      rintro e w2 ⟨rfl, H2⟩
      go_wp2_with (fail)
      refine (hput_ok 1 b b H2).mono ?_
      rintro e w3 ⟨rfl, H3⟩
      go_wp2_with (fail)
      refine (hnumber_ok _ (by rw [HZ.out]; decide) H3).mono ?_
      rw [HN.out]
      dsimp only
      rintro e w4 ⟨rfl, H4⟩
      have hz : ((mkb (hb 1 a a)).size : Int) = 28 := by rw [HZ.out]; rfl
      go_wp2_with (fail)
      go_ret
      exact ⟨rfl, H4.below⟩
theorem own : ownKnob Try.prog.godebug = none := by kernel_rfl
theorem laidOut : laidOutB Try.prog = true := by kernel_rfl
theorem readable : ∀ t ∈ Try.f4.params.toList, Try.prog.readableRec t = true ∧ t < Try.prog.types.size := by
  intro t ht
  rw [Try.params4] at ht
  simp only [List.mem_cons, List.not_mem_nil, or_false] at ht
  rcases ht with rfl | rfl
  all_goals exact ⟨by kernel_rfl, of_decide_eq_true (by kernel_rfl)⟩
theorem contract (H : Type) (enc : TypeId × Value → H) (W : World) (base : Nat) (args : Array Value) (ds gs : List (DataW H)) (before : List MemPlace)
    (hval : ∀ (j : Nat) t v, Try.f4.params[j]? = some t → args[j]? = some v → Value.okWide Try.prog W .any base t v)
    (hW : DataW.Whole enc Try.prog Try.f4.params.toList Rows.handleApartSpec.vars false W args.toList ds gs before) :
    Calls Try.prog 4 args W fun e W' => ∃ v, e = .returned v ∧ Rows.handleApartSpec.post enc Try.prog Try.f4 false true false false W args v W' := by
  have hW' := hW
  obtain ⟨p, q, hA0, hV, rfl, _, _⟩ := hW
  have hA : DataW.TrodAll enc Try.prog W 0 (fun _ => true) true Try.f4.params.toList args.toList ds p := hA0
  rw [Try.params4] at hA hval
  obtain ⟨v0, vs0, d0, ds0, p0, q0, hargs, rfl, rfl, h0, r0⟩ := trodAll_cons hA
  obtain ⟨v1, vs1, d1, ds1, p1, q1, rfl, rfl, rfl, h1, r1⟩ := trodAll_cons r0
  obtain ⟨rfl, rfl, rfl⟩ := trodAll_nil r1
  obtain rfl : args = #[v0, v1] := by cases args; simp_all
  obtain ⟨rfl, rfl⟩ := trodVars_none hV
  clear hA0
  obtain ⟨a, rfl, rfl, rfl, wa⟩ := open_int Try.underlying3 (hval 0 3 v0 rfl rfl) h0
  obtain ⟨b, rfl, rfl, rfl, wb⟩ := open_int Try.underlying3 (hval 1 3 v1 rfl rfl) h1
  refine (walk W a (wf_i64 wa) b (wf_i64 wb)).mono fun e W' ⟨he, hb⟩ => ?_
  exact ⟨_, he, law_post (tb := 4) laidOut readable rfl Try.underlying4 rfl hW' rfl rfl rfl hb⟩
set_option maxRecDepth 100000 in
theorem lifted (os : Os) (started : os.Started) (H : Type) (enc : TypeId × Value → H) :
    ReturnsInHanded {} Try.checked os 4 .any (Rows.handleApartSpec.pre6 enc Try.prog Try.f4 Rows.handleApartRow.domain false) (Rows.handleApartSpec.post enc Try.prog Try.f4 false true false false) := by
  refine returnsInHanded_of_change (C := Try.checked) (s := Rows.handleApartSpec) own started (by kernel_rfl) Try.func4
    (ChangeSpec.witness6 (enc := enc) (C := Try.checked) false ⟨#[], #[.int .i64 0, .int .i64 0], []⟩ 8 (by kernel_rfl) (by kernel_rfl) (by kernel_rfl) (by kernel_rfl)) ?_
  intro W base args ds gs before hval hW _ _
  exact contract H enc W base args ds gs before hval hW
theorem proved : Rows.HandleApartSaid :=
  OpenClaim.holds_of_wide 4 Try.f4 rfl rfl rfl rfl rfl rfl rfl ⟨rfl, rfl, rfl, rfl, rfl⟩ rfl rfl rfl rfl rfl (by kernel_rfl) Try.func4 (by kernel_rfl)
    (of_decide_eq_true (by kernel_rfl)) (by unfold Func.isWrapper; first | (rw [if_pos (by decide +kernel)]; kernel_rfl) | (rw [if_neg (by decide +kernel)]; exact ⟨rfl, rfl⟩))
    (fun os started H enc _ => lifted os started H enc)
#print axioms proved

end Go.Proofs.Ythpcncebjkfjkaa.HandleApart

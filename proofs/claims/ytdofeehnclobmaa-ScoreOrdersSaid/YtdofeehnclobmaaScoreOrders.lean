/- ScoreOrders: the order of any two floats is the document's, by their bits. -/
import Derived.Test.YtdofeehnclobmaaScP
import Derived.Test.YtdofeehnclobmaaLift
namespace Go.Proofs.Ytdofeehnclobmaa.ScoreOrders
open Go.RowKit Go.ChangeShapes Go.WideShapes Go.ChangeAt Go.Proofs.Ytdofeehnclobmaa

theorem walk (w : World) (a : Int) (ha : 0 ≤ a ∧ a ≤ 18446744073709551615) (b : Int) (hb : 0 ≤ b ∧ b ≤ 18446744073709551615) :
    Calls Try.prog 4 #[.int .u64 a, .int .u64 b] w fun r w' => r = .returned (.bool true) ∧ Below w.heap.size w w' := by
  have H0 := St.init w
  have ha' : a.toNat < 2 ^ 64 := by omega
  have hb' : b.toNat < 2 ^ 64 := by omega
  have HA := Lib.hid ha'; have HB := Lib.hid hb'; clear ha hb ha' hb'
  go_enter Try.func4, Try.ntmps4
  go_wp2_with (first | (go_at_call 10; refine (speaks_ok H0).mono ?_; rintro x w1 ⟨rfl, H1⟩))
  refine (less_ok _ _ HA.out HB.out _).mono ?_
  rintro x w2 ⟨rfl, rfl⟩
  go_wp2_with (fail)
  refine (refless_ok _ _ HA.out HB.out _).mono ?_
  rintro x w2 ⟨rfl, rfl⟩
  have e : (fless a.toNat b.toNat == fless a.toNat b.toNat) = true := by simp
  have e' : (fless b.toNat a.toNat == fless b.toNat a.toNat) = true := by simp
  go_wp2_with (fail)
  refine (less_ok _ _ HB.out HA.out _).mono ?_
  rintro x w2 ⟨rfl, rfl⟩
  go_wp2_with (fail)
  refine (refless_ok _ _ HB.out HA.out _).mono ?_
  rintro x w2 ⟨rfl, rfl⟩
  go_wp2_with (fail)
  go_ret
  exact ⟨rfl, H1.below⟩
theorem own : ownKnob Try.prog.godebug = none := by kernel_rfl
theorem laidOut : laidOutB Try.prog = true := by kernel_rfl
theorem readable : ∀ t ∈ Try.f4.params.toList, Try.prog.readableRec t = true ∧ t < Try.prog.types.size := by
  intro t ht
  rw [Try.params4] at ht
  simp only [List.mem_cons, List.not_mem_nil, or_false] at ht
  rcases ht with rfl | rfl
  all_goals exact ⟨by kernel_rfl, of_decide_eq_true (by kernel_rfl)⟩
theorem contract (H : Type) (enc : TypeId × Value → H) (W : World) (base : Nat) (args : Array Value) (ds gs : List (DataW H)) (before : List MemPlace)
    (hval : ∀ (j : Nat) t v, Try.f4.params[j]? = some t → args[j]? = some v → Value.okWide Try.prog W .any base t v)
    (hW : DataW.Whole enc Try.prog Try.f4.params.toList Rows.scoreOrdersSpec.vars false W args.toList ds gs before) :
    Calls Try.prog 4 args W fun e W' => ∃ v, e = .returned v ∧ Rows.scoreOrdersSpec.post enc Try.prog Try.f4 false true false false W args v W' := by
  have hW' := hW
  obtain ⟨p, q, hA0, hV, rfl, _, _⟩ := hW
  have hA : DataW.TrodAll enc Try.prog W 0 (fun _ => true) true Try.f4.params.toList args.toList ds p := hA0
  rw [Try.params4] at hA hval
  obtain ⟨v0, vs0, d0, ds0, p0, q0, hargs, rfl, rfl, h0, r0⟩ := trodAll_cons hA
  obtain ⟨v1, vs1, d1, ds1, p1, q1, rfl, rfl, rfl, h1, r1⟩ := trodAll_cons r0
  obtain ⟨rfl, rfl, rfl⟩ := trodAll_nil r1
  obtain rfl : args = #[v0, v1] := by cases args; simp_all
  obtain ⟨rfl, rfl⟩ := trodVars_none hV
  clear hA0
  obtain ⟨a, rfl, rfl, rfl, wa⟩ := open_int Try.underlying31 (hval 0 31 v0 rfl rfl) h0
  obtain ⟨b, rfl, rfl, rfl, wb⟩ := open_int Try.underlying31 (hval 1 31 v1 rfl rfl) h1
  refine (walk W a (wf_u64 wa) b (wf_u64 wb)).mono fun e W' ⟨he, hb⟩ => ?_
  exact ⟨_, he, law_post (tb := 4) laidOut readable rfl Try.underlying4 rfl hW' rfl rfl rfl hb⟩
set_option maxRecDepth 100000 in
theorem lifted (os : Os) (started : os.Started) (H : Type) (enc : TypeId × Value → H) :
    ReturnsInHanded {} Try.checked os 4 .any (Rows.scoreOrdersSpec.pre6 enc Try.prog Try.f4 Rows.scoreOrdersRow.domain false) (Rows.scoreOrdersSpec.post enc Try.prog Try.f4 false true false false) := by
  refine returnsInHanded_of_change (C := Try.checked) (s := Rows.scoreOrdersSpec) own started (by kernel_rfl) Try.func4
    (ChangeSpec.witness6 (enc := enc) (C := Try.checked) false ⟨#[], #[.int .u64 0, .int .u64 0], []⟩ 8 (by kernel_rfl) (by kernel_rfl) (by kernel_rfl) (by kernel_rfl)) ?_
  intro W base args ds gs before hval hW _ _
  exact contract H enc W base args ds gs before hval hW
theorem proved : Rows.ScoreOrdersSaid :=
  OpenClaim.holds_of_wide 4 Try.f4 rfl rfl rfl rfl rfl rfl rfl ⟨rfl, rfl, rfl, rfl, rfl⟩ rfl rfl rfl rfl rfl (by kernel_rfl) Try.func4 (by kernel_rfl)
    (of_decide_eq_true (by kernel_rfl)) (by unfold Func.isWrapper; first | (rw [if_pos (by decide +kernel)]; kernel_rfl) | (rw [if_neg (by decide +kernel)]; exact ⟨rfl, rfl⟩))
    (fun os started H enc _ => lifted os started H enc)
#print axioms proved

end Go.Proofs.Ytdofeehnclobmaa.ScoreOrders

/- NetNil: no net carries nothing, and turns nothing: every number, texts of at most 1048576 bytes. -/
import Derived.Test.YtpeoajmlmkmffaaNeD
import Derived.Test.YtpeoajmlmkmffaaLift
namespace Go.Proofs.Ytpeoajmlmkmffaa.NetNil
open Go.RowKit Go.ChangeShapes Go.WideShapes Go.ChangeAt Go.Proofs.Ytpeoajmlmkmffaa
open Go.ChangeMaps (open_string shut_string)

set_option maxHeartbeats 1000000 in
theorem walk (w : World) (f : Int) (_hf : -9223372036854775808 ≤ f ∧ f ≤ 9223372036854775807) (s : ByteArray) (_hs : s.size ≤ 9223372036854775807) :
    Calls Try.prog 6 #[.int .i64 f, .string s] w fun r w' => r = .returned (.bool true) ∧ Below w.heap.size w w' := by
  have H0 := St.init w
  go_enter Try.func6, Try.ntmps6
  go_wp2_with (first | (go_at_call 8; refine (speaks_ok H0).mono ?_; rintro x w1 ⟨rfl, H1⟩) | (go_at_call 10; refine (carry_nil _ _ _).mono ?_; rintro x w2 ⟨rfl, rfl⟩) | (go_at_call 15; refine (left_nil _).mono ?_; rintro x w2 ⟨rfl, rfl⟩) | (go_at_call 12; refine (back_nil _ _).mono ?_; rintro x w2 ⟨rfl, rfl⟩) | (go_at_call 11; refine (late_nil _).mono ?_; rintro x w2 ⟨rfl, rfl⟩))
  go_ret
  exact ⟨rfl, H1.below⟩
theorem own : ownKnob Try.prog.godebug = none := by kernel_rfl
theorem laidOut : laidOutB Try.prog = true := by kernel_rfl
theorem readable : ∀ t ∈ Try.f6.params.toList, Try.prog.readableRec t = true ∧ t < Try.prog.types.size := by
  intro t ht
  rw [Try.params6] at ht
  simp only [List.mem_cons, List.not_mem_nil, or_false] at ht
  rcases ht with rfl | rfl
  all_goals exact ⟨by kernel_rfl, of_decide_eq_true (by kernel_rfl)⟩
theorem contract (H : Type) (enc : TypeId × Value → H) (W : World) (base : Nat) (args : Array Value) (ds gs : List (DataW H)) (before : List MemPlace)
    (hval : ∀ (j : Nat) t v, Try.f6.params[j]? = some t → args[j]? = some v → Value.okWide Try.prog W .any base t v)
    (hW : DataW.Whole enc Try.prog Try.f6.params.toList Rows.netNilSpec.vars false W args.toList ds gs before) :
    Calls Try.prog 6 args W fun e W' => ∃ v, e = .returned v ∧ Rows.netNilSpec.post enc Try.prog Try.f6 false true false false W args v W' := by
  have hW' := hW
  obtain ⟨p, q, hA0, hV, rfl, _, _⟩ := hW
  have hA : DataW.TrodAll enc Try.prog W 0 (fun _ => true) true Try.f6.params.toList args.toList ds p := hA0
  rw [Try.params6] at hA hval
  obtain ⟨v0, vs0, d0, ds0, p0, q0, hargs, rfl, rfl, h0, r0⟩ := trodAll_cons hA
  obtain ⟨v1, vs1, d1, ds1, p1, q1, rfl, rfl, rfl, h1, r1⟩ := trodAll_cons r0
  obtain ⟨rfl, rfl, rfl⟩ := trodAll_nil r1
  obtain rfl : args = #[v0, v1] := by cases args; simp_all
  obtain ⟨rfl, rfl⟩ := trodVars_none hV
  clear hA0
  obtain ⟨f, rfl, rfl, rfl, wf⟩ := open_int Try.underlying3 (hval 0 3 v0 rfl rfl) h0
  obtain ⟨s, rfl, rfl, rfl, ws⟩ := open_string Try.underlying9 (hval 1 9 v1 rfl rfl) h1
  refine (walk W f (wf_i64 wf) s ws).mono fun e W' ⟨he, hb⟩ => ?_
  exact ⟨_, he, law_post (tb := 4) laidOut readable rfl Try.underlying4 rfl hW' rfl rfl rfl hb⟩
set_option maxRecDepth 100000 in
theorem lifted (os : Os) (started : os.Started) (H : Type) (enc : TypeId × Value → H) :
    ReturnsInHanded {} Try.checked os 6 .any (Rows.netNilSpec.pre6 enc Try.prog Try.f6 Rows.netNilRow.domain false) (Rows.netNilSpec.post enc Try.prog Try.f6 false true false false) := by
  refine returnsInHanded_of_change (C := Try.checked) (s := Rows.netNilSpec) own started (by kernel_rfl) Try.func6
    (ChangeSpec.witness6 (enc := enc) (C := Try.checked) false ⟨#[], #[.int .i64 0, .string .empty], []⟩ 8 (by kernel_rfl) (by kernel_rfl) (by kernel_rfl) (by kernel_rfl)) ?_
  intro W base args ds gs before hval hW _ _
  exact contract H enc W base args ds gs before hval hW
theorem proved : Rows.NetNilSaid :=
  OpenClaim.holds_of_wide 6 Try.f6 rfl rfl rfl rfl rfl rfl rfl ⟨rfl, rfl, rfl, rfl, rfl⟩ rfl rfl rfl rfl rfl (by kernel_rfl) Try.func6 (by kernel_rfl)
    (of_decide_eq_true (by kernel_rfl)) (by unfold Func.isWrapper; first | (rw [if_pos (by decide +kernel)]; kernel_rfl) | (rw [if_neg (by decide +kernel)]; exact ⟨rfl, rfl⟩))
    (fun os started H enc _ => lifted os started H enc)
#print axioms proved

end Go.Proofs.Ytpeoajmlmkmffaa.NetNil

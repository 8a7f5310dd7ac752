/- SchemaChecks: which texts are forms: of texts of at most 1048576 bytes. -/
import Derived.Test.YtpmhjjfcipjnoaaSmM
import Derived.Test.YtpmhjjfcipjnoaaLift
import Derived.Test.YtpmhjjfcipjnoaaLiftC
namespace Go.Proofs.Ytpmhjjfcipjnoaa.SchemaChecks
open Go.RowKit Go.ChangeShapes Go.WideShapes Go.ChangeAt Go.Proofs.Ytpmhjjfcipjnoaa
open Go.ChangeMaps (open_string shut_string)

set_option maxHeartbeats 2000000 in
theorem walk (w : World) (s : ByteArray) (hs : s.size ≤ 1048576) :
    Calls Try.prog 4 #[.string s] w fun r w' => r = .returned (.bool true) ∧ Below w.heap.size w w' := by
  have H0 := St.init w
  have hc := fun (w1 : World) (H : St w w1 []) => check_ok s (by omega) H
  have hr := fun (w1 : World) (H : St w w1 []) => refcheck_ok s (by omega) H
  obtain ⟨o, ho⟩ : ∃ o, o = (parseF s).isSome := ⟨_, rfl⟩
  rw [← ho] at hc hr
  have HC := Lib.hid hc; have HR := Lib.hid hr
  clear hc hr ho
  have hoo : (o == o) = true := beq_self_eq_true o
  go_enter Try.func4, Try.ntmps4
  go_wp2_with (fail)
  refine (speaks_ok H0).mono ?_
  rintro x w1 ⟨rfl, H1⟩
  go_wp2_with (fail)
  refine (HC.out _ H1).mono ?_
  rintro x w2 ⟨rfl, H2⟩
  go_wp2_with (fail)
  refine (HR.out _ H2).mono ?_
  rintro x w3 ⟨rfl, H3⟩
  go_wp2_with (fail)
  go_ret
  exact ⟨rfl, H3.below⟩
theorem own : ownKnob Try.prog.godebug = none := by kernel_rfl
theorem laidOut : laidOutB Try.prog = true := by kernel_rfl
theorem readable : ∀ t ∈ Try.f4.params.toList, Try.prog.readableRec t = true ∧ t < Try.prog.types.size := by
  intro t ht
  rw [Try.params4] at ht
  simp only [List.mem_cons, List.not_mem_nil, or_false] at ht
  subst ht
  exact ⟨by kernel_rfl, of_decide_eq_true (by kernel_rfl)⟩
set_option maxRecDepth 100000 in
theorem contract (H : Type) (enc : TypeId × Value → H) (W : World) (base : Nat) (args : Array Value) (ds gs : List (DataW H)) (before : List MemPlace)
    (hval : ∀ (j : Nat) t v, Try.f4.params[j]? = some t → args[j]? = some v → Value.okWide Try.prog W .any base t v)
    (hW : DataW.Whole enc Try.prog Try.f4.params.toList Rows.schemaChecksSpec.vars false W args.toList ds gs before) (hk : Rows.uptoSmall H (ds ++ gs) = true) :
    Calls Try.prog 4 args W fun e W' => ∃ v, e = .returned v ∧ Rows.schemaChecksSpec.post enc Try.prog Try.f4 false true false false W args v W' := by
  have hW' := hW
  obtain ⟨p, q, hA0, hV, rfl, _, _⟩ := hW
  have hA : DataW.TrodAll enc Try.prog W 0 (fun _ => true) true Try.f4.params.toList args.toList ds p := hA0
  rw [Try.params4] at hA hval
  obtain ⟨v0, vs0, d0, ds0, p0, q0, hargs, rfl, rfl, h0, r0⟩ := trodAll_cons hA
  obtain ⟨rfl, rfl, rfl⟩ := trodAll_nil r0
  obtain rfl : args = #[v0] := by cases args; simp_all
  obtain ⟨rfl, rfl⟩ := trodVars_none hV
  clear hA0
  have hk2 : Rows.uptoBulkAll _ ≤ 1048576 := of_decide_eq_true hk
  rw [List.append_nil] at hk2
  obtain ⟨s, rfl, rfl, rfl, ws⟩ := open_string Try.underlying9 (hval 0 9 v0 rfl rfl) h0
  refine (walk W s (by
    have hz : (s.data.toList).length = s.size := bl_length s
    simp only [Rows.uptoBulkAll, Rows.uptoBulk] at hk2
    omega)).mono fun e W' ⟨he, hb⟩ => ?_
  exact ⟨_, he, law_post (tb := 4) laidOut readable rfl Try.underlying4 rfl hW' rfl rfl rfl hb⟩
set_option maxRecDepth 100000 in
theorem lifted (os : Os) (started : os.Started) (H : Type) (enc : TypeId × Value → H) (F : Stop.Interp) :
    ReturnsInHanded {} Try.checked os 4 .any ((Rows.OpenSpec.upto Rows.schemaChecksSpec).pre6 enc Try.prog Try.f4 Rows.schemaChecksUptoRow.domain false) (((Rows.OpenSpec.upto Rows.schemaChecksSpec).at F).post enc Try.prog Try.f4 false true false false) := by
  refine returnsInHanded_of_cond (C := Try.checked) (s := Rows.OpenSpec.upto Rows.schemaChecksSpec) (k := Rows.uptoSmall) rfl own started (by kernel_rfl) Try.func4
    (OpenSpec.witness (enc := enc) (C := Try.checked) (s := Rows.OpenSpec.upto Rows.schemaChecksSpec) (k := Rows.uptoSmall) rfl false ⟨#[], #[.string .empty], []⟩ 8 (by kernel_rfl) (by kernel_rfl) (by kernel_rfl)
      (x := ([.lit (.string [])], [], [])) (by kernel_rfl) rfl (by kernel_rfl)) ?_
  intro W base args ds gs before hval hW _ hk _
  exact contract H enc W base args ds gs before hval hW hk
theorem proved : Rows.SchemaChecksUptoSaid :=
  OpenClaim.holds_of_cond 4 Try.f4 rfl rfl rfl rfl rfl rfl rfl ⟨rfl, rfl, rfl, rfl, rfl⟩ rfl rfl rfl rfl rfl (by kernel_rfl) Try.func4 (by kernel_rfl)
    (of_decide_eq_true (by kernel_rfl)) (by unfold Func.isWrapper; first | (rw [if_pos (by decide +kernel)]; kernel_rfl) | (rw [if_neg (by decide +kernel)]; exact ⟨rfl, rfl⟩))
    (fun os started H enc _ F => lifted os started H enc F)
#print axioms proved

end Go.Proofs.Ytpmhjjfcipjnoaa.SchemaChecks

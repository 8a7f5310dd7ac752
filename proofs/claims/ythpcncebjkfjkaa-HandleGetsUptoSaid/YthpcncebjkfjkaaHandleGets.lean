/- HandleGets: any text as a handle: texts of at most 1048576 bytes. -/
import Derived.Test.YthpcncebjkfjkaaHdC
import Derived.Test.YthpcncebjkfjkaaLift
namespace Go.Proofs.Ythpcncebjkfjkaa.HandleGets
open Go.RowKit Go.ChangeShapes Go.WideShapes Go.ChangeAt Go.Proofs.Ythpcncebjkfjkaa
open Go.ChangeMaps (open_string shut_string)

set_option maxHeartbeats 1000000 in
theorem walk (w : World) (s : ByteArray) (hs : s.size ≤ 1048576) :
    Calls Try.prog 3 #[.string s] w fun r w' => r = .returned (.bool true) ∧ Below w.heap.size w w' := by
  have Hw := St.init w
  have hb := put_get s
  have hi0 : isH s = false → getB s = (0, 0, 0) := fun h => by unfold getB; rw [h]; rfl
  have G1 := fun (w1 : World) (H : St w w1 []) => hget_ok s (by omega) H
  have G2 := fun (w1 : World) (H : St w w1 []) => refhget_ok s (by omega) H
  have G3 := fun (w1 : World) (H : St w w1 []) => hnumber_ok s (by omega) H
  have G4 := fun (w1 : World) (H : St w w1 []) => refhnumber_ok s (by omega) H
  generalize numB s = nb at *
  generalize getB s = gb at *
  generalize isH s = ib at *
  obtain ⟨a, b, c⟩ := gb
  dsimp only at *
  have HB := Lib.hid hb; have K1 := Lib.hid G1; have K2 := Lib.hid G2; have K3 := Lib.hid G3; have K4 := Lib.hid G4
  clear hb hi0 G1 G2 G3 G4
  go_enter Try.func3, Try.ntmps3
  go_wp2_with (fail)
  refine (hspeaks_ok Hw).mono ?_
  rintro e w1 ⟨rfl, H0⟩
  go_wp2_with (fail)
  refine (K1.out _ H0).mono ?_
  rintro e w2 ⟨rfl, H2⟩
  go_wp2_with (fail)
  refine (K2.out _ H2).mono ?_
  rintro e w3 ⟨rfl, H3⟩
  go_wp2_with (fail)
  refine (K3.out _ H3).mono ?_
  rintro e w4 ⟨rfl, H4⟩
  go_wp2_with (fail)
  refine (K4.out _ H4).mono ?_
  rintro e w5 ⟨rfl, H5⟩
  cases ib
  · go_wp2_with (fail)
    go_ret
    exact ⟨rfl, H5.below⟩
  · go_wp2_with (fail)
    refine (hput_ok a b c H5).mono ?_
    rw [HB.out (by trivial)]
    rintro e w6 ⟨rfl, H6⟩
    go_wp2_with (fail)
    go_ret
    exact ⟨rfl, H6.below⟩
theorem own : ownKnob Try.prog.godebug = none := by kernel_rfl
theorem laidOut : laidOutB Try.prog = true := by kernel_rfl
theorem readable : ∀ t ∈ Try.f3.params.toList, Try.prog.readableRec t = true ∧ t < Try.prog.types.size := by
  intro t ht
  rw [Try.params3] at ht
  simp only [List.mem_cons, List.not_mem_nil, or_false] at ht
  subst ht
  exact ⟨by kernel_rfl, of_decide_eq_true (by kernel_rfl)⟩
theorem contract (H : Type) (enc : TypeId × Value → H) (W : World) (base : Nat) (args : Array Value) (ds gs : List (DataW H)) (before : List MemPlace)
    (hval : ∀ (j : Nat) t v, Try.f3.params[j]? = some t → args[j]? = some v → Value.okWide Try.prog W .any base t v)
    (hW : DataW.Whole enc Try.prog Try.f3.params.toList Rows.handleGetsSpec.vars false W args.toList ds gs before) (hk : Rows.uptoSmall H (ds ++ gs) = true) :
    Calls Try.prog 3 args W fun e W' => ∃ v, e = .returned v ∧ Rows.handleGetsSpec.post enc Try.prog Try.f3 false true false false W args v W' := by
  have hW' := hW
  obtain ⟨p, q, hA0, hV, rfl, _, _⟩ := hW
  have hA : DataW.TrodAll enc Try.prog W 0 (fun _ => true) true Try.f3.params.toList args.toList ds p := hA0
  rw [Try.params3] at hA hval
  obtain ⟨v0, vs0, d0, ds0, p0, q0, hargs, rfl, rfl, h0, r0⟩ := trodAll_cons hA
  obtain ⟨rfl, rfl, rfl⟩ := trodAll_nil r0
  obtain rfl : args = #[v0] := by cases args; simp_all
  obtain ⟨rfl, rfl⟩ := trodVars_none hV
  clear hA0
  have hk2 : Rows.uptoBulkAll _ ≤ 1048576 := of_decide_eq_true hk
  rw [List.append_nil] at hk2
  obtain ⟨s, rfl, rfl, rfl, ws⟩ := open_string Try.underlying9 (hval 0 9 v0 rfl rfl) h0
  refine (walk W s (by
    have hz : (s.data.toList).length = s.size := bl_length s
    simp only [Rows.uptoBulkAll, Rows.uptoBulk] at hk2
    omega)).mono fun e W' ⟨he, hb⟩ => ?_
  exact ⟨_, he, law_post (tb := 4) laidOut readable rfl Try.underlying4 rfl hW' rfl rfl rfl hb⟩
set_option maxRecDepth 100000 in
theorem lifted (os : Os) (started : os.Started) (H : Type) (enc : TypeId × Value → H) (F : Stop.Interp) :
    ReturnsInHanded {} Try.checked os 3 .any ((Rows.OpenSpec.upto Rows.handleGetsSpec).pre6 enc Try.prog Try.f3 Rows.handleGetsUptoRow.domain false) (((Rows.OpenSpec.upto Rows.handleGetsSpec).at F).post enc Try.prog Try.f3 false true false false) := by
  refine returnsInHanded_of_cond (C := Try.checked) (s := Rows.OpenSpec.upto Rows.handleGetsSpec) (k := Rows.uptoSmall) rfl own started (by kernel_rfl) Try.func3
    (OpenSpec.witness (enc := enc) (C := Try.checked) (s := Rows.OpenSpec.upto Rows.handleGetsSpec) (k := Rows.uptoSmall) rfl false ⟨#[], #[.string .empty], []⟩ 8 (by kernel_rfl) (by kernel_rfl) (by kernel_rfl)
      (x := ([.lit (.string [])], [], [])) (by kernel_rfl) rfl (by kernel_rfl)) ?_
  intro W base args ds gs before hval hW _ hk _
  exact contract H enc W base args ds gs before hval hW hk
theorem proved : Rows.HandleGetsUptoSaid :=
  OpenClaim.holds_of_cond 3 Try.f3 rfl rfl rfl rfl rfl rfl rfl ⟨rfl, rfl, rfl, rfl, rfl⟩ rfl rfl rfl rfl rfl (by kernel_rfl) Try.func3 (by kernel_rfl)
    (of_decide_eq_true (by kernel_rfl)) (by unfold Func.isWrapper; first | (rw [if_pos (by decide +kernel)]; kernel_rfl) | (rw [if_neg (by decide +kernel)]; exact ⟨rfl, rfl⟩))
    (fun os started H enc _ F => lifted os started H enc F)
#print axioms proved

end Go.Proofs.Ythpcncebjkfjkaa.HandleGets

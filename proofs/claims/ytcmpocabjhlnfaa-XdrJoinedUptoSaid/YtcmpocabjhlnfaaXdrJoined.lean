/- XdrJoined: what two writers put is, one behind the other, what one puts, and comes in fours: of texts of bulk at most 1048576, and every number. -/
import Derived.Test.YtcmpocabjhlnfaaXdrS
import Derived.Test.YtcmpocabjhlnfaaLift
namespace Go.Proofs.Ytcmpocabjhlnfaa.XdrJoined
open Go.RowKit Go.ChangeShapes Go.WideShapes Go.ChangeAt Go.Proofs.Ytcmpocabjhlnfaa
open Go.ChangeMaps (open_string shut_string)

theorem fixed_mod (l : List UInt8) : (fixed l).length % 4 = 0 ∧ (fixed l).length ≤ l.length + 3 := by
  rw [fixed, List.length_append, zeros, List.length_replicate]; unfold padn; omega
set_option maxRecDepth 100000 in
set_option maxHeartbeats 4000000 in
theorem walk (w : World) (a : ByteArray) (ha : a.size ≤ 1048576) (b : ByteArray) (hb : b.size ≤ 1048576) (n : Int) (_hn : -9223372036854775808 ≤ n ∧ n ≤ 9223372036854775807) :
    Calls Try.prog 3 #[.string a, .string b, .int .i64 n] w fun r w' => r = .returned (.bool true) ∧ Below w.heap.size w w' := by
  have H0 := St.init w
  obtain ⟨fa1, fa2⟩ := fixed_mod (bl a)
  obtain ⟨fb1, fb2⟩ := fixed_mod (bl b)
  rw [bl_length] at fa2 fb2
  have lV : (([] ++ opaq (bl a)) ++ be n 8).length = (fixed (bl a)).length + 12 := by simp only [opaq, List.length_append, be_length, List.nil_append]; omega
  have lW : (([] ++ fixed (bl b)) ++ be n 4).length = (fixed (bl b)).length + 4 := by simp only [List.length_append, be_length, List.nil_append]
  have hX : mkb (([] ++ opaq (bl a)) ++ be n 8) ++ mkb (([] ++ fixed (bl b)) ++ be n 4) = mkb (((([] ++ opaq (bl a)) ++ be n 8) ++ fixed (bl b)) ++ be n 4) := by
    rw [mkb_append]; simp only [List.append_assoc, List.nil_append]
  have sV : (mkb (([] ++ opaq (bl a)) ++ be n 8)).size = (fixed (bl a)).length + 12 := by rw [mkb_size, lV]
  have sW : (mkb (([] ++ fixed (bl b)) ++ be n 4)).size = (fixed (bl b)).length + 4 := by rw [mkb_size, lW]
  have L1 : ([] ++ opaq (bl a)).length ≤ 1048600 := by simp only [List.length_append, be_length] at lV; simp only [List.length_append]; omega
  have L2 : ([] ++ fixed (bl b)).length ≤ 1048600 := by simp only [List.length_append, be_length] at lW; simp only [List.length_append]; omega
  have L3 : (([] ++ opaq (bl a)) ++ be n 8).length ≤ 1048700 := by omega
  have L4 : ((([] ++ opaq (bl a)) ++ be n 8) ++ fixed (bl b)).length ≤ 3048700 := by rw [List.length_append]; omega
  have m1 : ((((fixed (bl a)).length + 12 : Nat) : Int) % 4 == 0) = true := by simp; omega
  have m2 : ((((fixed (bl b)).length + 4 : Nat) : Int) % 4 == 0) = true := by simp; omega
  have b1 : (mkb (([] ++ opaq (bl a)) ++ be n 8)).size ≤ 1048700 := by omega
  have b2 : (mkb (([] ++ fixed (bl b)) ++ be n 4)).size ≤ 1048700 := by omega
  have HX := Lib.hid hX; have HV := Lib.hid sV; have HW := Lib.hid sW
  have MV : Hid ((((mkb (([] ++ opaq (bl a)) ++ be n 8)).size : Int) % 4 == 0) = true) := by show _ = _; rw [sV]; exact m1
  have MW : Hid ((((mkb (([] ++ fixed (bl b)) ++ be n 4)).size : Int) % 4 == 0) = true) := by show _ = _; rw [sW]; exact m2
  clear hX sV sW lV lW fa1 fa2 fb1 fb2 m1 m2 HV HW
  go_enter Try.func3, Try.ntmps3
  go_wp2_with (first | (go_at_call 9; refine (speaks_ok H0).mono ?_; rintro x w1 ⟨rfl, H1⟩) | fail)
  have H2 := ((H1.alloc #[.slice none 0 0] 25).alloc #[.slice none 0 0] 25).alloc #[.slice none 0 0] 25
  simp only [World.size_alloc] at H2
  have H3 := H2.newWr.r2.newWr.r3.newWr
  generalize w1.heap.size = B at *
  clear H1 H2
  refine (wopaque_ok _ _ mk_one _ _ _ (by decide) (by omega) H3).mono ?_
  rintro x w2 ⟨rfl, H4⟩
  go_wp2_with (fail)
  refine (whyper_ok _ _ mk_one _ _ _ (by omega) H4).mono ?_
  rintro x w3 ⟨rfl, H5⟩
  go_wp2_with (fail)
  refine (wfixed_ok _ _ mk_one _ _ _ (by decide) (by omega) H5.r2).mono ?_
  rintro x w4 ⟨rfl, H6⟩
  go_wp2_with (fail)
  refine (wuint_ok _ _ mk_one _ _ _ (by omega) H6).mono ?_
  rintro x w5 ⟨rfl, H7⟩
  go_wp2_with (fail)
  refine (wopaque_ok _ _ mk_one _ _ _ (by decide) (by omega) H7.r3).mono ?_
  rintro x w6 ⟨rfl, H8⟩
  go_wp2_with (fail)
  refine (whyper_ok _ _ mk_one _ _ _ (by omega) H8).mono ?_
  rintro x w7 ⟨rfl, H9⟩
  go_wp2_with (fail)
  refine (wfixed_ok _ _ mk_one _ _ _ (by omega) (by omega) H9).mono ?_
  rintro x w8 ⟨rfl, H10⟩
  go_wp2_with (fail)
  refine (wuint_ok _ _ mk_one _ _ _ (by omega) H10).mono ?_
  rintro x w9 ⟨rfl, H11⟩
  go_wp2_with (fail)
  clear H3 H4 H5 H6 H7 H8 H9 H10 L1 L2 L3 L4
  generalize [] ++ opaq (bl a) ++ be n 8 ++ fixed (bl b) ++ be n 4 = X at *
  generalize [] ++ opaq (bl a) ++ be n 8 = V at *
  generalize [] ++ fixed (bl b) ++ be n 4 = U at *
  refine (bytes_ok _ _ mk_one _ _ H11).mono ?_
  rintro x w10 ⟨rfl, rfl⟩
  go_wp2_with (fail)
  refine (bytes_ok _ _ mk_one _ _ H11.r3).mono ?_
  rintro x w10 ⟨rfl, rfl⟩
  go_wp2_with (fail)
  refine (bytes_ok _ _ mk_one _ _ H11.r2).mono ?_
  rintro x w10 ⟨rfl, rfl⟩
  have hx := HX.out
  go_wp2_with (fail)
  clear hx
  refine (bytes_ok _ _ mk_one _ _ H11.r3).mono ?_
  rintro x w10 ⟨rfl, rfl⟩
  have m1 : (((mkb V).size : Int) % 4 == 0) = true := MV.out
  go_wp2_with (fail)
  refine (bytes_ok _ _ mk_one _ _ H11.r2).mono ?_
  rintro x w10 ⟨rfl, rfl⟩
  have m2 : (((mkb U).size : Int) % 4 == 0) = true := MW.out
  go_wp2_with (fail)
  go_ret
  exact ⟨rfl, H11.below⟩
theorem own : ownKnob Try.prog.godebug = none := by kernel_rfl
theorem laidOut : laidOutB Try.prog = true := by kernel_rfl
theorem readable : ∀ t ∈ Try.f3.params.toList, Try.prog.readableRec t = true ∧ t < Try.prog.types.size := by
  intro t ht
  rw [Try.params3] at ht
  simp only [List.mem_cons, List.not_mem_nil, or_false] at ht
  rcases ht with rfl | rfl | rfl
  all_goals exact ⟨by kernel_rfl, of_decide_eq_true (by kernel_rfl)⟩
theorem contract (H : Type) (enc : TypeId × Value → H) (W : World) (base : Nat) (args : Array Value) (ds gs : List (DataW H)) (before : List MemPlace)
    (hval : ∀ (j : Nat) t v, Try.f3.params[j]? = some t → args[j]? = some v → Value.okWide Try.prog W .any base t v)
    (hW : DataW.Whole enc Try.prog Try.f3.params.toList Rows.xdrJoinedSpec.vars false W args.toList ds gs before) (hk : Rows.uptoSmall H (ds ++ gs) = true) :
    Calls Try.prog 3 args W fun e W' => ∃ v, e = .returned v ∧ Rows.xdrJoinedSpec.post enc Try.prog Try.f3 false true false false W args v W' := by
  have hW' := hW
  obtain ⟨p, q, hA0, hV, rfl, _, _⟩ := hW
  have hA : DataW.TrodAll enc Try.prog W 0 (fun _ => true) true Try.f3.params.toList args.toList ds p := hA0
  rw [Try.params3] at hA hval
  obtain ⟨v0, vs0, d0, ds0, p0, q0, hargs, rfl, rfl, h0, r0⟩ := trodAll_cons hA
  obtain ⟨v1, vs1, d1, ds1, p1, q1, rfl, rfl, rfl, h1, r1⟩ := trodAll_cons r0
  obtain ⟨v2, vs2, d2, ds2, p2, q2, rfl, rfl, rfl, h2, r2⟩ := trodAll_cons r1
  obtain ⟨rfl, rfl, rfl⟩ := trodAll_nil r2
  obtain rfl : args = #[v0, v1, v2] := by cases args; simp_all
  obtain ⟨rfl, rfl⟩ := trodVars_none hV
  clear hA0
  have hk2 : Rows.uptoBulkAll _ ≤ 1048576 := of_decide_eq_true hk
  rw [List.append_nil] at hk2
  obtain ⟨a, rfl, rfl, rfl, wa⟩ := open_string Try.underlying9 (hval 0 9 v0 rfl rfl) h0
  obtain ⟨b, rfl, rfl, rfl, wb⟩ := open_string Try.underlying9 (hval 1 9 v1 rfl rfl) h1
  obtain ⟨n, rfl, rfl, rfl, wn⟩ := open_int Try.underlying3 (hval 2 3 v2 rfl rfl) h2
  refine (walk W a (by
    have hz : (a.data.toList).length = a.size := bl_length a
    simp only [Rows.uptoBulkAll, Rows.uptoBulk] at hk2
    omega) b (by
    have hz : (b.data.toList).length = b.size := bl_length b
    simp only [Rows.uptoBulkAll, Rows.uptoBulk] at hk2
    omega) n (wf_i64 wn)).mono fun e W' ⟨he, hb⟩ => ?_
  exact ⟨_, he, law_post (tb := 4) laidOut readable rfl Try.underlying4 rfl hW' rfl rfl rfl hb⟩
set_option maxRecDepth 100000 in
theorem lifted (os : Os) (started : os.Started) (H : Type) (enc : TypeId × Value → H) (F : Stop.Interp) :
    ReturnsInHanded {} Try.checked os 3 .any ((Rows.OpenSpec.upto Rows.xdrJoinedSpec).pre6 enc Try.prog Try.f3 Rows.xdrJoinedUptoRow.domain false) (((Rows.OpenSpec.upto Rows.xdrJoinedSpec).at F).post enc Try.prog Try.f3 false true false false) := by
  refine returnsInHanded_of_cond (C := Try.checked) (s := Rows.OpenSpec.upto Rows.xdrJoinedSpec) (k := Rows.uptoSmall) rfl own started (by kernel_rfl) Try.func3
    (OpenSpec.witness (enc := enc) (C := Try.checked) (s := Rows.OpenSpec.upto Rows.xdrJoinedSpec) (k := Rows.uptoSmall) rfl false ⟨#[], #[.string .empty, .string .empty, .int .i64 0], []⟩ 8 (by kernel_rfl) (by kernel_rfl) (by kernel_rfl)
      (x := ([.lit (.string []), .lit (.string []), .lit (.int .i64 0)], [], [])) (by kernel_rfl) rfl (by kernel_rfl)) ?_
  intro W base args ds gs before hval hW _ hk _
  exact contract H enc W base args ds gs before hval hW hk
theorem proved : Rows.XdrJoinedUptoSaid :=
  OpenClaim.holds_of_cond 3 Try.f3 rfl rfl rfl rfl rfl rfl rfl ⟨rfl, rfl, rfl, rfl, rfl⟩ rfl rfl rfl rfl rfl (by kernel_rfl) Try.func3 (by kernel_rfl)
    (of_decide_eq_true (by kernel_rfl)) (by unfold Func.isWrapper; first | (rw [if_pos (by decide +kernel)]; kernel_rfl) | (rw [if_neg (by decide +kernel)]; exact ⟨rfl, rfl⟩))
    (fun os started H enc _ F => lifted os started H enc F)
#print axioms proved

end Go.Proofs.Ytcmpocabjhlnfaa.XdrJoined

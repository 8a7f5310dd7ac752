/- ScoreTotal: the order of floats is one. -/
import Derived.Test.YtdofeehnclobmaaScO
import Derived.Test.YtdofeehnclobmaaLift
namespace Go.Proofs.Ytdofeehnclobmaa.ScoreTotal
open Go.RowKit Go.ChangeShapes Go.WideShapes Go.ChangeAt Go.Proofs.Ytdofeehnclobmaa

theorem tkey_eq {a b : Nat} (ha : a < 2 ^ 64) (hb : b < 2 ^ 64) (h : tkey a = tkey b) : same a b = true := by
  have ra := rung_lt a
  have rb := rung_lt b
  have ea := rung_sneg a ha
  have eb := rung_sneg b hb
  revert h
  unfold tkey same
  cases nanb a <;> cases nanb b <;> simp only [Bool.false_eq_true, if_false, if_true]
  · cases hsa : sneg a <;> cases hsb : sneg b <;> rw [hsa] at ea <;> rw [hsb] at eb <;> simp only [Bool.false_eq_true, if_false, if_true] at ea eb ⊢
    all_goals (intro h; simp only [Bool.and_self, Bool.false_or, beq_iff_eq]; omega)
  · intro h; exfalso; revert h; split <;> omega
  · intro h; exfalso; revert h; split <;> omega
  · intro; rfl
set_option maxHeartbeats 400000 in
theorem walk (w : World) (a : Int) (ha : 0 ≤ a ∧ a ≤ 18446744073709551615) (b : Int) (hb : 0 ≤ b ∧ b ≤ 18446744073709551615) (c : Int) (hc : 0 ≤ c ∧ c ≤ 18446744073709551615) :
    Calls Try.prog 5 #[.int .u64 a, .int .u64 b, .int .u64 c] w fun r w' => r = .returned (.bool true) ∧ Below w.heap.size w w' := by
  have H0 := St.init w
  have ha' : a.toNat < 2 ^ 64 := by omega
  have hb' : b.toNat < 2 ^ 64 := by omega
  have hc' : c.toNat < 2 ^ 64 := by omega
  have exx : fless a.toNat a.toNat = false := decide_eq_false (by omega)
  have ts := tkey_eq ha' hb'
  have HA := Lib.hid ha'; have HB := Lib.hid hb'; have HC := Lib.hid hc'; clear ha hb hc ha' hb' hc'
  have H11 := Lib.hid exx; clear exx
  rcases Int.lt_trichotomy (tkey a.toNat) (tkey b.toNat) with h | h | h
  · have H12 := Lib.hid (show fless a.toNat b.toNat = true from decide_eq_true h)
    have H21 := Lib.hid (show fless b.toNat a.toNat = false from decide_eq_false (by omega))
    by_cases h3 : tkey b.toNat < tkey c.toNat
    · have H23 := Lib.hid (show fless b.toNat c.toNat = true from decide_eq_true h3)
      have H13 := Lib.hid (show fless a.toNat c.toNat = true from decide_eq_true (by omega))
      clear h h3 ts
      go_enter Try.func5, Try.ntmps5
      go_wp2_with (first | (go_at_call 10; refine (speaks_ok H0).mono ?_; rintro x w1 ⟨rfl, H1⟩))
      go_wp2_with (fail)
      refine (less_ok _ _ HA.out HA.out _).mono ?_
      rw [H11.out]
      rintro x w2 ⟨rfl, rfl⟩
      go_wp2_with (fail)
      refine (less_ok _ _ HA.out HB.out _).mono ?_
      rw [H12.out]
      rintro x w2 ⟨rfl, rfl⟩
      go_wp2_with (fail)
      refine (less_ok _ _ HB.out HA.out _).mono ?_
      rw [H21.out]
      rintro x w2 ⟨rfl, rfl⟩
      go_wp2_with (fail)
      refine (less_ok _ _ HA.out HB.out _).mono ?_
      rw [H12.out]
      rintro x w2 ⟨rfl, rfl⟩
      go_wp2_with (fail)
      refine (less_ok _ _ HB.out HC.out _).mono ?_
      rw [H23.out]
      rintro x w2 ⟨rfl, rfl⟩
      go_wp2_with (fail)
      refine (less_ok _ _ HA.out HC.out _).mono ?_
      rw [H13.out]
      rintro x w2 ⟨rfl, rfl⟩
      go_wp2_with (fail)
      refine (less_ok _ _ HA.out HB.out _).mono ?_
      rw [H12.out]
      rintro x w2 ⟨rfl, rfl⟩
      go_wp2_with (fail)
      go_ret
      exact ⟨rfl, H1.below⟩
    · have H23 := Lib.hid (show fless b.toNat c.toNat = false from decide_eq_false h3)
      clear h h3 ts
      go_enter Try.func5, Try.ntmps5
      go_wp2_with (first | (go_at_call 10; refine (speaks_ok H0).mono ?_; rintro x w1 ⟨rfl, H1⟩))
      go_wp2_with (fail)
      refine (less_ok _ _ HA.out HA.out _).mono ?_
      rw [H11.out]
      rintro x w2 ⟨rfl, rfl⟩
      go_wp2_with (fail)
      refine (less_ok _ _ HA.out HB.out _).mono ?_
      rw [H12.out]
      rintro x w2 ⟨rfl, rfl⟩
      go_wp2_with (fail)
      refine (less_ok _ _ HB.out HA.out _).mono ?_
      rw [H21.out]
      rintro x w2 ⟨rfl, rfl⟩
      go_wp2_with (fail)
      refine (less_ok _ _ HA.out HB.out _).mono ?_
      rw [H12.out]
      rintro x w2 ⟨rfl, rfl⟩
      go_wp2_with (fail)
      refine (less_ok _ _ HB.out HC.out _).mono ?_
      rw [H23.out]
      rintro x w2 ⟨rfl, rfl⟩
      go_wp2_with (fail)
      refine (less_ok _ _ HA.out HB.out _).mono ?_
      rw [H12.out]
      rintro x w2 ⟨rfl, rfl⟩
      go_wp2_with (fail)
      go_ret
      exact ⟨rfl, H1.below⟩
  · have H12 := Lib.hid (show fless a.toNat b.toNat = false from decide_eq_false (by omega))
    have H21 := Lib.hid (show fless b.toNat a.toNat = false from decide_eq_false (by omega))
    have HS := Lib.hid (ts h)
    clear h ts
    go_enter Try.func5, Try.ntmps5
    go_wp2_with (first | (go_at_call 10; refine (speaks_ok H0).mono ?_; rintro x w1 ⟨rfl, H1⟩))
    go_wp2_with (fail)
    refine (less_ok _ _ HA.out HA.out _).mono ?_
    rw [H11.out]
    rintro x w2 ⟨rfl, rfl⟩
    go_wp2_with (fail)
    refine (less_ok _ _ HA.out HB.out _).mono ?_
    rw [H12.out]
    rintro x w2 ⟨rfl, rfl⟩
    go_wp2_with (fail)
    refine (less_ok _ _ HA.out HB.out _).mono ?_
    rw [H12.out]
    rintro x w2 ⟨rfl, rfl⟩
    go_wp2_with (fail)
    refine (less_ok _ _ HA.out HB.out _).mono ?_
    rw [H12.out]
    rintro x w2 ⟨rfl, rfl⟩
    go_wp2_with (fail)
    refine (less_ok _ _ HB.out HA.out _).mono ?_
    rw [H21.out]
    rintro x w2 ⟨rfl, rfl⟩
    go_wp2_with (first | (go_at_call 11; refine (same_ok _ _ _).mono ?_; rw [HS.out]; rintro x w1 ⟨rfl, rfl⟩))
    go_ret
    exact ⟨rfl, H1.below⟩
  · have H12 := Lib.hid (show fless a.toNat b.toNat = false from decide_eq_false (by omega))
    have H21 := Lib.hid (show fless b.toNat a.toNat = true from decide_eq_true h)
    clear h ts
    go_enter Try.func5, Try.ntmps5
    go_wp2_with (first | (go_at_call 10; refine (speaks_ok H0).mono ?_; rintro x w1 ⟨rfl, H1⟩))
    go_wp2_with (fail)
    refine (less_ok _ _ HA.out HA.out _).mono ?_
    rw [H11.out]
    rintro x w2 ⟨rfl, rfl⟩
    go_wp2_with (fail)
    refine (less_ok _ _ HA.out HB.out _).mono ?_
    rw [H12.out]
    rintro x w2 ⟨rfl, rfl⟩
    go_wp2_with (fail)
    refine (less_ok _ _ HA.out HB.out _).mono ?_
    rw [H12.out]
    rintro x w2 ⟨rfl, rfl⟩
    go_wp2_with (fail)
    refine (less_ok _ _ HA.out HB.out _).mono ?_
    rw [H12.out]
    rintro x w2 ⟨rfl, rfl⟩
    go_wp2_with (fail)
    refine (less_ok _ _ HB.out HA.out _).mono ?_
    rw [H21.out]
    rintro x w2 ⟨rfl, rfl⟩
    go_wp2_with (fail)
    go_ret
    exact ⟨rfl, H1.below⟩
theorem own : ownKnob Try.prog.godebug = none := by kernel_rfl
theorem laidOut : laidOutB Try.prog = true := by kernel_rfl
theorem readable : ∀ t ∈ Try.f5.params.toList, Try.prog.readableRec t = true ∧ t < Try.prog.types.size := by
  intro t ht
  rw [Try.params5] at ht
  simp only [List.mem_cons, List.not_mem_nil, or_false] at ht
  rcases ht with rfl | rfl | rfl
  all_goals exact ⟨by kernel_rfl, of_decide_eq_true (by kernel_rfl)⟩
theorem contract (H : Type) (enc : TypeId × Value → H) (W : World) (base : Nat) (args : Array Value) (ds gs : List (DataW H)) (before : List MemPlace)
    (hval : ∀ (j : Nat) t v, Try.f5.params[j]? = some t → args[j]? = some v → Value.okWide Try.prog W .any base t v)
    (hW : DataW.Whole enc Try.prog Try.f5.params.toList Rows.scoreTotalSpec.vars false W args.toList ds gs before) :
    Calls Try.prog 5 args W fun e W' => ∃ v, e = .returned v ∧ Rows.scoreTotalSpec.post enc Try.prog Try.f5 false true false false W args v W' := by
  have hW' := hW
  obtain ⟨p, q, hA0, hV, rfl, _, _⟩ := hW
  have hA : DataW.TrodAll enc Try.prog W 0 (fun _ => true) true Try.f5.params.toList args.toList ds p := hA0
  rw [Try.params5] at hA hval
  obtain ⟨v0, vs0, d0, ds0, p0, q0, hargs, rfl, rfl, h0, r0⟩ := trodAll_cons hA
  obtain ⟨v1, vs1, d1, ds1, p1, q1, rfl, rfl, rfl, h1, r1⟩ := trodAll_cons r0
  obtain ⟨v2, vs2, d2, ds2, p2, q2, rfl, rfl, rfl, h2, r2⟩ := trodAll_cons r1
  obtain ⟨rfl, rfl, rfl⟩ := trodAll_nil r2
  obtain rfl : args = #[v0, v1, v2] := by cases args; simp_all
  obtain ⟨rfl, rfl⟩ := trodVars_none hV
  clear hA0
  obtain ⟨a, rfl, rfl, rfl, wa⟩ := open_int Try.underlying31 (hval 0 31 v0 rfl rfl) h0
  obtain ⟨b, rfl, rfl, rfl, wb⟩ := open_int Try.underlying31 (hval 1 31 v1 rfl rfl) h1
  obtain ⟨c, rfl, rfl, rfl, wc⟩ := open_int Try.underlying31 (hval 2 31 v2 rfl rfl) h2
  refine (walk W a (wf_u64 wa) b (wf_u64 wb) c (wf_u64 wc)).mono fun e W' ⟨he, hb⟩ => ?_
  exact ⟨_, he, law_post (tb := 4) laidOut readable rfl Try.underlying4 rfl hW' rfl rfl rfl hb⟩
set_option maxRecDepth 100000 in
theorem lifted (os : Os) (started : os.Started) (H : Type) (enc : TypeId × Value → H) :
    ReturnsInHanded {} Try.checked os 5 .any (Rows.scoreTotalSpec.pre6 enc Try.prog Try.f5 Rows.scoreTotalRow.domain false) (Rows.scoreTotalSpec.post enc Try.prog Try.f5 false true false false) := by
  refine returnsInHanded_of_change (C := Try.checked) (s := Rows.scoreTotalSpec) own started (by kernel_rfl) Try.func5
    (ChangeSpec.witness6 (enc := enc) (C := Try.checked) false ⟨#[], #[.int .u64 0, .int .u64 0, .int .u64 0], []⟩ 8 (by kernel_rfl) (by kernel_rfl) (by kernel_rfl) (by kernel_rfl)) ?_
  intro W base args ds gs before hval hW _ _
  exact contract H enc W base args ds gs before hval hW
theorem proved : Rows.ScoreTotalSaid :=
  OpenClaim.holds_of_wide 5 Try.f5 rfl rfl rfl rfl rfl rfl rfl ⟨rfl, rfl, rfl, rfl, rfl⟩ rfl rfl rfl rfl rfl (by kernel_rfl) Try.func5 (by kernel_rfl)
    (of_decide_eq_true (by kernel_rfl)) (by unfold Func.isWrapper; first | (rw [if_pos (by decide +kernel)]; kernel_rfl) | (rw [if_neg (by decide +kernel)]; exact ⟨rfl, rfl⟩))
    (fun os started H enc _ => lifted os started H enc)
#print axioms proved

end Go.Proofs.Ytdofeehnclobmaa.ScoreTotal

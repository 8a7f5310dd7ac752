/- ScoreTurned: the order of the turned signs is the turned order; the mean of one number is it, and of numbers that are none there is none. -/
import Derived.Test.YtdofeehnclobmaaScM
import Derived.Test.YtdofeehnclobmaaFNeg
import Derived.Test.YtdofeehnclobmaaSLW
namespace Go.Proofs.Ytdofeehnclobmaa.ScoreTurned
open Go.RowKit Go.ChangeShapes Go.WideShapes Go.ChangeAt Go.Proofs.Ytdofeehnclobmaa

@[go_sem] theorem unary_negF (b : Nat) : Op.unary .neg (.float .f64 b) = pure (.float .f64 (fneg b)) := rfl
theorem inf_ok (s : Int) (w : World) : Calls Try.prog 22 #[.int .i64 s] w fun r w' => r = .returned (.float .f64 (if 0 ≤ s then 9218868437227405312 else 18442240474082181120)) ∧ w' = w := by
  by_cases h : 0 ≤ s
  · rw [if_pos h]
    go_enter Try.func22, Try.ntmps22
    go_wp2_with (fail)
    go_ret
    exact ⟨rfl, rfl⟩
  · rw [if_neg h]
    go_enter Try.func22, Try.ntmps22
    go_wp2_with (fail)
    go_ret
    exact ⟨rfl, rfl⟩
theorem ptF {w0 w : World} {b : Nat} {T : TypeId} {l : List Nat} {F : List Assn} (H : St w0 w (Pt b (l.map fun x => Value.float .f64 x).toArray T :: F)) : RdF w (some ⟨b, 0, none⟩) l := fun i x hx =>
  ⟨b, 0, rfl, by rw [Nat.zero_add]; exact H.cell i (by simp [hx])⟩
theorem fless_neg (a b : Nat) (ha : nanb a = false) (hb : nanb b = false) : fless (fneg b) (fneg a) = fless a b := by
  unfold fless tkey
  rw [fneg_nan, fneg_nan, ha, hb, fneg_rung, fneg_rung, fneg_sneg, fneg_sneg]
  cases sneg a <;> cases sneg b <;> simp only [Bool.false_eq_true, Bool.not_false, Bool.not_true, if_false, if_true] <;> (rw [Bool.eq_iff_iff]; simp only [decide_eq_true_eq]; omega)
theorem mean_one (x : Nat) (h : x < 2 ^ 64) (hf : fin x = true) {s r : Nat} (hs : SumR [x] 1 s) (hr : FR .quo s (fl 1) r) : fkey r = fkey x ∧ nanb r = false := by
  have hfx : rung x < bI := by unfold fin at hf; exact of_decide_eq_true hf
  simp only [SumR, List.getD_cons_zero] at hs
  rw [if_pos hf] at hs
  obtain ⟨t, rfl, hs⟩ := hs
  obtain ⟨y, h1, h2, h3, h4⟩ := zero_add' x h hfx
  have e1 : s = y := hs.fix h1
  subst e1
  have e2 : fl 1 = 4607182418800017408 := by decide +kernel
  rw [e2] at hr
  have e3 : r = s := hr.fix (div_one s h3 h4)
  subst e3
  refine ⟨h2, ?_⟩
  rw [nanb_rung, decide_eq_false_iff_not]; omega
theorem cnt_one (x : Nat) : cntR [x] 1 = if fin x then 1 else 0 := by
  simp only [cntR, List.getD_cons_zero]
theorem cnt_none : cntR [9221120237041090561, 9218868437227405312, 18442240474082181120] 3 = 0 := by decide +kernel
set_option maxHeartbeats 4000000 in
theorem walk (w : World) (a : Int) (ha : 0 ≤ a ∧ a ≤ 18446744073709551615) (b : Int) (hb : 0 ≤ b ∧ b ≤ 18446744073709551615) :
    Calls Try.prog 9 #[.int .u64 a, .int .u64 b] w fun r w' => r = .returned (.bool true) ∧ Below w.heap.size w w' := by
  have H0 := St.init w
  have hx64 : a.toNat < 2 ^ 64 := by omega
  have hy64 : b.toNat < 2 ^ 64 := by omega
  have ox := ord_self a.toNat
  have oy := ord_self b.toNat
  have HX := Lib.hid hx64; have HY := Lib.hid hy64; clear ha hb hx64 hy64
  cases hnx : nanb a.toNat
  · cases hny : nanb b.toNat
    · rw [hnx] at ox; rw [hny] at oy
      have hln := fless_neg a.toNat b.toNat hnx hny
      have hfe := fin_eq a.toNat
      rw [hnx] at hfe
      have HLN := Lib.hid hln; have HNX := Lib.hid hnx; clear hln hnx hny
      have hbb : (fless a.toNat b.toNat == fless a.toNat b.toNat) = true := by simp
      go_enter Try.func9, Try.ntmps9
      go_wp2_with (first | (go_at_call 10; refine (speaks_ok H0).mono ?_; rintro q w1 ⟨rfl, H1⟩))
      have H2 := H1.alloc #[.float .f64 a.toNat] 24
      have HRF : ∀ w', St w w' [Pt w1.heap.size #[.float .f64 a.toNat] 24] → RdF w' (some ⟨w1.heap.size, 0, none⟩) [a.toNat] := fun w' H' => ptF (l := [a.toNat]) H'
      refine (mean_ok (some ⟨w1.heap.size, 0, none⟩) 1 [a.toNat] (by simp) (fun q hq => by rw [List.mem_singleton] at hq; subst hq; exact HX.out) HRF H2).mono ?_
      rintro q w3 ⟨s, r, hs, hr0, hr1, rfl, H3⟩
      rw [show [a.toNat].length = 1 from rfl, cnt_one] at *
      cases hf : fin a.toNat
      · rw [hf] at hfe hr0 hr1
        have hii : isinf a.toNat = true := by revert hfe; cases isinf a.toNat <;> decide
        have HII := Lib.hid hii
        simp only [Bool.false_eq_true, if_false] at hr0 hr1 ⊢
        clear hs hr0 hr1 hfe hii hf HRF
        go_wp2_with (first | (go_at_call 23; refine (isinf_ok _ HX.out _).mono ?_; rw [HII.out]; rintro q w5 ⟨rfl, rfl⟩))
        refine (less_ok _ _ HX.out HY.out _).mono ?_
        rintro q w6 ⟨rfl, rfl⟩
        go_wp2_with (fail)
        refine (less_ok _ _ (fneg_lt _ HY.out) (fneg_lt _ HX.out) _).mono ?_
        rw [HLN.out]
        rintro q w7 ⟨rfl, rfl⟩
        go_wp2_with (fail)
        go_ret
        exact ⟨rfl, H3.below⟩
      · rw [hf] at hfe hr0 hr1
        have hii : isinf a.toNat = false := by revert hfe; cases isinf a.toNat <;> decide
        have HII := Lib.hid hii
        simp only [if_true] at hr0 hr1 ⊢
        obtain ⟨hk, hnr⟩ := mean_one a.toNat HX.out hf hs (hr1 (by decide))
        have hm : (FloatKind.f64.format.order r a.toNat != some .eq) = false := by
          show (Ieee.double.order r a.toNat != some .eq) = false
          rw [order_key _ _ hnr HNX.out, bne, cmp_eq, decide_eq_true hk]; rfl
        clear hs hr0 hr1 hfe hii hf HRF hk hnr
        go_wp2_with (first | (go_at_call 23; refine (isinf_ok _ HX.out _).mono ?_; rw [HII.out]; rintro q w5 ⟨rfl, rfl⟩))
        refine (less_ok _ _ HX.out HY.out _).mono ?_
        rintro q w6 ⟨rfl, rfl⟩
        go_wp2_with (fail)
        refine (less_ok _ _ (fneg_lt _ HY.out) (fneg_lt _ HX.out) _).mono ?_
        rw [HLN.out]
        rintro q w7 ⟨rfl, rfl⟩
        go_wp2_with (fail)
        go_ret
        exact ⟨rfl, H3.below⟩
    · rw [hnx] at ox; rw [hny] at oy
      have i1 : (if (0 : Int) ≤ 1 then 9218868437227405312 else 18442240474082181120 : Nat) = 9218868437227405312 := by decide
      have i2 : (if (0 : Int) ≤ -1 then 9218868437227405312 else 18442240474082181120 : Nat) = 18442240474082181120 := by decide
      have I1 := Lib.hid i1; have I2 := Lib.hid i2; clear i1 i2
      go_enter Try.func9, Try.ntmps9
      go_wp2_with (first | (go_at_call 10; refine (speaks_ok H0).mono ?_; rintro q w1 ⟨rfl, H1⟩) | (go_at_call 21; refine (nan_ok _).mono ?_; rintro q w2 ⟨rfl, rfl⟩) | (go_at_call 22; refine (inf_ok _ _).mono ?_; (first | rw [I1.out] | rw [I2.out]); rintro q w2 ⟨rfl, rfl⟩))
      have H2 := H1.alloc #[.float .f64 9221120237041090561, .float .f64 9218868437227405312, .float .f64 18442240474082181120] 24
      refine (mean_ok (some ⟨_, 0, none⟩) 3 [9221120237041090561, 9218868437227405312, 18442240474082181120] (by decide) (by decide) (fun w' H' => ptF (l := [9221120237041090561, 9218868437227405312, 18442240474082181120]) H') H2).mono ?_
      rintro q w3 ⟨s, r, hs, hr0, hr1, rfl, H3⟩
      clear hs hr0 hr1
      rw [show [9221120237041090561, 9218868437227405312, 18442240474082181120].length = 3 from rfl, cnt_none]
      go_wp2_with (fail)
      go_ret
      exact ⟨rfl, H3.below⟩
  · rw [hnx] at ox
    have i1 : (if (0 : Int) ≤ 1 then 9218868437227405312 else 18442240474082181120 : Nat) = 9218868437227405312 := by decide
    have i2 : (if (0 : Int) ≤ -1 then 9218868437227405312 else 18442240474082181120 : Nat) = 18442240474082181120 := by decide
    have I1 := Lib.hid i1; have I2 := Lib.hid i2; clear i1 i2
    go_enter Try.func9, Try.ntmps9
    go_wp2_with (first | (go_at_call 10; refine (speaks_ok H0).mono ?_; rintro q w1 ⟨rfl, H1⟩) | (go_at_call 21; refine (nan_ok _).mono ?_; rintro q w2 ⟨rfl, rfl⟩) | (go_at_call 22; refine (inf_ok _ _).mono ?_; (first | rw [I1.out] | rw [I2.out]); rintro q w2 ⟨rfl, rfl⟩))
    have H2 := H1.alloc #[.float .f64 9221120237041090561, .float .f64 9218868437227405312, .float .f64 18442240474082181120] 24
    refine (mean_ok (some ⟨_, 0, none⟩) 3 [9221120237041090561, 9218868437227405312, 18442240474082181120] (by decide) (by decide) (fun w' H' => ptF (l := [9221120237041090561, 9218868437227405312, 18442240474082181120]) H') H2).mono ?_
    rintro q w3 ⟨s, r, hs, hr0, hr1, rfl, H3⟩
    clear hs hr0 hr1
    rw [show [9221120237041090561, 9218868437227405312, 18442240474082181120].length = 3 from rfl, cnt_none]
    go_wp2_with (fail)
    go_ret
    exact ⟨rfl, H3.below⟩
theorem own : ownKnob Try.prog.godebug = none := by kernel_rfl
theorem laidOut : laidOutB Try.prog = true := by kernel_rfl
theorem readable : ∀ t ∈ Try.f9.params.toList, Try.prog.readableRec t = true ∧ t < Try.prog.types.size := by
  intro t ht
  rw [Try.params9] at ht
  simp only [List.mem_cons, List.not_mem_nil, or_false] at ht
  rcases ht with rfl | rfl
  all_goals exact ⟨by kernel_rfl, of_decide_eq_true (by kernel_rfl)⟩
theorem contract (H : Type) (enc : TypeId × Value → H) (W : World) (base : Nat) (args : Array Value) (ds gs : List (DataW H)) (before : List MemPlace)
    (hval : ∀ (j : Nat) t v, Try.f9.params[j]? = some t → args[j]? = some v → Value.okWide Try.prog W .any base t v)
    (hW : DataW.Whole enc Try.prog Try.f9.params.toList Rows.scoreTurnedSpec.vars false W args.toList ds gs before) :
    Calls Try.prog 9 args W fun e W' => ∃ v, e = .returned v ∧ Rows.scoreTurnedSpec.post enc Try.prog Try.f9 false true false false W args v W' := by
  have hW' := hW
  obtain ⟨p, q, hA0, hV, rfl, _, _⟩ := hW
  have hA : DataW.TrodAll enc Try.prog W 0 (fun _ => true) true Try.f9.params.toList args.toList ds p := hA0
  rw [Try.params9] at hA hval
  obtain ⟨v0, vs0, d0, ds0, p0, q0, hargs, rfl, rfl, h0, r0⟩ := trodAll_cons hA
  obtain ⟨v1, vs1, d1, ds1, p1, q1, rfl, rfl, rfl, h1, r1⟩ := trodAll_cons r0
  obtain ⟨rfl, rfl, rfl⟩ := trodAll_nil r1
  obtain rfl : args = #[v0, v1] := by cases args; simp_all
  obtain ⟨rfl, rfl⟩ := trodVars_none hV
  clear hA0
  obtain ⟨a, rfl, rfl, rfl, wa⟩ := open_int Try.underlying31 (hval 0 31 v0 rfl rfl) h0
  obtain ⟨b, rfl, rfl, rfl, wb⟩ := open_int Try.underlying31 (hval 1 31 v1 rfl rfl) h1
  refine (walk W a (wf_u64 wa) b (wf_u64 wb)).mono fun e W' ⟨he, hb⟩ => ?_
  exact ⟨_, he, law_post (tb := 4) laidOut readable rfl Try.underlying4 rfl hW' rfl rfl rfl hb⟩
set_option maxRecDepth 100000 in
theorem lifted (os : Os) (started : os.Started) (H : Type) (enc : TypeId × Value → H) :
    ReturnsInHanded {} Try.checked os 9 .any (Rows.scoreTurnedSpec.pre6 enc Try.prog Try.f9 Rows.scoreTurnedRow.domain false) (Rows.scoreTurnedSpec.post enc Try.prog Try.f9 false true false false) := by
  refine returnsInHanded_of_change (C := Try.checked) (s := Rows.scoreTurnedSpec) own started (by kernel_rfl) Try.func9
    (ChangeSpec.witness6 (enc := enc) (C := Try.checked) false ⟨#[], #[.int .u64 0, .int .u64 0], []⟩ 8 (by kernel_rfl) (by kernel_rfl) (by kernel_rfl) (by kernel_rfl)) ?_
  intro W base args ds gs before hval hW _ _
  exact contract H enc W base args ds gs before hval hW
theorem proved : Rows.ScoreTurnedSaid :=
  OpenClaim.holds_of_wide 9 Try.f9 rfl rfl rfl rfl rfl rfl rfl ⟨rfl, rfl, rfl, rfl, rfl⟩ rfl rfl rfl rfl rfl (by kernel_rfl) Try.func9 (by kernel_rfl)
    (of_decide_eq_true (by kernel_rfl)) (by unfold Func.isWrapper; first | (rw [if_pos (by decide +kernel)]; kernel_rfl) | (rw [if_neg (by decide +kernel)]; exact ⟨rfl, rfl⟩))
    (fun os started H enc _ => lifted os started H enc)
#print axioms proved

end Go.Proofs.Ytdofeehnclobmaa.ScoreTurned

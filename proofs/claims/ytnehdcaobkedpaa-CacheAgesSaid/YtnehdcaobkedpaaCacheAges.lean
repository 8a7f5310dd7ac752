/- CacheAges: what is bound and learned is believed for just as many moments as the age tells: of every input. -/
import Derived.Test.YtnehdcaobkedpaaCaG
import Derived.Test.YtnehdcaobkedpaaBits
import Derived.Test.YtnehdcaobkedpaaLiftC
namespace Go.Proofs.Ytnehdcaobkedpaa.CacheAges
open Go.RowKit Go.ChangeShapes Go.WideShapes Go.ChangeAt Go.Proofs.Ytnehdcaobkedpaa
open Go.ChangeMaps (open_string shut_string)

theorem NM.set_same (m : NM) (d s : ByteArray) (v : ByteArray × Int) : NM.set m d s v d s = some v := if_pos ⟨rfl, rfl⟩
theorem NM.del_same (m : NM) (d s : ByteArray) : NM.del m d s d s = none := if_pos ⟨rfl, rfl⟩
set_option maxRecDepth 100000 in
set_option maxHeartbeats 4000000 in
theorem walk (w : World) (age : Int) (_hage : -9223372036854775808 ≤ age ∧ age ≤ 9223372036854775807) (now : Int) (_hnow : -9223372036854775808 ≤ now ∧ now ≤ 9223372036854775807) (later : Int) (_hlat : -9223372036854775808 ≤ later ∧ later ≤ 9223372036854775807) :
    Calls Try.prog 4 #[.int .i64 age, .int .i64 now, .int .i64 later] w fun r w' => r = .returned (.bool true) ∧ Below w.heap.size w w' := by
  have hml : (0 : Nat) < maxLen := by decide
  have hm1 : (ByteArray.mk #[104]).size ≤ maxLen := by decide
  have hm2 : (ByteArray.mk #[100]).size ≤ maxLen := by decide
  have hm3 : (ByteArray.mk #[110]).size ≤ maxLen := by decide
  have m1 := i64_and_mask age 10 (by omega)
  have m2 := i64_and_mask now 40 (by omega)
  have m3 := i64_and_mask later 11 (by omega)
  rw [show ((2 ^ 10 - 1 : Nat) : Int) = 1023 by decide] at m1
  rw [show ((2 ^ 40 - 1 : Nat) : Int) = 1099511627775 by decide] at m2
  rw [show ((2 ^ 11 - 1 : Nat) : Int) = 2047 by decide] at m3
  have a1 : 0 ≤ age % 2 ^ 10 ∧ age % 2 ^ 10 < 1024 := by omega
  have a2 : 0 ≤ now % 2 ^ 40 ∧ now % 2 ^ 40 < 1099511627776 := by omega
  have a3 : 0 ≤ later % 2 ^ 11 ∧ later % 2 ^ 11 < 2048 := by omega
  generalize age % 2 ^ 10 = ag at *
  generalize now % 2 ^ 40 = nw at *
  generalize later % 2 ^ 11 = lt at *
  obtain ⟨g1, g2⟩ := a1
  obtain ⟨n1, n2⟩ := a2
  obtain ⟨l1, l2⟩ := a3
  have H0 := St.init w
  go_enter Try.func4, Try.ntmps4
  go_wp2_with (fail)
  refine (speaks_ok H0).mono ?_
  rintro e w1 ⟨rfl, H1⟩
  go_wp2_with (fail)
  refine (new_ok ag H1).mono ?_
  clear m1 m2 m3 H0
  rintro e w2 ⟨b, bf, bn, bp, rfl, H2⟩
  have bl := bind_ok (nCS b bf bn bp ag) ⟨#[100]⟩ ⟨#[110]⟩ ⟨#[104]⟩ nw hm2 hm3 hml H2
  have BL := Lib.hid bl; clear bl
  go_wp2_with (fail)
  refine BL.out.mono ?_
  clear BL
  rintro e w3 ⟨rfl, H3⟩
  obtain ⟨c1, hc1⟩ : ∃ x : CS, x = { nCS b bf bn bp ag with nn := 0 + 1, nm := NM.set (fun _ _ => none) ⟨#[100]⟩ ⟨#[110]⟩ (⟨#[104]⟩, nw) } := ⟨_, rfl⟩
  have H3' : St w w3 (c1.own []) := by rw [hc1]; exact H3
  clear H3
  have hb1 : c1.b = b := by rw [hc1]
  have hf1 : c1.nf = 0 := by rw [hc1]
  have hff : c1.fm ⟨#[104]⟩ = none := by rw [hc1]
  have ll := learn_ok c1 ⟨#[104]⟩ 0 5 0 0 nw hm1 (by rw [hf1]; exact hml) H3'
  rw [hff] at ll
  have LL := Lib.hid ll; clear ll
  obtain ⟨c, hc⟩ : ∃ c, c = c1.learn ⟨#[104]⟩ 0 5 0 0 nw := ⟨_, rfl⟩
  rw [← hc] at LL
  have hb : c.b = b := by rw [hc]; exact hb1
  have ha : c.age = ag := by rw [hc]; show c1.age = ag; rw [hc1]; exact Int.max_eq_left g1
  have hf : c.fm ⟨#[104]⟩ = some ⟨0, 5, 0, 0, nw⟩ := by rw [hc]; show FM.set c1.fm ⟨#[104]⟩ ⟨0, 5, 0, 0, nw⟩ ⟨#[104]⟩ = _; exact FM.set_same _ _ _
  have hn : c.nm ⟨#[100]⟩ ⟨#[110]⟩ = some (⟨#[104]⟩, nw) := by rw [hc]; show c1.nm _ _ = _; rw [hc1]; exact NM.set_same (fun _ _ => none) ⟨#[100]⟩ ⟨#[110]⟩ (⟨#[104]⟩, nw)
  have hfb : freshB c.age (nw + lt) nw = decide (lt < ag) := by
    unfold freshB
    rw [decide_eq_true (by omega : nw ≤ nw + lt), Bool.true_and, ha, show nw + lt - nw = lt by omega]
  clear hc hc1 H2
  have HF := Lib.hid hf; have HN := Lib.hid hn; have FB := Lib.hid hfb; clear hf hn hfb hff hf1
  rw [hb1] at LL
  clear hb1
  subst hb
  go_wp2_with (fail)
  refine LL.out.mono ?_
  clear LL H3'
  rintro e w4 ⟨rfl, H4⟩
  have nl := name_ok c ⟨#[100]⟩ ⟨#[110]⟩ (nw + lt) hm2 hm3 (by unfold inI; omega) (by omega) (by unfold inI; omega) (fun x hx => by rw [HN.out] at hx; cases hx; unfold inI; dsimp only; omega) H4
  by_cases hlt : lt < ag
  · rw [decide_eq_true hlt] at FB
    rw [show c.nameOf ⟨#[100]⟩ ⟨#[110]⟩ (nw + lt) = (⟨#[104]⟩, true) by unfold CS.nameOf; rw [HN.out]; dsimp only; rw [FB.out]; rfl] at nl
    have NL := Lib.hid nl; clear nl
    go_wp2_with (fail)
    refine NL.out.mono ?_
    clear NL
    rintro e w5 ⟨rfl, H5⟩
    have al := attr_ok c ⟨#[104]⟩ (nw + lt) hm1 (by unfold inI; omega) (by omega) (by unfold inI; omega) (fun x hx => by rw [HF.out] at hx; cases hx; unfold inI; dsimp only; omega) H5
    rw [show c.attrOf ⟨#[104]⟩ (nw + lt) = (attrC 0 (5) 0 0, true) by unfold CS.attrOf; rw [HF.out]; dsimp only; rw [FB.out]; rfl] at al
    have AL := Lib.hid al; clear al H4
    go_wp2_with (fail)
    refine AL.out.mono ?_
    clear AL
    rintro e w6 ⟨rfl, H6⟩
    have HZ := H6.alloc (attrC 0 0 0 0) 30
    go_wp2_with (with_reducible refine hold_store ?_)
    unfold Hold
    with_reducible refine wpList_store_st (ty := 30) (HZ) (attrC 0 (5) 0 0) ?_ ?_ ?_ ?_ ?_ ?_ ?_
    rfl
    rfl
    rfl
    rfl
    kernel_rfl
    rfl
    intro w7 H7
    clear HZ H5 H6
    generalize w6.heap.size = bx at *
    have ll := loose_ok c ⟨#[100]⟩ ⟨#[110]⟩ hm2 hm3 (H7.ord 5 [1, 2, 3, 4, 0])
    have LL := Lib.hid ll; clear ll
    go_wp2_with (fail)
    refine LL.out.mono ?_
    clear LL
    rintro e w8 ⟨rfl, H8⟩
    obtain ⟨c2, hc2⟩ : ∃ x : CS, x = { c with nm := c.nm.del ⟨#[100]⟩ ⟨#[110]⟩ } := ⟨_, rfl⟩
    rw [← hc2] at H8
    have hb2 : c2.b = c.b := by rw [hc2]
    have ha2 : c2.age = c.age := by rw [hc2]
    have hn2 : c2.nm ⟨#[100]⟩ ⟨#[110]⟩ = none := by rw [hc2]; exact NM.del_same c.nm ⟨#[100]⟩ ⟨#[110]⟩
    clear hc2
    have nl := name_ok c2 ⟨#[100]⟩ ⟨#[110]⟩ nw hm2 hm3 (by unfold inI; omega) (by omega) (by unfold inI; omega) (fun x hx => by rw [hn2] at hx; cases hx) H8
    rw [show c2.nameOf ⟨#[100]⟩ ⟨#[110]⟩ nw = (ByteArray.empty, false) by unfold CS.nameOf; rw [hn2], hb2] at nl
    have NL := Lib.hid nl; clear nl hn2 ha2
    go_wp2_with (fail)
    refine NL.out.mono ?_
    clear NL
    rintro e w9 ⟨rfl, H9⟩
    have q5 := (H9.ord 5 [4, 0, 1, 2, 3]).cell 10 (v := .int .i64 (5)) rfl
    go_wp2_with (fail)
    go_ret
    refine ⟨?_, H9.below⟩
    first | rfl | simp [hlt]
  · rw [decide_eq_false hlt] at FB
    rw [show c.nameOf ⟨#[100]⟩ ⟨#[110]⟩ (nw + lt) = (ByteArray.empty, false) by unfold CS.nameOf; rw [HN.out]; dsimp only; rw [FB.out]; rfl] at nl
    have NL := Lib.hid nl; clear nl
    go_wp2_with (fail)
    refine NL.out.mono ?_
    clear NL
    rintro e w5 ⟨rfl, H5⟩
    have al := attr_ok c ⟨#[104]⟩ (nw + lt) hm1 (by unfold inI; omega) (by omega) (by unfold inI; omega) (fun x hx => by rw [HF.out] at hx; cases hx; unfold inI; dsimp only; omega) H5
    rw [show c.attrOf ⟨#[104]⟩ (nw + lt) = (attrC 0 (0) 0 0, false) by unfold CS.attrOf; rw [HF.out]; dsimp only; rw [FB.out]; rfl] at al
    have AL := Lib.hid al; clear al H4
    go_wp2_with (fail)
    refine AL.out.mono ?_
    clear AL
    rintro e w6 ⟨rfl, H6⟩
    have HZ := H6.alloc (attrC 0 0 0 0) 30
    go_wp2_with (with_reducible refine hold_store ?_)
    unfold Hold
    with_reducible refine wpList_store_st (ty := 30) (HZ) (attrC 0 (0) 0 0) ?_ ?_ ?_ ?_ ?_ ?_ ?_
    rfl
    rfl
    rfl
    rfl
    kernel_rfl
    rfl
    intro w7 H7
    clear HZ H5 H6
    generalize w6.heap.size = bx at *
    have ll := loose_ok c ⟨#[100]⟩ ⟨#[110]⟩ hm2 hm3 (H7.ord 5 [1, 2, 3, 4, 0])
    have LL := Lib.hid ll; clear ll
    go_wp2_with (fail)
    refine LL.out.mono ?_
    clear LL
    rintro e w8 ⟨rfl, H8⟩
    obtain ⟨c2, hc2⟩ : ∃ x : CS, x = { c with nm := c.nm.del ⟨#[100]⟩ ⟨#[110]⟩ } := ⟨_, rfl⟩
    rw [← hc2] at H8
    have hb2 : c2.b = c.b := by rw [hc2]
    have ha2 : c2.age = c.age := by rw [hc2]
    have hn2 : c2.nm ⟨#[100]⟩ ⟨#[110]⟩ = none := by rw [hc2]; exact NM.del_same c.nm ⟨#[100]⟩ ⟨#[110]⟩
    clear hc2
    have nl := name_ok c2 ⟨#[100]⟩ ⟨#[110]⟩ nw hm2 hm3 (by unfold inI; omega) (by omega) (by unfold inI; omega) (fun x hx => by rw [hn2] at hx; cases hx) H8
    rw [show c2.nameOf ⟨#[100]⟩ ⟨#[110]⟩ nw = (ByteArray.empty, false) by unfold CS.nameOf; rw [hn2], hb2] at nl
    have NL := Lib.hid nl; clear nl hn2 ha2
    go_wp2_with (fail)
    refine NL.out.mono ?_
    clear NL
    rintro e w9 ⟨rfl, H9⟩
    have q5 := (H9.ord 5 [4, 0, 1, 2, 3]).cell 10 (v := .int .i64 (0)) rfl
    go_wp2_with (fail)
    go_ret
    refine ⟨?_, H9.below⟩
    first | rfl | simp [hlt]
theorem own : ownKnob Try.prog.godebug = none := by kernel_rfl
theorem laidOut : laidOutB Try.prog = true := by kernel_rfl
theorem readable : ∀ t ∈ Try.f4.params.toList, Try.prog.readableRec t = true ∧ t < Try.prog.types.size := by
  intro t ht
  rw [Try.params4] at ht
  simp only [List.mem_cons, List.not_mem_nil, or_false] at ht
  rcases ht with rfl | rfl | rfl
  all_goals exact ⟨by kernel_rfl, of_decide_eq_true (by kernel_rfl)⟩
theorem contract (H : Type) (enc : TypeId × Value → H) (W : World) (base : Nat) (args : Array Value) (ds gs : List (DataW H)) (before : List MemPlace)
    (hval : ∀ (j : Nat) t v, Try.f4.params[j]? = some t → args[j]? = some v → Value.okWide Try.prog W .any base t v)
    (hW : DataW.Whole enc Try.prog Try.f4.params.toList Rows.cacheAgesSpec.vars false W args.toList ds gs before) :
    Calls Try.prog 4 args W fun e W' => ∃ v, e = .returned v ∧ Rows.cacheAgesSpec.post enc Try.prog Try.f4 false true false false W args v W' := by
  have hW' := hW
  obtain ⟨p, q, hA0, hV, rfl, _, _⟩ := hW
  have hA : DataW.TrodAll enc Try.prog W 0 (fun _ => true) true Try.f4.params.toList args.toList ds p := hA0
  rw [Try.params4] at hA hval
  obtain ⟨v0, vs0, d0, ds0, p0, q0, hargs, rfl, rfl, h0, r0⟩ := trodAll_cons hA
  obtain ⟨v1, vs1, d1, ds1, p1, q1, rfl, rfl, rfl, h1, r1⟩ := trodAll_cons r0
  obtain ⟨v2, vs2, d2, ds2, p2, q2, rfl, rfl, rfl, h2, r2⟩ := trodAll_cons r1
  obtain ⟨rfl, rfl, rfl⟩ := trodAll_nil r2
  obtain rfl : args = #[v0, v1, v2] := by cases args; simp_all
  obtain ⟨rfl, rfl⟩ := trodVars_none hV
  clear hA0
  obtain ⟨age, rfl, rfl, rfl, wage⟩ := open_int Try.underlying3 (hval 0 3 v0 rfl rfl) h0
  obtain ⟨now, rfl, rfl, rfl, wnow⟩ := open_int Try.underlying3 (hval 1 3 v1 rfl rfl) h1
  obtain ⟨later, rfl, rfl, rfl, wlater⟩ := open_int Try.underlying3 (hval 2 3 v2 rfl rfl) h2
  refine (walk W age (wf_i64 wage) now (wf_i64 wnow) later (wf_i64 wlater)).mono fun e W' ⟨he, hb⟩ => ?_
  exact ⟨_, he, law_post (tb := 4) laidOut readable rfl Try.underlying4 rfl hW' rfl rfl rfl hb⟩
set_option maxRecDepth 100000 in
theorem lifted (os : Os) (started : os.Started) (H : Type) (enc : TypeId × Value → H) :
    ReturnsInHanded {} Try.checked os 4 .any (Rows.cacheAgesSpec.pre6 enc Try.prog Try.f4 Rows.cacheAgesRow.domain false) (Rows.cacheAgesSpec.post enc Try.prog Try.f4 false true false false) := by
  refine returnsInHanded_of_change (C := Try.checked) (s := Rows.cacheAgesSpec) own started (by kernel_rfl) Try.func4
    (ChangeSpec.witness6 (enc := enc) (C := Try.checked) false ⟨#[], #[.int .i64 0, .int .i64 0, .int .i64 0], []⟩ 8 (by kernel_rfl) (by kernel_rfl) (by kernel_rfl) (by kernel_rfl)) ?_
  intro W base args ds gs before hval hW _ _
  exact contract H enc W base args ds gs before hval hW
theorem proved : Rows.CacheAgesSaid :=
  OpenClaim.holds_of_wide 4 Try.f4 rfl rfl rfl rfl rfl rfl rfl ⟨rfl, rfl, rfl, rfl, rfl⟩ rfl rfl rfl rfl rfl (by kernel_rfl) Try.func4 (by kernel_rfl)
    (of_decide_eq_true (by kernel_rfl)) (by unfold Func.isWrapper; first | (rw [if_pos (by decide +kernel)]; kernel_rfl) | (rw [if_neg (by decide +kernel)]; exact ⟨rfl, rfl⟩))
    (fun os started H enc _ => lifted os started H enc)
#print axioms proved

end Go.Proofs.Ytnehdcaobkedpaa.CacheAges

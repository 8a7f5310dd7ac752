/- CacheBytes: pieces are believed till the size or the moment of a file is learned to be another one: of texts of bulk at most 1048576. -/
import Derived.Test.YtnehdcaobkedpaaCaG
import Derived.Test.YtnehdcaobkedpaaLiftC
namespace Go.Proofs.Ytnehdcaobkedpaa.CacheBytes
open Go.RowKit Go.ChangeShapes Go.WideShapes Go.ChangeAt Go.Proofs.Ytnehdcaobkedpaa
open Go.ChangeMaps (open_string shut_string)

/-- what is known in the loop -/
structure Knows (c : CS) (b : Nat) (j : Nat) (h : ByteArray) (k : Int) (data : ByteArray) (t0 t1 : Int) : Prop where
  b : c.b = b
  nf : c.nf = 1 + j
  f : ∃ now, c.fm h = some ⟨t0, 0, t1, 0, now⟩
  p : c.pm h k = some data
theorem Knows.next {c : CS} {b j : Nat} {h : ByteArray} {k : Int} {data : ByteArray} {t0 t1 : Int} (K : Knows c b j h k data t0 t1) (now : Int) : changed (c.fm h) t0 t1 0 = false ∧ Knows (c.learn h t0 0 t1 0 now) b (j + 1) h k data t0 t1 := by
  obtain ⟨n0, hf⟩ := K.f
  have hc : changed (c.fm h) t0 t1 0 = false := by rw [hf]; unfold changed; simp
  refine ⟨hc, K.b, by show c.nf + 1 = _; rw [K.nf]; omega, ⟨now, FM.set_same _ _ _⟩, ?_⟩
  show (if changed (c.fm h) t0 t1 0 = true then c.pm.drop h else c.pm) h k = _
  rw [hc, if_neg (by decide)]; exact K.p
set_option maxRecDepth 100000 in
set_option maxHeartbeats 4000000 in
theorem walk (w : World) (h : ByteArray) (hh : h.size ≤ 1048576) (data : ByteArray) (_hd : data.size ≤ 1048576) (k : Int) (hk : -9223372036854775808 ≤ k ∧ k ≤ 9223372036854775807)
    (t0 : Int) (_h0 : -9223372036854775808 ≤ t0 ∧ t0 ≤ 9223372036854775807) (t1 : Int) (_h1 : -9223372036854775808 ≤ t1 ∧ t1 ≤ 9223372036854775807) (t2 : Int) (_h2 : -9223372036854775808 ≤ t2 ∧ t2 ≤ 9223372036854775807) :
    Calls Try.prog 3 #[.agg #[.string h, .string data], .int .i64 k, .agg #[.int .i64 t0, .int .i64 t1, .int .i64 t2]] w fun r w' => r = .returned (.bool true) ∧ Below w.heap.size w w' := by
  have hml : (0 : Nat) < maxLen := by decide
  have hm1 : h.size ≤ maxLen := by unfold maxLen; omega
  have hki : inI k := hk
  have H0 := ((St.init w).alloc #[.string h, .string data] 22).alloc #[.int .i64 t0, .int .i64 t1, .int .i64 t2] 23
  rw [alloc_size] at H0
  go_enter Try.func3, Try.ntmps3
  go_wp2_with (fail)
  refine (speaks_ok H0).mono ?_
  rintro e w1 ⟨rfl, H1⟩
  clear H0
  obtain ⟨b3, h3⟩ : ∃ b3, b3 = w.heap.size := ⟨_, rfl⟩
  rw [← h3] at H1 ⊢
  obtain ⟨b5, h5⟩ : ∃ b5, b5 = b3 + 1 := ⟨_, rfl⟩
  rw [← h5] at H1 ⊢
  have HB3 := Lib.hid h3
  clear h3 h5
  have x0 := H1.r2.cell 0 (v := .string h) rfl
  have x1 := H1.r2.cell 1 (v := .string data) rfl
  go_wp2_with (fail)
  go_quiet (fail)
  clear x0 x1
  go_wp2_with (fail)
  refine (new_ok 9 (H1.drewN _)).mono ?_
  rintro e w2 ⟨b, bf, bn, bp, rfl, H2⟩
  clear H1
  have y0 := (H2.ord 5 [4, 0, 1, 2, 3]).cell 0 (v := .int .i64 t0) rfl
  have y1 := (H2.ord 5 [4, 0, 1, 2, 3]).cell 1 (v := .int .i64 t1) rfl
  have HZ := H2.alloc (attrC 0 0 0 0) 30
  go_wp2_with (with_reducible refine hold_store ?_)
  unfold Hold
  with_reducible refine wpList_store_st (ty := 30) (HZ) (attrC t0 0 t1 0) ?_ ?_ ?_ ?_ ?_ ?_ ?_
  rfl
  rfl
  rfl
  rfl
  kernel_rfl
  rfl
  intro w3 H3
  clear HZ y0 y1 H2
  generalize w2.heap.size = b10 at *
  have ll := learn_ok (nCS b bf bn bp 9) h t0 0 t1 0 1 hm1 hml (H3.ord 5 [1, 2, 3, 4, 0])
  rw [show changed ((nCS b bf bn bp 9).fm h) t0 t1 0 = false from rfl] at ll
  have LL := Lib.hid ll; clear ll
  go_wp2_with ((with_reducible refine wpList_load_st (ty := 30) (H3) ?_ ?_ Try.underlying30 ?_ ?_ ?_); rfl; rfl; rfl; kernel_rfl)
  go_wp2_with (fail)
  refine LL.out.mono ?_
  clear LL H3
  rintro e w4 ⟨rfl, H4⟩
  obtain ⟨c1, hc1⟩ : ∃ c, c = (nCS b bf bn bp 9).learn h t0 0 t1 0 1 := ⟨_, rfl⟩
  rw [← hc1] at H4
  have K1 : c1.b = b ∧ c1.nf = 1 ∧ c1.np = 0 ∧ c1.fm h = some ⟨t0, 0, t1, 0, 1⟩ := by
    rw [hc1]; exact ⟨rfl, rfl, rfl, FM.set_same _ _ _⟩
  clear hc1
  obtain ⟨k1, k2, k3, k4⟩ := K1
  subst k1
  have hl := hold_ok c1 h k data hm1 hki (by rw [k3]; exact hml) H4
  have HL := Lib.hid hl; clear hl
  go_wp2_with (fail)
  refine HL.out.mono ?_
  clear HL H4
  rintro e w5 ⟨rfl, H5⟩
  obtain ⟨c2, hc2⟩ : ∃ c : CS, c = { c1 with np := c1.np + 1, pm := c1.pm.set h k data } := ⟨_, rfl⟩
  have H5' : St w w5 (c2.own [Pt b10 (attrC t0 0 t1 0) 30, Pt b5 #[.int .i64 t0, .int .i64 t1, .int .i64 t2] 23, Pt b3 #[.string h, .string data] 22]) := by rw [hc2]; exact H5
  clear H5
  have K2 : Knows c2 c1.b 0 h k data t0 t1 := by
    rw [hc2]
    refine ⟨rfl, k2, ⟨1, k4⟩, ?_⟩
    show PM.set c1.pm h k data h k = _
    unfold PM.set; rw [if_pos ⟨rfl, rfl⟩]
  clear hc2 k2 k3 k4
  go_wp2_with (fail)
  go_loopw [11] (fun i wr => ∃ (j : Nat) (c : CS), j ≤ 5 ∧ i = .int .i64 j ∧ Knows c c1.b j h k data t0 t1 ∧ St w wr (c.own [Pt b10 (attrC t0 0 t1 0) 30, Pt b5 #[.int .i64 t0, .int .i64 t1, .int .i64 t2] 23, Pt b3 #[.string h, .string data] 22])) (fun i _ => 5 - (intOf i).toNat)
  case atStart => exact ⟨0, c2, by omega, rfl, K2, H5'⟩
  case round =>
    obtain ⟨j, c, hj, rfl, KN, H6⟩ := hrel
    clear H5' K2
    by_cases hlt : j < 5
    · obtain ⟨e1, K3⟩ := KN.next (2 + (j : Int))
      have ll := learn_ok c h t0 0 t1 0 (2 + (j : Int)) hm1 (by rw [KN.nf]; unfold maxLen; omega) H6
      rw [e1, KN.b] at ll
      have LL := Lib.hid ll; clear ll e1
      go_wp2_with ((with_reducible refine wpList_load_st (ty := 30) (H6.ord 5 [4, 0, 1, 2, 3]) ?_ ?_ Try.underlying30 ?_ ?_ ?_); rfl; rfl; rfl; kernel_rfl)
      go_wp2_with (fail)
      refine LL.out.mono ?_
      clear LL H6
      rintro e w6 ⟨rfl, H7⟩
      go_wp2_with (fail)
      go_roundw
      case rel => exact ⟨j + 1, _, by omega, by go_num, K3, H7⟩
      case measure => simp [intOf]; omega
    · obtain rfl : j = 5 := by omega
      have pl := piece_ok c h k hm1 hki H6
      rw [KN.p, KN.b] at pl
      have PL := Lib.hid pl; clear pl
      go_wp2_with (fail)
      refine PL.out.mono ?_
      clear PL H6
      rintro e w6 ⟨rfl, H7⟩
      have H8 := H7.ord 5 [4, 0, 1, 2, 3]
      clear H7
      have H9 := H8.alloc (attrC t0 0 t1 0) 30
      have H10 := H9.set 13 (.int .i64 t2)
      rw [show (attrC t0 0 t1 0).setIfInBounds 13 (.int .i64 t2) = attrC t0 0 t2 0 from rfl] at H10
      have HN := (H8.alloc (attrC t0 0 t2 0) 30).ord 6 [2, 3, 4, 5, 0, 1]
      have y2 := (H9.ord 7 [6, 0, 1, 2, 3, 4, 5]).cell 2 (v := .int .i64 t2) rfl
      have z13 := H9.cell 13 (v := .int .i64 t1) rfl
      have z13f := H9.frozen 13
      go_wp2_with (with_reducible refine hold_load ?_)
      unfold Hold
      (with_reducible refine wpList_load_st (ty := 30) H8 ?_ ?_ Try.underlying30 ?_ ?_ ?_)
      rfl
      rfl
      rfl
      kernel_rfl
      go_wp2_with ((with_reducible refine wpList_load_st (ty := 30) (H10) ?_ ?_ Try.underlying30 ?_ ?_ ?_); rfl; rfl; rfl; kernel_rfl)
      obtain ⟨n0, hf⟩ := KN.f
      have ll := learn_ok c h t0 0 t2 0 9 hm1 (by rw [KN.nf]; unfold maxLen; omega) HN
      obtain ⟨chd, hch⟩ : ∃ x, x = changed (c.fm h) t0 t2 0 := ⟨_, rfl⟩
      obtain ⟨c3, hc3⟩ : ∃ x, x = c.learn h t0 0 t2 0 9 := ⟨_, rfl⟩
      have hp3 : c3.pm h k = if chd = true then none else some data := by
        rw [hc3]
        show (if changed (c.fm h) t0 t2 0 = true then c.pm.drop h else c.pm) h k = _
        rw [← hch]
        cases chd
        · rw [if_neg (by decide), if_neg (by decide)]; exact KN.p
        · rw [if_pos rfl, if_pos rfl]; unfold PM.drop; exact if_pos rfl
      have hb3 : c3.b = c1.b := by rw [hc3]; exact KN.b
      rw [← hc3, ← hch, KN.b] at ll
      rw [hf] at hch
      unfold changed at hch
      dsimp only at hch
      rw [decide_eq_true rfl, decide_eq_true rfl, Bool.true_and, Bool.and_true] at hch
      refine ll.mono ?_
      clear ll hc3 hf z13 z13f y2 H9 H10 H8 HN
      rintro e w7 ⟨rfl, H11⟩
      have pl := piece_ok c3 h k hm1 hki H11
      rw [hp3, hb3] at pl
      have PL := Lib.hid pl; clear pl
      go_wp2_with (fail)
      refine PL.out.mono ?_
      clear PL H11
      rintro e w8 ⟨rfl, H12⟩
      have y1 := (H12.ord 7 [6, 0, 1, 2, 3, 4, 5]).cell 1 (v := .int .i64 t1) rfl
      have y2 := (H12.ord 7 [6, 0, 1, 2, 3, 4, 5]).cell 2 (v := .int .i64 t2) rfl
      clear hp3 hb3
      by_cases e1 : t1 = t2
      · rw [decide_eq_true e1] at hch
        subst hch e1
        go_wp2_with (fail)
        go_ret
        exact ⟨rfl, H12.below⟩
      · rw [decide_eq_false e1] at hch
        subst hch
        have e2 : (t1 != t2) = true := by simpa using e1
        go_wp2_with (fail)
        go_ret
        refine ⟨?_, H12.below⟩
        first | rfl | (rw [← e2]; rfl)
theorem own : ownKnob Try.prog.godebug = none := by kernel_rfl
theorem laidOut : laidOutB Try.prog = true := by kernel_rfl
theorem readable : ∀ t ∈ Try.f3.params.toList, Try.prog.readableRec t = true ∧ t < Try.prog.types.size := by
  intro t ht
  rw [Try.params3] at ht
  simp only [List.mem_cons, List.not_mem_nil, or_false] at ht
  rcases ht with rfl | rfl | rfl
  all_goals exact ⟨by kernel_rfl, of_decide_eq_true (by kernel_rfl)⟩
theorem contract (H : Type) (enc : TypeId × Value → H) (W : World) (base : Nat) (args : Array Value) (ds gs : List (DataW H)) (before : List MemPlace)
    (hval : ∀ (j : Nat) t v, Try.f3.params[j]? = some t → args[j]? = some v → Value.okWide Try.prog W .any base t v)
    (hW : DataW.Whole enc Try.prog Try.f3.params.toList Rows.cacheBytesSpec.vars false W args.toList ds gs before) (hk : Rows.uptoSmall H (ds ++ gs) = true) :
    Calls Try.prog 3 args W fun e W' => ∃ v, e = .returned v ∧ Rows.cacheBytesSpec.post enc Try.prog Try.f3 false true false false W args v W' := by
  have hW' := hW
  obtain ⟨p, q, hA0, hV, rfl, _, _⟩ := hW
  have hA : DataW.TrodAll enc Try.prog W 0 (fun _ => true) true Try.f3.params.toList args.toList ds p := hA0
  rw [Try.params3] at hA hval
  obtain ⟨v0, vs0, d0, ds0, p0, q0, hargs, rfl, rfl, h0, r0⟩ := trodAll_cons hA
  obtain ⟨v1, vs1, d1, ds1, p1, q1, rfl, rfl, rfl, h1, r1⟩ := trodAll_cons r0
  obtain ⟨v2, vs2, d2, ds2, p2, q2, rfl, rfl, rfl, h2, r2⟩ := trodAll_cons r1
  obtain ⟨rfl, rfl, rfl⟩ := trodAll_nil r2
  obtain rfl : args = #[v0, v1, v2] := by cases args; simp_all
  obtain ⟨rfl, rfl⟩ := trodVars_none hV
  clear hA0
  have hk2 : Rows.uptoBulkAll _ ≤ 1048576 := of_decide_eq_true hk
  rw [List.append_nil] at hk2
  obtain ⟨cs0, hv0, hsz0⟩ := okWide_array Try.underlying22 (hval 0 22 v0 rfl rfl)
  subst hv0
  rw [show Try.prog.cellsOf 22 = 2 by kernel_rfl] at hsz0
  obtain ⟨l0⟩ := cs0
  obtain ⟨fuel0, hf0⟩ := h0
  obtain ⟨hrow0, hbulk0⟩ := trod_flat 8 22 [.str, .str] (by kernel_rfl) _ _ _ hf0
  simp only [Value.cells] at hrow0 hbulk0
  match l0, hsz0, hrow0, hbulk0, hval, hf0, hW', hk2 with
  | [c0_0, c0_1], _, hrow0, hbulk0, hval, hf0, hW', hk2 =>
  obtain ⟨⟨x0, rfl, _⟩, ⟨x1, rfl, _⟩, _⟩ := hrow0
  obtain ⟨k, rfl, rfl, rfl, wk⟩ := open_int Try.underlying3 (hval 1 3 v1 rfl rfl) h1
  obtain ⟨cs2, hv2, hsz2⟩ := okWide_array Try.underlying23 (hval 2 23 v2 rfl rfl)
  subst hv2
  rw [show Try.prog.cellsOf 23 = 3 by kernel_rfl] at hsz2
  obtain ⟨l2⟩ := cs2
  obtain ⟨fuel2, hf2⟩ := h2
  obtain ⟨hrow2, hbulk2⟩ := trod_flat 8 23 [.int .i64, .int .i64, .int .i64] (by kernel_rfl) _ _ _ hf2
  simp only [Value.cells] at hrow2 hbulk2
  match l2, hsz2, hrow2, hbulk2, hval, hf2, hW', hk2 with
  | [c2_0, c2_1, c2_2], _, hrow2, hbulk2, hval, hf2, hW', hk2 =>
  obtain ⟨⟨t0, rfl, wt0⟩, ⟨t1, rfl, wt1⟩, ⟨t2, rfl, wt2⟩, _⟩ := hrow2
  refine (walk W x0 (by simp only [Rows.uptoBulkAll] at hk2; simp only [wts, wt, Array.toList] at hbulk0; omega) x1 (by simp only [Rows.uptoBulkAll] at hk2; simp only [wts, wt, Array.toList] at hbulk0; omega) k (wf_i64 wk) t0 (wf_i64 wt0) t1 (wf_i64 wt1) t2 (wf_i64 wt2)).mono fun e W' ⟨he, hb⟩ => ?_
  exact ⟨_, he, law_post (tb := 4) laidOut readable rfl Try.underlying4 rfl hW' rfl rfl rfl hb⟩
set_option maxRecDepth 100000 in
theorem lifted (os : Os) (started : os.Started) (H : Type) (enc : TypeId × Value → H) (F : Stop.Interp) :
    ReturnsInHanded {} Try.checked os 3 .any ((Rows.OpenSpec.upto Rows.cacheBytesSpec).pre6 enc Try.prog Try.f3 Rows.cacheBytesUptoRow.domain false) (((Rows.OpenSpec.upto Rows.cacheBytesSpec).at F).post enc Try.prog Try.f3 false true false false) := by
  refine returnsInHanded_of_cond (C := Try.checked) (s := Rows.OpenSpec.upto Rows.cacheBytesSpec) (k := Rows.uptoSmall) rfl own started (by kernel_rfl) Try.func3
    (OpenSpec.witness (enc := enc) (C := Try.checked) (s := Rows.OpenSpec.upto Rows.cacheBytesSpec) (k := Rows.uptoSmall) rfl false ⟨#[], #[.agg #[.string .empty, .string .empty], .int .i64 0, .agg #[.int .i64 0, .int .i64 0, .int .i64 0]], []⟩ 8 (by kernel_rfl) (by kernel_rfl) (by kernel_rfl)
      (x := ([.agg [.lit (.string []), .lit (.string [])], .lit (.int .i64 0), .agg [.lit (.int .i64 0), .lit (.int .i64 0), .lit (.int .i64 0)]], [], [])) (by kernel_rfl) rfl (by kernel_rfl)) ?_
  intro W base args ds gs before hval hW _ hk _
  exact contract H enc W base args ds gs before hval hW hk
theorem proved : Rows.CacheBytesUptoSaid :=
  OpenClaim.holds_of_cond 3 Try.f3 rfl rfl rfl rfl rfl rfl rfl ⟨rfl, rfl, rfl, rfl, rfl⟩ rfl rfl rfl rfl rfl (by kernel_rfl) Try.func3 (by kernel_rfl)
    (of_decide_eq_true (by kernel_rfl)) (by unfold Func.isWrapper; first | (rw [if_pos (by decide +kernel)]; kernel_rfl) | (rw [if_neg (by decide +kernel)]; exact ⟨rfl, rfl⟩))
    (fun os started H enc _ F => lifted os started H enc F)
#print axioms proved

end Go.Proofs.Ytnehdcaobkedpaa.CacheBytes

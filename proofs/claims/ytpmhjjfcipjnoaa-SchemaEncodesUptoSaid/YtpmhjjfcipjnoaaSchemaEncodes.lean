/- SchemaEncodes: any value by any form: its bytes, or what is wrong; what was laid out is taken as just that value: of texts of bulk at most 1048576. -/
import Derived.Test.YtpmhjjfcipjnoaaSmM
import Derived.Test.YtpmhjjfcipjnoaaSnH
import Derived.Test.YtpmhjjfcipjnoaaLift
import Derived.Test.YtpmhjjfcipjnoaaLiftC
import Derived.Deep.DeepCutAuto
namespace Go.Proofs.Ytpmhjjfcipjnoaa.SchemaEncodes
open Go.RowKit Go.ChangeShapes Go.WideShapes Go.ChangeAt Go.Proofs.Ytpmhjjfcipjnoaa
open Go.ChangeMaps (open_string shut_string)

theorem sum_str {l : List ByteArray} : (l.map fun s => 16 + s.size).sum ≤ 16 * sumW (l.map fun x => [Value.string x]) := by
  induction l with
  | nil => simp
  | cons x r ih =>
    rw [List.map_cons, List.sum_cons, List.map_cons, sumW]
    simp only [wts, wt]
    omega
theorem str_le {l : List ByteArray} {x : ByteArray} (hx : x ∈ l) (h : sumW (l.map fun x => [Value.string x]) ≤ 1048576) : x.size ≤ 1048576 := by
  have h1 : wts [Value.string x] ≤ sumW (l.map fun x => [Value.string x]) := sumW_mem (List.mem_map.2 ⟨x, hx, rfl⟩)
  simp only [wts, wt] at h1
  omega
set_option maxRecDepth 100000 in
set_option maxHeartbeats 4000000 in
theorem walk (w : World) (form : ByteArray) (hf : form.size ≤ 1048576)
    (A : Option Addr) (n c : Nat) (l : List Int) (hrd : SlRd w A n 1 (l.map fun x => [.int .i64 x])) (hn : n ≤ 1048576) (_hs1 : sumW (l.map fun x => [.int .i64 x]) ≤ 1048576) (hok : ∀ x ∈ l, -9223372036854775808 ≤ x ∧ x ≤ 9223372036854775807)
    (B : Option Addr) (m d : Nat) (t : List ByteArray) (hrd2 : SlRd w B m 1 (t.map fun x => [.string x])) (hm : m ≤ 1048576) (hsum : sumW (t.map fun x => [.string x]) ≤ 1048576) (_hok2 : ∀ x ∈ t, x.size ≤ maxLen) :
    Calls Try.prog 6 #[.string form, .slice A n c, .slice B m d] w fun r w' => r = .returned (.bool true) ∧ Below w.heap.size w w' := by
  have hln : n = l.length := by have := hrd.1; simpa using this.symm
  have hlm : m = t.length := by have := hrd2.1; simpa using this.symm
  have hri : RdI w A l := fun j x hx => by
    obtain ⟨b, o, h1, h2⟩ := (SlRd.src hrd (Below.refl _ _)).2 j (.int .i64 x) (by rw [List.getElem?_map, hx]; rfl)
    exact ⟨b, o, h1, h2⟩
  have hrs : RdS w B t := fun j x hx => by
    obtain ⟨b, o, h1, h2⟩ := (SlRd.src hrd2 (Below.refl _ _)).2 j (.string x) (by rw [List.getElem?_map, hx]; rfl)
    exact ⟨b, o, h1, h2⟩
  have hts : ∀ x ∈ t, x.size ≤ 1048576 := fun x hx => str_le hx hsum
  have hwg : wgt (l, t) ≤ 33554432 := by
    unfold wgt; dsimp only
    have := Nat.le_trans sum_str (Nat.mul_le_mul_left 16 hsum)
    omega
  have HLN := Lib.hid hln; have HLM := Lib.hid hlm; have HRI := Lib.hid hri; have HRS := Lib.hid hrs; have HTS := Lib.hid hts; have HWG := Lib.hid hwg; have HOK := Lib.hid hok
  clear hln hlm hri hrs hts hwg hrd hrd2 _hs1 hsum hok _hok2
  have H0 := St.init w
  go_enter Try.func6, Try.ntmps6
  go_wp2_with (fail)
  refine (speaks_ok H0).mono ?_
  rintro x w1 ⟨rfl, H1⟩
  clear H0
  obtain ⟨i0, hi, hi0, hi1, hi2⟩ := info_parts infoInt
  obtain ⟨j0, hj, hj0, hj1, hj2⟩ := info_parts infoStr
  have HA := St.emptyRow (size := 1) (H1.alloc #[] 3)
  have hsrcN : Src (w1.alloc (.cells #[] 3)) A n (ivs l) := RdI.src HLN.out (HRI.out.keep HA)
  have HSN := Lib.hid hsrcN; clear hsrcN
  go_upto_region 4 with (at_builtin; first | (refine wpList_append_any (by rfl) _ _ _ (by rfl) 3 i0 (.int .i64 0) 1 8 Try.underlying23 hi hi0 hi1 hi2 rfl (by decide) _ 0 0 [] HA (by rfl) A n c (ivs l) (by rfl) (by rw [ivs_length, ← HLN.out, Nat.mul_one]) HSN.out (ivs_one l) (by unfold maxLen; omega) (by omega) ?_; rw [List.nil_append, Nat.zero_add]; intro A5 c5 w5 H5; have HB := St.emptyRow (size := 1) (H5.alloc #[] 9); have HST := RdS.src HLM.out (HRS.out.keep HB)) | (refine wpList_append_any (by rfl) _ _ _ (by rfl) 9 j0 (.string ByteArray.empty) 1 16 Try.underlying24 hj hj0 hj1 hj2 rfl (by decide) _ 0 0 [] HB (by rfl) B m d (svs t) (by rfl) (by rw [svs_length, ← HLM.out, Nat.mul_one]) HST (svs_one t) (by unfold maxLen; omega) (by omega) ?_; rw [List.nil_append, Nat.zero_add]; intro A6 c6 w6 H6))
  clear HA HB HST HSN H5 H1 hi hi0 hi1 hi2 hj hj0 hj1 hj2
  have H7 := H6.alloc #[.slice A5 n c5, .slice A6 m c6] 26
  obtain ⟨b7, hb7⟩ : ∃ x, x = w6.heap.size := ⟨_, rfl⟩
  rw [← hb7] at H7 ⊢
  generalize w6.alloc (.cells #[.slice A5 n c5, .slice A6 m c6] 26) = w7 at *
  clear hb7 H6
  have hE := encode_ok form (by omega) A5 c5 A6 c6 l t (by have := HLN.out; omega) (by have := HLM.out; omega) (fun x hx => by have := HTS.out x hx; omega) (by have := HWG.out; omega) (by have h := H7.r3; rw [HLN.out] at h; exact RdI.row h) (by have h := H7.r2; rw [HLM.out] at h; exact RdS.row h) H7
  rw [← HLN.out, ← HLM.out] at hE
  have HE := Lib.hid hE; clear hE
  have p0 := H7.cell 0 rfl
  have p1 := H7.cell 1 rfl
  go_wp2_with (fail)
  refine HE.out.mono ?_
  intro x w8 hx
  obtain ⟨v, e, rfl, he, hvz, H8⟩ := hx.ans
  clear hx HE p0 p1 H7
  have HEE := Lib.hid he; clear he
  have hR := rencode_ok form (by omega) A c B d l t (by have := HLN.out; omega) (by have := HLM.out; omega) (fun x hx => by have := HTS.out x hx; omega) HOK.out (by have := HWG.out; omega) (HRI.out.keep H8) (HRS.out.keep H8) H8
  rw [← HLN.out, ← HLM.out] at hR
  have HR := Lib.hid hR; clear hR
  go_wp2_with (fail)
  refine HR.out.mono ?_
  intro x w9 hx
  obtain ⟨v2, e2, rfl, he2, hvz2, H9⟩ := hx.ans
  clear hx HR H8
  obtain ⟨rfl, rfl⟩ : e2 = e ∧ v2 = v := by
    rcases HEE.out with ⟨h1, h2⟩ | ⟨h1, h2, h3⟩ <;> rcases he2 with ⟨k1, k2⟩ | ⟨k1, k2, k3⟩
    · rw [h2] at k2; injection k2 with k2; exact ⟨by rw [h1, k1], k2.symm⟩
    · rw [h2] at k2; cases k2
    · rw [h2] at k2; cases k2
    · rw [h2] at k2; injection k2 with k2; exact ⟨k2.symm, by rw [h3, k3]⟩
  clear he2 hvz2
  have p0 := H9.cell 0 rfl
  have p1 := H9.cell 1 rfl
  have hsm := same_ok l t A5 A A6 B c5 c c6 d (by have := HLN.out; omega) (by have := HLM.out; omega) (by have h := H9.r3; rw [HLN.out] at h; exact RdI.row h) (by have h := H9.r2; rw [HLM.out] at h; exact RdS.row h) (HRI.out.keep H9) (HRS.out.keep H9) H9
  rw [← HLN.out, ← HLM.out] at hsm
  have HSM := Lib.hid hsm; clear hsm
  have hee : (e2 != e2) = false := by simp
  have hss : (v2.toList != v2.toList) = false := by simp
  go_wp2_with (fail)
  refine HSM.out.mono ?_
  rintro x w10 ⟨rfl, H10⟩
  clear HSM p0 p1 hee hss H9
  by_cases h0 : e2 = 0
  rotate_left 1
  · have hne : (e2 != 0) = true := bne_iff_ne.2 h0
    go_wp2_with (fail)
    go_ret
    exact ⟨rfl, H10.below⟩
  subst h0
  have henc : encodeF form l t = .ok v2 := by
    rcases HEE.out with ⟨_, h⟩ | ⟨h, _⟩
    · exact h
    · exact absurd rfl h
  have hdec : decodeF form v2 = .ok (l, t) := by
    unfold encodeF at henc
    unfold decodeF
    cases hp : parseF form with
    | none => rw [hp] at henc; cases henc
    | some tr => rw [hp] at henc; exact enc_dec (parseF_wf hp).1 henc
  have hD := decode_ok form v2 (by omega) (by omega) H10
  rw [hdec] at hD
  have HD := Lib.hid hD; clear hD henc hdec HEE
  go_wp2_with (fail)
  refine HD.out.mono ?_
  rintro x w11 ⟨A7, c7, B7, d7, rfl, H11⟩
  dsimp only at H11 ⊢
  rw [← HLN.out, ← HLM.out] at H11 ⊢
  clear HD
  have H12 := H11.alloc #[.slice A7 n c7, .slice B7 m d7] 26
  obtain ⟨b8, hb8⟩ : ∃ x, x = w11.heap.size := ⟨_, rfl⟩
  go_upto_region 11 with (fail)
  rw [← hb8] at H12 ⊢
  generalize w11.alloc (.cells #[.slice A7 n c7, .slice B7 m d7] 26) = w12 at *
  clear hb8 H11 H10
  have p0 := H12.cell 0 rfl
  have p1 := H12.cell 1 rfl
  have hsm := same_ok l t A7 A B7 B c7 c d7 d (by have := HLN.out; omega) (by have := HLM.out; omega) (by have h := H12.r2; rw [HLN.out] at h; exact RdI.row h) (by have h := H12.r3; rw [HLM.out] at h; exact RdS.row h) (HRI.out.keep H12) (HRS.out.keep H12) H12
  rw [← HLN.out, ← HLM.out] at hsm
  have HSM := Lib.hid hsm; clear hsm
  go_wp2_with (fail)
  refine HSM.out.mono ?_
  rintro x w13 ⟨rfl, H13⟩
  go_wp2_with (fail)
  go_ret
  exact ⟨rfl, H13.below⟩
theorem own : ownKnob Try.prog.godebug = none := by kernel_rfl
theorem laidOut : laidOutB Try.prog = true := by kernel_rfl
theorem readable : ∀ t ∈ Try.f6.params.toList, Try.prog.readableRec t = true ∧ t < Try.prog.types.size := by
  intro t ht
  rw [Try.params6] at ht
  simp only [List.mem_cons, List.not_mem_nil, or_false] at ht
  rcases ht with rfl | rfl | rfl
  all_goals exact ⟨by kernel_rfl, of_decide_eq_true (by kernel_rfl)⟩
set_option maxRecDepth 100000 in
theorem contract (H : Type) (enc : TypeId × Value → H) (W : World) (base : Nat) (args : Array Value) (ds gs : List (DataW H)) (before : List MemPlace)
    (hval : ∀ (j : Nat) t v, Try.f6.params[j]? = some t → args[j]? = some v → Value.okWide Try.prog W .any base t v)
    (hW : DataW.Whole enc Try.prog Try.f6.params.toList Rows.schemaEncodesSpec.vars false W args.toList ds gs before) (hk : Rows.uptoSmall H (ds ++ gs) = true) :
    Calls Try.prog 6 args W fun e W' => ∃ v, e = .returned v ∧ Rows.schemaEncodesSpec.post enc Try.prog Try.f6 false true false false W args v W' := by
  have hW' := hW
  obtain ⟨p, q, hA0, hV, rfl, _, _⟩ := hW
  have hA : DataW.TrodAll enc Try.prog W 0 (fun _ => true) true Try.f6.params.toList args.toList ds p := hA0
  rw [Try.params6] at hA hval
  obtain ⟨v0, vs0, d0, ds0, p0, q0, hargs, rfl, rfl, h0, r0⟩ := trodAll_cons hA
  obtain ⟨v1, vs1, d1, ds1, p1, q1, rfl, rfl, rfl, h1, r1⟩ := trodAll_cons r0
  obtain ⟨v2, vs2, d2, ds2, p2, q2, rfl, rfl, rfl, h2, r2⟩ := trodAll_cons r1
  obtain ⟨rfl, rfl, rfl⟩ := trodAll_nil r2
  obtain rfl : args = #[v0, v1, v2] := by cases args; simp_all
  obtain ⟨rfl, rfl⟩ := trodVars_none hV
  clear hA0
  have hk2 : Rows.uptoBulkAll _ ≤ 1048576 := of_decide_eq_true hk
  rw [List.append_nil] at hk2
  obtain ⟨form, rfl, rfl, rfl, wform⟩ := open_string Try.underlying9 (hval 0 9 v0 rfl rfl) h0
  obtain ⟨fuel1, hf1⟩ := h1
  obtain ⟨A1, n1, c1, hv1⟩ := okWide_slice Try.underlying23 (hval 1 23 v1 rfl rfl)
  subst hv1
  obtain ⟨A1', n1', c1', rows1, hc1, hn1, hrd1, hrow1, hbulk1⟩ := trod_slice_flat (ks := [.int .i64]) (m := 8) Try.underlying23 (by kernel_rfl) (by kernel_rfl) (by decide) hf1
  dsimp only at hbulk1
  obtain ⟨rfl, rfl, rfl⟩ : A1' = A1 ∧ n1' = n1 ∧ c1' = c1 := by simp [Value.cells] at hc1; simp [hc1]
  obtain ⟨n, rfl, hok1⟩ := rows_map (fun x : Int => [.int .i64 x]) (fun x : Int => -9223372036854775808 ≤ x ∧ x ≤ 9223372036854775807) rows1 (fun row hr => of_row_int row (hrow1 row hr))
  obtain ⟨fuel2, hf2⟩ := h2
  obtain ⟨A2, n2, c2, hv2⟩ := okWide_slice Try.underlying24 (hval 2 24 v2 rfl rfl)
  subst hv2
  obtain ⟨A2', n2', c2', rows2, hc2, hn2, hrd2, hrow2, hbulk2⟩ := trod_slice_flat (ks := [.str]) (m := 8) Try.underlying24 (by kernel_rfl) (by kernel_rfl) (by decide) hf2
  dsimp only at hbulk2
  obtain ⟨rfl, rfl, rfl⟩ : A2' = A2 ∧ n2' = n2 ∧ c2' = c2 := by simp [Value.cells] at hc2; simp [hc2]
  obtain ⟨t, rfl, hok2⟩ := rows_map (fun x : ByteArray => [.string x]) (fun x : ByteArray => x.size ≤ maxLen) rows2 (fun row hr => of_row_str row (hrow2 row hr))
  refine (walk W form (by
    have hz : (form.data.toList).length = form.size := bl_length form
    simp only [Rows.uptoBulkAll, Rows.uptoBulk] at hk2
    omega) A1' n1' c1' n hrd1 (by
    have h1 := len_le_sum (ks := [.int .i64]) _ hrow1 (by decide)
    have h2 := hrd1.1
    simp only [Rows.uptoBulkAll, Rows.uptoBulk] at hk2
    omega) (by
    simp only [Rows.uptoBulkAll, Rows.uptoBulk] at hk2
    omega) hok1 A2' n2' c2' t hrd2 (by
    have h1 := len_le_sum (ks := [.str]) _ hrow2 (by decide)
    have h2 := hrd2.1
    simp only [Rows.uptoBulkAll, Rows.uptoBulk] at hk2
    omega) (by
    simp only [Rows.uptoBulkAll, Rows.uptoBulk] at hk2
    omega) hok2).mono fun e W' ⟨he, hb⟩ => ?_
  exact ⟨_, he, law_post (tb := 4) laidOut readable rfl Try.underlying4 rfl hW' rfl rfl rfl hb⟩
set_option maxRecDepth 100000 in
theorem lifted (os : Os) (started : os.Started) (H : Type) (enc : TypeId × Value → H) (F : Stop.Interp) :
    ReturnsInHanded {} Try.checked os 6 .any ((Rows.OpenSpec.upto Rows.schemaEncodesSpec).pre6 enc Try.prog Try.f6 Rows.schemaEncodesUptoRow.domain false) (((Rows.OpenSpec.upto Rows.schemaEncodesSpec).at F).post enc Try.prog Try.f6 false true false false) := by
  refine returnsInHanded_of_cond (C := Try.checked) (s := Rows.OpenSpec.upto Rows.schemaEncodesSpec) (k := Rows.uptoSmall) rfl own started (by kernel_rfl) Try.func6
    (OpenSpec.witness (enc := enc) (C := Try.checked) (s := Rows.OpenSpec.upto Rows.schemaEncodesSpec) (k := Rows.uptoSmall) rfl false ⟨#[], #[.string .empty, .slice none 0 0, .slice none 0 0], []⟩ 8 (by kernel_rfl) (by kernel_rfl) (by kernel_rfl)
      (x := ([.lit (.string []), .nil, .nil], [], [])) (by kernel_rfl) rfl (by kernel_rfl)) ?_
  intro W base args ds gs before hval hW _ hk _
  exact contract H enc W base args ds gs before hval hW hk
theorem proved : Rows.SchemaEncodesUptoSaid :=
  OpenClaim.holds_of_cond 6 Try.f6 rfl rfl rfl rfl rfl rfl rfl ⟨rfl, rfl, rfl, rfl, rfl⟩ rfl rfl rfl rfl rfl (by kernel_rfl) Try.func6 (by kernel_rfl)
    (of_decide_eq_true (by kernel_rfl)) (by unfold Func.isWrapper; first | (rw [if_pos (by decide +kernel)]; kernel_rfl) | (rw [if_neg (by decide +kernel)]; exact ⟨rfl, rfl⟩))
    (fun os started H enc _ F => lifted os started H enc F)
#print axioms proved

end Go.Proofs.Ytpmhjjfcipjnoaa.SchemaEncodes

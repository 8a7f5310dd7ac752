/- XdrOnly: of all numbers only 0 and 1 are Bools, and a number that a text's length tells is its length only if the text is there: every number, texts of at most 1048576 bytes. -/
import Derived.Test.YtcmpocabjhlnfaaXdrI
import Derived.Test.YtcmpocabjhlnfaaXdrL
import Derived.Test.YtcmpocabjhlnfaaLift
import Derived.Laws.MakeOwn
import Derived.Outline
namespace Go.Proofs.Ytcmpocabjhlnfaa.XdrOnly
open Go.RowKit Go.ChangeShapes Go.WideShapes Go.ChangeAt Go.Proofs.Ytcmpocabjhlnfaa
open Go.ChangeMaps (open_string shut_string)

theorem bool_be (n : Int) (M : Nat) (h : n % 4294967296 = (M : Int)) : RS.bool ⟨mkb (be n 4), 0⟩ = (decide (M = 1), ⟨ByteArray.empty, if M ≤ 1 then 0 else 4⟩) := by
  have e := cutR_nat4 n [] 4
  rw [if_pos (Int.le_refl _), cutR_all _ 4 (by rw [List.append_nil, be_length]; decide), List.append_nil, h] at e
  unfold RS.bool
  rw [e]
  rw [cutR_pos [] (4 - 4) (by decide)]
  by_cases h1 : M ≤ 1
  · rw [if_neg (by show ¬ (M : Int) > 1; omega), if_pos h1]
    have : M = 0 ∨ M = 1 := by omega
    rcases this with rfl | rfl <;> rfl
  · rw [if_pos (by show (M : Int) > 1; omega), if_neg h1, decide_eq_false (by omega)]
    rfl
def Only (s : List UInt8) (M : Nat) (q : ByteArray × RS) : Prop :=
  (q.2.fin ≠ 0 ∧ (q.1 = ByteArray.empty ∨ q.2.fin = 6)) ∨ (q.2.fin = 0 ∧ M ≤ s.length ∧ (M + 3) / 4 * 4 = (fixed s).length ∧ q.1 = mkb (s.take M)) ∨
    (q.2.fin = 0 ∧ s.length < M ∧ M ≤ (fixed s).length ∧ (M + 3) / 4 * 4 = (fixed s).length ∧ q.1 = mkb s ++ mkb (zeros (M - s.length)))
theorem pad_up (M : Nat) : M + padn M = (M + 3) / 4 * 4 := by unfold padn; omega
theorem only_fixed (s : List UInt8) (M : Nat) : Only s M (RS.fixed ⟨mkb (fixed s), 0⟩ (M : Int)) := by
  have hf : (fixed s).length = s.length + padn s.length := by rw [fixed, List.length_append, zeros, List.length_replicate]
  have hU := pad_up s.length
  have hM := pad_up M
  unfold RS.fixed
  rw [if_neg (show ¬ (M : Int) < 0 by omega)]
  dsimp only
  rw [if_pos rfl, mkb_size, Int.toNat_natCast]
  by_cases h1 : M ≤ (fixed s).length
  · rw [if_pos (by omega), if_pos (by omega)]
    split
    · rename_i hz
      have e1 : (mkb (fixed s)).extract 0 (M + padn M) = mkb ((fixed s).take (M + padn M)) := by rw [mkb_extract, List.drop_zero, Nat.sub_zero]
      have e2 : (mkb ((fixed s).take (M + padn M))).extract 0 M = mkb ((fixed s).take M) := by rw [mkb_extract, List.drop_zero, Nat.sub_zero, List.take_take, Nat.min_eq_left (by omega)]
      rw [e1, e2]
      by_cases h2 : M + padn M = (fixed s).length
      · have e3 : ((mkb (fixed s)).extract (M + padn M) (fixed s).length) = ByteArray.empty := by rw [mkb_extract, h2, Nat.sub_self, List.take_zero]; rfl
        rw [e3]
        by_cases h3 : M ≤ s.length
        · exact .inr (.inl ⟨rfl, h3, by omega, by rw [fixed, List.take_append_of_le_length h3]⟩)
        · refine .inr (.inr ⟨rfl, by omega, h1, by omega, ?_⟩)
          rw [mkb_append, fixed, List.take_append, List.take_of_length_le (by omega)]
          congr 2
          rw [zeros, zeros, List.take_replicate, Nat.min_eq_left (by omega)]
      · refine .inl ⟨?_, .inr ?_⟩ <;> (unfold RS.fin; dsimp only; rw [if_pos rfl, mkb_extract, mkb_size, List.length_take, List.length_drop, if_neg (by omega)]; try decide)
    · exact .inl ⟨by unfold RS.fin; dsimp only; rw [if_neg (by decide)]; decide, .inl rfl⟩
  · rw [if_neg (by omega)]
    exact .inl ⟨by unfold RS.fin; dsimp only; rw [if_neg (by decide)]; decide, .inl rfl⟩
theorem only_opqe (n : Int) (M : Nat) (h : n % 4294967296 = (M : Int)) (s : List UInt8) : Only s M (RS.opqe ⟨mkb (be n 4 ++ fixed s), 0⟩ 8589934592) := by
  have e := cutR_nat4 n (fixed s) (4 + (fixed s).length : Nat)
  rw [if_pos (by omega), cutR_all _ _ (by rw [List.length_append, be_length]; omega), cutR_all _ _ (by omega), h] at e
  unfold RS.opqe
  rw [e]
  dsimp only
  rw [if_neg (by omega)]
  exact only_fixed s M
theorem make_bytes (K : Nat) (hK : K ≤ 1048576) (d : Int) (hd : d = K) (w : World) : (Instr.makeSlice 23 (.int .i64 d) (.int .i64 d)).run Try.prog w = .ok (.slice (some ⟨w.heap.size, 0, none⟩) K K) (w.alloc (.cells (bv (zeros K)).toArray 5)) := by
  subst hd
  obtain ⟨i0, hi, hz, hz1, hz2⟩ := info_parts infoU8
  have h := run_make (P := Try.prog) w 23 5 i0 (.int .u8 0) Try.underlying23 hi hz .i64 .i64 K K (by omega) (Int.le_refl _) (by rw [hz2]; omega) (by omega)
  rw [h, hz1]
  congr 3
  apply Array.ext_getElem?
  intro i
  simp only [madeCells, Nat.mul_one, Int.toNat_natCast, List.getElem?_toArray, bv, zeros, List.map_replicate, List.getElem?_replicate, Array.getElem?_map]
  by_cases h : i < K
  · rw [Array.getElem?_range, if_pos h]; simp [Value.cells, vb, Nat.mod_one, h]
  · simp [h]
theorem bv_size (l : List UInt8) : (bv l).toArray.size = l.length := by rw [List.size_toArray, bv_length]
theorem up_eq (s : ByteArray) : ((fixed (bl s)).length : Int) = ((s.size : Int) + 3) / 4 * 4 := by
  have := pad_up (bl s).length
  rw [fixed, List.length_append, zeros, List.length_replicate, this, bl_length]; omega
set_option maxRecDepth 100000 in
set_option maxHeartbeats 4000000 in
theorem walk (w : World) (n : Int) (hn : -9223372036854775808 ≤ n ∧ n ≤ 9223372036854775807) (s : ByteArray) (hs : s.size ≤ 1048576) :
    Calls Try.prog 5 #[.int .i64 n, .string s] w fun r w' => r = .returned (.bool true) ∧ Below w.heap.size w w' := by
  have H0 := St.init w
  obtain ⟨M, hM⟩ : ∃ M : Nat, n % 4294967296 = (M : Int) := ⟨(n % 4294967296).toNat, by omega⟩
  have hM1 : M < 4294967296 := by omega
  have a1 : bits .and .i64 n 4294967295 = (M : Int) := (i64_and_mask n 32 (by decide)).trans hM
  have hO := only_opqe n M hM (bl s)
  have eB := bool_be n M hM
  have HO := Lib.hid hO; have EB := Lib.hid eB; have HMM := Lib.hid hM; clear hO eB hM
  obtain ⟨u1, u2, u3⟩ := fixed_len (bl s)
  rw [bl_length] at u2 u3
  go_enter Try.func5, Try.ntmps5
  go_wp2_with (first | (go_at_call 9; refine (speaks_ok H0).mono ?_; rintro x w1 ⟨rfl, H1⟩))
  have H2 := (H1.alloc #[.slice none 0 0] 25).newWr
  generalize w1.heap.size = bw at *
  generalize w1.alloc (.cells #[.slice none 0 0] 25) = w2 at *
  clear H1
  refine (wuint_ok _ _ mk_one _ _ _ (by decide) H2).mono ?_
  rintro x w3 ⟨rfl, H3⟩
  rw [List.nil_append] at H3
  go_wp2_with (fail)
  refine (bytes_ok _ _ mk_one _ _ H3).mono ?_
  rintro x w4 ⟨rfl, rfl⟩
  go_wp2_with (fail)
  refine (open_ok _ H3).mono ?_
  rintro x w4 ⟨rb, rfl, H4⟩
  go_wp2_with (fail)
  refine (bool_ok _ _ (by rw [mkb_size]; simp [be_length]) H4).mono ?_
  rw [EB.out]
  rintro x w4 ⟨rfl, H5⟩
  clear H2 H3 H4
  have hm : M < 1 ∨ (1 ≤ M ∧ M ≤ 1) ∨ 1 < M := by omega
  rcases hm with hm | ⟨hm, hm'⟩ | hm
  · rw [if_pos (show M ≤ 1 by omega)] at H5
    rw [decide_eq_false (show ¬ M = 1 by omega)]
    have hb1 : decide ((M : Int) ≤ 1) = true := decide_eq_true (by omega)
    have hb2 : ((M : Int) == 1) = false := by rw [beq_eq_false_iff_ne]; omega
    go_wp2_with (fail)
    refine (end_ok _ _ H5).mono ?_
    rintro x w9 ⟨rfl, rfl⟩
    go_wp2_with (fail)
    refine (wfixed_ok _ _ mk_one _ _ _ (by simp [be_length]) (by omega) H5.r2).mono ?_
    rintro x w5 ⟨rfl, H6⟩
    go_wp2_with (fail)
    refine (bytes_ok _ _ mk_one _ _ H6).mono ?_
    rintro x w6 ⟨rfl, rfl⟩
    go_wp2_with (fail)
    refine (open_ok _ H6).mono ?_
    rintro x w6 ⟨tb, rfl, H7⟩
    go_wp2_with (fail)
    refine (opaque_ok _ _ 8589934592 (by rw [mkb_size, List.length_append, be_length]; omega) H7).mono ?_
    have ho := HO.out
    generalize RS.opqe ⟨mkb (be n 4 ++ fixed (bl s)), 0⟩ 8589934592 = q at ho ⊢
    obtain ⟨x1, q2⟩ := q
    dsimp only [Only] at ho ⊢
    rintro x w7 ⟨rfl, H8⟩
    rcases ho with ⟨h1, h2⟩ | ⟨h1, h2, h3, h4⟩ | ⟨h1, h2, h3, h4, h5⟩
    · have hf : (q2.fin == 0) = false := by simpa using h1
      clear h1
      rcases h2 with rfl | h2
      · go_wp2_with (fail)
        refine (end_ok _ _ H8).mono ?_
        rintro x w8 ⟨rfl, rfl⟩
        go_wp2_with (fail)
        go_ret
        exact ⟨rfl, H8.below⟩
      · have E6 := Lib.hid h2; clear h2 hf
        go_wp2_with (first | (go_at_call 23; refine (end_ok _ _ H8).mono ?_; rw [E6.out]; rintro x w8 ⟨rfl, rfl⟩))
        all_goals
          go_ret
          exact ⟨rfl, H8.below⟩
    · rw [bl_length] at h2
      have hx : x1 = s.extract 0 M := by rw [h4]; exact (by rw [← mkb_bl s, mkb_extract, List.drop_zero, Nat.sub_zero, mkb_bl])
      subst hx
      have hq : (((M : Int) + 3) / 4 * 4 == ((s.size : Int) + 3) / 4 * 4) = true := by rw [beq_iff_eq, ← up_eq, ← h3]; omega
      have E0 := Lib.hid h1; have H4 := Lib.hid h4; have H3 := Lib.hid h3; clear h1 h3 h4
      go_wp2_with (fail)
      refine (end_ok _ _ H8).mono ?_
      rw [E0.out]
      rintro x w8 ⟨rfl, rfl⟩
      go_wp2_with (fail)
      go_ret
      exact ⟨rfl, H8.below⟩
    · rw [bl_length] at h2 h5
      exfalso; omega
  · rw [if_pos hm'] at H5
    rw [decide_eq_true (show M = 1 by omega)]
    have hb1 : decide ((M : Int) ≤ 1) = true := decide_eq_true (by omega)
    have hb2 : ((M : Int) == 1) = true := by rw [beq_iff_eq]; omega
    go_wp2_with (fail)
    refine (end_ok _ _ H5).mono ?_
    rintro x w9 ⟨rfl, rfl⟩
    go_wp2_with (fail)
    refine (wfixed_ok _ _ mk_one _ _ _ (by simp [be_length]) (by omega) H5.r2).mono ?_
    rintro x w5 ⟨rfl, H6⟩
    go_wp2_with (fail)
    refine (bytes_ok _ _ mk_one _ _ H6).mono ?_
    rintro x w6 ⟨rfl, rfl⟩
    go_wp2_with (fail)
    refine (open_ok _ H6).mono ?_
    rintro x w6 ⟨tb, rfl, H7⟩
    go_wp2_with (fail)
    refine (opaque_ok _ _ 8589934592 (by rw [mkb_size, List.length_append, be_length]; omega) H7).mono ?_
    have ho := HO.out
    generalize RS.opqe ⟨mkb (be n 4 ++ fixed (bl s)), 0⟩ 8589934592 = q at ho ⊢
    obtain ⟨x1, q2⟩ := q
    dsimp only [Only] at ho ⊢
    rintro x w7 ⟨rfl, H8⟩
    rcases ho with ⟨h1, h2⟩ | ⟨h1, h2, h3, h4⟩ | ⟨h1, h2, h3, h4, h5⟩
    · have hf : (q2.fin == 0) = false := by simpa using h1
      clear h1
      rcases h2 with rfl | h2
      · go_wp2_with (fail)
        refine (end_ok _ _ H8).mono ?_
        rintro x w8 ⟨rfl, rfl⟩
        go_wp2_with (fail)
        go_ret
        exact ⟨rfl, H8.below⟩
      · have E6 := Lib.hid h2; clear h2 hf
        go_wp2_with (first | (go_at_call 23; refine (end_ok _ _ H8).mono ?_; rw [E6.out]; rintro x w8 ⟨rfl, rfl⟩))
        all_goals
          go_ret
          exact ⟨rfl, H8.below⟩
    · rw [bl_length] at h2
      have hx : x1 = s.extract 0 M := by rw [h4]; exact (by rw [← mkb_bl s, mkb_extract, List.drop_zero, Nat.sub_zero, mkb_bl])
      subst hx
      have hq : (((M : Int) + 3) / 4 * 4 == ((s.size : Int) + 3) / 4 * 4) = true := by rw [beq_iff_eq, ← up_eq, ← h3]; omega
      have E0 := Lib.hid h1; have H4 := Lib.hid h4; have H3 := Lib.hid h3; clear h1 h3 h4
      go_wp2_with (fail)
      refine (end_ok _ _ H8).mono ?_
      rw [E0.out]
      rintro x w8 ⟨rfl, rfl⟩
      go_wp2_with (fail)
      go_ret
      exact ⟨rfl, H8.below⟩
    · rw [bl_length] at h2 h5
      exfalso; omega
  · rw [if_neg (show ¬ M ≤ 1 by omega)] at H5
    rw [decide_eq_false (show ¬ M = 1 by omega)]
    have hb1 : decide ((M : Int) ≤ 1) = false := decide_eq_false (by omega)
    have hb2 : ((M : Int) == 1) = false := by rw [beq_eq_false_iff_ne]; omega
    go_wp2_with (fail)
    refine (end_ok _ _ H5).mono ?_
    rintro x w9 ⟨rfl, rfl⟩
    go_wp2_with (fail)
    refine (wfixed_ok _ _ mk_one _ _ _ (by simp [be_length]) (by omega) H5.r2).mono ?_
    rintro x w5 ⟨rfl, H6⟩
    go_wp2_with (fail)
    refine (bytes_ok _ _ mk_one _ _ H6).mono ?_
    rintro x w6 ⟨rfl, rfl⟩
    go_wp2_with (fail)
    refine (open_ok _ H6).mono ?_
    rintro x w6 ⟨tb, rfl, H7⟩
    go_wp2_with (fail)
    refine (opaque_ok _ _ 8589934592 (by rw [mkb_size, List.length_append, be_length]; omega) H7).mono ?_
    have ho := HO.out
    generalize RS.opqe ⟨mkb (be n 4 ++ fixed (bl s)), 0⟩ 8589934592 = q at ho ⊢
    obtain ⟨x1, q2⟩ := q
    dsimp only [Only] at ho ⊢
    rintro x w7 ⟨rfl, H8⟩
    rcases ho with ⟨h1, h2⟩ | ⟨h1, h2, h3, h4⟩ | ⟨h1, h2, h3, h4, h5⟩
    · have hf : (q2.fin == 0) = false := by simpa using h1
      clear h1
      rcases h2 with rfl | h2
      · go_wp2_with (fail)
        refine (end_ok _ _ H8).mono ?_
        rintro x w8 ⟨rfl, rfl⟩
        go_wp2_with (fail)
        go_ret
        exact ⟨rfl, H8.below⟩
      · have E6 := Lib.hid h2; clear h2 hf
        go_wp2_with (first | (go_at_call 23; refine (end_ok _ _ H8).mono ?_; rw [E6.out]; rintro x w8 ⟨rfl, rfl⟩))
        all_goals
          go_ret
          exact ⟨rfl, H8.below⟩
    · rw [bl_length] at h2
      have hx : x1 = s.extract 0 M := by rw [h4]; exact (by rw [← mkb_bl s, mkb_extract, List.drop_zero, Nat.sub_zero, mkb_bl])
      subst hx
      have hq : (((M : Int) + 3) / 4 * 4 == ((s.size : Int) + 3) / 4 * 4) = true := by rw [beq_iff_eq, ← up_eq, ← h3]; omega
      have E0 := Lib.hid h1; have H4 := Lib.hid h4; have H3 := Lib.hid h3; clear h1 h3 h4
      go_wp2_with (fail)
      refine (end_ok _ _ H8).mono ?_
      rw [E0.out]
      rintro x w8 ⟨rfl, rfl⟩
      go_wp2_with (fail)
      go_ret
      exact ⟨rfl, H8.below⟩
    · rw [bl_length] at h2 h5
      rw [mkb_bl] at h5
      subst h5
      have hq : (((M : Int) + 3) / 4 * 4 == ((s.size : Int) + 3) / 4 * 4) = true := by rw [beq_iff_eq, ← up_eq, ← h4]; omega
      have hle : (M : Int) ≤ ((s.size : Int) + 3) / 4 * 4 := by rw [← up_eq]; omega
      have hnl : ¬ (M : Int) ≤ s.size := by omega
      have hmk := make_bytes (M - s.size) (by omega) ((M : Int) - s.size) (by omega) w7
      have hcv := ((H8.alloc (bv (zeros (M - s.size))).toArray 5).toRow (xs := bv (zeros (M - s.size))) (n := M - s.size) (c := M - s.size) (size := 1) (o := 0) (fr := (0, 0)) (by rw [bv_length, zeros, List.length_replicate, Nat.mul_one]) (.inl (Nat.le_refl _)) (Nat.le_refl _) (by unfold maxLen; omega) (by rw [bv_size, zeros, List.length_replicate]; omega) (fun j u hu => by simpa using hu)).toStr (P := Try.prog) (src := 23) (dst := 9) Try.underlying23 Try.underlying5 Try.underlying9
      have hzs : (mkb (zeros (M - s.size))).size ≤ 1048576 := by rw [mkb_size, zeros, List.length_replicate]; omega
      have E0 := Lib.hid h1; have H4 := Lib.hid h4; clear h1 h3 h4
      go_wp2_with (fail)
      refine (end_ok _ _ H8).mono ?_
      rw [E0.out]
      rintro x w8 ⟨rfl, rfl⟩
      go_wp2_with (fail)
      go_ret
      exact ⟨rfl, (H8.alloc (bv (zeros (M - s.size))).toArray 5).below⟩
theorem own : ownKnob Try.prog.godebug = none := by kernel_rfl
theorem laidOut : laidOutB Try.prog = true := by kernel_rfl
theorem readable : ∀ t ∈ Try.f5.params.toList, Try.prog.readableRec t = true ∧ t < Try.prog.types.size := by
  intro t ht
  rw [Try.params5] at ht
  simp only [List.mem_cons, List.not_mem_nil, or_false] at ht
  rcases ht with rfl | rfl
  all_goals exact ⟨by kernel_rfl, of_decide_eq_true (by kernel_rfl)⟩
theorem contract (H : Type) (enc : TypeId × Value → H) (W : World) (base : Nat) (args : Array Value) (ds gs : List (DataW H)) (before : List MemPlace)
    (hval : ∀ (j : Nat) t v, Try.f5.params[j]? = some t → args[j]? = some v → Value.okWide Try.prog W .any base t v)
    (hW : DataW.Whole enc Try.prog Try.f5.params.toList Rows.xdrOnlySpec.vars false W args.toList ds gs before) (hk : Rows.uptoSmall H (ds ++ gs) = true) :
    Calls Try.prog 5 args W fun e W' => ∃ v, e = .returned v ∧ Rows.xdrOnlySpec.post enc Try.prog Try.f5 false true false false W args v W' := by
  have hW' := hW
  obtain ⟨p, q, hA0, hV, rfl, _, _⟩ := hW
  have hA : DataW.TrodAll enc Try.prog W 0 (fun _ => true) true Try.f5.params.toList args.toList ds p := hA0
  rw [Try.params5] at hA hval
  obtain ⟨v0, vs0, d0, ds0, p0, q0, hargs, rfl, rfl, h0, r0⟩ := trodAll_cons hA
  obtain ⟨v1, vs1, d1, ds1, p1, q1, rfl, rfl, rfl, h1, r1⟩ := trodAll_cons r0
  obtain ⟨rfl, rfl, rfl⟩ := trodAll_nil r1
  obtain rfl : args = #[v0, v1] := by cases args; simp_all
  obtain ⟨rfl, rfl⟩ := trodVars_none hV
  clear hA0
  have hk2 : Rows.uptoBulkAll _ ≤ 1048576 := of_decide_eq_true hk
  rw [List.append_nil] at hk2
  obtain ⟨n, rfl, rfl, rfl, wn⟩ := open_int Try.underlying3 (hval 0 3 v0 rfl rfl) h0
  obtain ⟨s, rfl, rfl, rfl, ws⟩ := open_string Try.underlying9 (hval 1 9 v1 rfl rfl) h1
  refine (walk W n (wf_i64 wn) s (by
    have hz : (s.data.toList).length = s.size := bl_length s
    simp only [Rows.uptoBulkAll, Rows.uptoBulk] at hk2
    omega)).mono fun e W' ⟨he, hb⟩ => ?_
  exact ⟨_, he, law_post (tb := 4) laidOut readable rfl Try.underlying4 rfl hW' rfl rfl rfl hb⟩
set_option maxRecDepth 100000 in
theorem lifted (os : Os) (started : os.Started) (H : Type) (enc : TypeId × Value → H) (F : Stop.Interp) :
    ReturnsInHanded {} Try.checked os 5 .any ((Rows.OpenSpec.upto Rows.xdrOnlySpec).pre6 enc Try.prog Try.f5 Rows.xdrOnlyUptoRow.domain false) (((Rows.OpenSpec.upto Rows.xdrOnlySpec).at F).post enc Try.prog Try.f5 false true false false) := by
  refine returnsInHanded_of_cond (C := Try.checked) (s := Rows.OpenSpec.upto Rows.xdrOnlySpec) (k := Rows.uptoSmall) rfl own started (by kernel_rfl) Try.func5
    (OpenSpec.witness (enc := enc) (C := Try.checked) (s := Rows.OpenSpec.upto Rows.xdrOnlySpec) (k := Rows.uptoSmall) rfl false ⟨#[], #[.int .i64 0, .string .empty], []⟩ 8 (by kernel_rfl) (by kernel_rfl) (by kernel_rfl)
      (x := ([.lit (.int .i64 0), .lit (.string [])], [], [])) (by kernel_rfl) rfl (by kernel_rfl)) ?_
  intro W base args ds gs before hval hW _ hk _
  exact contract H enc W base args ds gs before hval hW hk
theorem proved : Rows.XdrOnlyUptoSaid :=
  OpenClaim.holds_of_cond 5 Try.f5 rfl rfl rfl rfl rfl rfl rfl ⟨rfl, rfl, rfl, rfl, rfl⟩ rfl rfl rfl rfl rfl (by kernel_rfl) Try.func5 (by kernel_rfl)
    (of_decide_eq_true (by kernel_rfl)) (by unfold Func.isWrapper; first | (rw [if_pos (by decide +kernel)]; kernel_rfl) | (rw [if_neg (by decide +kernel)]; exact ⟨rfl, rfl⟩))
    (fun os started H enc _ F => lifted os started H enc F)
#print axioms proved

end Go.Proofs.Ytcmpocabjhlnfaa.XdrOnly

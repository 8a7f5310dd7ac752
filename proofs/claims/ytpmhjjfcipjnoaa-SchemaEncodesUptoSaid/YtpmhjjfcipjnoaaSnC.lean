/- Layer 2's reference: Decode; two values that are one. -/
import Derived.Test.YtpmhjjfcipjnoaaSnB
import Derived.Test.YtpmhjjfcipjnoaaSmZ
namespace Go.Proofs.Ytpmhjjfcipjnoaa
open Go.RowKit

theorem results_cell1r {P : Program} {fn : Func} {p t : Tmp} {ty : TypeId} (h : fn.results = #[.cell p ty, .tmp t]) (tmps : Array Value) (w : World) (g : Nat) (T : TypeId) (cs : Array Value) (fr : Nat × Nat) (d : TypeDesc)
    (hp : tmps.getD p undef = .pointer (some ⟨g, 0, none⟩)) (hg : w.heap[g]? = some (.cells cs T fr))
    (hu : P.underlying ty = some d) (hd : (match d with | .struct _ | .array _ _ => true | _ => false) = true) (hi : (P.info? ty).map (·.size) = some cs.size) :
    (results fn tmps).run P w = .ok (.tuple #[.agg cs, tmps.getD t undef]) w := by
  have hp' : tmps[p]?.getD undef = .pointer (some ⟨g, 0, none⟩) := by simpa using hp
  simp [results, h, hp', asAddr, run_loadVar_row w g T ty cs fr d hg hu hd hi]
theorem parse_pr {s : ByteArray} {t : Tr} (h : parseF s = some t) : s.size ≤ 1000 ∧ ∃ e, pr s (s.size + 1) false 0 0 [] = some (t, e) := by
  unfold parseF at h
  split at h
  · cases h
  rename_i h1
  obtain ⟨r, hr, h⟩ := Option.bind_eq_some_iff.1 h
  split at h
  · cases h
  injection h with h; subst h
  exact ⟨by omega, r.2, hr⟩
theorem decodeT_fin {t : Tr} {s : ByteArray} {st : TS} (hs : s.size ≤ 65536) (h : tk t none (⟨s, 0⟩, [], []) = finT st) : decodeT t s = if st.1.fin = 0 then .ok st.2 else .error st.1.fin := by
  unfold decodeT
  rw [if_neg (by omega), h]
  unfold finT
  by_cases h0 : st.1.e = 0
  · rw [if_pos h0]
  · rw [if_neg h0]
    have : st.1.fin = st.1.e := by unfold RS.fin; rw [if_neg h0]
    rw [this, if_neg h0]
-- the end: §1 the number of the error, §2 the facts of what is owned
set_option maxRecDepth 100000 in
set_option maxHeartbeats 8000000 in
theorem rdecode_ok (form s : ByteArray) (hf : form.size ≤ 1099511627776) (hs : s.size ≤ 1099511627776) {w0 w : World} {F : List Assn} (H0 : St w0 w F) :
    Calls Try.prog 13 #[.string form, .string s] w (DecE w0 F (decodeF form s)) := by
  obtain ⟨o, ho⟩ : ∃ o, o = decodeF form s := ⟨_, rfl⟩
  rw [← ho]
  have HO := Lib.hid ho; clear ho
  have H1 := H0.alloc #[.slice none 0 0, .slice none 0 0] 32
  obtain ⟨b4, hb4⟩ : ∃ b, b = w.heap.size := ⟨_, rfl⟩
  go_enter Try.func13, Try.ntmps13
  go_upto_region 1 with (fail)
  rw [← hb4] at H1 ⊢
  generalize w.alloc (.cells #[.slice none 0 0, .slice none 0 0] 32) = w1 at *
  clear hb4 H0
  go_wp2_with (fail)
  refine (refcheck_ok form hf H1).mono ?_
  rintro x w2 ⟨rfl, H2⟩
  clear H1
  obtain ⟨pf, hpf⟩ : ∃ pf, pf = parseF form := ⟨_, rfl⟩
  rw [← hpf]
  have HPF := Lib.hid hpf; clear hpf
  cases pf with
  | none =>
    have hno : o = .error 1 := by rw [HO.out, decodeF, ← HPF.out]
    have HNO := Lib.hid hno; clear hno
    rw [show (none : Option Tr).isSome = false from rfl]
    go_wp2_with (with_reducible refine hold_store (ty := 32) ?_)
    unfold Hold
    with_reducible refine wpList_store_st (ty := 32) (H2) (#[.slice none 0 0, .slice none 0 0]) ?_ ?_ ?_ ?_ ?_ ?_ ?_
    rfl
    rfl
    rfl
    rfl
    kernel_rfl
    rfl
    intro w9 H9
    go_wp2_with (fail)
    refine bodyPost_ret (results_cell1r rfl _ _ b4 32 #[.slice none 0 0, .slice none 0 0] (0, 0) _ rfl H9.block Try.underlying32 rfl (by kernel_rfl)) rfl ?_
    rw [HNO.out]
    exact ⟨rfl, H9.tail⟩
  | some t =>
  rw [show (some t : Option Tr).isSome = true from rfl]
  have hoT : o = decodeT t s := by rw [HO.out, decodeF, ← HPF.out]
  have HOT := Lib.hid hoT; clear hoT HO
  by_cases hz : s.size ≤ 65536
  rotate_left 1
  · have hzI : (s.size : Int) > 65536 := by omega
    have hno : o = .error 2 := by rw [HOT.out, decodeT, if_pos (by omega)]
    have HNO := Lib.hid hno; clear hno
    go_wp2_with (with_reducible refine hold_store (ty := 32) ?_)
    unfold Hold
    with_reducible refine wpList_store_st (ty := 32) (H2) (#[.slice none 0 0, .slice none 0 0]) ?_ ?_ ?_ ?_ ?_ ?_ ?_
    rfl
    rfl
    rfl
    rfl
    kernel_rfl
    rfl
    intro w9 H9
    go_wp2_with (fail)
    refine bodyPost_ret (results_cell1r rfl _ _ b4 32 #[.slice none 0 0, .slice none 0 0] (0, 0) _ rfl H9.block Try.underlying32 rfl (by kernel_rfl)) rfl ?_
    rw [HNO.out]
    exact ⟨rfl, H9.tail⟩
  have hzI : ¬ (s.size : Int) > 65536 := by omega
  obtain ⟨hf1, e, hpr⟩ := parse_pr HPF.out.symm
  have hsg := (parseF_wf HPF.out.symm).2
  have HPR := Lib.hid hpr; clear hpr
  have H3 := (H2.alloc #[.slice none 0 0, .slice none 0 0] 32).alloc #[.string s, .int .i64 0, .int .i64 0] 61
  simp only [World.size_alloc] at H3
  obtain ⟨b6, hb6⟩ : ∃ b, b = w2.heap.size := ⟨_, rfl⟩
  obtain ⟨b7, hb7⟩ : ∃ b, b = w2.heap.size + 1 := ⟨_, rfl⟩
  go_upto_region 7 with (fail)
  rw [← hb7] at H3 ⊢
  rw [← hb6] at H3 ⊢
  generalize (w2.alloc (.cells #[.slice none 0 0, .slice none 0 0] 32)).alloc (.cells #[.string s, .int .i64 0, .int .i64 0] 61) = w3 at *
  clear hb6 hb7 H2
  have HR := (H3.shutRf (i := 0) (s := s) (Nat.zero_le _) (by rw [ByteArray.extract_zero_size]))
  have HV : RvS w0 w3 (Pt b4 #[.slice none 0 0, .slice none 0 0] 32 :: F) b6 b7 s (⟨s, 0⟩, [], []) :=
    ⟨none, 0, none, 0, (((HR.nilRow 9 1).nilRow 3 1).ord 4 [3, 2, 0, 1])⟩
  clear HR H3
  have htk := rtaker_ok form hf (t.sg + 1) t (form.size + 1) 0 0 e b6 b7 s (⟨s, 0⟩, [], []) w0 w3 _ (Nat.lt_succ_self _) (by omega) (Nat.zero_le _) HPR.out (by omega) rfl (by dsimp only; omega) (by
    dsimp only [List.length_nil]
    have : t.sg * (1 + s.size) ≤ 1000 * (1 + 65536) := Nat.mul_le_mul hsg (by omega)
    omega) HV
  go_wp2_with (fail)
  refine htk.mono ?_
  clear htk HV
  rintro x w4 ⟨⟨nr, rfl⟩, st, hst, AN, cN, AT, cT, H4⟩
  have hno := decodeT_fin hz hst
  rw [← HOT.out] at hno
  have HNO := Lib.hid hno
  clear hst hno
  obtain ⟨fi, hfi⟩ : ∃ x, x = st.1.fin := ⟨_, rfl⟩
  have hend := refend_ok b7 s st.1 (by omega) H4.r2
  rw [← hfi] at HNO hend
  have HFI := Lib.hid hfi; clear hfi
  go_wp2_with (fail)
  refine hend.mono ?_
  clear hend
  rintro x w5 ⟨rfl, nd, rfl⟩
  have H5 := H4.drewN nd
  generalize w4.drewN nd = w5 at *
  clear H4
  by_cases h0 : fi = 0
  · subst h0
    have hno : o = .ok st.2 := by rw [HNO.out]; rfl
    have HNO := Lib.hid hno; clear hno
    have k0 := H5.cell 0 rfl
    have k1 := H5.cell 1 rfl
    go_wp2_with (with_reducible refine hold_store (ty := 32) ?_)
    unfold Hold
    with_reducible refine wpList_store_st (ty := 32) ((H5.ord 5 [4, 0, 1, 2, 3])) (#[.slice AN st.2.1.length cN, .slice AT st.2.2.length cT]) ?_ ?_ ?_ ?_ ?_ ?_ ?_
    rfl
    rfl
    rfl
    rfl
    kernel_rfl
    rfl
    intro w9 H9
    go_wp2_with (fail)
    refine bodyPost_ret (results_cell1r rfl _ _ b4 32 #[.slice AN st.2.1.length cN, .slice AT st.2.2.length cT] (0, 0) _ rfl H9.block Try.underlying32 rfl (by kernel_rfl)) rfl ?_
    rw [HNO.out]
    exact ⟨AN, cN, AT, cT, rfl, H9.tail.tail.tail⟩
  · have hne : (fi != 0) = true := bne_iff_ne.2 h0
    have hno : o = .error fi := by rw [HNO.out, if_neg h0]
    have HNO := Lib.hid hno; clear hno h0
    go_wp2_with (with_reducible refine hold_store (ty := 32) ?_)
    unfold Hold
    with_reducible refine wpList_store_st (ty := 32) ((H5.ord 5 [4, 0, 1, 2, 3])) (#[.slice none 0 0, .slice none 0 0]) ?_ ?_ ?_ ?_ ?_ ?_ ?_
    rfl
    rfl
    rfl
    rfl
    kernel_rfl
    rfl
    intro w9 H9
    go_wp2_with (fail)
    refine bodyPost_ret (results_cell1r rfl _ _ b4 32 #[.slice none 0 0, .slice none 0 0] (0, 0) _ rfl H9.block Try.underlying32 rfl (by kernel_rfl)) rfl ?_
    rw [HNO.out]
    exact ⟨rfl, H9.tail.tail.tail.tail.tail⟩
set_option maxRecDepth 100000 in
set_option maxHeartbeats 4000000 in
theorem same_ok (N : List Int) (T : List ByteArray) (AN BN AT BT : Option Addr) (cN dN cT dT : Nat) (hN : N.length ≤ 1099511627776) (hT : T.length ≤ 1099511627776) {w0 w : World} {F : List Assn} (h1 : RdI w AN N) (h2 : RdS w AT T) (h3 : RdI w BN N) (h4 : RdS w BT T) (H : St w0 w F) :
    Calls Try.prog 14 #[.agg #[.slice AN N.length cN, .slice AT T.length cT], .agg #[.slice BN N.length dN, .slice BT T.length dT]] w fun x w' => x = .returned (.bool true) ∧ St w0 w' F := by
  obtain ⟨n, hn⟩ : ∃ n, n = N.length := ⟨_, rfl⟩
  obtain ⟨m, hm⟩ : ∃ m, m = T.length := ⟨_, rfl⟩
  rw [← hn] at hN ⊢
  rw [← hm] at hT ⊢
  have HNL := Lib.hid hn; have HML := Lib.hid hm
  have R1 := Lib.hid h1; have R2 := Lib.hid h2; have R3 := Lib.hid h3; have R4 := Lib.hid h4
  clear hn hm h1 h2 h3 h4
  have H1 := ((St.init w).alloc #[.slice AN n cN, .slice AT m cT] 26).alloc #[.slice BN n dN, .slice BT m dT] 32
  simp only [World.size_alloc] at H1
  obtain ⟨b2, hb2⟩ : ∃ b, b = w.heap.size := ⟨_, rfl⟩
  obtain ⟨b3, hb3⟩ : ∃ b, b = w.heap.size + 1 := ⟨_, rfl⟩
  suffices hh : Calls Try.prog 14 #[.agg #[.slice AN n cN, .slice AT m cT], .agg #[.slice BN n dN, .slice BT m dT]] w fun x w' => x = .returned (.bool true) ∧ Below w.heap.size w w' by
    exact hh.mono fun x w' h => ⟨h.1, H.keep h.2⟩
  clear H
  go_enter Try.func14, Try.ntmps14
  go_upto_region 1 with (fail)
  rw [← hb3] at H1 ⊢
  rw [← hb2] at H1 ⊢
  generalize (w.alloc (.cells #[.slice AN n cN, .slice AT m cT] 26)).alloc (.cells #[.slice BN n dN, .slice BT m dT] 32) = w1 at *
  clear hb2 hb3
  have p0 := H1.r2.cell 0 rfl
  have p1 := H1.r2.cell 1 rfl
  have q0 := H1.cell 0 rfl
  have q1 := H1.cell 1 rfl
  go_wp2_with (fail)
  clear p0 p1 q0 q1
  go_loopw [5] (fun a wr => ∃ j : Nat, j ≤ n ∧ a = .int .i64 j ∧ St w wr [Pt b3 #[.slice BN n dN, .slice BT m dT] 32, Pt b2 #[.slice AN n cN, .slice AT m cT] 26]) (fun a _ => n - (intOf a).toNat)
  case atStart => exact ⟨0, Nat.zero_le _, rfl, H1⟩
  case round =>
    clear H1
    obtain ⟨j, hj, rfl, H1⟩ := hrel
    have p0 := H1.r2.cell 0 rfl
    have q0 := H1.cell 0 rfl
    by_cases hlt : j < n
    · have hltI : (j : Int) < n := by omega
      obtain ⟨x, hx⟩ : ∃ x, N[j]? = some x := ⟨_, List.getElem?_eq_getElem (by have := HNL.out; omega)⟩
      obtain ⟨g1, o1, rfl, e1⟩ := R1.out j x hx
      obtain ⟨g2, o2, rfl, e2⟩ := R3.out j x hx
      rw [← H1.old (by exact World.block_lt_of_cell? w _ e1)] at e1
      rw [← H1.old (by exact World.block_lt_of_cell? w _ e2)] at e2
      clear hx
      go_wp2_with (fail)
      go_quiet (fail)
      go_wp2_with (fail)
      go_roundw
      case rel => exact ⟨j + 1, by omega, by go_num, H1.drewN _⟩
      case measure => simp [intOf]; omega
    · have hltI : ¬ (j : Int) < n := by omega
      go_wp2_with (fail)
      clear p0 q0
      go_loopw [6] (fun a wr => ∃ j : Nat, j ≤ m ∧ a = .int .i64 j ∧ St w wr [Pt b3 #[.slice BN n dN, .slice BT m dT] 32, Pt b2 #[.slice AN n cN, .slice AT m cT] 26]) (fun a _ => m - (intOf a).toNat)
      case atStart => exact ⟨0, Nat.zero_le _, rfl, H1⟩
      case round =>
        clear H1
        obtain ⟨i, hi, rfl, H1⟩ := hrel
        have p1 := H1.r2.cell 1 rfl
        have q1 := H1.cell 1 rfl
        by_cases hlt : i < m
        · have hltI : (i : Int) < m := by omega
          obtain ⟨x, hx⟩ : ∃ x, T[i]? = some x := ⟨_, List.getElem?_eq_getElem (by have := HML.out; omega)⟩
          obtain ⟨g1, o1, rfl, e1⟩ := R2.out i x hx
          obtain ⟨g2, o2, rfl, e2⟩ := R4.out i x hx
          rw [← H1.old (by exact World.block_lt_of_cell? w _ e1)] at e1
          rw [← H1.old (by exact World.block_lt_of_cell? w _ e2)] at e2
          clear hx
          go_wp2_with (fail)
          go_quiet (fail)
          go_wp2_with (fail)
          go_roundw
          case rel => exact ⟨i + 1, by omega, by go_num, H1.drewN _⟩
          case measure => simp [intOf]; omega
        · have hltI : ¬ (i : Int) < m := by omega
          go_wp2_with (fail)
          go_ret
          exact ⟨rfl, H1.below⟩
end Go.Proofs.Ytpmhjjfcipjnoaa

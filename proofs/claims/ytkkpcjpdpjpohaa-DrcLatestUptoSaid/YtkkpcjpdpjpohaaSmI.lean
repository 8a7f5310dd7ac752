/- Layer 2: Decode. -/
import Derived.Test.YtkkpcjpdpjpohaaSmG
namespace Go.Proofs.Ytkkpcjpdpjpohaa
open Go.RowKit

theorem results_sc {P : Program} {fn : Func} {p t : Tmp} {ty ty2 : TypeId} (h : fn.results = #[.cell p ty, .cell t ty2]) (tmps : Array Value) (w : World) (g g2 : Nat) (T : TypeId) (cs : Array Value) (fr : Nat × Nat) (d d2 : TypeDesc) (v2 : Value)
    (hp : tmps.getD p undef = .pointer (some ⟨g, 0, none⟩)) (ht : tmps.getD t undef = .pointer (some ⟨g2, 0, none⟩)) (hg : w.heap[g]? = some (.cells cs T fr))
    (hu : P.underlying ty = some d) (hd : (match d with | .struct _ | .array _ _ => true | _ => false) = true) (hi : (P.info? ty).map (·.size) = some cs.size)
    (hu2 : P.underlying ty2 = some d2) (hd2 : (match d2 with | .struct _ | .array _ _ => true | _ => false) = false) (h2 : w.cell? ⟨g2, 0, none⟩ = some v2) :
    (results fn tmps).run P w = .ok (.tuple #[.agg cs, v2]) w := by
  have hp' : tmps[p]?.getD undef = .pointer (some ⟨g, 0, none⟩) := by simpa using hp
  have ht' : tmps[t]?.getD undef = .pointer (some ⟨g2, 0, none⟩) := by simpa using ht
  simp [results, h, hp', ht', asAddr, run_loadVar_row w g T ty cs fr d hg hu hd hi, run_loadVar_cell hu2 hd2 w _ v2 h2]
def decEnd (p : Except Int TS) : Except Int (List Int × List ByteArray) := match p with
  | .error e => .error e
  | .ok st => if st.1.fin = 0 then .ok st.2 else .error st.1.fin
/-- how 'Decode' ends -/
def DecE (w0 : World) (F : List Assn) (o : Except Int (List Int × List ByteArray)) (x : Ending) (w' : World) : Prop := match o with
  | .error e => x = .returned (.tuple #[.agg #[.slice none 0 0, .slice none 0 0], .int .i64 e]) ∧ St w0 w' F
  | .ok v => ∃ A c B d, x = .returned (.tuple #[.agg #[.slice A v.1.length c, .slice B v.2.length d], .int .i64 0]) ∧ St w0 w' (Row 3 1 A v.1.length c (ivs v.1) :: Row 9 1 B v.2.length d (svs v.2) :: F)
theorem dleft0 {tmps : Array Value} {b4 b5 : Nat} {cs : Array Value} {e : Int} (h4 : tmps.getD 4 undef = .pointer (some ⟨b4, 0, none⟩)) (h5 : tmps.getD 5 undef = .pointer (some ⟨b5, 0, none⟩)) (hcs : cs.size = 2) {w0 w' : World} {F G : List Assn} (H : St w0 w' (Pt b5 #[.int .i64 e] 65 :: Pt b4 cs 64 :: G)) {o : Except Int (List Int × List ByteArray)} (ho : ∀ w'', St w0 w'' G → DecE w0 F o (.returned (.tuple #[.agg cs, .int .i64 e])) w'') :
    Leaves Try.prog Try.f19 tmps (DecE w0 F o) [] .returning w' := by
  refine ⟨_, results_sc rfl tmps w' b4 b5 64 cs (0, 0) _ _ _ h4 h5 H.r2.block Try.underlying64 rfl (by rw [hcs]; kernel_rfl) Try.underlying65 rfl (H.cell 0 rfl), ?_⟩
  exact ho _ H.tail.tail
theorem dleft {tmps : Array Value} {b4 b5 : Nat} {cs : Array Value} {e : Int} (h4 : tmps.getD 4 undef = .pointer (some ⟨b4, 0, none⟩)) (h5 : tmps.getD 5 undef = .pointer (some ⟨b5, 0, none⟩)) (hcs : cs.size = 2) {w0 w' : World} {F G : List Assn} (H : St w0 w' (Pt b5 #[.int .i64 e] 65 :: Pt b4 cs 64 :: G)) {o : Except Int (List Int × List ByteArray)} (ho : ∀ w'', St w0 w'' G → DecE w0 F o (.returned (.tuple #[.agg cs, .int .i64 e])) w'') :
    Leaves Try.prog Try.f19 tmps (DecE w0 F o) (toCatch b5) .returning w' := by
  refine leaves_cons (by simp) rfl ?_
  refine (catch_idle b5 w').mono ?_
  rintro x u w'' ⟨rfl, rfl, hw⟩
  subst hw
  exact dleft0 h4 h5 hcs H ho
theorem dcaught {tmps : Array Value} {b4 b5 : Nat} {ve : Value} {e : Int} (h4 : tmps.getD 4 undef = .pointer (some ⟨b4, 0, none⟩)) (h5 : tmps.getD 5 undef = .pointer (some ⟨b5, 0, none⟩)) {w0 w' : World} {F G : List Assn} (H : St w0 w' (Pt b5 #[ve] 65 :: Pt b4 #[.slice none 0 0, .slice none 0 0] 64 :: G)) {o : Except Int (List Int × List ByteArray)} (ho : ∀ w'', St w0 w'' G → DecE w0 F o (.returned (.tuple #[.agg #[.slice none 0 0, .slice none 0 0], .int .i64 e])) w'') :
    Leaves Try.prog Try.f19 tmps (DecE w0 F o) (toCatch b5) (.panicking [{ v := threw e, recovered := false }]) w' := by
  refine leaves_cons (by simp) rfl ?_
  refine (catch_ok b5 ve e [] H).mono ?_
  rintro x u w'' ⟨rfl, rfl, H2⟩
  exact dleft0 h4 h5 rfl H2 ho
theorem region_quiet {P : Program} {id : Nat} {ops : Array Oper} {dr : Bool} {Q : Exit → Act → World → Prop} {a : Act} {w : World} (h : (Code.region id ops dr).wp P (fun e a w => (∀ c, e ≠ .panic c) ∧ Q e a w) a w) : (Code.region id ops dr).wp P Q a w := Code.wp_mono (fun _ _ _ h => h.2) h
set_option maxRecDepth 100000 in
set_option maxHeartbeats 8000000 in
theorem decode_ok (form s : ByteArray) (hf : form.size ≤ 1099511627776) (hs : s.size ≤ 1099511627776) {w0 w : World} {F : List Assn} (H0 : St w0 w F) :
    Calls Try.prog 19 #[.string form, .string s] w (DecE w0 F (decodeF form s)) := by
  have hmf : ∀ (fn : Fn) (first cap : Array Value) (w : World), (Instr.makeFunc fn first cap).run Try.prog w = .ok (.func fn first cap) w := fun _ _ _ _ => rfl
  have H1 := (H0.alloc #[.slice none 0 0, .slice none 0 0] 64).alloc #[.int .i64 0] 65
  simp only [World.size_alloc] at H1
  obtain ⟨b4, hb4⟩ : ∃ b, b = w.heap.size := ⟨_, rfl⟩
  obtain ⟨b5, hb5⟩ : ∃ b, b = w.heap.size + 1 := ⟨_, rfl⟩
  obtain ⟨o, ho⟩ : ∃ o, o = decodeF form s := ⟨_, rfl⟩
  rw [← ho]
  have HO := Lib.hid ho; clear ho
  go_enter_defers Try.func19, Try.ntmps19
  go_upto_region 1 with (fail)
  rw [← hb5] at H1 ⊢
  rw [← hb4] at H1 ⊢
  generalize (w.alloc (.cells #[.slice none 0 0, .slice none 0 0] 64)).alloc (.cells #[.int .i64 0] 65) = w1 at *
  clear hb4 hb5 H0
  have hp := parse_ok form hf H1
  obtain ⟨pf, hpf⟩ : ∃ pf, pf = parseF form := ⟨_, rfl⟩
  rw [← hpf] at hp
  have HPF := Lib.hid hpf
  clear hpf
  go_wp2_with (fail)
  refine hp.mono ?_
  clear hp
  intro x w2 hx
  cases pf with
  | none =>
    obtain ⟨rfl, H2⟩ := hx
    have p0 := H2.cell 0 rfl
    have f0 := H2.frozen 0
    go_upto_region 2 with (fail)
    have H3 := H2.set 0 (.int .i64 1)
    generalize w2.setCell ⟨b5, 0, none⟩ (.int .i64 1) = w3 at *
    clear p0 f0 H1 H2
    have p0 := H3.cell 0 rfl
    go_upto_region 3 with (fail)
    have H4 := H3.drew
    refine region_quiet ?_
    refine wp_region_held_drew (S := fun w' => w'.cell? ⟨b5, 0, none⟩ = some (.int .i64 1)) (by kernel_rfl) (H4.cell 0 rfl) (fun hHeld => ?_)
    generalize w3.drew = w4 at *
    clear p0 H3
    refine rg_take (i := 0) (v := ?_) rfl (by kernel_rfl) (by kernel_rfl) (by kernel_rfl) (fun _ _ _ h => absurd rfl (h.1 _)) (Or.inl ⟨by kernel_rfl, ?_⟩) (by assumption) ?_
    rotate_left 1
    · intro w' hSw
      try dsimp only at hSw
      go_simp
      first | done | with_reducible rfl
    try simp only [Act.put, List.setIfInBounds_toArray, List.set_cons_zero, List.set_cons_succ]
    refine rg_take (i := 1) (v := ?_) rfl (by kernel_rfl) (by kernel_rfl) (by kernel_rfl) (fun _ _ _ h => absurd rfl (h.1 _)) (Or.inl ⟨by kernel_rfl, ?_⟩) (by assumption) ?_
    rotate_left 1
    · intro w' hSw
      try dsimp only at hSw
      go_simp
      first | done | with_reducible rfl
    try simp only [Act.put, List.setIfInBounds_toArray, List.set_cons_zero, List.set_cons_succ]
    refine wpAnyH_ready (rs := [2]) (by kernel_rfl) (by simp) ?_
    refine rg_cons rfl (fun K hK => ?_) AllReadyH.nil
    refine step_store_st 64 _ _ rfl rfl (H4.r2) (#[.slice none 0 0, .slice none 0 0]) rfl rfl rfl (by kernel_rfl) rfl ?_
    intro w5 H5
    refine hK.out _ _ (H5.r2.cell 0 rfl) (fun hHeld' => ?_)
    clear hK hHeld
    have hHeld := hHeld'
    clear hHeld'
    try simp only [Act.put, List.setIfInBounds_toArray, List.set_cons_zero, List.set_cons_succ]
    refine wpAnyH_ready (rs := [3]) (by kernel_rfl) (by simp) ?_
    refine rg_cons rfl (fun K hK => ?_) AllReadyH.nil
    have p0 := H5.r2.cell 0 rfl
    have f0 := H5.r2.frozen 0
    have H6 := H5.r2.set 0 (.int .i64 1)
    go_simp
    refine hK.out _ _ (H6.cell 0 rfl) (fun hHeld' => ?_)
    clear hK hHeld
    have hHeld := hHeld'
    clear hHeld'
    try simp only [Act.put, List.setIfInBounds_toArray, List.set_cons_zero, List.set_cons_succ]
    refine wpAnyH_done (by kernel_rfl) ⟨fun _ h => (by cases h), ?_⟩ _
    go_wp2_with (fail)
    show Leaves Try.prog Try.f19 _ (DecE w0 F o) [] .returning _
    rw [HO.out, show decodeF form s = .error 1 from by unfold decodeF; rw [← HPF.out]]
    exact dleft0 rfl rfl rfl H6 (fun w'' K => ⟨rfl, K⟩)
  | some t =>
    obtain ⟨A, c, vs, L, rfl, HH, H2⟩ := hx
    have HH := Lib.hid HH
    have H3 := H2.perm (L' := Pt b5 #[.int .i64 0] 65 :: Row 112 3 A t.len c vs :: (L ++ (Pt b4 #[.slice none 0 0, .slice none 0 0] 64 :: F))) ((List.Perm.cons _ List.perm_middle).trans (List.Perm.swap ..))
    have hodec : o = decodeT t s := by rw [HO.out]; unfold decodeF; rw [← HPF.out]
    obtain ⟨hwf, hsg⟩ := parseF_wf HPF.out.symm
    have hlen := t.len_sg
    have HO := Lib.hid hodec; have HWF := Lib.hid hwf
    clear hodec hwf H1 H2
    obtain ⟨n, hn⟩ : ∃ n, n = t.len := ⟨_, rfl⟩
    rw [← hn] at hlen H3 ⊢
    have HN := Lib.hid hn; clear hn
    have p0 := H3.cell 0 rfl
    have f0 := H3.frozen 0
    go_upto_region 2 with (fail)
    have H4 := H3.set 0 (.int .i64 0)
    have hrd := RdT.of t (pre := []) (j := 0) rfl HH.out (H4.perm (L' := Row 112 3 A n c ([] ++ vs) :: (L ++ (Pt b5 #[.int .i64 0] 65 :: Pt b4 #[.slice none 0 0, .slice none 0 0] 64 :: F))) ((List.Perm.swap ..).trans (List.Perm.cons _ List.perm_middle.symm)))
    have H4 := St.drop (L := L) ((H4.perm (L' := Row 112 3 A n c vs :: (L ++ (Pt b5 #[.int .i64 0] 65 :: Pt b4 #[.slice none 0 0, .slice none 0 0] 64 :: F))) ((List.Perm.swap ..).trans (List.Perm.cons _ List.perm_middle.symm))).tail)
    have HRD := Lib.hid hrd; clear hrd
    generalize w2.setCell ⟨b5, 0, none⟩ (.int .i64 0) = w3 at *
    clear p0 f0 H3
    have p0 := H4.cell 0 rfl
    by_cases hl : 65536 < s.size
    · have hl' : (s.size : Int) > 65536 := by omega
      have hno : o = .error 2 := by rw [HO.out]; exact if_pos hl
      have HNO := Lib.hid hno; clear hno hl
      go_wp2_with (with_reducible refine hold_store (ty := 64) ?_)
      unfold Hold
      with_reducible refine wpList_store_st (ty := 64) (H4.r2) (#[.slice none 0 0, .slice none 0 0]) ?_ ?_ ?_ ?_ ?_ ?_ ?_
      rfl
      rfl
      rfl
      rfl
      kernel_rfl
      rfl
      intro w5 H5
      have p1 := H5.r2.cell 0 rfl
      have f1 := H5.r2.frozen 0
      have H6 := H5.r2.set 0 (.int .i64 2)
      go_wp2_with (fail)
      show Leaves Try.prog Try.f19 _ (DecE w0 F o) [] .returning _
      rw [HNO.out]
      exact dleft0 rfl rfl rfl H6 (fun w'' K => ⟨rfl, K⟩)
    have hl' : ¬ (s.size : Int) > 65536 := by omega
    have hlz : s.size ≤ 65536 := by omega
    obtain ⟨p, hp⟩ : ∃ p, p = tk t none (⟨s, 0⟩, [], []) := ⟨_, rfl⟩
    have hno : o = decEnd p := by rw [HO.out, hp]; exact if_neg hl
    have HNO := Lib.hid hno; have HP := Lib.hid hp
    clear hno hl hp HO
    go_wp2_with (fail)
    refine (open_ok s (St.init w3)).mono ?_
    rintro x w4 ⟨rb, rfl, K1⟩
    clear p0 hl'
    have K2 := K1.alloc #[.pointer (some ⟨rb, 0, none⟩), .slice none 0 0, .slice none 0 0] 83
    obtain ⟨bt, hbt⟩ : ∃ b, b = w4.heap.size := ⟨_, rfl⟩
    go_upto_region 7 with (fail)
    rw [← hbt] at K2 ⊢
    generalize w4.alloc (.cells #[.pointer (some ⟨rb, 0, none⟩), .slice none 0 0, .slice none 0 0] 83) = w5 at *
    clear hbt K1
    have TK : TkS w3 w5 [] bt rb (⟨s, 0⟩, [], []) := ⟨none, 0, none, 0, ((K2.nilRow 9 1).nilRow 3 1).r4.r4⟩
    have htk := taker_ok (t.sg + 1) t A c bt rb (⟨s, 0⟩, [], []) w3 w5 [] (Nat.lt_succ_self _) HWF.out HRD.out rfl (by dsimp only; omega) (by
      have : t.sg * (1 + s.size) ≤ 1000 * 65537 := Nat.mul_le_mul hsg (by omega)
      show 0 + 0 + t.sg * (1 + s.size) ≤ _
      omega) TK
    rw [← HP.out, ← HN.out] at htk
    clear K2 TK
    go_wp2_with (fail)
    refine htk.mono ?_
    clear htk
    intro x w6 hx
    cases p with
    | error e =>
      obtain ⟨rfl, st, TK⟩ := hx
      obtain ⟨G, K⟩ := TK.any
      have H5 := St.drop (L := G) (H4.frame K)
      show Leaves Try.prog Try.f19 _ (DecE w0 F o) (toCatch b5) (.panicking [{ v := threw e, recovered := false }]) _
      rw [HNO.out]
      exact dcaught rfl rfl H5 (fun w'' K => ⟨rfl, K⟩)
    | ok st =>
      obtain ⟨rfl, AN, cN, AT, cT, K⟩ := hx
      have H5 := H4.frame K
      simp only [List.cons_append, List.nil_append] at H5
      clear K H4
      obtain ⟨r, N, T⟩ := st
      dsimp only at H5
      have HNO' : Hid (o = if r.fin = 0 then .ok (N, T) else .error r.fin) := HNO.out
      clear HNO
      have he := end_ok rb r H5.r2
      obtain ⟨fin, hfin⟩ : ∃ x, x = r.fin := ⟨_, rfl⟩
      rw [← hfin] at he HNO'
      clear hfin
      have c0 := H5.cell 0 rfl
      go_wp2_with (fail)
      refine he.mono ?_
      clear he
      rintro x w7 ⟨rfl, rfl⟩
      by_cases hf : fin = 0
      · have hf' : (fin != 0) = false := by rw [hf]; rfl
        have hno : o = .ok (N, T) := by rw [HNO'.out, if_pos hf]
        have HF := Lib.hid hf; have HNO := Lib.hid hno
        clear hf hno HNO'
        obtain ⟨nN, hnN⟩ : ∃ x, x = N.length := ⟨_, rfl⟩
        obtain ⟨nT, hnT⟩ : ∃ x, x = T.length := ⟨_, rfl⟩
        rw [← hnN, ← hnT] at H5
        have HNN := Lib.hid hnN; have HNT := Lib.hid hnT; clear hnN hnT
        have c1 := H5.cell 1 rfl
        have c2 := H5.cell 2 rfl
        go_wp2_with (with_reducible refine hold_store (ty := 64) ?_)
        unfold Hold
        with_reducible refine wpList_store_st (ty := 64) (H5.r6) (#[.slice AN nN cN, .slice AT nT cT]) ?_ ?_ ?_ ?_ ?_ ?_ ?_
        rfl
        rfl
        rfl
        rfl
        kernel_rfl
        rfl
        intro w8 H8
        clear c0 c1 c2
        have p1 := H8.r6.cell 0 rfl
        have f1 := H8.r6.frozen 0
        have H9 := H8.r6.set 0 (.int .i64 0)
        go_wp2_with (fail)
        show Leaves Try.prog Try.f19 _ (DecE w0 F o) (toCatch b5) .returning _
        rw [HNO.out]
        refine dleft (G := Row 3 1 AN nN cN (ivs N) :: Row 9 1 AT nT cT (svs T) :: F) rfl rfl rfl (H9.r3.tail.r3.tail) (fun w'' K => ?_)
        rw [HNN.out, HNT.out] at *
        exact ⟨AN, cN, AT, cT, rfl, K⟩
      · have hf' : (fin != 0) = true := bne_iff_ne.2 hf
        have hno : o = .error fin := by rw [HNO'.out, if_neg hf]
        have HF := Lib.hid hf; have HNO := Lib.hid hno
        clear hf hno HNO'
        go_wp2_with (with_reducible refine hold_store (ty := 64) ?_)
        unfold Hold
        with_reducible refine wpList_store_st (ty := 64) (H5.r6) (#[.slice none 0 0, .slice none 0 0]) ?_ ?_ ?_ ?_ ?_ ?_ ?_
        rfl
        rfl
        rfl
        rfl
        kernel_rfl
        rfl
        intro w8 H8
        clear c0
        have p1 := H8.r6.cell 0 rfl
        have f1 := H8.r6.frozen 0
        have H9 := H8.r6.set 0 (.int .i64 fin)
        go_wp2_with (fail)
        show Leaves Try.prog Try.f19 _ (DecE w0 F o) (toCatch b5) .returning _
        rw [HNO.out]
        exact dleft (G := F) rfl rfl rfl (H9.r3.tail.r3.tail.r3.tail.r3.tail) (fun w'' K => ⟨rfl, K⟩)
end Go.Proofs.Ytkkpcjpdpjpohaa

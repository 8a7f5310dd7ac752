/- Layer 2: Encode. -/
import Derived.Test.YtkkpcjpdpjpohaaSmQ
import Derived.Test.YtkkpcjpdpjpohaaSmI
namespace Go.Proofs.Ytkkpcjpdpjpohaa
open Go.RowKit

/-- how 'Encode' ends -/
def EncE (w0 : World) (F : List Assn) (o : Except Int ByteArray) (x : Ending) (w' : World) : Prop := match o with
  | .error e => x = .returned (.tuple #[.string ⟨#[]⟩, .int .i64 e]) ∧ St w0 w' F
  | .ok s => x = .returned (.tuple #[.string s, .int .i64 0]) ∧ St w0 w' F
theorem eleft0 {tmps : Array Value} {b5 : Nat} {sv : Value} {e : Int} (h4 : tmps.getD 4 undef = sv) (h5 : tmps.getD 5 undef = .pointer (some ⟨b5, 0, none⟩)) {w0 w' : World} {F G : List Assn} (H : St w0 w' (Pt b5 #[.int .i64 e] 65 :: G)) {o : Except Int ByteArray} (ho : ∀ w'', St w0 w'' G → EncE w0 F o (.returned (.tuple #[sv, .int .i64 e])) w'') :
    Leaves Try.prog Try.f23 tmps (EncE w0 F o) [] .returning w' := by
  refine ⟨_, results_tc rfl tmps w' b5 _ _ h5 Try.underlying65 rfl (H.cell 0 rfl), ?_⟩
  rw [h4]
  exact ho _ H.tail
theorem eleft {tmps : Array Value} {b5 : Nat} {sv : Value} {e : Int} (h4 : tmps.getD 4 undef = sv) (h5 : tmps.getD 5 undef = .pointer (some ⟨b5, 0, none⟩)) {w0 w' : World} {F G : List Assn} (H : St w0 w' (Pt b5 #[.int .i64 e] 65 :: G)) {o : Except Int ByteArray} (ho : ∀ w'', St w0 w'' G → EncE w0 F o (.returned (.tuple #[sv, .int .i64 e])) w'') :
    Leaves Try.prog Try.f23 tmps (EncE w0 F o) (toCatch b5) .returning w' := by
  refine leaves_cons (by simp) rfl ?_
  refine (catch_idle b5 w').mono ?_
  rintro x u w'' ⟨rfl, rfl, hw⟩
  subst hw
  exact eleft0 h4 h5 H ho
theorem ecaught {tmps : Array Value} {b5 : Nat} {sv ve : Value} {e : Int} (h4 : tmps.getD 4 undef = sv) (h5 : tmps.getD 5 undef = .pointer (some ⟨b5, 0, none⟩)) {w0 w' : World} {F G : List Assn} (H : St w0 w' (Pt b5 #[ve] 65 :: G)) {o : Except Int ByteArray} (ho : ∀ w'', St w0 w'' G → EncE w0 F o (.returned (.tuple #[sv, .int .i64 e])) w'') :
    Leaves Try.prog Try.f23 tmps (EncE w0 F o) (toCatch b5) (.panicking [{ v := threw e, recovered := false }]) w' := by
  refine leaves_cons (by simp) rfl ?_
  refine (catch_ok b5 ve e [] H).mono ?_
  rintro x u w'' ⟨rfl, rfl, H2⟩
  exact eleft0 h4 h5 H2 ho
def encEnd (r : LR) : Except Int ByteArray := match r with
  | .error e => .error e
  | .ok r => if r.2.1 ≠ [] ∨ r.2.2 ≠ [] then .error 4 else if 65536 < r.1.length then .error 2 else .ok (mkb r.1)
theorem encEnd_full (l : List UInt8) : encEnd (.ok (l, [], [])) = if 65536 < l.length then .error 2 else .ok (mkb l) := by
  unfold encEnd
  dsimp only
  rw [if_neg (fun h => h.elim (fun h => h rfl) (fun h => h rfl))]
-- not all was laid: §1 §2 unused
set_option maxRecDepth 100000 in
set_option maxHeartbeats 8000000 in
theorem encode_ok (form : ByteArray) (hf : form.size ≤ 1099511627776) (AN : Option Addr) (cN : Nat) (AT : Option Addr) (cT : Nat) (N : List Int) (T : List ByteArray) (hN : N.length ≤ 1099511627776) (hT : T.length ≤ 1099511627776) (hTs : ∀ x ∈ T, x.size ≤ 1099511627776) (hwg : wgt (N, T) ≤ 1125899906842624)
    {w0 w : World} {F : List Assn} (hrN : RdI w AN N) (hrT : RdS w AT T) (H0 : St w0 w F) :
    Calls Try.prog 23 #[.string form, .agg #[.slice AN N.length cN, .slice AT T.length cT]] w (EncE w0 F (encodeF form N T)) := by
  have hmf : ∀ (fn : Fn) (first cap : Array Value) (w : World), (Instr.makeFunc fn first cap).run Try.prog w = .ok (.func fn first cap) w := fun _ _ _ _ => rfl
  obtain ⟨nN, hnN⟩ : ∃ nN, nN = N.length := ⟨_, rfl⟩
  obtain ⟨nT, hnT⟩ : ∃ nT, nT = T.length := ⟨_, rfl⟩
  rw [← hnN, ← hnT]
  have HNN := Lib.hid hnN; have HNT := Lib.hid hnT; have HRN := Lib.hid hrN; have HRT := Lib.hid hrT; have HTS := Lib.hid hTs; have HWG := Lib.hid hwg
  have K0 := (St.init w).alloc #[.slice AN nN cN, .slice AT nT cT] 64
  have K1 := K0.alloc #[.int .i64 0] 65
  simp only [World.size_alloc] at K1
  clear hnN hnT hrN hrT hTs hwg K0
  obtain ⟨b3, hb3⟩ : ∃ b, b = w.heap.size := ⟨_, rfl⟩
  obtain ⟨b5, hb5⟩ : ∃ b, b = w.heap.size + 1 := ⟨_, rfl⟩
  obtain ⟨o, ho⟩ : ∃ o, o = encodeF form N T := ⟨_, rfl⟩
  rw [← ho]
  have HO := Lib.hid ho; clear ho
  go_enter_defers Try.func23, Try.ntmps23
  go_upto_region 1 with (fail)
  rw [← hb5] at K1 ⊢
  rw [← hb3] at K1 ⊢
  generalize (w.alloc (.cells #[.slice AN nN cN, .slice AT nT cT] 64)).alloc (.cells #[.int .i64 0] 65) = w1 at *
  clear hb3 hb5
  have hp := parse_ok form hf K1
  obtain ⟨pf, hpf⟩ : ∃ pf, pf = parseF form := ⟨_, rfl⟩
  rw [← hpf] at hp
  have HPF := Lib.hid hpf
  clear hpf
  go_wp2_with (fail)
  refine hp.mono ?_
  clear hp
  intro x w2 hx
  cases pf with
  | none =>
    obtain ⟨rfl, H2⟩ := hx
    have p0 := H2.cell 0 rfl
    have f0 := H2.frozen 0
    go_upto_region 2 with (fail)
    have H3 := H2.set 0 (.int .i64 1)
    generalize w2.setCell ⟨b5, 0, none⟩ (.int .i64 1) = w3 at *
    clear p0 f0 K1 H2
    have p0 := H3.cell 0 rfl
    go_upto_region 3 with (fail)
    have H4 := H3.drew
    refine region_quiet ?_
    refine wp_region_held_drew (S := fun w' => w'.cell? ⟨b5, 0, none⟩ = some (.int .i64 1)) (by kernel_rfl) (H4.cell 0 rfl) (fun hHeld => ?_)
    generalize w3.drew = w4 at *
    clear p0 H3
    refine rg_take (i := 0) (v := ?_) rfl (by kernel_rfl) (by kernel_rfl) (by kernel_rfl) (fun _ _ _ h => absurd rfl (h.1 _)) (Or.inl ⟨by kernel_rfl, ?_⟩) (by assumption) ?_
    rotate_left 1
    · intro w' hSw
      try dsimp only at hSw
      go_simp
      first | done | with_reducible rfl
    try simp only [Act.put, List.setIfInBounds_toArray, List.set_cons_zero, List.set_cons_succ]
    refine rg_take (i := 1) (v := ?_) rfl (by kernel_rfl) (by kernel_rfl) (by kernel_rfl) (fun _ _ _ h => absurd rfl (h.1 _)) (Or.inl ⟨by kernel_rfl, ?_⟩) (by assumption) ?_
    rotate_left 1
    · intro w' hSw
      try dsimp only at hSw
      go_simp
      first | done | with_reducible rfl
    try simp only [Act.put, List.setIfInBounds_toArray, List.set_cons_zero, List.set_cons_succ]
    refine wpAnyH_ready (rs := [2]) (by kernel_rfl) (by simp) ?_
    refine rg_cons rfl (fun K hK => ?_) AllReadyH.nil
    have p0 := H4.cell 0 rfl
    have f0 := H4.frozen 0
    have H6 := H4.set 0 (.int .i64 1)
    go_simp
    refine hK.out _ _ (H6.cell 0 rfl) (fun hHeld' => ?_)
    clear hK hHeld
    have hHeld := hHeld'
    clear hHeld'
    try simp only [Act.put, List.setIfInBounds_toArray, List.set_cons_zero, List.set_cons_succ]
    refine wpAnyH_done (by kernel_rfl) ⟨fun _ h => (by cases h), ?_⟩ _
    go_wp2_with (fail)
    show Leaves Try.prog Try.f23 _ (EncE w0 F o) [] .returning _
    rw [HO.out, show encodeF form N T = .error 1 from by unfold encodeF; rw [← HPF.out]]
    have H7 := H0.frame (F := F) H6
    simp only [List.cons_append, List.nil_append] at H7
    exact eleft0 rfl rfl H7 (fun w'' K => ⟨rfl, K.tail⟩)
  | some t =>
    obtain ⟨A, c, vs, L, rfl, HH, H2⟩ := hx
    have HH := Lib.hid HH
    have H3 := H2.perm (L' := Pt b5 #[.int .i64 0] 65 :: Row 112 3 A t.len c vs :: (L ++ [Pt b3 #[.slice AN nN cN, .slice AT nT cT] 64])) ((List.Perm.cons _ List.perm_middle).trans (List.Perm.swap ..))
    have hodec : o = encEnd (ly t none (N, T)) := by rw [HO.out]; unfold encodeF; rw [← HPF.out]; rfl
    obtain ⟨hwf, hsg⟩ := parseF_wf HPF.out.symm
    have hfu := parseF_full HPF.out.symm
    have hlen := t.len_sg
    have HO := Lib.hid hodec; have HWF := Lib.hid hwf; have HFU := Lib.hid hfu
    clear hodec hwf hfu K1 H2
    obtain ⟨n, hn⟩ : ∃ n, n = t.len := ⟨_, rfl⟩
    rw [← hn] at hlen H3 ⊢
    have HN := Lib.hid hn; clear hn
    have p0 := H3.cell 0 rfl
    have f0 := H3.frozen 0
    go_upto_region 2 with (fail)
    have H4 := H3.set 0 (.int .i64 0)
    have hrd := RdT.of t (pre := []) (j := 0) rfl HH.out (H4.perm (L' := Row 112 3 A n c ([] ++ vs) :: (L ++ (Pt b5 #[.int .i64 0] 65 :: [Pt b3 #[.slice AN nN cN, .slice AT nT cT] 64]))) ((List.Perm.swap ..).trans (List.Perm.cons _ List.perm_middle.symm)))
    have H4 := St.drop (L := L) ((H4.perm (L' := Row 112 3 A n c vs :: (L ++ (Pt b5 #[.int .i64 0] 65 :: [Pt b3 #[.slice AN nN cN, .slice AT nT cT] 64]))) ((List.Perm.swap ..).trans (List.Perm.cons _ List.perm_middle.symm))).tail)
    have HRD := Lib.hid hrd; clear hrd
    generalize w2.setCell ⟨b5, 0, none⟩ (.int .i64 0) = w3 at *
    clear p0 f0 H3
    have p0 := H4.cell 0 rfl
    have q0 := H4.r2.cell 0 rfl
    have q1 := H4.r2.cell 1 rfl
    obtain ⟨p, hp⟩ : ∃ p : LP, p = ⟨AN, cN, AT, cT, N, T⟩ := ⟨_, rfl⟩
    have hgood : p.good w3 := by
      subst hp
      exact ⟨HRN.out.keep H4, HRT.out.keep H4, by have := HNN.out; show N.length ≤ _; omega, by have := HNT.out; show T.length ≤ _; omega, HTS.out⟩
    have K2 := (St.init w3).alloc #[.slice none 0 0, .slice AN nN cN, .slice AT nT cT, .int .i64 0, .int .i64 0, .int .i64 0] 100
    obtain ⟨b7, hb7⟩ : ∃ b, b = w3.heap.size := ⟨_, rfl⟩
    have hmk : (#[.slice none 0 0, .slice AN nN cN, .slice AT nT cT, .int .i64 0, .int .i64 0, .int .i64 0] : Array Value) = p.mk' 0 0 0 (.slice none 0 0) := by subst hp; rw [HNN.out, HNT.out]; rfl
    have HGD := Lib.hid hgood; have HPP := Lib.hid hp; have HMK := Lib.hid hmk
    clear hgood hp hmk
    go_upto_region 5 with (fail)
    rw [← hb7] at K2 ⊢
    generalize w3.alloc (.cells #[.slice none 0 0, .slice AN nN cN, .slice AT nT cT, .int .i64 0, .int .i64 0, .int .i64 0] 100) = w4 at *
    clear hb7 p0 q0 q1
    rw [HMK.out] at K2
    have KL : LyS w3 w4 [] b7 p 0 0 [] := ⟨[], fun _ => rfl, by simp, St.shutWr (A := none) (n := 0) (c := 0) rfl ((K2.nilRow 5 1).r2)⟩
    have hly := layer_ok (t.sg + 1) t A c b7 p 0 0 [] w3 w4 [] (Nat.lt_succ_self _) (by omega) HWF.out HFU.out HRD.out HGD.out (by rw [HPP.out]; show 0 + wgt (N, T) ≤ _; have := HWG.out; omega) KL
    obtain ⟨r, hr⟩ : ∃ r, r = ly t none (p.N.drop 0, p.T.drop 0) := ⟨_, rfl⟩
    rw [← hr, ← HN.out] at hly
    have HO2 : Hid (o = encEnd r) := by show _ = _; rw [HO.out, hr, HPP.out]; rfl
    clear hr HO KL K2
    go_wp2_with (fail)
    refine hly.mono ?_
    clear hly
    intro x w5 hx
    cases r with
    | error e =>
      obtain ⟨rfl, n9, t9, B9, KL⟩ := hx
      obtain ⟨G, K⟩ := KL.any
      have H5 := St.drop (L := G) (H4.frame K)
      have H7 := H0.frame (F := F) H5
      simp only [List.cons_append, List.nil_append] at H7
      show Leaves Try.prog Try.f23 _ (EncE w0 F o) (toCatch b5) (.panicking [{ v := threw e, recovered := false }]) _
      rw [HO2.out]
      exact ecaught (sv := .string ⟨#[]⟩) rfl rfl H7 (fun w'' K => ⟨rfl, K.tail⟩)
    | ok r =>
      obtain ⟨rfl, ni, ti, hv, W, hWB, hWz, K⟩ := hx
      have H5 := H4.frame K
      rw [List.singleton_append] at H5
      obtain ⟨rl, rv⟩ := r
      dsimp only at hv H5 hWB
      rw [List.nil_append] at hWB H5
      have H7 := H0.frame (F := F) H5
      simp only [List.cons_append, List.nil_append] at H7
      obtain ⟨AW, cW, H8⟩ := H7.openWr
      have c3 : w5.cell? ⟨b7, 3, none⟩ = some (.int .i64 ni) := H8.cell 3 rfl
      have c4 : w5.cell? ⟨b7, 4, none⟩ = some (.int .i64 ti) := H8.cell 4 rfl
      have c5 : w5.cell? ⟨b7, 5, none⟩ = some (.int .i64 rl.length) := H8.cell 5 rfl
      have q0 := H8.r4.cell 0 rfl
      have q1 := H8.r4.cell 1 rfl
      have p0 := H8.r3.cell 0 rfl
      have f0 := H8.r3.frozen 0
      have hrv : rv = (N.drop ni, T.drop ti) := by rw [hv, HPP.out]
      have HRV := Lib.hid hrv; have HWB := Lib.hid hWB
      clear hv hrv hWB K H4 H5
      by_cases h1 : ni < nN
      · have h1D : decide (ni < nN) = true := decide_eq_true h1
        have hno : o = .error 4 := by
          rw [HO2.out, HRV.out]
          refine if_pos (.inl ?_)
          intro h
          have := congrArg List.length h
          rw [List.length_drop, List.length_nil] at this
          have := HNN.out
          omega
        have HNO := Lib.hid hno; clear hno h1
        go_upto_region 7 with (fail)
        go_quiet (fail)
        have H9 := H8.drewN nq
        have p0 := H9.r3.cell 0 rfl
        have f0 := H9.r3.frozen 0
        have H10 := H9.r3.set 0 (.int .i64 4)
        go_wp2_with (fail)
        show Leaves Try.prog Try.f23 _ (EncE w0 F o) (toCatch b5) .returning _
        rw [HNO.out]
        exact eleft (G := F) (sv := .string ⟨#[]⟩) rfl rfl (H10.r2.tail.r2.tail.r2.tail) (fun w'' K => ⟨rfl, K⟩)
      have h1D : decide (ni < nN) = false := decide_eq_false h1
      by_cases h2 : ti < nT
      · have h2D : decide (ti < nT) = true := decide_eq_true h2
        have hno : o = .error 4 := by
          rw [HO2.out, HRV.out]
          refine if_pos (.inr ?_)
          intro h
          have := congrArg List.length h
          rw [List.length_drop, List.length_nil] at this
          have := HNT.out
          omega
        have HNO := Lib.hid hno; clear hno h1 h2
        go_upto_region 7 with (fail)
        go_quiet (fail)
        have H9 := H8.drewN nq
        have p0 := H9.r3.cell 0 rfl
        have f0 := H9.r3.frozen 0
        have H10 := H9.r3.set 0 (.int .i64 4)
        go_wp2_with (fail)
        show Leaves Try.prog Try.f23 _ (EncE w0 F o) (toCatch b5) .returning _
        rw [HNO.out]
        exact eleft (G := F) (sv := .string ⟨#[]⟩) rfl rfl (H10.r2.tail.r2.tail.r2.tail) (fun w'' K => ⟨rfl, K⟩)
      have h2D : decide (ti < nT) = false := decide_eq_false h2
      have hd1 : N.drop ni = [] := List.drop_eq_nil_of_le (by have := HNN.out; omega)
      have hd2 : T.drop ti = [] := List.drop_eq_nil_of_le (by have := HNT.out; omega)
      have hno : o = if 65536 < rl.length then .error 2 else .ok (mkb rl) := by
        rw [HO2.out, HRV.out, hd1, hd2]
        exact encEnd_full rl
      have HNO := Lib.hid hno; clear hno h1 h2 hd1 hd2
      go_upto_region 7 with (fail)
      go_quiet (fail)
      have H9 := H8.drewN nq
      go_upto_region 9 with (fail)
      generalize w5.drewN nq = w6 at *
      clear c3 c4 c5 q0 q1 p0 f0
      have c5 : w6.cell? ⟨b7, 5, none⟩ = some (.int .i64 rl.length) := H9.cell 5 rfl
      have p0 := H9.r3.cell 0 rfl
      have f0 := H9.r3.frozen 0
      by_cases h3 : 65536 < rl.length
      · have h3I : (rl.length : Int) > 65536 := by omega
        have HN2 : Hid (o = .error 2) := by show _ = _; rw [HNO.out]; exact if_pos h3
        clear h3
        have H10 := H9.r3.set 0 (.int .i64 2)
        go_wp2_with (fail)
        show Leaves Try.prog Try.f23 _ (EncE w0 F o) (toCatch b5) .returning _
        rw [HN2.out]
        exact eleft (G := F) (sv := .string ⟨#[]⟩) rfl rfl (H10.r2.tail.r2.tail.r2.tail) (fun w'' K => ⟨rfl, K⟩)
      · have h3I : ¬ (rl.length : Int) > 65536 := by omega
        have hW : W = rl := HWB.out (by omega)
        have HN2 : Hid (o = .ok (mkb rl)) := by show _ = _; rw [HNO.out]; exact if_neg h3
        clear h3
        have HWr : St w0 w6 (Lyr b7 p ni ti rl.length W :: Pt b5 #[.int .i64 0] 65 :: Pt b3 #[.slice AN nN cN, .slice AT nT cT] 64 :: F) := St.shutWr rfl H9
        have hby := bytes_ok b7 _ (p.hmk ni ti rl.length) 100 W HWr
        rw [hW] at hby
        have HW := Lib.hid hW; clear hW
        go_wp2_with (fail)
        refine hby.mono ?_
        clear hby
        rintro x w7 ⟨rfl, rfl⟩
        have H10 := H9.r3.set 0 (.int .i64 0)
        go_wp2_with (fail)
        show Leaves Try.prog Try.f23 _ (EncE w0 F o) (toCatch b5) .returning _
        rw [HN2.out]
        exact eleft (G := F) (sv := .string (mkb rl)) rfl rfl (H10.r2.tail.r2.tail.r2.tail) (fun w'' K => ⟨rfl, K⟩)
end Go.Proofs.Ytkkpcjpdpjpohaa

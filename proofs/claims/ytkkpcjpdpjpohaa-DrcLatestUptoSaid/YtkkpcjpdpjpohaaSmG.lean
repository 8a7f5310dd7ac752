/- Layer 2: a value is taken. -/
import Derived.Test.YtkkpcjpdpjpohaaSmF
namespace Go.Proofs.Ytkkpcjpdpjpohaa
open Go.RowKit

/-- how 'take' ends -/
def TkE (w0 : World) (F : List Assn) (bt rb : Nat) (o : Except Int TS) (x : Ending) (w' : World) : Prop := match o with
  | .error e => x = pan e ∧ ∃ st, TkS w0 w' F bt rb st
  | .ok st' => x = .returned (.tuple #[]) ∧ TkS w0 w' F bt rb st'
def TakeOK (k : Nat) : Prop := ∀ (t : Tr) (A : Option Addr) (c bt rb : Nat) (st : TS) (w0 w : World) (F : List Assn), t.sg < k → t.wf false → RdT w0 t A 0 → st.1.e = 0 → st.1.s.size ≤ 1048576 →
  st.2.1.length + st.2.2.length + t.sg * (1 + st.1.s.size) ≤ 1099511627776 → TkS w0 w F bt rb st →
  Calls Try.prog 27 #[.pointer (some ⟨bt, 0, none⟩), .slice A t.len c] w (TkE w0 F bt rb (tk t none st))
theorem Tr.len_sg : ∀ t : Tr, t.len ≤ t.sg
  | .nil => Nat.le_refl _
  | .sign _ _ a t => by have := Tr.len_sg t; simp only [Tr.len, Tr.sg]; omega
  | .arm _ _ a t => by have := Tr.len_sg t; simp only [Tr.len, Tr.sg]; omega
theorem bnd_next {g h M : Nat} {st st2 : TS} (H : Grow g st st2) (hb : st.2.1.length + st.2.2.length + (g + h) * (1 + st.1.s.size) ≤ M) : st2.2.1.length + st2.2.2.length + h * (1 + st2.1.s.size) ≤ M := by
  obtain ⟨s1, e1, X, Y, x1, y1, l1⟩ := H
  rw [x1, y1, List.length_append, List.length_append]
  have h1 : g * (1 + (st.1.s.size - st2.1.s.size)) ≤ g * (1 + st.1.s.size) := Nat.mul_le_mul_left _ (by omega)
  have h2 : h * (1 + st2.1.s.size) ≤ h * (1 + st.1.s.size) := Nat.mul_le_mul_left _ (by omega)
  rw [Nat.add_mul] at hb
  omega
-- §1 why it is wrong, §2 the taker with b5 behind it
-- §1 what is there now, §2 why, §3 the taker with b5 behind it
-- a number behind which all is done: §1 what was read, §2 the number, §3 why the step is so, §4 the reader's e6
-- a text in a region that draws: §1 the region, §2 the reader's contract, §3 what is left of the reader, §4 the text, §5 why the step is so, §6 e6
theorem opaque4 (b : Nat) (r : RS) (most : Int) (hs : r.s.size ≤ 1099511627776) (_ : most ≤ 9223372036854775807) {w0 w : World} {F : List Assn} (H : St w0 w (Rdr b r :: F)) :
    Calls Try.prog 43 #[.pointer (some ⟨b, 0, none⟩), .int .i64 most] w fun x w' => x = .returned (.string (r.opqe most).1) ∧ St w0 w' (Rdr b (r.opqe most).2 :: F) := opaque_ok b r most hs H
theorem bnd_le {M n m h h' z : Nat} (hh : h' ≤ h) (hb : n + m + h * (1 + z) ≤ M) : n + m + h' * (1 + z) ≤ M := Nat.le_trans (Nat.add_le_add_left (Nat.mul_le_mul_right _ hh) _) hb
theorem arm0_tk (f : Tr) (st : TS) : tk (.arm 0 false f .nil) (some 0) st = tk f none st := by rw [tk, if_pos (.inr rfl)]
-- the arm of 0, as it lies
-- the form of the arm is taken: §1 what is there, §2 the taker with b5 behind it, §3 e = 0, §4 size, §5 bound
theorem bind_nil (X : Except Int TS) : (X.bind fun st => tk .nil none st) = X := by
  cases X with
  | error e => rfl
  | ok S => show tk .nil none S = _; rw [tk]
def rdSize (rb : Nat) (w : World) : Nat := match w.cell? ⟨rb, 0, none⟩ with | some (.string s) => s.size | _ => 0
theorem TkS.rdSize {w0 w : World} {F : List Assn} {bt rb : Nat} {st : TS} (H : TkS w0 w F bt rb st) : rdSize rb w = st.1.s.size := by
  obtain ⟨AN, cN, AT, cT, H⟩ := H
  unfold Go.Proofs.Ytkkpcjpdpjpohaa.rdSize
  rw [H.r2.cell 0 rfl]; rfl
theorem bnd_star {g z M : Nat} {st S : TS} (H : Grow g st S) (hz : st.1.s.size + 4 = z) (hb : st.2.1.length + st.2.2.length + g * (1 + z) ≤ M) : S.2.1.length + S.2.2.length + g * (1 + S.1.s.size) ≤ M := by
  obtain ⟨s1, e1, X, Y, x1, y1, l1⟩ := H
  rw [x1, y1, List.length_append, List.length_append]
  have h1 : g * (1 + (st.1.s.size - S.1.s.size)) + g * (1 + S.1.s.size) ≤ g * (1 + z) := by
    rw [← Nat.mul_add]; exact Nat.mul_le_mul_left _ (by omega)
  omega
theorem bnd_first {N T h g z M : Nat} (hg : 1 + g ≤ h) (hb : N + T + h * (1 + z) ≤ M) : N + 1 + T + g * (1 + z) ≤ M := by
  have h1 : (1 + g) * (1 + z) ≤ h * (1 + z) := Nat.mul_le_mul_right _ hg
  rw [Nat.add_mul] at h1
  omega
theorem ivs_set (l : List Int) (i : Nat) (x : Int) : ivs (l.set i x) = (ivs l).set i (.int .i64 x) := by simp [ivs, List.map_set]
theorem pickT_sg : ∀ {a : Tr} {n : Int} {f : Tr}, pickT a n = some f → f.sg < a.sg
  | .nil, _, _, h => by simp [pickT] at h
  | .sign .., _, _, h => by simp [pickT] at h
  | .arm k y g t, n, f, h => by
    rw [pickT] at h
    split at h
    · injection h with h; subst h; simp only [Tr.sg]; omega
    · have := pickT_sg h; simp only [Tr.sg]; omega
set_option maxRecDepth 100000 in
set_option maxHeartbeats 16000000 in
theorem take_step (k : Nat) (IH : ∀ j, j < k → TakeOK j) : TakeOK k := by
  intro t0 A c bt rb st0 w0 w F hk hw hr he hz hb H
  obtain ⟨o, ho⟩ : ∃ o, o = tk t0 none st0 := ⟨_, rfl⟩
  rw [← ho]
  obtain ⟨N, hN⟩ : ∃ N, N = t0.len := ⟨_, rfl⟩
  have hNl : N ≤ 1099511627776 := by
    have h1 := t0.len_sg
    have h2 : t0.sg * 1 ≤ t0.sg * (1 + st0.1.s.size) := Nat.mul_le_mul_left _ (by omega)
    omega
  rw [← hN]
  have HO := Lib.hid ho; have HN := Lib.hid hN; have HW := Lib.hid hw; have HR := Lib.hid hr; have H0 := Lib.hid he; have HB := Lib.hid hb
  clear ho hN hw hr he hb
  go_enter Try.func27, Try.ntmps27
  go_wp2_with (fail)
  go_loopw [11] (fun i wr => ∃ (j : Nat) (u : Tr) (st1 : TS), j + u.len = N ∧ i = .int .i64 j ∧ Hid (o = tk u none st1) ∧ Hid (u.wf false) ∧ Hid (RdT w0 u A j) ∧ u.sg < k ∧ Hid (st1.1.e = 0) ∧ st1.1.s.size ≤ 1048576 ∧ Hid (st1.2.1.length + st1.2.2.length + u.sg * (1 + st1.1.s.size) ≤ 1099511627776) ∧ TkS w0 wr F bt rb st1) (fun i _ => N - (intOf i).toNat)
  case atStart => exact ⟨0, t0, st0, by rw [HN.out]; omega, rfl, HO.out, HW.out, HR.out, hk, H0.out, hz, HB.out, H⟩
  case round =>
    clear H HO HW HR H0 HB hk hz HN
    obtain ⟨j, u, st1, hju, rfl, HO, HW, HR, hsg, H0, hz1, HB, HT⟩ := hrel
    cases u with
    | nil =>
      have hj : j = N := by simpa [Tr.len] using hju
      have hlt : ¬ (j : Int) < N := by omega
      clear hju
      have HJ := Lib.hid hj; clear hj
      have hno : o = .ok st1 := by rw [HO.out, tk]
      have HNO := Lib.hid hno; clear hno
      go_wp2_with (fail)
      go_end0
      rw [HNO.out]
      exact ⟨rfl, HT⟩
    | arm k y a t => exact absurd HW.out (by simp [Tr.wf])
    | sign kk n a t =>
      have hlt : (j : Int) < N := by have : j + (t.len + 1) = N := hju; omega
      obtain ⟨G, HG⟩ := HT.any
      obtain ⟨⟨g, og, rfl, e0, e1, B, cB, e2, hrf⟩, hrt⟩ := RdT.keep HG _ _ _ HR.out
      obtain ⟨⟨g', og', hA', _, _, B', cB', e2', hrf'⟩, hrt'⟩ := HR.out
      injection hA' with hA'; injection hA' with h1 h2; subst h1 h2
      have hBB : B' = B ∧ cB' = cB := by
        have : wr.cell? ⟨g, og + (3 * j + 2), none⟩ = some (.slice B' a.len cB') := by rw [HG.old (World.block_lt_of_cell? w0 _ e2')]; exact e2'
        rw [e2] at this; injection this with this; injection this with h1 h2 h3; exact ⟨h1.symm, h3.symm⟩
      obtain ⟨rfl, rfl⟩ := hBB
      obtain ⟨hwk, hwn, hwa, hwf, hwt⟩ := HW.out
      rw [Nat.mul_comm 3 j] at e0 e1 e2
      rw [← Nat.add_assoc] at e1 e2
      have hjl : j + (t.len + 1) = N := hju
      have HRF := Lib.hid hrf'; have HRT := Lib.hid hrt'; have HWF := Lib.hid hwf; have HWT := Lib.hid hwt; have HWA := Lib.hid hwa
      have hOc : o = (tk (.sign kk n a .nil) none st1).bind (tk t none) := by rw [HO.out, tk_cons]
      have HO := Lib.hid hOc
      clear hrf hrt e2' hrf' hrt' HR HW hwf hwt hju hwa hOc HG
      obtain ⟨ki, hki⟩ : ∃ ki : Int, ki = (kk : Int) := ⟨_, rfl⟩
      obtain ⟨al, hal⟩ : ∃ al, al = a.len := ⟨_, rfl⟩
      rw [← hki] at e0
      have HKI := Lib.hid hki; clear hki
      rw [← hal] at e2
      have HAL := Lib.hid hal; clear hal
      have HT4 := HT.alloc #[.int .u8 ki, .int .i64 n, .slice B' al cB'] 112
      obtain ⟨b5, hb5⟩ : ∃ x, x = wr.heap.size := ⟨_, rfl⟩
      go_upto_region 3 with (fail)
      rw [← hb5] at HT4 ⊢
      generalize wr.alloc (.cells #[.int .u8 ki, .int .i64 n, .slice B' al cB'] 112) = w4 at *
      clear e0 e1 e2 hb5 HT
      obtain ⟨G5, HG5⟩ := HT4.front
      have k0 := HG5.cell 0 rfl
      go_upto_region 4 with (fail)
      clear k0 HG5
      obtain ⟨r, N1, T1⟩ := st1
      have he6 : r.e ≠ 6 := by rw [H0.out]; decide
      have HE6 := Lib.hid he6; clear he6
      have hz1 : r.s.size ≤ 1048576 := hz1
      have hNN : N1.length ≤ 1099511627776 := by have := HB.out; dsimp only at this; omega
      have hTT : T1.length ≤ 1099511627776 := by have := HB.out; dsimp only at this; omega
      have HWK := Lib.hid hwk; clear hwk
      by_cases e117 : kk = 117
      · have hki : ki = 117 := by rw [HKI.out, e117]; rfl
        subst hki
        have HK := Lib.hid e117; clear e117
        obtain ⟨AN, cN, AT, cT, HS⟩ := HT4
        have c0 := HS.cell 0 rfl
        go_wp2_with (fail)
        refine (uint_ok rb r (by omega) HS.r2).mono ?_
        rintro x w5 ⟨rfl, HS5⟩
        have HT : TkS w0 w5 _ bt rb ((r.nat 4).2, N1, T1) := ⟨AN, cN, AT, cT, HS5.r2⟩
        obtain ⟨p, hp⟩ : ∃ p, p = putN ((r.nat 4).1) ((r.nat 4).2, N1, T1) := ⟨_, rfl⟩
        have hnb := tnumber_ok bt rb ((r.nat 4).2, N1, T1) ((r.nat 4).1) (RS.nat_e6 r 4 HE6.out) (by have := HB.out; dsimp only at this ⊢; omega) HT
        rw [← hp] at hnb
        have HP := Lib.hid hp; clear hp
        go_wp2_with (fail)
        refine hnb.mono ?_
        clear hnb
        intro x w9 hx
        cases p with
        | error e =>
          obtain ⟨rfl, HT9⟩ := hx
          refine ⟨rfl, ?_⟩
          have hs1 : tk (.sign kk n a .nil) none (r, N1, T1) = .error _ := (by rw [tk, if_pos HK.out]; exact congrArg (·.bind fun st => tk .nil none st) HP.out.symm)
          rw [HO.out, hs1]
          exact ⟨rfl, _, (HT9).tailF⟩
        | ok S2 =>
          obtain ⟨rfl, HT9⟩ := hx
          have hs1 : tk (.sign kk n a .nil) none (r, N1, T1) = .ok (S2) := (by rw [tk, if_pos HK.out]; refine (congrArg (·.bind fun st => tk .nil none st) HP.out.symm).trans ?_; show tk .nil none S2 = _; rw [tk])
          have HG := Lib.hid (tk_grow _ _ _ _ hs1)
          have HNX : Hid (o = tk t none (S2)) := by show _ = _; rw [HO.out, hs1]; rfl
          clear hs1
          go_wp2_with (fail)
          go_roundw
          case rel =>
            have hg := HG.out
            exact ⟨j + 1, t, S2, by omega, by go_num, HNX.out, HWT.out, HRT.out, by have := hsg; simp only [Tr.sg] at this; omega, hg.err H0.out, Nat.le_trans hg.size hz1, bnd_next (g := 1 + a.sg) hg HB.out, (HT9).tailF⟩
          case measure => simp [intOf]; omega
      by_cases e113 : kk = 113
      · have hki : ki = 113 := by rw [HKI.out, e113]; rfl
        subst hki
        have HK := Lib.hid e113; clear e113
        obtain ⟨AN, cN, AT, cT, HS⟩ := HT4
        have c0 := HS.cell 0 rfl
        go_wp2_with (fail)
        refine (hyper_ok rb r (by omega) HS.r2).mono ?_
        rintro x w5 ⟨rfl, HS5⟩
        have HT : TkS w0 w5 _ bt rb ((r.nat 8).2, N1, T1) := ⟨AN, cN, AT, cT, HS5.r2⟩
        obtain ⟨p, hp⟩ : ∃ p, p = putN ((r.nat 8).1) ((r.nat 8).2, N1, T1) := ⟨_, rfl⟩
        have hnb := tnumber_ok bt rb ((r.nat 8).2, N1, T1) ((r.nat 8).1) (RS.nat_e6 r 8 HE6.out) (by have := HB.out; dsimp only at this ⊢; omega) HT
        rw [← hp] at hnb
        have HP := Lib.hid hp; clear hp
        go_wp2_with (fail)
        refine hnb.mono ?_
        clear hnb
        intro x w9 hx
        cases p with
        | error e =>
          obtain ⟨rfl, HT9⟩ := hx
          refine ⟨rfl, ?_⟩
          have hs1 : tk (.sign kk n a .nil) none (r, N1, T1) = .error _ := (by rw [tk, if_neg (by have := HK.out; omega), if_pos HK.out]; exact congrArg (·.bind fun st => tk .nil none st) HP.out.symm)
          rw [HO.out, hs1]
          exact ⟨rfl, _, (HT9).tailF⟩
        | ok S2 =>
          obtain ⟨rfl, HT9⟩ := hx
          have hs1 : tk (.sign kk n a .nil) none (r, N1, T1) = .ok (S2) := (by rw [tk, if_neg (by have := HK.out; omega), if_pos HK.out]; refine (congrArg (·.bind fun st => tk .nil none st) HP.out.symm).trans ?_; show tk .nil none S2 = _; rw [tk])
          have HG := Lib.hid (tk_grow _ _ _ _ hs1)
          have HNX : Hid (o = tk t none (S2)) := by show _ = _; rw [HO.out, hs1]; rfl
          clear hs1
          go_wp2_with (fail)
          go_roundw
          case rel =>
            have hg := HG.out
            exact ⟨j + 1, t, S2, by omega, by go_num, HNX.out, HWT.out, HRT.out, by have := hsg; simp only [Tr.sg] at this; omega, hg.err H0.out, Nat.le_trans hg.size hz1, bnd_next (g := 1 + a.sg) hg HB.out, (HT9).tailF⟩
          case measure => simp [intOf]; omega
      by_cases e98 : kk = 98
      · have hki : ki = 98 := by rw [HKI.out, e98]; rfl
        subst hki
        have HK := Lib.hid e98; clear e98
        obtain ⟨AN, cN, AT, cT, HS⟩ := HT4
        have c0 := HS.cell 0 rfl
        go_wp2_with (fail)
        refine (bool_ok rb r (by omega) HS.r2).mono ?_
        rintro x w5 ⟨rfl, HS5⟩
        have HT : TkS w0 w5 _ bt rb (r.bool.2, N1, T1) := ⟨AN, cN, AT, cT, HS5.r2⟩
        go_wp2_with (fail)
        refine (bit_ok _ _).mono ?_
        rintro x w6 ⟨rfl, rfl⟩
        obtain ⟨p, hp⟩ : ∃ p, p = putN (bitI r.bool.1) (r.bool.2, N1, T1) := ⟨_, rfl⟩
        have hnb := tnumber_ok bt rb (r.bool.2, N1, T1) (bitI r.bool.1) (RS.bool_e6 r HE6.out) (by have := HB.out; dsimp only at this ⊢; omega) HT
        rw [← hp] at hnb
        have HP := Lib.hid hp; clear hp
        go_wp2_with (fail)
        refine hnb.mono ?_
        clear hnb
        intro x w9 hx
        cases p with
        | error e =>
          obtain ⟨rfl, HT9⟩ := hx
          refine ⟨rfl, ?_⟩
          have hs1 : tk (.sign kk n a .nil) none (r, N1, T1) = .error _ := (by rw [tk, if_neg (by have := HK.out; omega), if_neg (by have := HK.out; omega), if_pos HK.out]; exact congrArg (·.bind fun st => tk .nil none st) HP.out.symm)
          rw [HO.out, hs1]
          exact ⟨rfl, _, (HT9).tailF⟩
        | ok S2 =>
          obtain ⟨rfl, HT9⟩ := hx
          have hs1 : tk (.sign kk n a .nil) none (r, N1, T1) = .ok (S2) := (by rw [tk, if_neg (by have := HK.out; omega), if_neg (by have := HK.out; omega), if_pos HK.out]; refine (congrArg (·.bind fun st => tk .nil none st) HP.out.symm).trans ?_; show tk .nil none S2 = _; rw [tk])
          have HG := Lib.hid (tk_grow _ _ _ _ hs1)
          have HNX : Hid (o = tk t none (S2)) := by show _ = _; rw [HO.out, hs1]; rfl
          clear hs1
          go_wp2_with (fail)
          go_roundw
          case rel =>
            have hg := HG.out
            exact ⟨j + 1, t, S2, by omega, by go_num, HNX.out, HWT.out, HRT.out, by have := hsg; simp only [Tr.sg] at this; omega, hg.err H0.out, Nat.le_trans hg.size hz1, bnd_next (g := 1 + a.sg) hg HB.out, (HT9).tailF⟩
          case measure => simp [intOf]; omega
      by_cases e111 : kk = 111
      · have hki : ki = 111 := by rw [HKI.out, e111]; rfl
        subst hki
        have HK := Lib.hid e111; clear e111
        obtain ⟨AN, cN, AT, cT, HS⟩ := HT4
        have c0 := HS.cell 0 rfl
        go_upto_region 11 with (fail)
        have HSd := HS.drew
        refine wp_region_held_drew (S := fun w' => w'.cell? ⟨bt, 0, none⟩ = some (.pointer (some ⟨rb, 0, none⟩)) ∧ w'.cell? ⟨b5, 1, none⟩ = some (.int .i64 n)) (by kernel_rfl) ⟨HSd.cell 0 rfl, HSd.r5.cell 1 rfl⟩ (fun hHeld => ?_)
        generalize w4.drew = w6 at *
        clear HS
        refine rg_take (i := 0) (v := ?_) rfl (by kernel_rfl) (by kernel_rfl) (by kernel_rfl) (fun _ _ _ h => h) (Or.inl ⟨by kernel_rfl, ?_⟩) (by assumption) ?_
        rotate_left 1
        · intro w' hSw
          try dsimp only at hSw
          go_simp
          first | done | with_reducible rfl
        try simp only [Act.put, List.setIfInBounds_toArray, List.set_cons_zero, List.set_cons_succ]
        refine rg_take (i := 1) (v := ?_) rfl (by kernel_rfl) (by kernel_rfl) (by kernel_rfl) (fun _ _ _ h => h) (Or.inl ⟨by kernel_rfl, ?_⟩) (by assumption) ?_
        rotate_left 1
        · intro w' hSw
          try dsimp only at hSw
          go_simp
          first | done | with_reducible rfl
        try simp only [Act.put, List.setIfInBounds_toArray, List.set_cons_zero, List.set_cons_succ]
        refine rg_take (i := 2) (v := ?_) rfl (by kernel_rfl) (by kernel_rfl) (by kernel_rfl) (fun _ _ _ h => h) (Or.inl ⟨by kernel_rfl, ?_⟩) (by assumption) ?_
        rotate_left 1
        · intro w' hSw
          try dsimp only at hSw
          go_simp
          first | done | with_reducible rfl
        try simp only [Act.put, List.setIfInBounds_toArray, List.set_cons_zero, List.set_cons_succ]
        refine rg_take (i := 3) (v := ?_) rfl (by kernel_rfl) (by kernel_rfl) (by kernel_rfl) (fun _ _ _ h => h) (Or.inl ⟨by kernel_rfl, ?_⟩) (by assumption) ?_
        rotate_left 1
        · intro w' hSw
          try dsimp only at hSw
          go_simp
          first | done | with_reducible rfl
        try simp only [Act.put, List.setIfInBounds_toArray, List.set_cons_zero, List.set_cons_succ]
        refine rg_take (i := 4) (v := ?_) rfl (by kernel_rfl) (by kernel_rfl) (by kernel_rfl) (fun _ _ _ h => h) (Or.inl ⟨by kernel_rfl, ?_⟩) (by assumption) ?_
        rotate_left 1
        · intro w' hSw
          try dsimp only at hSw
          go_simp
          first | done | with_reducible rfl
        try simp only [Act.put, List.setIfInBounds_toArray, List.set_cons_zero, List.set_cons_succ]
        refine rg_take (i := 5) (v := ?_) rfl (by kernel_rfl) (by kernel_rfl) (by kernel_rfl) (fun _ _ _ h => h) (Or.inl ⟨by kernel_rfl, ?_⟩) (by assumption) ?_
        rotate_left 1
        · intro w' hSw
          try dsimp only at hSw
          go_simp
          first | done | with_reducible rfl
        try simp only [Act.put, List.setIfInBounds_toArray, List.set_cons_zero, List.set_cons_succ]
        refine rg_take (i := 6) (v := ?_) rfl (by kernel_rfl) (by kernel_rfl) (by kernel_rfl) (fun _ _ _ h => h) (Or.inl ⟨by kernel_rfl, ?_⟩) (by assumption) ?_
        rotate_left 1
        · intro w' hSw
          try dsimp only at hSw
          go_simp
          first | done | with_reducible rfl
        try simp only [Act.put, List.setIfInBounds_toArray, List.set_cons_zero, List.set_cons_succ]
        refine wpAnyH_ready (rs := [7]) (by kernel_rfl) (by simp) ?_
        refine rg_cons rfl (fun K hK => ?_) AllReadyH.nil
        go_simp
        refine (opaque4 rb r n (by omega) (by omega) HSd.r2).mono ?_
        rintro x w5 ⟨rfl, HS5⟩
        refine hK.out _ _ ⟨HS5.r2.cell 0 rfl, HS5.r5.cell 1 rfl⟩ (fun hHeld' => ?_)
        clear hK hHeld
        have hHeld := hHeld'
        clear hHeld'
        try simp only [Act.put, List.setIfInBounds_toArray, List.set_cons_zero, List.set_cons_succ]
        have HT : TkS w0 w5 _ bt rb ((r.opqe n).2, N1, T1) := ⟨AN, cN, AT, cT, HS5.r2⟩
        obtain ⟨p, hp⟩ : ∃ p, p = putT ((r.opqe n).1) ((r.opqe n).2, N1, T1) := ⟨_, rfl⟩
        have hnb := ttext_ok bt rb ((r.opqe n).2, N1, T1) ((r.opqe n).1) (RS.opqe_e6 r n HE6.out) (by have := HB.out; dsimp only at this ⊢; omega) HT
        rw [← hp] at hnb
        have HP := Lib.hid hp; clear hp
        refine wpAnyH_ready (rs := [8]) (by kernel_rfl) (by simp) ?_
        refine rg_cons rfl (fun K hK => ?_) AllReadyH.nil
        go_simp
        refine hnb.mono ?_
        clear hnb
        intro x w9 hx
        cases p with
        | error e =>
          obtain ⟨rfl, HT9⟩ := hx
          refine ⟨rfl, ?_⟩
          have hs1 : tk (.sign kk n a .nil) none (r, N1, T1) = .error _ := (by rw [tk, if_neg (by have := HK.out; omega), if_neg (by have := HK.out; omega), if_neg (by have := HK.out; omega), if_pos HK.out]; exact congrArg (·.bind fun st => tk .nil none st) HP.out.symm)
          rw [HO.out, hs1]
          exact ⟨rfl, _, (HT9).tailF⟩
        | ok S2 =>
          obtain ⟨rfl, HT9⟩ := hx
          have HQ9 : w9.cell? ⟨bt, 0, none⟩ = some (.pointer (some ⟨rb, 0, none⟩)) ∧ w9.cell? ⟨b5, 1, none⟩ = some (.int .i64 n) := by
            obtain ⟨AN, cN, AT, cT, HS⟩ := HT9
            exact ⟨HS.cell 0 rfl, HS.r5.cell 1 rfl⟩
          refine hK.out _ _ HQ9 (fun hHeld' => ?_)
          clear hK hHeld
          have hHeld := hHeld'
          clear hHeld'
          try simp only [Act.put, List.setIfInBounds_toArray, List.set_cons_zero, List.set_cons_succ]
          refine wpAnyH_done (by kernel_rfl) ?_ _
          clear HQ9 hHeld
          have hs1 : tk (.sign kk n a .nil) none (r, N1, T1) = .ok (S2) := (by rw [tk, if_neg (by have := HK.out; omega), if_neg (by have := HK.out; omega), if_neg (by have := HK.out; omega), if_pos HK.out]; refine (congrArg (·.bind fun st => tk .nil none st) HP.out.symm).trans ?_; show tk .nil none S2 = _; rw [tk])
          have HG := Lib.hid (tk_grow _ _ _ _ hs1)
          have HNX : Hid (o = tk t none (S2)) := by show _ = _; rw [HO.out, hs1]; rfl
          clear hs1
          go_wp2_with (fail)
          go_roundw
          case rel =>
            have hg := HG.out
            exact ⟨j + 1, t, S2, by omega, by go_num, HNX.out, HWT.out, HRT.out, by have := hsg; simp only [Tr.sg] at this; omega, hg.err H0.out, Nat.le_trans hg.size hz1, bnd_next (g := 1 + a.sg) hg HB.out, (HT9).tailF⟩
          case measure => simp [intOf]; omega
      by_cases e102 : kk = 102
      · have hki : ki = 102 := by rw [HKI.out, e102]; rfl
        subst hki
        have HK := Lib.hid e102; clear e102
        obtain ⟨AN, cN, AT, cT, HS⟩ := HT4
        have c0 := HS.cell 0 rfl
        go_upto_region 13 with (fail)
        have HSd := HS.drew
        refine wp_region_held_drew (S := fun w' => w'.cell? ⟨bt, 0, none⟩ = some (.pointer (some ⟨rb, 0, none⟩)) ∧ w'.cell? ⟨b5, 1, none⟩ = some (.int .i64 n)) (by kernel_rfl) ⟨HSd.cell 0 rfl, HSd.r5.cell 1 rfl⟩ (fun hHeld => ?_)
        generalize w4.drew = w6 at *
        clear HS
        refine rg_take (i := 0) (v := ?_) rfl (by kernel_rfl) (by kernel_rfl) (by kernel_rfl) (fun _ _ _ h => h) (Or.inl ⟨by kernel_rfl, ?_⟩) (by assumption) ?_
        rotate_left 1
        · intro w' hSw
          try dsimp only at hSw
          go_simp
          first | done | with_reducible rfl
        try simp only [Act.put, List.setIfInBounds_toArray, List.set_cons_zero, List.set_cons_succ]
        refine rg_take (i := 1) (v := ?_) rfl (by kernel_rfl) (by kernel_rfl) (by kernel_rfl) (fun _ _ _ h => h) (Or.inl ⟨by kernel_rfl, ?_⟩) (by assumption) ?_
        rotate_left 1
        · intro w' hSw
          try dsimp only at hSw
          go_simp
          first | done | with_reducible rfl
        try simp only [Act.put, List.setIfInBounds_toArray, List.set_cons_zero, List.set_cons_succ]
        refine rg_take (i := 2) (v := ?_) rfl (by kernel_rfl) (by kernel_rfl) (by kernel_rfl) (fun _ _ _ h => h) (Or.inl ⟨by kernel_rfl, ?_⟩) (by assumption) ?_
        rotate_left 1
        · intro w' hSw
          try dsimp only at hSw
          go_simp
          first | done | with_reducible rfl
        try simp only [Act.put, List.setIfInBounds_toArray, List.set_cons_zero, List.set_cons_succ]
        refine rg_take (i := 3) (v := ?_) rfl (by kernel_rfl) (by kernel_rfl) (by kernel_rfl) (fun _ _ _ h => h) (Or.inl ⟨by kernel_rfl, ?_⟩) (by assumption) ?_
        rotate_left 1
        · intro w' hSw
          try dsimp only at hSw
          go_simp
          first | done | with_reducible rfl
        try simp only [Act.put, List.setIfInBounds_toArray, List.set_cons_zero, List.set_cons_succ]
        refine rg_take (i := 4) (v := ?_) rfl (by kernel_rfl) (by kernel_rfl) (by kernel_rfl) (fun _ _ _ h => h) (Or.inl ⟨by kernel_rfl, ?_⟩) (by assumption) ?_
        rotate_left 1
        · intro w' hSw
          try dsimp only at hSw
          go_simp
          first | done | with_reducible rfl
        try simp only [Act.put, List.setIfInBounds_toArray, List.set_cons_zero, List.set_cons_succ]
        refine rg_take (i := 5) (v := ?_) rfl (by kernel_rfl) (by kernel_rfl) (by kernel_rfl) (fun _ _ _ h => h) (Or.inl ⟨by kernel_rfl, ?_⟩) (by assumption) ?_
        rotate_left 1
        · intro w' hSw
          try dsimp only at hSw
          go_simp
          first | done | with_reducible rfl
        try simp only [Act.put, List.setIfInBounds_toArray, List.set_cons_zero, List.set_cons_succ]
        refine rg_take (i := 6) (v := ?_) rfl (by kernel_rfl) (by kernel_rfl) (by kernel_rfl) (fun _ _ _ h => h) (Or.inl ⟨by kernel_rfl, ?_⟩) (by assumption) ?_
        rotate_left 1
        · intro w' hSw
          try dsimp only at hSw
          go_simp
          first | done | with_reducible rfl
        try simp only [Act.put, List.setIfInBounds_toArray, List.set_cons_zero, List.set_cons_succ]
        refine wpAnyH_ready (rs := [7]) (by kernel_rfl) (by simp) ?_
        refine rg_cons rfl (fun K hK => ?_) AllReadyH.nil
        go_simp
        refine (fixed_ok rb r n (by omega) (by omega) HSd.r2).mono ?_
        rintro x w5 ⟨rfl, HS5⟩
        refine hK.out _ _ ⟨HS5.r2.cell 0 rfl, HS5.r5.cell 1 rfl⟩ (fun hHeld' => ?_)
        clear hK hHeld
        have hHeld := hHeld'
        clear hHeld'
        try simp only [Act.put, List.setIfInBounds_toArray, List.set_cons_zero, List.set_cons_succ]
        have HT : TkS w0 w5 _ bt rb ((r.fixed n).2, N1, T1) := ⟨AN, cN, AT, cT, HS5.r2⟩
        obtain ⟨p, hp⟩ : ∃ p, p = putT ((r.fixed n).1) ((r.fixed n).2, N1, T1) := ⟨_, rfl⟩
        have hnb := ttext_ok bt rb ((r.fixed n).2, N1, T1) ((r.fixed n).1) (RS.fixed_e6 r n HE6.out) (by have := HB.out; dsimp only at this ⊢; omega) HT
        rw [← hp] at hnb
        have HP := Lib.hid hp; clear hp
        refine wpAnyH_ready (rs := [8]) (by kernel_rfl) (by simp) ?_
        refine rg_cons rfl (fun K hK => ?_) AllReadyH.nil
        go_simp
        refine hnb.mono ?_
        clear hnb
        intro x w9 hx
        cases p with
        | error e =>
          obtain ⟨rfl, HT9⟩ := hx
          refine ⟨rfl, ?_⟩
          have hs1 : tk (.sign kk n a .nil) none (r, N1, T1) = .error _ := (by rw [tk, if_neg (by have := HK.out; omega), if_neg (by have := HK.out; omega), if_neg (by have := HK.out; omega), if_neg (by have := HK.out; omega), if_pos HK.out]; exact congrArg (·.bind fun st => tk .nil none st) HP.out.symm)
          rw [HO.out, hs1]
          exact ⟨rfl, _, (HT9).tailF⟩
        | ok S2 =>
          obtain ⟨rfl, HT9⟩ := hx
          have HQ9 : w9.cell? ⟨bt, 0, none⟩ = some (.pointer (some ⟨rb, 0, none⟩)) ∧ w9.cell? ⟨b5, 1, none⟩ = some (.int .i64 n) := by
            obtain ⟨AN, cN, AT, cT, HS⟩ := HT9
            exact ⟨HS.cell 0 rfl, HS.r5.cell 1 rfl⟩
          refine hK.out _ _ HQ9 (fun hHeld' => ?_)
          clear hK hHeld
          have hHeld := hHeld'
          clear hHeld'
          try simp only [Act.put, List.setIfInBounds_toArray, List.set_cons_zero, List.set_cons_succ]
          refine wpAnyH_done (by kernel_rfl) ?_ _
          clear HQ9 hHeld
          have hs1 : tk (.sign kk n a .nil) none (r, N1, T1) = .ok (S2) := (by rw [tk, if_neg (by have := HK.out; omega), if_neg (by have := HK.out; omega), if_neg (by have := HK.out; omega), if_neg (by have := HK.out; omega), if_pos HK.out]; refine (congrArg (·.bind fun st => tk .nil none st) HP.out.symm).trans ?_; show tk .nil none S2 = _; rw [tk])
          have HG := Lib.hid (tk_grow _ _ _ _ hs1)
          have HNX : Hid (o = tk t none (S2)) := by show _ = _; rw [HO.out, hs1]; rfl
          clear hs1
          go_wp2_with (fail)
          go_roundw
          case rel =>
            have hg := HG.out
            exact ⟨j + 1, t, S2, by omega, by go_num, HNX.out, HWT.out, HRT.out, by have := hsg; simp only [Tr.sg] at this; omega, hg.err H0.out, Nat.le_trans hg.size hz1, bnd_next (g := 1 + a.sg) hg HB.out, (HT9).tailF⟩
          case measure => simp [intOf]; omega
      by_cases e63 : kk = 63
      · have hki : ki = 63 := by rw [HKI.out, e63]; rfl
        subst hki
        have HK := Lib.hid e63; clear e63
        obtain ⟨AN, cN, AT, cT, HS⟩ := HT4
        have c0 := HS.cell 0 rfl
        obtain ⟨f, hf⟩ := HWA.out (.inl HK.out)
        have hRa := HRF.out
        rw [hf] at hRa
        obtain ⟨⟨ga, oa, hB', _, _, Bf, cf, ef, hrf⟩, _⟩ := hRa
        have hwff : f.wf false := by have := HWF.out; rw [hf] at this; exact this.2.1
        have hal1 : al = 1 := by rw [HAL.out, hf]; rfl
        have hsgf : a.sg = 1 + f.sg := by rw [hf]; rfl
        have hsg2 : f.sg + 1 < k := by have := hsg; simp only [Tr.sg] at this; omega
        have HF := Lib.hid hf; have HRf := Lib.hid hrf; have HWf := Lib.hid hwff; have HSGF := Lib.hid hsgf; have HEF := Lib.hid ef
        clear hf hrf hwff hsgf ef
        subst hB' hal1
        go_upto_region 15 with (fail)
        obtain ⟨q, hq⟩ : ∃ q, q = r.bool := ⟨_, rfl⟩
        have hbl := bool_ok rb r (by omega) HS.r2
        have hq6 := RS.bool_e6 r HE6.out
        rw [← hq] at hbl hq6
        obtain ⟨qb, qr⟩ := q
        dsimp only at hbl hq6
        obtain ⟨p, hp⟩ : ∃ p, p = putN (bitI qb) (qr, N1, T1) := ⟨_, rfl⟩
        have hst : tk (.sign kk n a .nil) none (r, N1, T1) = p.bind fun st => if qb = true then tk f none st else .ok st := by
          rw [tk, if_neg (by have := HK.out; omega), if_neg (by have := HK.out; omega), if_neg (by have := HK.out; omega), if_neg (by have := HK.out; omega), if_neg (by have := HK.out; omega), if_pos HK.out, ← hq, hp, HF.out]
          dsimp only
          rw [show (fun st : TS => if qb = true then tk (.arm 0 false f .nil) (some 0) st else .ok st) = fun st => if qb = true then tk f none st else .ok st from funext fun st => by rw [arm0_tk]]
          cases p with
          | error e => rw [← hp]; rfl
          | ok S2 =>
            rw [← hp]
            show Except.bind (if qb = true then tk f none S2 else .ok S2) _ = (if qb = true then tk f none S2 else .ok S2)
            generalize (if qb = true then tk f none S2 else .ok S2) = X
            cases X with
            | error e => rfl
            | ok S3 => show tk .nil none S3 = _; rw [tk]
        have HST := Lib.hid hst; have HQ := Lib.hid hq; have HQ6 := Lib.hid hq6
        clear hst hq hq6
        go_wp2_with (fail)
        refine hbl.mono ?_
        clear hbl
        rintro x w5 ⟨rfl, HS5⟩
        have HT : TkS w0 w5 _ bt rb (qr, N1, T1) := ⟨AN, cN, AT, cT, HS5.r2⟩
        have hnb := tnumber_ok bt rb (qr, N1, T1) (bitI qb) HQ6.out (by have := HB.out; dsimp only at this ⊢; omega) HT
        rw [← hp] at hnb
        have HP0 := Lib.hid hp; clear hp
        go_wp2_with (fail)
        refine (bit_ok _ _).mono ?_
        rintro x w6 ⟨rfl, rfl⟩
        go_wp2_with (fail)
        refine hnb.mono ?_
        clear hnb
        intro x w9 hx
        cases p with
        | error e =>
          obtain ⟨rfl, HT9⟩ := hx
          refine ⟨rfl, ?_⟩
          have hs1 : tk (.sign kk n a .nil) none (r, N1, T1) = .error _ := (by rw [HST.out]; rfl)
          rw [HO.out, hs1]
          exact ⟨rfl, _, (HT9).tailF⟩
        | ok S2 =>
          obtain ⟨rfl, HT9⟩ := hx
          cases qb with
          | false =>
            have hb0 : (bitI false == 1) = false := rfl
            have hs1 : tk (.sign kk n a .nil) none (r, N1, T1) = .ok (S2) := (by rw [HST.out]; rfl)
            have HG := Lib.hid (tk_grow _ _ _ _ hs1)
            have HNX : Hid (o = tk t none (S2)) := by show _ = _; rw [HO.out, hs1]; rfl
            clear hs1
            go_wp2_with (fail)
            go_roundw
            case rel =>
              have hg := HG.out
              exact ⟨j + 1, t, S2, by omega, by go_num, HNX.out, HWT.out, HRT.out, by have := hsg; simp only [Tr.sg] at this; omega, hg.err H0.out, Nat.le_trans hg.size hz1, bnd_next (g := 1 + a.sg) hg HB.out, (HT9).tailF⟩
            case measure => simp [intOf]; omega
          | true =>
            have hb0 : (bitI true == 1) = true := rfl
            have hgr : Grow 1 (r, N1, T1) S2 := grow_putN (by have := RS.bool_le r; rw [← HQ.out] at this; exact this) HP0.out.symm
            have HGR := Lib.hid hgr; clear hgr
            obtain ⟨p, hp⟩ : ∃ p, p = tk f none (S2) := ⟨_, rfl⟩
            have htk := IH (f.sg + 1) hsg2 f Bf cf bt rb (S2) w0 _ _ (Nat.lt_succ_self _) HWf.out HRf.out (HGR.out.err H0.out) (Nat.le_trans HGR.out.size hz1) (bnd_le (h := a.sg + t.sg) (by have := HSGF.out; omega) (bnd_next (g := 1) HGR.out (by have := HB.out; rw [show (Tr.sign kk n a t).sg = 1 + (a.sg + t.sg) from by simp only [Tr.sg]; omega] at this; exact this))) (HT9)
            rw [← hp] at htk
            have HP := Lib.hid hp; clear hp
            obtain ⟨AN9, cN9, AT9, cT9, HS9⟩ := HT9
            have k2 := HS9.r5.cell 2 rfl
            have ef : w9.cell? ⟨ga, oa + 2, none⟩ = some (.slice Bf f.len cf) := by
              have h1 := HEF.out
              rw [HS9.old (World.block_lt_of_cell? w0 _ h1)]; exact h1
            go_wp2_with (fail)
            refine htk.mono ?_
            clear htk
            intro x w10 hx
            cases p with
            | error e =>
              obtain ⟨rfl, S3, HT10⟩ := hx
              refine ⟨rfl, ?_⟩
              have hs1 : tk (.sign kk n a .nil) none (r, N1, T1) = .error _ := (by rw [HST.out]; show tk f none S2 = _; exact HP.out.symm)
              rw [HO.out, hs1]
              exact ⟨rfl, _, (HT10).tailF⟩
            | ok S3 =>
              obtain ⟨rfl, HT10⟩ := hx
              clear k2 ef HS9
              have hs1 : tk (.sign kk n a .nil) none (r, N1, T1) = .ok (S3) := (by rw [HST.out]; show tk f none S2 = _; exact HP.out.symm)
              have HG := Lib.hid (tk_grow _ _ _ _ hs1)
              have HNX : Hid (o = tk t none (S3)) := by show _ = _; rw [HO.out, hs1]; rfl
              clear hs1
              go_wp2_with (fail)
              go_roundw
              case rel =>
                have hg := HG.out
                exact ⟨j + 1, t, S3, by omega, by go_num, HNX.out, HWT.out, HRT.out, by have := hsg; simp only [Tr.sg] at this; omega, hg.err H0.out, Nat.le_trans hg.size hz1, bnd_next (g := 1 + a.sg) hg HB.out, (HT10).tailF⟩
              case measure => simp [intOf]; omega
      by_cases e42 : kk = 42
      · have hki : ki = 42 := by rw [HKI.out, e42]; rfl
        subst hki
        have HK := Lib.hid e42; clear e42
        obtain ⟨AN, cN, AT, cT, HS⟩ := HT4
        have c0 := HS.cell 0 rfl
        obtain ⟨f, hf⟩ := HWA.out (.inr HK.out)
        have hRa := HRF.out
        rw [hf] at hRa
        obtain ⟨⟨ga, oa, hB', _, _, Bf, cf, ef, hrf⟩, _⟩ := hRa
        have hwff : f.wf false := by have := HWF.out; rw [hf] at this; exact this.2.1
        have hal1 : al = 1 := by rw [HAL.out, hf]; rfl
        have hsgf : a.sg = 1 + f.sg := by rw [hf]; rfl
        have hsg2 : f.sg + 1 < k := by have := hsg; simp only [Tr.sg] at this; omega
        have HF := Lib.hid hf; have HRf := Lib.hid hrf; have HWf := Lib.hid hwff; have HSGF := Lib.hid hsgf; have HEF := Lib.hid ef
        clear hf hrf hwff hsgf ef
        subst hB' hal1
        have c1 := HS.cell 1 rfl
        obtain ⟨i1, hi1⟩ : ∃ i1, i1 = N1.length := ⟨_, rfl⟩
        obtain ⟨S, hS⟩ : ∃ S, S = starL (fun st => tk f none st) N1.length (r.s.size + 1) (r, N1 ++ [0], T1) := ⟨_, rfl⟩
        have hst : tk (.sign kk n a .nil) none (r, N1, T1) = S := by
          rw [tk, if_neg (by have := HK.out; omega), if_neg (by have := HK.out; omega), if_neg (by have := HK.out; omega), if_neg (by have := HK.out; omega), if_neg (by have := HK.out; omega), if_neg (by have := HK.out; omega), if_pos HK.out, bind_nil, putN, if_pos H0.out]
          show starL (fun st => tk a (some 0) st) N1.length (r.s.size + 1) (r, N1 ++ [0], T1) = S
          rw [hS, HF.out, show (fun st : TS => tk (.arm 0 false f .nil) (some 0) st) = fun st => tk f none st from funext fun st => arm0_tk f st]
        have HST := Lib.hid hst; clear hst
        have hnb := tnumber_ok bt rb (r, N1, T1) 0 HE6.out (by have := HB.out; dsimp only at this ⊢; omega) ⟨AN, cN, AT, cT, HS⟩
        rw [putN, if_pos H0.out] at hnb
        rw [← hi1] at hS c1
        have HS0 := Lib.hid hS; have HI1 := Lib.hid hi1
        have hNN1 : i1 ≤ 1099511627776 := by omega
        clear hS hi1
        go_upto_region 19 with (fail)
        go_wp2_with (fail)
        refine hnb.mono ?_
        clear hnb c0 c1 HS
        rintro x w5 ⟨rfl, HT5⟩
        go_wp2_with (fail)
        go_loopw [99] (fun _ wx => ∃ (k2 : Nat) (st2 : TS), Hid (S = starL (fun st => tk f none st) i1 k2 st2) ∧ st2.1.s.size < k2 ∧ Hid (st2.1.e = 0) ∧ st2.1.s.size ≤ r.s.size ∧ i1 < st2.2.1.length ∧ Hid (0 ≤ st2.2.1.getD i1 0 ∧ st2.2.1.getD i1 0 + st2.1.s.size ≤ 1099511627776) ∧ Hid (st2.2.1.length + st2.2.2.length + f.sg * (1 + st2.1.s.size) ≤ 1099511627776) ∧ TkS w0 wx (Pt b5 #[.int .u8 42, .int .i64 n, .slice (some ⟨ga, oa, none⟩) 1 cB'] 112 :: F) bt rb st2) (fun _ wx => rdSize rb wx)
        case atStart =>
          refine ⟨r.s.size + 1, (r, N1 ++ [0], T1), HS0.out, Nat.lt_succ_self _, H0.out, Nat.le_refl _, ?_, ?_, ?_, HT5⟩
          · try dsimp only
            rw [List.length_append, ← HI1.out]; exact Nat.lt_succ_self _
          · try dsimp only
            have : (N1 ++ [(0 : Int)]).getD i1 0 = 0 := by rw [HI1.out]; simp [List.getD]
            rw [this]
            exact ⟨Int.le_refl _, by omega⟩
          · try dsimp only
            rw [List.length_append]
            exact bnd_first (h := (Tr.sign kk n a t).sg) (by have := HSGF.out; simp only [Tr.sg]; omega) HB.out
        case round =>
          clear HT5
          obtain ⟨k2, ⟨r2, N2, T2⟩, HS2, hk2, H02, hzr, hi2, HC2, HB2, HT2⟩ := hrel
          try dsimp only at hk2 hzr hi2
          have HRD := Lib.hid HT2.rdSize
          obtain ⟨k3, rfl⟩ : ∃ k3, k2 = k3 + 1 := ⟨k2 - 1, by omega⟩
          obtain ⟨q, hq⟩ : ∃ q, q = r2.bool := ⟨_, rfl⟩
          obtain ⟨AN2, cN2, AT2, cT2, HU⟩ := HT2
          have c0 := HU.cell 0 rfl
          have hbl := bool_ok rb r2 (by omega) HU.r2
          have hq6 := RS.bool_e6 r2 (by rw [H02.out]; decide)
          rw [← hq] at hbl hq6
          obtain ⟨qb, qr⟩ := q
          try dsimp only at hbl hq6
          have HQ := Lib.hid hq; have HQ6 := Lib.hid hq6; clear hq hq6
          cases qb with
          | false =>
            go_wp2_with (fail)
            refine hbl.mono ?_
            clear hbl
            rintro x w6 ⟨rfl, HU5⟩
            have HT6 : TkS w0 w6 _ bt rb (qr, N2, T2) := ⟨AN2, cN2, AT2, cT2, HU5.r2⟩
            have hck := tcheck_ok bt rb (qr, N2, T2) HQ6.out HT6
            have hS3 : S = if qr.e = 0 then .ok (qr, N2, T2) else .error qr.e := by
              rw [HS2.out, starL, ← HQ.out]; rfl
            have HS3 := Lib.hid hS3; clear hS3
            go_wp2_with (fail)
            refine hck.mono ?_
            clear hck c0 HU HU5
            rintro x w7 ⟨hx, rfl⟩
            try dsimp only at hx
            by_cases hqe : qr.e = 0
            · rw [if_pos hqe] at hx
              have hs4 : S = .ok (qr, N2, T2) := by rw [HS3.out, if_pos hqe]
              have HS4 := Lib.hid hs4
              clear hqe hs4
              subst hx
              have hs1 : tk (.sign kk n a .nil) none (r, N1, T1) = .ok ((qr, N2, T2)) := (by rw [HST.out]; exact HS4.out)
              have HG := Lib.hid (tk_grow _ _ _ _ hs1)
              have HNX : Hid (o = tk t none ((qr, N2, T2))) := by show _ = _; rw [HO.out, hs1]; rfl
              clear hs1
              go_wp2_with (fail)
              go_roundw
              case rel =>
                have hg := HG.out
                exact ⟨j + 1, t, (qr, N2, T2), by omega, by go_num, HNX.out, HWT.out, HRT.out, by have := hsg; simp only [Tr.sg] at this; omega, hg.err H0.out, Nat.le_trans hg.size hz1, bnd_next (g := 1 + a.sg) hg HB.out, (HT6).tailF⟩
              case measure => simp [intOf]; omega
            · rw [if_neg hqe] at hx
              have hs4 : S = .error qr.e := by rw [HS3.out, if_neg hqe]
              subst hx
              refine ⟨rfl, ?_⟩
              have hs1 : tk (.sign kk n a .nil) none (r, N1, T1) = .error _ := (by rw [HST.out]; exact hs4)
              rw [HO.out, hs1]
              exact ⟨rfl, _, (HT6).tailF⟩
          | true =>
            obtain ⟨_, hqe, hq4⟩ := RS.bool_true (r := r2) (by rw [← HQ.out])
            rw [← HQ.out] at hqe hq4
            try dsimp only at hqe hq4
            have HQE := Lib.hid hqe; clear hqe
            go_wp2_with (fail)
            refine hbl.mono ?_
            clear hbl c0
            rintro x w6 ⟨rfl, HU5⟩
            have c1 := HU5.r2.cell 1 rfl
            obtain ⟨gN, oN, rfl⟩ := HU5.r3.row_form (by show 0 < N2.length; omega)
            obtain ⟨cnt, hcnt⟩ : ∃ x, N2[i1]? = some x := ⟨_, List.getElem?_eq_getElem hi2⟩
            have hgd : N2.getD i1 0 = cnt := by simp [List.getD, hcnt]
            obtain ⟨hc0, hcB⟩ := HC2.out
            try dsimp only at hc0 hcB
            rw [hgd] at hc0 hcB
            have hcap : N2.length ≤ cN2 := by
              rcases HU5.r3.row_cases with ⟨h, _⟩ | ⟨_, _, _, _, _, _, _, h, _⟩
              · cases h
              · exact h
            have nc := HU5.r3.row_cell i1 (u := .int .i64 cnt) (by rw [ivs, List.getElem?_map, hcnt]; rfl)
            have nf := HU5.r3.row_frozen i1 (by omega)
            obtain ⟨m2, hm2⟩ : ∃ m2, m2 = N2.length := ⟨_, rfl⟩
            have hiI : (i1 : Int) < m2 := by omega
            have hHm : HU5 = HU5 := rfl
            clear hHm
            have H7 := HU5.r3.setCell_row i1 (by rw [ivs_length]; exact hi2) (.int .i64 (cnt + 1))
            try dsimp only at c1 H7
            rw [← hm2] at c1 H7
            have HM2 := Lib.hid hm2; have HGD := Lib.hid hgd
            clear hcnt hm2 hgd
            have hc2 : cnt ≤ 1099511627776 := by omega
            go_upto_region 22 with (fail)
            rw [← ivs_set] at H7
            generalize w6.setCell ⟨gN, oN + i1, none⟩ (.int .i64 (cnt + 1)) = w7 at *
            have HT7 : TkS w0 w7 _ bt rb (qr, N2.set i1 (cnt + 1), T2) := ⟨some ⟨gN, oN, none⟩, cN2, AT2, cT2, by
              dsimp only
              rw [List.length_set, ← HM2.out]
              exact H7.r3.r3.r2⟩
            clear c1 nc nf HU HU5 H7
            obtain ⟨p, hp⟩ : ∃ p, p = tk f none ((qr, N2.set i1 (cnt + 1), T2)) := ⟨_, rfl⟩
            have htk := IH (f.sg + 1) hsg2 f Bf cf bt rb ((qr, N2.set i1 (cnt + 1), T2)) w0 _ _ (Nat.lt_succ_self _) HWf.out HRf.out (HQE.out) ((by show qr.s.size ≤ 1048576; omega)) ((by dsimp only; rw [List.length_set]; refine Nat.le_trans (Nat.add_le_add_left (Nat.mul_le_mul_left _ ?_) _) HB2.out; show 1 + qr.s.size ≤ 1 + r2.s.size; omega)) (HT7)
            rw [← hp] at htk
            have HP := Lib.hid hp; clear hp
            obtain ⟨AN9, cN9, AT9, cT9, HS9⟩ := HT7
            have k2 := HS9.r5.cell 2 rfl
            have ef : w7.cell? ⟨ga, oa + 2, none⟩ = some (.slice Bf f.len cf) := by
              have h1 := HEF.out
              rw [HS9.old (World.block_lt_of_cell? w0 _ h1)]; exact h1
            have hS3 : S = p.bind (starL (fun st => tk f none st) i1 k3) := by
              rw [HS2.out, starL, ← HQ.out, if_pos rfl]
              dsimp only
              rw [HGD.out, ← HP.out]
            have HS3 := Lib.hid hS3; clear hS3
            go_wp2_with (fail)
            refine htk.mono ?_
            clear htk
            intro x w10 hx
            cases p with
            | error e =>
              obtain ⟨rfl, S3, HT10⟩ := hx
              refine ⟨rfl, ?_⟩
              have hs1 : tk (.sign kk n a .nil) none (r, N1, T1) = .error _ := (by rw [HST.out, HS3.out]; rfl)
              rw [HO.out, hs1]
              exact ⟨rfl, _, (HT10).tailF⟩
            | ok S3 =>
              obtain ⟨rfl, HT10⟩ := hx
              clear k2 ef HS9
              have HRD2 := Lib.hid HT10.rdSize
              have HGR := Lib.hid (tk_grow _ _ _ _ HP.out.symm)
              go_wp2_with (fail)
              go_roundw
              case rel =>
                have hg := HGR.out
                have hgs : S3.1.s.size ≤ qr.s.size := hg.size
                obtain ⟨X, Y, x1, y1, l1⟩ := hg.app
                refine ⟨k3, S3, HS3.out, by omega, hg.err HQE.out, by omega, ?_, ?_, ?_, HT10⟩
                · rw [x1, List.length_append, List.length_set]; have := HM2.out; omega
                · have : S3.2.1.getD i1 0 = cnt + 1 := by
                    rw [x1]
                    have hlt2 : i1 < (N2.set i1 (cnt + 1)).length := by rw [List.length_set]; have := HM2.out; omega
                    simp only [List.getD]
                    rw [List.getElem?_append_left hlt2, List.getElem?_set_self (by simpa using hlt2)]
                    rfl
                  rw [this]
                  exact ⟨by omega, by omega⟩
                · exact bnd_star hg hq4 (by dsimp only; rw [List.length_set]; exact HB2.out)
              case measure =>
                rw [HRD.out, HRD2.out]
                have hgs : S3.1.s.size ≤ qr.s.size := HGR.out.size
                show S3.1.s.size < r2.s.size
                omega
      by_cases e60 : kk = 60
      · have hki : ki = 60 := by rw [HKI.out, e60]; rfl
        subst hki
        have HK := Lib.hid e60; clear e60
        obtain ⟨AN, cN, AT, cT, HS⟩ := HT4
        have c0 := HS.cell 0 rfl
        obtain ⟨q, hq⟩ : ∃ q, q = r.nat 4 := ⟨_, rfl⟩
        have hbl := uint_ok rb r (by omega) (HS.drew).r2
        have hq6 := RS.nat_e6 r 4 HE6.out
        have hqle := RS.nat_le r 4
        rw [← hq] at hbl hq6 hqle
        obtain ⟨qn, qr⟩ := q
        try dsimp only at hbl hq6 hqle
        obtain ⟨p, hp⟩ : ∃ p, p = putN qn (qr, N1, T1) := ⟨_, rfl⟩
        obtain ⟨pf, hpf⟩ : ∃ pf, pf = pickT a qn := ⟨_, rfl⟩
        have hst : tk (.sign kk n a .nil) none (r, N1, T1) = p.bind fun st => (match pf with | none => .error 4 | some f => tk f none st) := by
          rw [tk, if_neg (by have := HK.out; omega), if_neg (by have := HK.out; omega), if_neg (by have := HK.out; omega), if_neg (by have := HK.out; omega), if_neg (by have := HK.out; omega), if_neg (by have := HK.out; omega), if_neg (by have := HK.out; omega), if_pos HK.out, ← hq, bind_nil, hp, hpf]
          dsimp only
          rw [show (fun st : TS => tk a (some qn) st) = fun st => (match pickT a qn with | none => .error 4 | some f => tk f none st) from funext fun st => tk_arms a qn st]
        have HST := Lib.hid hst; have HQ := Lib.hid hq; have HQ6 := Lib.hid hq6; have HPF := Lib.hid hpf
        clear hst hq hq6 hpf c0
        have hall : al ≤ 1099511627776 := by
          have h1 := a.len_sg
          have h2 := HB.out
          have h3 : (Tr.sign kk n a t).sg * 1 ≤ (Tr.sign kk n a t).sg * (1 + r.s.size) := Nat.mul_le_mul_left _ (by omega)
          dsimp only at h2
          simp only [Tr.sg] at h2 h3
          rw [HAL.out]
          omega
        go_upto_region 25 with (fail)
        have HSd := HS.drew
        refine wp_region_held_drew (S := fun w' => w'.cell? ⟨bt, 0, none⟩ = some (.pointer (some ⟨rb, 0, none⟩)) ∧ w'.rangeAt b5 0 [.int .u8 60, .int .i64 n, .slice B' al cB']) (by kernel_rfl) ⟨HSd.cell 0 rfl, HSd.r5.range⟩ (fun hHeld => ?_)
        generalize w4.drew = w6 at *
        clear HS
        refine rg_take (i := 0) (v := _) rfl (by kernel_rfl) (by kernel_rfl) (by kernel_rfl) (fun _ _ _ h => h) (yieldsIf_load_mid (by kernel_rfl) 112 _ rfl b5 0 rfl [.int .u8 60, .int .i64 n, .slice B' al cB'] _ (fun w' h => h.2) Try.underlying112 rfl (by kernel_rfl)) hHeld ?_
        try simp only [Act.put, List.setIfInBounds_toArray, List.set_cons_zero, List.set_cons_succ]
        refine rg_take (i := 1) (v := ?_) rfl (by kernel_rfl) (by kernel_rfl) (by kernel_rfl) (fun _ _ _ h => h) (Or.inl ⟨by kernel_rfl, ?_⟩) (by assumption) ?_
        rotate_left 1
        · intro w' hSw
          try dsimp only at hSw
          go_simp
          first | done | with_reducible rfl
        try simp only [Act.put, List.setIfInBounds_toArray, List.set_cons_zero, List.set_cons_succ]
        refine rg_take (i := 2) (v := ?_) rfl (by kernel_rfl) (by kernel_rfl) (by kernel_rfl) (fun _ _ _ h => h) (Or.inl ⟨by kernel_rfl, ?_⟩) (by assumption) ?_
        rotate_left 1
        · intro w' hSw
          try dsimp only at hSw
          go_simp
          first | done | with_reducible rfl
        try simp only [Act.put, List.setIfInBounds_toArray, List.set_cons_zero, List.set_cons_succ]
        refine rg_take (i := 3) (v := ?_) rfl (by kernel_rfl) (by kernel_rfl) (by kernel_rfl) (fun _ _ _ h => h) (Or.inl ⟨by kernel_rfl, ?_⟩) (by assumption) ?_
        rotate_left 1
        · intro w' hSw
          try dsimp only at hSw
          go_simp
          first | done | with_reducible rfl
        try simp only [Act.put, List.setIfInBounds_toArray, List.set_cons_zero, List.set_cons_succ]
        refine rg_take (i := 4) (v := ?_) rfl (by kernel_rfl) (by kernel_rfl) (by kernel_rfl) (fun _ _ _ h => h) (Or.inl ⟨by kernel_rfl, ?_⟩) (by assumption) ?_
        rotate_left 1
        · intro w' hSw
          try dsimp only at hSw
          go_simp
          first | done | with_reducible rfl
        try simp only [Act.put, List.setIfInBounds_toArray, List.set_cons_zero, List.set_cons_succ]
        refine rg_take (i := 5) (v := ?_) rfl (by kernel_rfl) (by kernel_rfl) (by kernel_rfl) (fun _ _ _ h => h) (Or.inl ⟨by kernel_rfl, ?_⟩) (by assumption) ?_
        rotate_left 1
        · intro w' hSw
          try dsimp only at hSw
          go_simp
          first | done | with_reducible rfl
        try simp only [Act.put, List.setIfInBounds_toArray, List.set_cons_zero, List.set_cons_succ]
        refine wpAnyH_ready (rs := [6]) (by kernel_rfl) (by simp) ?_
        refine rg_cons rfl (fun K hK => ?_) AllReadyH.nil
        go_simp
        refine hbl.mono ?_
        clear hbl
        rintro x w5 ⟨rfl, HS5⟩
        refine hK.out _ _ ⟨HS5.r2.cell 0 rfl, HS5.r5.range⟩ (fun hHeld' => ?_)
        clear hK hHeld
        have hHeld := hHeld'
        clear hHeld'
        try simp only [Act.put, List.setIfInBounds_toArray, List.set_cons_zero, List.set_cons_succ]
        have HT : TkS w0 w5 _ bt rb (qr, N1, T1) := ⟨AN, cN, AT, cT, HS5.r2⟩
        have hnb := tnumber_ok bt rb (qr, N1, T1) qn HQ6.out (by have := HB.out; dsimp only at this ⊢; omega) HT
        rw [← hp] at hnb
        have HP0 := Lib.hid hp; clear hp
        refine wpAnyH_ready (rs := [7]) (by kernel_rfl) (by simp) ?_
        refine rg_cons rfl (fun K hK => ?_) AllReadyH.nil
        go_simp
        refine hnb.mono ?_
        clear hnb HSd HS5
        intro x w9 hx
        cases p with
        | error e =>
          obtain ⟨rfl, HT9⟩ := hx
          refine ⟨rfl, ?_⟩
          have hs1 : tk (.sign kk n a .nil) none (r, N1, T1) = .error _ := (by rw [HST.out]; rfl)
          rw [HO.out, hs1]
          exact ⟨rfl, _, (HT9).tailF⟩
        | ok S2 =>
          obtain ⟨rfl, HT9⟩ := hx
          have HQ9 : w9.cell? ⟨bt, 0, none⟩ = some (.pointer (some ⟨rb, 0, none⟩)) ∧ w9.rangeAt b5 0 [.int .u8 60, .int .i64 n, .slice B' al cB'] := by
            obtain ⟨AN, cN, AT, cT, HS⟩ := HT9
            exact ⟨HS.cell 0 rfl, HS.r5.range⟩
          refine hK.out _ _ HQ9 (fun hHeld' => ?_)
          clear hK hHeld
          have hHeld := hHeld'
          clear hHeld'
          try simp only [Act.put, List.setIfInBounds_toArray, List.set_cons_zero, List.set_cons_succ]
          clear HQ9
          have hgr : Grow 1 (r, N1, T1) S2 := grow_putN hqle HP0.out.symm
          have HGR := Lib.hid hgr; clear hgr hqle HT
          obtain ⟨AN9, cN9, AT9, cT9, HS9⟩ := HT9
          have hpk := pick_ok kk n qn a B' cB' HWF.out (by rw [← HAL.out]; exact hall) HRF.out HS9
          rw [← HAL.out, ← HKI.out, ← HPF.out] at hpk
          refine wpAnyH_ready (rs := [8]) (by kernel_rfl) (by simp) ?_
          refine rg_cons rfl (fun K hK => ?_) AllReadyH.nil
          go_simp
          refine hpk.mono ?_
          clear hpk
          intro x w10 hx
          cases pf with
          | none =>
            obtain ⟨rfl, HS10⟩ := hx
            refine hK.out _ _ ⟨HS10.cell 0 rfl, HS10.r5.range⟩ (fun hHeld' => ?_)
            clear hK hHeld
            have hHeld := hHeld'
            clear hHeld'
            try simp only [Act.put, List.setIfInBounds_toArray, List.set_cons_zero, List.set_cons_succ]
            refine rg_take (i := 9) (v := ?_) rfl (by kernel_rfl) (by kernel_rfl) (by kernel_rfl) (fun _ _ _ h => h) (Or.inl ⟨by kernel_rfl, ?_⟩) (by assumption) ?_
            rotate_left 1
            · intro w' hSw
              try dsimp only at hSw
              go_simp
              first | done | with_reducible rfl
            try simp only [Act.put, List.setIfInBounds_toArray, List.set_cons_zero, List.set_cons_succ]
            refine rg_take (i := 10) (v := ?_) rfl (by kernel_rfl) (by kernel_rfl) (by kernel_rfl) (fun _ _ _ h => h) (Or.inl ⟨by kernel_rfl, ?_⟩) (by assumption) ?_
            rotate_left 1
            · intro w' hSw
              try dsimp only at hSw
              go_simp
              first | done | with_reducible rfl
            try simp only [Act.put, List.setIfInBounds_toArray, List.set_cons_zero, List.set_cons_succ]
            refine rg_take (i := 11) (v := ?_) rfl (by kernel_rfl) (by kernel_rfl) (by kernel_rfl) (fun _ _ _ h => h) (Or.inl ⟨by kernel_rfl, ?_⟩) (by assumption) ?_
            rotate_left 1
            · intro w' hSw
              try dsimp only at hSw
              go_simp
              first | done | with_reducible rfl
            try simp only [Act.put, List.setIfInBounds_toArray, List.set_cons_zero, List.set_cons_succ]
            refine rg_take (i := 12) (v := ?_) rfl (by kernel_rfl) (by kernel_rfl) (by kernel_rfl) (fun _ _ _ h => h) (Or.inl ⟨by kernel_rfl, ?_⟩) (by assumption) ?_
            rotate_left 1
            · intro w' hSw
              try dsimp only at hSw
              go_simp
              first | done | with_reducible rfl
            try simp only [Act.put, List.setIfInBounds_toArray, List.set_cons_zero, List.set_cons_succ]
            refine rg_take (i := 13) (v := ?_) rfl (by kernel_rfl) (by kernel_rfl) (by kernel_rfl) (fun _ _ _ h => h) (Or.inl ⟨by kernel_rfl, ?_⟩) (by assumption) ?_
            rotate_left 1
            · intro w' hSw
              try dsimp only at hSw
              go_simp
              first | done | with_reducible rfl
            try simp only [Act.put, List.setIfInBounds_toArray, List.set_cons_zero, List.set_cons_succ]
            refine wpAnyH_done (by kernel_rfl) ?_ _
            clear hHeld
            have HT10 : TkS w0 w10 _ bt rb S2 := ⟨AN9, cN9, AT9, cT9, HS10⟩
            go_wp2_with (fail)
            refine ⟨rfl, ?_⟩
            have hs1 : tk (.sign kk n a .nil) none (r, N1, T1) = .error _ := (by rw [HST.out]; rfl)
            rw [HO.out, hs1]
            exact ⟨rfl, _, (HT10).tailF⟩
          | some f =>
            obtain ⟨Bf, cf, rfl, hrf, hwff, HS10⟩ := hx
            refine hK.out _ _ ⟨HS10.cell 0 rfl, HS10.r5.range⟩ (fun hHeld' => ?_)
            clear hK hHeld
            have hHeld := hHeld'
            clear hHeld'
            try simp only [Act.put, List.setIfInBounds_toArray, List.set_cons_zero, List.set_cons_succ]
            refine rg_take (i := 9) (v := ?_) rfl (by kernel_rfl) (by kernel_rfl) (by kernel_rfl) (fun _ _ _ h => h) (Or.inl ⟨by kernel_rfl, ?_⟩) (by assumption) ?_
            rotate_left 1
            · intro w' hSw
              try dsimp only at hSw
              go_simp
              first | done | with_reducible rfl
            try simp only [Act.put, List.setIfInBounds_toArray, List.set_cons_zero, List.set_cons_succ]
            refine rg_take (i := 10) (v := ?_) rfl (by kernel_rfl) (by kernel_rfl) (by kernel_rfl) (fun _ _ _ h => h) (Or.inl ⟨by kernel_rfl, ?_⟩) (by assumption) ?_
            rotate_left 1
            · intro w' hSw
              try dsimp only at hSw
              go_simp
              first | done | with_reducible rfl
            try simp only [Act.put, List.setIfInBounds_toArray, List.set_cons_zero, List.set_cons_succ]
            refine rg_take (i := 11) (v := ?_) rfl (by kernel_rfl) (by kernel_rfl) (by kernel_rfl) (fun _ _ _ h => h) (Or.inl ⟨by kernel_rfl, ?_⟩) (by assumption) ?_
            rotate_left 1
            · intro w' hSw
              try dsimp only at hSw
              go_simp
              first | done | with_reducible rfl
            try simp only [Act.put, List.setIfInBounds_toArray, List.set_cons_zero, List.set_cons_succ]
            refine rg_take (i := 12) (v := ?_) rfl (by kernel_rfl) (by kernel_rfl) (by kernel_rfl) (fun _ _ _ h => h) (Or.inl ⟨by kernel_rfl, ?_⟩) (by assumption) ?_
            rotate_left 1
            · intro w' hSw
              try dsimp only at hSw
              go_simp
              first | done | with_reducible rfl
            try simp only [Act.put, List.setIfInBounds_toArray, List.set_cons_zero, List.set_cons_succ]
            refine rg_take (i := 13) (v := ?_) rfl (by kernel_rfl) (by kernel_rfl) (by kernel_rfl) (fun _ _ _ h => h) (Or.inl ⟨by kernel_rfl, ?_⟩) (by assumption) ?_
            rotate_left 1
            · intro w' hSw
              try dsimp only at hSw
              go_simp
              first | done | with_reducible rfl
            try simp only [Act.put, List.setIfInBounds_toArray, List.set_cons_zero, List.set_cons_succ]
            refine wpAnyH_done (by kernel_rfl) ?_ _
            clear hHeld
            have HT10 : TkS w0 w10 _ bt rb S2 := ⟨AN9, cN9, AT9, cT9, HS10⟩
            have HRf := Lib.hid hrf; have HWf := Lib.hid hwff
            have hfa := pickT_sg HPF.out.symm
            have hsg2 : f.sg + 1 < k := by have := hsg; simp only [Tr.sg] at this; omega
            have HFA := Lib.hid hfa
            clear hrf hwff hfa HS9 HS10
            obtain ⟨p, hp⟩ : ∃ p, p = tk f none (S2) := ⟨_, rfl⟩
            have htk := IH (f.sg + 1) hsg2 f Bf cf bt rb (S2) w0 _ _ (Nat.lt_succ_self _) HWf.out HRf.out (HGR.out.err H0.out) (Nat.le_trans HGR.out.size hz1) (bnd_le (h := a.sg + t.sg) (by have := HFA.out; omega) (bnd_next (g := 1) HGR.out (by have := HB.out; rw [show (Tr.sign kk n a t).sg = 1 + (a.sg + t.sg) from by simp only [Tr.sg]; omega] at this; exact this))) (HT10)
            rw [← hp] at htk
            have HP := Lib.hid hp; clear hp
            go_wp2_with (fail)
            refine htk.mono ?_
            clear htk
            intro x w11 hx
            cases p with
            | error e =>
              obtain ⟨rfl, S3, HT11⟩ := hx
              refine ⟨rfl, ?_⟩
              have hs1 : tk (.sign kk n a .nil) none (r, N1, T1) = .error _ := (by rw [HST.out]; show tk f none S2 = _; exact HP.out.symm)
              rw [HO.out, hs1]
              exact ⟨rfl, _, (HT11).tailF⟩
            | ok S3 =>
              obtain ⟨rfl, HT11⟩ := hx
              have hs1 : tk (.sign kk n a .nil) none (r, N1, T1) = .ok (S3) := (by rw [HST.out]; show tk f none S2 = _; exact HP.out.symm)
              have HG := Lib.hid (tk_grow _ _ _ _ hs1)
              have HNX : Hid (o = tk t none (S3)) := by show _ = _; rw [HO.out, hs1]; rfl
              clear hs1
              go_wp2_with (fail)
              go_roundw
              case rel =>
                have hg := HG.out
                exact ⟨j + 1, t, S3, by omega, by go_num, HNX.out, HWT.out, HRT.out, by have := hsg; simp only [Tr.sg] at this; omega, hg.err H0.out, Nat.le_trans hg.size hz1, bnd_next (g := 1 + a.sg) hg HB.out, (HT11).tailF⟩
              case measure => simp [intOf]; omega
      exact absurd HWK.out (by omega)
theorem taker_ok (k : Nat) : TakeOK k := by
  induction k using Nat.strongRecOn with
  | _ k ih => exact take_step k ih
end Go.Proofs.Ytkkpcjpdpjpohaa

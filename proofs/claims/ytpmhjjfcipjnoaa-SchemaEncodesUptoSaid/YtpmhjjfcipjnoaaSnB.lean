/- Layer 2's reference: a value is taken. -/
import Derived.Test.YtpmhjjfcipjnoaaSnA
import Derived.Test.YtpmhjjfcipjnoaaRgl
import Derived.Test.YtpmhjjfcipjnoaaRgn
namespace Go.Proofs.Ytpmhjjfcipjnoaa
open Go.RowKit

theorem pr_num {s : ByteArray} {j d q e : Nat} {t : Tr} (h : pr s (j + 1) false d q [] = some (t, e)) (kk : Nat) (hk : pk s q = kk) (hc : kk = 117 ∨ kk = 113 ∨ kk = 98) : ∃ t', t = .sign kk 0 .nil t' ∧ pr s j false d (q + 1) [] = some (t', e) := by
  subst hk
  rw [pr, if_pos hc] at h
  obtain ⟨r, hr, h⟩ := Option.map_eq_some_iff.1 h
  injection h with h1 h2; subst h1 h2
  exact ⟨_, rfl, hr⟩
theorem pr_txt {s : ByteArray} {j d q e : Nat} {t : Tr} (h : pr s (j + 1) false d q [] = some (t, e)) (kk : Nat) (hk : pk s q = kk) (hc : kk = 111 ∨ kk = 102) : ∃ n e1 t', numF s (q + 1) = some (n, e1) ∧ t = .sign kk n .nil t' ∧ pr s j false d e1 [] = some (t', e) := by
  subst hk
  rw [pr, if_neg (by omega), if_pos hc] at h
  obtain ⟨n, hn, h⟩ := Option.bind_eq_some_iff.1 h
  obtain ⟨r, hr, h⟩ := Option.map_eq_some_iff.1 h
  injection h with h1 h2; subst h1 h2
  exact ⟨n.1, n.2, _, hn, rfl, hr⟩
theorem pr_brk {s : ByteArray} {j d q e : Nat} {t : Tr} (h : pr s (j + 1) false d q [] = some (t, e)) (kk : Nat) (hk : pk s q = kk) (hc : kk = 63 ∨ kk = 42) : ∃ f e1 t', pr s j false (d + 1) (q + 2) [] = some (f, e1) ∧ pk s (q + 1) = 40 ∧ pk s e1 = 41 ∧ t = .sign kk 0 (.arm 0 false f .nil) t' ∧ pr s j false d (e1 + 1) [] = some (t', e) := by
  subst hk
  rw [pr, if_neg (by omega), if_neg (by omega), if_pos hc] at h
  split at h
  · cases h
  rename_i h40
  obtain ⟨f, hf, h⟩ := Option.bind_eq_some_iff.1 h
  split at h
  · cases h
  rename_i h41
  obtain ⟨r, hr, h⟩ := Option.map_eq_some_iff.1 h
  injection h with h1 h2; subst h1 h2
  exact ⟨f.1, f.2, _, hf, by omega, by omega, rfl, hr⟩
theorem pr_alt {s : ByteArray} {j d q e : Nat} {t : Tr} (h : pr s (j + 1) false d q [] = some (t, e)) (hk : pk s q = 60) : ∃ a e1 t', pr s j true (d + 1) (q + 1) [] = some (a, e1) ∧ pk s e1 = 62 ∧ t = .sign 60 0 a t' ∧ pr s j false d (e1 + 1) [] = some (t', e) := by
  rw [pr, if_neg (by omega), if_neg (by omega), if_neg (by omega), if_pos hk] at h
  obtain ⟨f, hf, h⟩ := Option.bind_eq_some_iff.1 h
  split at h
  · cases h
  rename_i h41
  obtain ⟨r, hr, h⟩ := Option.map_eq_some_iff.1 h
  injection h with h1 h2; subst h1 h2
  exact ⟨f.1, f.2, _, hf, by omega, by rw [hk], hr⟩
theorem pr_end {s : ByteArray} {j d q e : Nat} {t : Tr} (h : pr s (j + 1) false d q [] = some (t, e)) (h1 : pk s q ≠ 117 ∧ pk s q ≠ 113 ∧ pk s q ≠ 98 ∧ pk s q ≠ 111 ∧ pk s q ≠ 102 ∧ pk s q ≠ 63 ∧ pk s q ≠ 42 ∧ pk s q ≠ 60) : t = .nil := by
  rw [pr, if_neg (by omega), if_neg (by omega), if_neg (by omega), if_neg (by omega)] at h
  injection h with h; injection h with h1 h2; exact h1.symm
/-- what is there, or the error -/
def finT (st : TS) : Except Int TS := if st.1.e = 0 then .ok st else .error st.1.e
theorem putN_fin (n : Int) (r : RS) (N : List Int) (T : List ByteArray) : putN n (r, N, T) = finT (r, N ++ [n], T) := rfl
theorem putT_fin (n : ByteArray) (r : RS) (N : List Int) (T : List ByteArray) : putT n (r, N, T) = finT (r, N, T ++ [n]) := rfl
/-- the value and the reader of the reference -/
def RvS (w0 w : World) (F : List Assn) (bv rb : Nat) (S : ByteArray) (st : TS) : Prop := ∃ AN cN AT cT, St w0 w (Pt bv #[.slice AN st.2.1.length cN, .slice AT st.2.2.length cT] 32 :: Rfr rb S st.1 :: Row 3 1 AN st.2.1.length cN (ivs st.2.1) :: Row 9 1 AT st.2.2.length cT (svs st.2.2) :: F)
theorem RvS.err {w0 w : World} {F : List Assn} {bv rb : Nat} {S : ByteArray} {st : TS} (H : RvS w0 w F bv rb S st) : w.cell? ⟨rb, 2, none⟩ = some (.int .i64 st.1.e) := by
  obtain ⟨AN, cN, AT, cT, H⟩ := H
  obtain ⟨i, H, _⟩ := H.r2.openRf
  exact H.cell 2 rfl
theorem RvS.any {w0 w : World} {F : List Assn} {bv rb : Nat} {S : ByteArray} {st : TS} (H : RvS w0 w F bv rb S st) : ∃ G, St w0 w G ∧ ∀ w', St w0 w' G → RvS w0 w' F bv rb S st := by
  obtain ⟨AN, cN, AT, cT, H⟩ := H
  exact ⟨_, H, fun w' H' => ⟨AN, cN, AT, cT, H'⟩⟩
def rfSize (rb : Nat) (w : World) : Nat := match w.cell? ⟨rb, 2, none⟩, w.cell? ⟨rb, 1, none⟩, w.cell? ⟨rb, 0, none⟩ with
  | some (.int _ e), some (.int _ i), some (.string s) => if e = 0 then 1 + (s.size - i.toNat) else 0
  | _, _, _ => 0
theorem RvS.rfSize {w0 w : World} {F : List Assn} {bv rb : Nat} {S : ByteArray} {st : TS} (H : RvS w0 w F bv rb S st) : rfSize rb w = if st.1.e = 0 then 1 + st.1.s.size else 0 := by
  obtain ⟨AN, cN, AT, cT, H⟩ := H
  obtain ⟨i, H, hi, hs⟩ := H.r2.openRf
  unfold Go.Proofs.Ytpmhjjfcipjnoaa.rfSize
  rw [H.cell 2 rfl, H.cell 1 rfl, H.cell 0 rfl, hs]
  show (if st.1.e = 0 then 1 + (S.size - (i : Int).toNat) else 0) = _
  rw [ByteArray.size_extract, Int.toNat_natCast, Nat.min_self]
/-- how the reference's 'take' ends -/
def RtE (w0 : World) (F : List Assn) (bv rb : Nat) (S : ByteArray) (o : Except Int TS) (x : Ending) (w' : World) : Prop := (∃ n, x = .returned (.int .i64 n)) ∧ ∃ st, o = finT st ∧ RvS w0 w' F bv rb S st
def RtOK (s : ByteArray) (k : Nat) : Prop := ∀ (t : Tr) (j d q e bv rb : Nat) (S : ByteArray) (st : TS) (w0 w : World) (F : List Assn), t.sg < k → s.size - q < j → q ≤ s.size → pr s j false d q [] = some (t, e) → S.size ≤ 1048576 → st.1.e = 0 → st.1.s.size ≤ 1048576 →
  st.2.1.length + st.2.2.length + t.sg * (1 + st.1.s.size) ≤ 1099511627776 → RvS w0 w F bv rb S st →
  Calls Try.prog 24 #[.string s, .int .i64 q, .pointer (some ⟨rb, 0, none⟩), .pointer (some ⟨bv, 0, none⟩)] w (RtE w0 F bv rb S (tk t none st))
-- the sign is done: §1 what is there, §2 why, §3 the next place, §4 the sign's arms
-- v.N = append(v.N, ..) in a region that draws: §1 the region, §2 the call, §3 the reader behind it, §4 the number
theorem bnd_q {N T h g z z' M : Nat} (hg : 1 + g ≤ h) (hz : z' ≤ z) (hb : N + T + h * (1 + z) ≤ M) : N + 1 + T + g * (1 + z') ≤ M := by
  have h1 := bnd_first hg hb
  have h2 : g * (1 + z') ≤ g * (1 + z) := Nat.mul_le_mul_left _ (by omega)
  omega
-- v.T = append(v.T, ..) in a region that draws: §1 the region, §2 the call, §3 the reader behind it, §4 the text
-- v.N = append(v.N, flag(Bool(r))) in a region that draws
-- v.N = append(v.N, n) in order: §1 up to where, §2 the number, §3 the reader; H5: the reader, the value, the rows
-- a row within is taken: §1 the form, §2 its depth, §3 its place, §4 where it ends, §5 its facts, §6 the state, §7 sg, §8 bound
set_option maxRecDepth 100000 in
set_option maxHeartbeats 16000000 in
theorem rtake_step (s : ByteArray) (hs : s.size ≤ 1099511627776) (k : Nat) (IH : ∀ j, j < k → RtOK s j) : RtOK s k := by
  intro t0 j0 d q0 e bv rb S st0 w0 w F hk hj hq hp hSz he hz hb H
  obtain ⟨i0, hi, hi0, hi1, hi2⟩ := info_parts infoInt
  obtain ⟨x0, hx, hx0, hx1, hx2⟩ := info_parts infoStr
  obtain ⟨o, ho⟩ : ∃ o, o = tk t0 none st0 := ⟨_, rfl⟩
  rw [← ho]
  have HO := Lib.hid ho; have HP := Lib.hid hp; have H0 := Lib.hid he; have HB := Lib.hid hb
  clear ho hp he hb
  go_enter Try.func24, Try.ntmps24
  go_wp2_with (fail)
  go_loopw [1] (fun a wr => ∃ (j q : Nat) (t : Tr) (st1 : TS), s.size - q < j ∧ q ≤ s.size ∧ Hid (pr s j false d q [] = some (t, e)) ∧ Hid (o = tk t none st1) ∧ t.sg < k ∧ Hid (st1.1.e = 0) ∧ st1.1.s.size ≤ 1048576 ∧ Hid (st1.2.1.length + st1.2.2.length + t.sg * (1 + st1.1.s.size) ≤ 1099511627776) ∧ a = .int .i64 q ∧ RvS w0 wr F bv rb S st1) (fun a _ => s.size - (intOf a).toNat)
  case atStart => exact ⟨j0, q0, t0, st0, hj, hq, HP.out, HO.out, hk, H0.out, hz, HB.out, rfl, H⟩
  case round =>
    clear H HO HP H0 HB hk hz hj hq
    obtain ⟨j, q, t, ⟨r, N1, T1⟩, hqj, hqs, HP, HO, hsg, H0, hz1, HB, rfl, HT⟩ := hrel
    obtain ⟨j, rfl⟩ : ∃ i, j = i + 1 := ⟨j - 1, by omega⟩
    have hz1 : r.s.size ≤ 1048576 := hz1
    have hN : N1.length ≤ 1099511627776 := by have := HB.out; dsimp only at this; omega
    have hTl : T1.length ≤ 1099511627776 := by have := HB.out; dsimp only at this; omega
    by_cases hlt : q < s.size
    rotate_left 1
    · have hz : ¬ (q : Int) < s.size := by omega
      have hno : o = finT (r, N1, T1) := by
        rw [HO.out, pr_end HP.out (by rw [pk_out hlt]; decide), tk, finT, if_pos H0.out]
      have HNO := Lib.hid hno; clear hno
      go_wp2_with (fail)
      go_ret
      exact ⟨⟨_, rfl⟩, _, HNO.out, HT⟩
    have hltI : (q : Int) < s.size := by omega
    obtain ⟨ci, hci⟩ : ∃ ci : Int, ci = (s[q].toNat : Int) := ⟨_, rfl⟩
    have hpk : (pk s q : Int) = ci := by rw [hci, pk_in hlt]
    have HPK := Lib.hid hpk
    have hix : ∀ (h : q < s.size), (s[q].toNat : Int) = ci := fun _ => hci.symm
    clear hci hpk
    go_upto_region 4 with (fail)
    clear hix
    obtain ⟨kk, hkk⟩ : ∃ kk : Nat, kk = pk s q := ⟨_, rfl⟩
    by_cases e117 : ci = 117
    · as_aux_lemma =>
      subst e117
      obtain ⟨t', rfl, hpt⟩ := pr_num HP.out 117 (by have := HPK.out; omega) (.inl rfl)
      have HPT := Lib.hid hpt
      clear hpt HP
      obtain ⟨AN, cN, AT, cT, HS⟩ := HT
      dsimp only at HS
      go_upto_region 7 with (fail)
      have HSd := HS.drew
      refine wp_region_L [(8, fun w' => w'.cell? ⟨bv, 0, none⟩ = some (.slice AN N1.length cN))] (by kernel_rfl) (Keep.on (HSd.cell 0 rfl) trivial) (fun hKeep => ?_)
      generalize World.drew _ = w6 at *
      clear HS
      refine rgl_take (i := 0) (v := ?_) [] rfl (by kernel_rfl) (by kernel_rfl) (by decide +kernel) (fun _ _ _ h => h) (by kernel_rfl) (by kernel_rfl) (Or.inl ⟨by kernel_rfl, ?_⟩) hKeep ?_
      rotate_left 1
      · rintro w' -
        go_simp
        first | done | with_reducible rfl
      intro hKeep'
      clear hKeep
      have hKeep := hKeep'
      clear hKeep'
      try simp only [Act.put, List.setIfInBounds_toArray, List.set_cons_zero, List.set_cons_succ]
      refine rgl_take (i := 1) (v := ?_) [] rfl (by kernel_rfl) (by kernel_rfl) (by decide +kernel) (fun _ _ _ h => h) (by kernel_rfl) (by kernel_rfl) (Or.inl ⟨by kernel_rfl, ?_⟩) hKeep ?_
      rotate_left 1
      · rintro w' -
        go_simp
        first | done | with_reducible rfl
      intro hKeep'
      clear hKeep
      have hKeep := hKeep'
      clear hKeep'
      try simp only [Act.put, List.setIfInBounds_toArray, List.set_cons_zero, List.set_cons_succ]
      refine rgl_take (i := 2) (v := ?_) [] rfl (by kernel_rfl) (by kernel_rfl) (by decide +kernel) (fun _ _ _ h => h) (by kernel_rfl) (by kernel_rfl) (Or.inl ⟨by kernel_rfl, ?_⟩) hKeep ?_
      rotate_left 1
      · rintro w' -
        go_simp
        first | done | with_reducible rfl
      intro hKeep'
      clear hKeep
      have hKeep := hKeep'
      clear hKeep'
      try simp only [Act.put, List.setIfInBounds_toArray, List.set_cons_zero, List.set_cons_succ]
      refine rgl_take (i := 3) (v := ?_) [] rfl (by kernel_rfl) (by kernel_rfl) (by decide +kernel) (fun _ _ _ h => h) (by kernel_rfl) (by kernel_rfl) (Or.inl ⟨by kernel_rfl, ?_⟩) hKeep ?_
      rotate_left 1
      · rintro w' -
        go_simp
        first | done | with_reducible rfl
      intro hKeep'
      clear hKeep
      have hKeep := hKeep'
      clear hKeep'
      try simp only [Act.put, List.setIfInBounds_toArray, List.set_cons_zero, List.set_cons_succ]
      refine rgl_take (i := 4) (v := ?_) [8] rfl (by kernel_rfl) (by kernel_rfl) (by decide +kernel) (fun _ _ _ h => h) (by kernel_rfl) (by kernel_rfl) (Or.inl ⟨by kernel_rfl, ?_⟩) hKeep ?_
      rotate_left 1
      · rintro w' ⟨L, hL, hSw⟩
        have q := Keep.hd hSw (hL 8 (by simp))
        try dsimp only at q
        clear hSw hL
        go_simp
        first | done | with_reducible rfl
      intro hKeep'
      clear hKeep
      have hKeep := hKeep'
      clear hKeep'
      try simp only [Act.put, List.setIfInBounds_toArray, List.set_cons_zero, List.set_cons_succ]
      refine rgl_take (i := 5) (v := ?_) [] rfl (by kernel_rfl) (by kernel_rfl) (by decide +kernel) (fun _ _ _ h => h) (by kernel_rfl) (by kernel_rfl) (Or.inl ⟨by kernel_rfl, ?_⟩) hKeep ?_
      rotate_left 1
      · rintro w' -
        go_simp
        first | done | with_reducible rfl
      intro hKeep'
      clear hKeep
      have hKeep := hKeep'
      clear hKeep'
      try simp only [Act.put, List.setIfInBounds_toArray, List.set_cons_zero, List.set_cons_succ]
      refine rgl_ready (rs := [6]) (by decide +kernel) (by simp) ?_
      refine rgl_cons rfl (fun K hK => ?_) AllReadyL.nil
      go_simp
      refine (refnum4_ok rb S r (by omega) HSd.r2).mono ?_
      rintro x w5 ⟨rfl, H5⟩
      refine hK.out _ _ (Keep.on (H5.r2.cell 0 rfl) trivial) (fun hKeep' => ?_)
      clear hK hKeep
      have hKeep := hKeep'
      clear hKeep'
      try simp only [Act.put, List.setIfInBounds_toArray, List.set_cons_zero, List.set_cons_succ]
      refine rgl_ready (rs := [7]) (by decide +kernel) (by simp) ?_
      refine rgl_cons rfl (fun K hK => ?_) AllReadyL.nil
      have H6 := (H5.r3).more (.cells #[.int .i64 (r.nat 4).1] 3)
      have hq6 := (H5.alloc #[.int .i64 (r.nat 4).1] 3).r3.cell 0 (v := .slice AN N1.length cN) rfl
      go_simp
      refine hK.out _ _ (Keep.on hq6 trivial) (fun hKeep' => ?_)
      clear hK hKeep
      have hKeep := hKeep'
      clear hKeep'
      try simp only [Act.put, List.setIfInBounds_toArray, List.set_cons_zero, List.set_cons_succ]
      refine rgl_ready (rs := [8]) (by decide +kernel) (by simp) ?_
      refine rgl_cons rfl (fun K hK => ?_) AllReadyL.nil
      refine step_append_st (by rfl) _ _ _ (by rfl) 3 i0 (.int .i64 0) 1 8 Try.underlying23 hi hi0 hi1 hi2 rfl (by decide) AN N1.length cN (ivs N1) H6 (by rfl) ⟨_, 0, none⟩ 1 1 [.int .i64 (r.nat 4).1] (by rfl) rfl (World.news_of_block (heap_alloc_new _ _)) (fun u hu => by simp at hu; subst hu; rfl) (by unfold maxLen; omega) (by omega) ?_
      intro A4 c4 w4 H7
      clear hq6 H6
      refine hK.out _ _ (Keep.off (by kernel_rfl) trivial) (fun hKeep' => ?_)
      clear hK hKeep
      have hKeep := hKeep'
      clear hKeep'
      try simp only [Act.put, List.setIfInBounds_toArray, List.set_cons_zero, List.set_cons_succ]
      refine rgl_take (i := 9) (v := ?_) [] rfl (by kernel_rfl) (by kernel_rfl) (by decide +kernel) (fun _ _ _ h => h) (by kernel_rfl) (by kernel_rfl) (Or.inl ⟨by kernel_rfl, ?_⟩) hKeep ?_
      rotate_left 1
      · rintro w' -
        go_simp
        first | done | with_reducible rfl
      intro hKeep'
      clear hKeep
      have hKeep := hKeep'
      clear hKeep'
      try simp only [Act.put, List.setIfInBounds_toArray, List.set_cons_zero, List.set_cons_succ]
      refine rgl_take (i := 10) (v := ?_) [] rfl (by kernel_rfl) (by kernel_rfl) (by decide +kernel) (fun _ _ _ h => h) (by kernel_rfl) (by kernel_rfl) (Or.inl ⟨by kernel_rfl, ?_⟩) hKeep ?_
      rotate_left 1
      · rintro w' -
        go_simp
        first | done | with_reducible rfl
      intro hKeep'
      clear hKeep
      have hKeep := hKeep'
      clear hKeep'
      try simp only [Act.put, List.setIfInBounds_toArray, List.set_cons_zero, List.set_cons_succ]
      refine rgl_ready (rs := [11]) (by decide +kernel) (by simp) ?_
      refine rgl_cons rfl (fun K hK => ?_) AllReadyL.nil
      have f7 := H7.r3.frozen 0
      have p7 := H7.r3.cell 0 (v := .slice AN N1.length cN) rfl
      have H8 := H7.r3.set 0 (.slice A4 (N1.length + 1) c4)
      go_simp
      refine hK.out _ _ (Keep.off (by kernel_rfl) trivial) (fun hKeep' => ?_)
      clear hK hKeep hKeep'
      refine rgl_done (by kernel_rfl) ?_ _
      generalize World.setCell _ _ _ = w8 at *
      have HT : RvS w0 w8 F bv rb S ((r.nat 4).2, N1 ++ [(r.nat 4).1], T1) := ⟨A4, c4, AT, cT, by
        dsimp only
        rw [show (N1 ++ [(r.nat 4).1]).length = N1.length + 1 by simp, ivs_snoc]
        exact H8.r3.r2⟩
      clear H8 H7 H5 HSd f7 p7
      obtain ⟨S2, hS2⟩ : ∃ S2 : TS, S2 = ((r.nat 4).2, N1 ++ [(r.nat 4).1], T1) := ⟨_, rfl⟩
      have hstep : tk (.sign 117 0 Tr.nil .nil) none (r, N1, T1) = finT S2 := by rw [hS2]; rw [tk, if_pos rfl, bind_nil, putN_fin]
      rw [← hS2] at HT
      have hce := HT.err
      have HST := Lib.hid hstep
      have hOS : o = (finT S2).bind (tk t' none) := by rw [HO.out, tk_cons, hstep]
      have HOS := Lib.hid hOS
      clear hS2 hstep hOS
      by_cases he : S2.1.e = 0
      · rw [he] at hce
        have HE := Lib.hid he
        have hfin : finT S2 = .ok S2 := if_pos he
        have HFN := Lib.hid hfin
        clear he hfin
        go_wp2_with (fail)
        go_roundw
        case rel =>
          have hg := tk_grow _ _ _ _ (HST.out.trans HFN.out)
          exact ⟨j, q + 1, t', S2, by omega, by omega, HPT.out, by rw [HOS.out, HFN.out]; rfl, by have := hsg; simp only [Tr.sg] at this; omega, HE.out, Nat.le_trans hg.size hz1, bnd_next (g := 1 + (Tr.nil).sg) hg HB.out, by go_num, HT⟩
        case measure => simp [intOf]; omega
      · have hne : (S2.1.e != 0) = true := bne_iff_ne.2 he
        have hfin : finT S2 = .error S2.1.e := if_neg he
        have hno : o = finT S2 := by rw [HOS.out, hfin]; rfl
        have HNO := Lib.hid hno
        clear he hfin hno
        obtain ⟨G, HG, HGB⟩ := HT.any
        have HGB := Lib.hid HGB
        go_wp2_with (fail)
        refine (skipx_ok s hs (q + 1) (by omega) HG).mono ?_
        rintro x w9 ⟨⟨nx, rfl⟩, H9⟩
        clear HG hce
        go_wp2_with (fail)
        go_ret
        exact ⟨⟨_, rfl⟩, S2, HNO.out, HGB.out _ H9⟩
    by_cases e113 : ci = 113
    · as_aux_lemma =>
      subst e113
      obtain ⟨t', rfl, hpt⟩ := pr_num HP.out 113 (by have := HPK.out; omega) (.inr (.inl rfl))
      have HPT := Lib.hid hpt
      clear hpt HP
      obtain ⟨AN, cN, AT, cT, HS⟩ := HT
      dsimp only at HS
      go_upto_region 9 with (fail)
      have HSd := HS.drew
      refine wp_region_L [(8, fun w' => w'.cell? ⟨bv, 0, none⟩ = some (.slice AN N1.length cN))] (by kernel_rfl) (Keep.on (HSd.cell 0 rfl) trivial) (fun hKeep => ?_)
      generalize World.drew _ = w6 at *
      clear HS
      refine rgl_take (i := 0) (v := ?_) [] rfl (by kernel_rfl) (by kernel_rfl) (by decide +kernel) (fun _ _ _ h => h) (by kernel_rfl) (by kernel_rfl) (Or.inl ⟨by kernel_rfl, ?_⟩) hKeep ?_
      rotate_left 1
      · rintro w' -
        go_simp
        first | done | with_reducible rfl
      intro hKeep'
      clear hKeep
      have hKeep := hKeep'
      clear hKeep'
      try simp only [Act.put, List.setIfInBounds_toArray, List.set_cons_zero, List.set_cons_succ]
      refine rgl_take (i := 1) (v := ?_) [] rfl (by kernel_rfl) (by kernel_rfl) (by decide +kernel) (fun _ _ _ h => h) (by kernel_rfl) (by kernel_rfl) (Or.inl ⟨by kernel_rfl, ?_⟩) hKeep ?_
      rotate_left 1
      · rintro w' -
        go_simp
        first | done | with_reducible rfl
      intro hKeep'
      clear hKeep
      have hKeep := hKeep'
      clear hKeep'
      try simp only [Act.put, List.setIfInBounds_toArray, List.set_cons_zero, List.set_cons_succ]
      refine rgl_take (i := 2) (v := ?_) [] rfl (by kernel_rfl) (by kernel_rfl) (by decide +kernel) (fun _ _ _ h => h) (by kernel_rfl) (by kernel_rfl) (Or.inl ⟨by kernel_rfl, ?_⟩) hKeep ?_
      rotate_left 1
      · rintro w' -
        go_simp
        first | done | with_reducible rfl
      intro hKeep'
      clear hKeep
      have hKeep := hKeep'
      clear hKeep'
      try simp only [Act.put, List.setIfInBounds_toArray, List.set_cons_zero, List.set_cons_succ]
      refine rgl_take (i := 3) (v := ?_) [] rfl (by kernel_rfl) (by kernel_rfl) (by decide +kernel) (fun _ _ _ h => h) (by kernel_rfl) (by kernel_rfl) (Or.inl ⟨by kernel_rfl, ?_⟩) hKeep ?_
      rotate_left 1
      · rintro w' -
        go_simp
        first | done | with_reducible rfl
      intro hKeep'
      clear hKeep
      have hKeep := hKeep'
      clear hKeep'
      try simp only [Act.put, List.setIfInBounds_toArray, List.set_cons_zero, List.set_cons_succ]
      refine rgl_take (i := 4) (v := ?_) [8] rfl (by kernel_rfl) (by kernel_rfl) (by decide +kernel) (fun _ _ _ h => h) (by kernel_rfl) (by kernel_rfl) (Or.inl ⟨by kernel_rfl, ?_⟩) hKeep ?_
      rotate_left 1
      · rintro w' ⟨L, hL, hSw⟩
        have q := Keep.hd hSw (hL 8 (by simp))
        try dsimp only at q
        clear hSw hL
        go_simp
        first | done | with_reducible rfl
      intro hKeep'
      clear hKeep
      have hKeep := hKeep'
      clear hKeep'
      try simp only [Act.put, List.setIfInBounds_toArray, List.set_cons_zero, List.set_cons_succ]
      refine rgl_take (i := 5) (v := ?_) [] rfl (by kernel_rfl) (by kernel_rfl) (by decide +kernel) (fun _ _ _ h => h) (by kernel_rfl) (by kernel_rfl) (Or.inl ⟨by kernel_rfl, ?_⟩) hKeep ?_
      rotate_left 1
      · rintro w' -
        go_simp
        first | done | with_reducible rfl
      intro hKeep'
      clear hKeep
      have hKeep := hKeep'
      clear hKeep'
      try simp only [Act.put, List.setIfInBounds_toArray, List.set_cons_zero, List.set_cons_succ]
      refine rgl_ready (rs := [6]) (by decide +kernel) (by simp) ?_
      refine rgl_cons rfl (fun K hK => ?_) AllReadyL.nil
      go_simp
      refine (refnum8_ok rb S r (by omega) HSd.r2).mono ?_
      rintro x w5 ⟨rfl, H5⟩
      refine hK.out _ _ (Keep.on (H5.r2.cell 0 rfl) trivial) (fun hKeep' => ?_)
      clear hK hKeep
      have hKeep := hKeep'
      clear hKeep'
      try simp only [Act.put, List.setIfInBounds_toArray, List.set_cons_zero, List.set_cons_succ]
      refine rgl_ready (rs := [7]) (by decide +kernel) (by simp) ?_
      refine rgl_cons rfl (fun K hK => ?_) AllReadyL.nil
      have H6 := (H5.r3).more (.cells #[.int .i64 (r.nat 8).1] 3)
      have hq6 := (H5.alloc #[.int .i64 (r.nat 8).1] 3).r3.cell 0 (v := .slice AN N1.length cN) rfl
      go_simp
      refine hK.out _ _ (Keep.on hq6 trivial) (fun hKeep' => ?_)
      clear hK hKeep
      have hKeep := hKeep'
      clear hKeep'
      try simp only [Act.put, List.setIfInBounds_toArray, List.set_cons_zero, List.set_cons_succ]
      refine rgl_ready (rs := [8]) (by decide +kernel) (by simp) ?_
      refine rgl_cons rfl (fun K hK => ?_) AllReadyL.nil
      refine step_append_st (by rfl) _ _ _ (by rfl) 3 i0 (.int .i64 0) 1 8 Try.underlying23 hi hi0 hi1 hi2 rfl (by decide) AN N1.length cN (ivs N1) H6 (by rfl) ⟨_, 0, none⟩ 1 1 [.int .i64 (r.nat 8).1] (by rfl) rfl (World.news_of_block (heap_alloc_new _ _)) (fun u hu => by simp at hu; subst hu; rfl) (by unfold maxLen; omega) (by omega) ?_
      intro A4 c4 w4 H7
      clear hq6 H6
      refine hK.out _ _ (Keep.off (by kernel_rfl) trivial) (fun hKeep' => ?_)
      clear hK hKeep
      have hKeep := hKeep'
      clear hKeep'
      try simp only [Act.put, List.setIfInBounds_toArray, List.set_cons_zero, List.set_cons_succ]
      refine rgl_take (i := 9) (v := ?_) [] rfl (by kernel_rfl) (by kernel_rfl) (by decide +kernel) (fun _ _ _ h => h) (by kernel_rfl) (by kernel_rfl) (Or.inl ⟨by kernel_rfl, ?_⟩) hKeep ?_
      rotate_left 1
      · rintro w' -
        go_simp
        first | done | with_reducible rfl
      intro hKeep'
      clear hKeep
      have hKeep := hKeep'
      clear hKeep'
      try simp only [Act.put, List.setIfInBounds_toArray, List.set_cons_zero, List.set_cons_succ]
      refine rgl_take (i := 10) (v := ?_) [] rfl (by kernel_rfl) (by kernel_rfl) (by decide +kernel) (fun _ _ _ h => h) (by kernel_rfl) (by kernel_rfl) (Or.inl ⟨by kernel_rfl, ?_⟩) hKeep ?_
      rotate_left 1
      · rintro w' -
        go_simp
        first | done | with_reducible rfl
      intro hKeep'
      clear hKeep
      have hKeep := hKeep'
      clear hKeep'
      try simp only [Act.put, List.setIfInBounds_toArray, List.set_cons_zero, List.set_cons_succ]
      refine rgl_ready (rs := [11]) (by decide +kernel) (by simp) ?_
      refine rgl_cons rfl (fun K hK => ?_) AllReadyL.nil
      have f7 := H7.r3.frozen 0
      have p7 := H7.r3.cell 0 (v := .slice AN N1.length cN) rfl
      have H8 := H7.r3.set 0 (.slice A4 (N1.length + 1) c4)
      go_simp
      refine hK.out _ _ (Keep.off (by kernel_rfl) trivial) (fun hKeep' => ?_)
      clear hK hKeep hKeep'
      refine rgl_done (by kernel_rfl) ?_ _
      generalize World.setCell _ _ _ = w8 at *
      have HT : RvS w0 w8 F bv rb S ((r.nat 8).2, N1 ++ [(r.nat 8).1], T1) := ⟨A4, c4, AT, cT, by
        dsimp only
        rw [show (N1 ++ [(r.nat 8).1]).length = N1.length + 1 by simp, ivs_snoc]
        exact H8.r3.r2⟩
      clear H8 H7 H5 HSd f7 p7
      obtain ⟨S2, hS2⟩ : ∃ S2 : TS, S2 = ((r.nat 8).2, N1 ++ [(r.nat 8).1], T1) := ⟨_, rfl⟩
      have hstep : tk (.sign 113 0 Tr.nil .nil) none (r, N1, T1) = finT S2 := by rw [hS2]; rw [tk, if_neg (by decide), if_pos rfl, bind_nil, putN_fin]
      rw [← hS2] at HT
      have hce := HT.err
      have HST := Lib.hid hstep
      have hOS : o = (finT S2).bind (tk t' none) := by rw [HO.out, tk_cons, hstep]
      have HOS := Lib.hid hOS
      clear hS2 hstep hOS
      by_cases he : S2.1.e = 0
      · rw [he] at hce
        have HE := Lib.hid he
        have hfin : finT S2 = .ok S2 := if_pos he
        have HFN := Lib.hid hfin
        clear he hfin
        go_wp2_with (fail)
        go_roundw
        case rel =>
          have hg := tk_grow _ _ _ _ (HST.out.trans HFN.out)
          exact ⟨j, q + 1, t', S2, by omega, by omega, HPT.out, by rw [HOS.out, HFN.out]; rfl, by have := hsg; simp only [Tr.sg] at this; omega, HE.out, Nat.le_trans hg.size hz1, bnd_next (g := 1 + (Tr.nil).sg) hg HB.out, by go_num, HT⟩
        case measure => simp [intOf]; omega
      · have hne : (S2.1.e != 0) = true := bne_iff_ne.2 he
        have hfin : finT S2 = .error S2.1.e := if_neg he
        have hno : o = finT S2 := by rw [HOS.out, hfin]; rfl
        have HNO := Lib.hid hno
        clear he hfin hno
        obtain ⟨G, HG, HGB⟩ := HT.any
        have HGB := Lib.hid HGB
        go_wp2_with (fail)
        refine (skipx_ok s hs (q + 1) (by omega) HG).mono ?_
        rintro x w9 ⟨⟨nx, rfl⟩, H9⟩
        clear HG hce
        go_wp2_with (fail)
        go_ret
        exact ⟨⟨_, rfl⟩, S2, HNO.out, HGB.out _ H9⟩
    by_cases e98 : ci = 98
    · as_aux_lemma =>
      subst e98
      obtain ⟨t', rfl, hpt⟩ := pr_num HP.out 98 (by have := HPK.out; omega) (.inr (.inr rfl))
      have HPT := Lib.hid hpt
      clear hpt HP
      obtain ⟨AN, cN, AT, cT, HS⟩ := HT
      dsimp only at HS
      go_upto_region 11 with (fail)
      have HSd := HS.drew
      refine wp_region_L [(9, fun w' => w'.cell? ⟨bv, 0, none⟩ = some (.slice AN N1.length cN))] (by kernel_rfl) (Keep.on (HSd.cell 0 rfl) trivial) (fun hKeep => ?_)
      generalize World.drew _ = w6 at *
      clear HS
      refine rgl_take (i := 0) (v := ?_) [] rfl (by kernel_rfl) (by kernel_rfl) (by decide +kernel) (fun _ _ _ h => h) (by kernel_rfl) (by kernel_rfl) (Or.inl ⟨by kernel_rfl, ?_⟩) hKeep ?_
      rotate_left 1
      · rintro w' -
        go_simp
        first | done | with_reducible rfl
      intro hKeep'
      clear hKeep
      have hKeep := hKeep'
      clear hKeep'
      try simp only [Act.put, List.setIfInBounds_toArray, List.set_cons_zero, List.set_cons_succ]
      refine rgl_take (i := 1) (v := ?_) [] rfl (by kernel_rfl) (by kernel_rfl) (by decide +kernel) (fun _ _ _ h => h) (by kernel_rfl) (by kernel_rfl) (Or.inl ⟨by kernel_rfl, ?_⟩) hKeep ?_
      rotate_left 1
      · rintro w' -
        go_simp
        first | done | with_reducible rfl
      intro hKeep'
      clear hKeep
      have hKeep := hKeep'
      clear hKeep'
      try simp only [Act.put, List.setIfInBounds_toArray, List.set_cons_zero, List.set_cons_succ]
      refine rgl_take (i := 2) (v := ?_) [] rfl (by kernel_rfl) (by kernel_rfl) (by decide +kernel) (fun _ _ _ h => h) (by kernel_rfl) (by kernel_rfl) (Or.inl ⟨by kernel_rfl, ?_⟩) hKeep ?_
      rotate_left 1
      · rintro w' -
        go_simp
        first | done | with_reducible rfl
      intro hKeep'
      clear hKeep
      have hKeep := hKeep'
      clear hKeep'
      try simp only [Act.put, List.setIfInBounds_toArray, List.set_cons_zero, List.set_cons_succ]
      refine rgl_take (i := 3) (v := ?_) [] rfl (by kernel_rfl) (by kernel_rfl) (by decide +kernel) (fun _ _ _ h => h) (by kernel_rfl) (by kernel_rfl) (Or.inl ⟨by kernel_rfl, ?_⟩) hKeep ?_
      rotate_left 1
      · rintro w' -
        go_simp
        first | done | with_reducible rfl
      intro hKeep'
      clear hKeep
      have hKeep := hKeep'
      clear hKeep'
      try simp only [Act.put, List.setIfInBounds_toArray, List.set_cons_zero, List.set_cons_succ]
      refine rgl_take (i := 4) (v := ?_) [9] rfl (by kernel_rfl) (by kernel_rfl) (by decide +kernel) (fun _ _ _ h => h) (by kernel_rfl) (by kernel_rfl) (Or.inl ⟨by kernel_rfl, ?_⟩) hKeep ?_
      rotate_left 1
      · rintro w' ⟨L, hL, hSw⟩
        have q := Keep.hd hSw (hL 9 (by simp))
        try dsimp only at q
        clear hSw hL
        go_simp
        first | done | with_reducible rfl
      intro hKeep'
      clear hKeep
      have hKeep := hKeep'
      clear hKeep'
      try simp only [Act.put, List.setIfInBounds_toArray, List.set_cons_zero, List.set_cons_succ]
      refine rgl_take (i := 5) (v := ?_) [] rfl (by kernel_rfl) (by kernel_rfl) (by decide +kernel) (fun _ _ _ h => h) (by kernel_rfl) (by kernel_rfl) (Or.inl ⟨by kernel_rfl, ?_⟩) hKeep ?_
      rotate_left 1
      · rintro w' -
        go_simp
        first | done | with_reducible rfl
      intro hKeep'
      clear hKeep
      have hKeep := hKeep'
      clear hKeep'
      try simp only [Act.put, List.setIfInBounds_toArray, List.set_cons_zero, List.set_cons_succ]
      refine rgl_ready (rs := [6]) (by decide +kernel) (by simp) ?_
      refine rgl_cons rfl (fun K hK => ?_) AllReadyL.nil
      go_simp
      refine (refbool_ok rb S r (by omega) HSd.r2).mono ?_
      rintro x w5 ⟨rfl, H5⟩
      refine hK.out _ _ (Keep.on (H5.r2.cell 0 rfl) trivial) (fun hKeep' => ?_)
      clear hK hKeep
      have hKeep := hKeep'
      clear hKeep'
      try simp only [Act.put, List.setIfInBounds_toArray, List.set_cons_zero, List.set_cons_succ]
      refine rgl_ready (rs := [7]) (by decide +kernel) (by simp) ?_
      refine rgl_cons rfl (fun K hK => ?_) AllReadyL.nil
      go_simp
      refine (flag_ok _ _).mono ?_
      rintro x w5' ⟨rfl, rfl⟩
      refine hK.out _ _ (Keep.on (H5.r2.cell 0 rfl) trivial) (fun hKeep' => ?_)
      clear hK hKeep
      have hKeep := hKeep'
      clear hKeep'
      try simp only [Act.put, List.setIfInBounds_toArray, List.set_cons_zero, List.set_cons_succ]
      refine rgl_ready (rs := [8]) (by decide +kernel) (by simp) ?_
      refine rgl_cons rfl (fun K hK => ?_) AllReadyL.nil
      have H6 := (H5.r3).more (.cells #[.int .i64 (bitI r.bool.1)] 3)
      have hq6 := (H5.alloc #[.int .i64 (bitI r.bool.1)] 3).r3.cell 0 (v := .slice AN N1.length cN) rfl
      go_simp
      refine hK.out _ _ (Keep.on hq6 trivial) (fun hKeep' => ?_)
      clear hK hKeep
      have hKeep := hKeep'
      clear hKeep'
      try simp only [Act.put, List.setIfInBounds_toArray, List.set_cons_zero, List.set_cons_succ]
      refine rgl_ready (rs := [9]) (by decide +kernel) (by simp) ?_
      refine rgl_cons rfl (fun K hK => ?_) AllReadyL.nil
      refine step_append_st (by rfl) _ _ _ (by rfl) 3 i0 (.int .i64 0) 1 8 Try.underlying23 hi hi0 hi1 hi2 rfl (by decide) AN N1.length cN (ivs N1) H6 (by rfl) ⟨_, 0, none⟩ 1 1 [.int .i64 (bitI r.bool.1)] (by rfl) rfl (World.news_of_block (heap_alloc_new _ _)) (fun u hu => by simp at hu; subst hu; rfl) (by unfold maxLen; omega) (by omega) ?_
      intro A4 c4 w4 H7
      clear hq6 H6
      refine hK.out _ _ (Keep.off (by kernel_rfl) trivial) (fun hKeep' => ?_)
      clear hK hKeep
      have hKeep := hKeep'
      clear hKeep'
      try simp only [Act.put, List.setIfInBounds_toArray, List.set_cons_zero, List.set_cons_succ]
      refine rgl_take (i := 10) (v := ?_) [] rfl (by kernel_rfl) (by kernel_rfl) (by decide +kernel) (fun _ _ _ h => h) (by kernel_rfl) (by kernel_rfl) (Or.inl ⟨by kernel_rfl, ?_⟩) hKeep ?_
      rotate_left 1
      · rintro w' -
        go_simp
        first | done | with_reducible rfl
      intro hKeep'
      clear hKeep
      have hKeep := hKeep'
      clear hKeep'
      try simp only [Act.put, List.setIfInBounds_toArray, List.set_cons_zero, List.set_cons_succ]
      refine rgl_take (i := 11) (v := ?_) [] rfl (by kernel_rfl) (by kernel_rfl) (by decide +kernel) (fun _ _ _ h => h) (by kernel_rfl) (by kernel_rfl) (Or.inl ⟨by kernel_rfl, ?_⟩) hKeep ?_
      rotate_left 1
      · rintro w' -
        go_simp
        first | done | with_reducible rfl
      intro hKeep'
      clear hKeep
      have hKeep := hKeep'
      clear hKeep'
      try simp only [Act.put, List.setIfInBounds_toArray, List.set_cons_zero, List.set_cons_succ]
      refine rgl_ready (rs := [12]) (by decide +kernel) (by simp) ?_
      refine rgl_cons rfl (fun K hK => ?_) AllReadyL.nil
      have f7 := H7.r3.frozen 0
      have p7 := H7.r3.cell 0 (v := .slice AN N1.length cN) rfl
      have H8 := H7.r3.set 0 (.slice A4 (N1.length + 1) c4)
      go_simp
      refine hK.out _ _ (Keep.off (by kernel_rfl) trivial) (fun hKeep' => ?_)
      clear hK hKeep hKeep'
      refine rgl_done (by kernel_rfl) ?_ _
      generalize World.setCell _ _ _ = w8 at *
      have HT : RvS w0 w8 F bv rb S (r.bool.2, N1 ++ [bitI r.bool.1], T1) := ⟨A4, c4, AT, cT, by
        dsimp only
        rw [show (N1 ++ [bitI r.bool.1]).length = N1.length + 1 by simp, ivs_snoc]
        exact H8.r3.r2⟩
      clear H8 H7 H5 HSd f7 p7
      obtain ⟨S2, hS2⟩ : ∃ S2 : TS, S2 = (r.bool.2, N1 ++ [bitI r.bool.1], T1) := ⟨_, rfl⟩
      have hstep : tk (.sign 98 0 Tr.nil .nil) none (r, N1, T1) = finT S2 := by rw [hS2]; rw [tk, if_neg (by decide), if_neg (by decide), if_pos rfl, bind_nil, putN_fin]
      rw [← hS2] at HT
      have hce := HT.err
      have HST := Lib.hid hstep
      have hOS : o = (finT S2).bind (tk t' none) := by rw [HO.out, tk_cons, hstep]
      have HOS := Lib.hid hOS
      clear hS2 hstep hOS
      by_cases he : S2.1.e = 0
      · rw [he] at hce
        have HE := Lib.hid he
        have hfin : finT S2 = .ok S2 := if_pos he
        have HFN := Lib.hid hfin
        clear he hfin
        go_wp2_with (fail)
        go_roundw
        case rel =>
          have hg := tk_grow _ _ _ _ (HST.out.trans HFN.out)
          exact ⟨j, q + 1, t', S2, by omega, by omega, HPT.out, by rw [HOS.out, HFN.out]; rfl, by have := hsg; simp only [Tr.sg] at this; omega, HE.out, Nat.le_trans hg.size hz1, bnd_next (g := 1 + (Tr.nil).sg) hg HB.out, by go_num, HT⟩
        case measure => simp [intOf]; omega
      · have hne : (S2.1.e != 0) = true := bne_iff_ne.2 he
        have hfin : finT S2 = .error S2.1.e := if_neg he
        have hno : o = finT S2 := by rw [HOS.out, hfin]; rfl
        have HNO := Lib.hid hno
        clear he hfin hno
        obtain ⟨G, HG, HGB⟩ := HT.any
        have HGB := Lib.hid HGB
        go_wp2_with (fail)
        refine (skipx_ok s hs (q + 1) (by omega) HG).mono ?_
        rintro x w9 ⟨⟨nx, rfl⟩, H9⟩
        clear HG hce
        go_wp2_with (fail)
        go_ret
        exact ⟨⟨_, rfl⟩, S2, HNO.out, HGB.out _ H9⟩
    by_cases e111 : ci = 111
    · as_aux_lemma =>
      subst e111
      obtain ⟨n, e1, t', hnum, rfl, hpt⟩ := pr_txt HP.out 111 (by have := HPK.out; omega) (.inl rfl)
      have hdg := digits_ok s (q + 1) hs (by omega)
      rw [(digI_some hnum).1, (digI_some hnum).2] at hdg
      have hrg := numF_range hnum
      dsimp only at hrg hdg
      have he1 : e1 ≤ s.size := hrg.2.2 (by omega)
      have he0 : q + 1 < e1 := hrg.1
      have HPT := Lib.hid hpt
      clear hpt HP hnum hrg
      obtain ⟨AN, cN, AT, cT, HS⟩ := HT
      dsimp only at HS
      go_upto_region 14 with (go_at_call 40; refine (hdg _).mono ?_; rintro x w1 ⟨rfl, rfl⟩)
      have HSd := HS.drew
      refine wp_region_L [(9, fun w' => w'.cell? ⟨bv, 1, none⟩ = some (.slice AT T1.length cT))] (by kernel_rfl) (Keep.on (HSd.cell 1 rfl) trivial) (fun hKeep => ?_)
      generalize World.drew _ = w6 at *
      clear HS
      refine rgl_take (i := 0) (v := ?_) [] rfl (by kernel_rfl) (by kernel_rfl) (by decide +kernel) (fun _ _ _ h => h) (by kernel_rfl) (by kernel_rfl) (Or.inl ⟨by kernel_rfl, ?_⟩) hKeep ?_
      rotate_left 1
      · rintro w' -
        go_simp
        first | done | with_reducible rfl
      intro hKeep'
      clear hKeep
      have hKeep := hKeep'
      clear hKeep'
      try simp only [Act.put, List.setIfInBounds_toArray, List.set_cons_zero, List.set_cons_succ]
      refine rgl_take (i := 1) (v := ?_) [] rfl (by kernel_rfl) (by kernel_rfl) (by decide +kernel) (fun _ _ _ h => h) (by kernel_rfl) (by kernel_rfl) (Or.inl ⟨by kernel_rfl, ?_⟩) hKeep ?_
      rotate_left 1
      · rintro w' -
        go_simp
        first | done | with_reducible rfl
      intro hKeep'
      clear hKeep
      have hKeep := hKeep'
      clear hKeep'
      try simp only [Act.put, List.setIfInBounds_toArray, List.set_cons_zero, List.set_cons_succ]
      refine rgl_take (i := 2) (v := ?_) [] rfl (by kernel_rfl) (by kernel_rfl) (by decide +kernel) (fun _ _ _ h => h) (by kernel_rfl) (by kernel_rfl) (Or.inl ⟨by kernel_rfl, ?_⟩) hKeep ?_
      rotate_left 1
      · rintro w' -
        go_simp
        first | done | with_reducible rfl
      intro hKeep'
      clear hKeep
      have hKeep := hKeep'
      clear hKeep'
      try simp only [Act.put, List.setIfInBounds_toArray, List.set_cons_zero, List.set_cons_succ]
      refine rgl_take (i := 3) (v := ?_) [] rfl (by kernel_rfl) (by kernel_rfl) (by decide +kernel) (fun _ _ _ h => h) (by kernel_rfl) (by kernel_rfl) (Or.inl ⟨by kernel_rfl, ?_⟩) hKeep ?_
      rotate_left 1
      · rintro w' -
        go_simp
        first | done | with_reducible rfl
      intro hKeep'
      clear hKeep
      have hKeep := hKeep'
      clear hKeep'
      try simp only [Act.put, List.setIfInBounds_toArray, List.set_cons_zero, List.set_cons_succ]
      refine rgl_take (i := 4) (v := ?_) [9] rfl (by kernel_rfl) (by kernel_rfl) (by decide +kernel) (fun _ _ _ h => h) (by kernel_rfl) (by kernel_rfl) (Or.inl ⟨by kernel_rfl, ?_⟩) hKeep ?_
      rotate_left 1
      · rintro w' ⟨L, hL, hSw⟩
        have q := Keep.hd hSw (hL 9 (by simp))
        try dsimp only at q
        clear hSw hL
        go_simp
        first | done | with_reducible rfl
      intro hKeep'
      clear hKeep
      have hKeep := hKeep'
      clear hKeep'
      try simp only [Act.put, List.setIfInBounds_toArray, List.set_cons_zero, List.set_cons_succ]
      refine rgl_take (i := 5) (v := ?_) [] rfl (by kernel_rfl) (by kernel_rfl) (by decide +kernel) (fun _ _ _ h => h) (by kernel_rfl) (by kernel_rfl) (Or.inl ⟨by kernel_rfl, ?_⟩) hKeep ?_
      rotate_left 1
      · rintro w' -
        go_simp
        first | done | with_reducible rfl
      intro hKeep'
      clear hKeep
      have hKeep := hKeep'
      clear hKeep'
      try simp only [Act.put, List.setIfInBounds_toArray, List.set_cons_zero, List.set_cons_succ]
      refine rgl_take (i := 6) (v := ?_) [] rfl (by kernel_rfl) (by kernel_rfl) (by decide +kernel) (fun _ _ _ h => h) (by kernel_rfl) (by kernel_rfl) (Or.inl ⟨by kernel_rfl, ?_⟩) hKeep ?_
      rotate_left 1
      · rintro w' -
        go_simp
        first | done | with_reducible rfl
      intro hKeep'
      clear hKeep
      have hKeep := hKeep'
      clear hKeep'
      try simp only [Act.put, List.setIfInBounds_toArray, List.set_cons_zero, List.set_cons_succ]
      refine rgl_ready (rs := [7]) (by decide +kernel) (by simp) ?_
      refine rgl_cons rfl (fun K hK => ?_) AllReadyL.nil
      go_simp
      refine (refopaque_ok rb S r n (by omega) HSd.r2).mono ?_
      rintro x w5 ⟨rfl, H5⟩
      refine hK.out _ _ (Keep.on (H5.r2.cell 1 rfl) trivial) (fun hKeep' => ?_)
      clear hK hKeep
      have hKeep := hKeep'
      clear hKeep'
      try simp only [Act.put, List.setIfInBounds_toArray, List.set_cons_zero, List.set_cons_succ]
      refine rgl_ready (rs := [8]) (by decide +kernel) (by simp) ?_
      refine rgl_cons rfl (fun K hK => ?_) AllReadyL.nil
      have H6 := (H5.r4).more (.cells #[.string (r.opqe n).1] 9)
      have hq6 := (H5.alloc #[.string (r.opqe n).1] 9).r3.cell 1 (v := .slice AT T1.length cT) rfl
      go_simp
      refine hK.out _ _ (Keep.on hq6 trivial) (fun hKeep' => ?_)
      clear hK hKeep
      have hKeep := hKeep'
      clear hKeep'
      try simp only [Act.put, List.setIfInBounds_toArray, List.set_cons_zero, List.set_cons_succ]
      refine rgl_ready (rs := [9]) (by decide +kernel) (by simp) ?_
      refine rgl_cons rfl (fun K hK => ?_) AllReadyL.nil
      refine step_append_st (by rfl) _ _ _ (by rfl) 9 x0 (.string ByteArray.empty) 1 16 Try.underlying24 hx hx0 hx1 hx2 rfl (by decide) AT T1.length cT (svs T1) H6 (by rfl) ⟨_, 0, none⟩ 1 1 [.string (r.opqe n).1] (by rfl) rfl (World.news_of_block (heap_alloc_new _ _)) (fun u hu => by simp at hu; subst hu; rfl) (by unfold maxLen; omega) (by omega) ?_
      intro A4 c4 w4 H7
      clear hq6 H6
      refine hK.out _ _ (Keep.off (by kernel_rfl) trivial) (fun hKeep' => ?_)
      clear hK hKeep
      have hKeep := hKeep'
      clear hKeep'
      try simp only [Act.put, List.setIfInBounds_toArray, List.set_cons_zero, List.set_cons_succ]
      refine rgl_take (i := 10) (v := ?_) [] rfl (by kernel_rfl) (by kernel_rfl) (by decide +kernel) (fun _ _ _ h => h) (by kernel_rfl) (by kernel_rfl) (Or.inl ⟨by kernel_rfl, ?_⟩) hKeep ?_
      rotate_left 1
      · rintro w' -
        go_simp
        first | done | with_reducible rfl
      intro hKeep'
      clear hKeep
      have hKeep := hKeep'
      clear hKeep'
      try simp only [Act.put, List.setIfInBounds_toArray, List.set_cons_zero, List.set_cons_succ]
      refine rgl_take (i := 11) (v := ?_) [] rfl (by kernel_rfl) (by kernel_rfl) (by decide +kernel) (fun _ _ _ h => h) (by kernel_rfl) (by kernel_rfl) (Or.inl ⟨by kernel_rfl, ?_⟩) hKeep ?_
      rotate_left 1
      · rintro w' -
        go_simp
        first | done | with_reducible rfl
      intro hKeep'
      clear hKeep
      have hKeep := hKeep'
      clear hKeep'
      try simp only [Act.put, List.setIfInBounds_toArray, List.set_cons_zero, List.set_cons_succ]
      refine rgl_ready (rs := [12]) (by decide +kernel) (by simp) ?_
      refine rgl_cons rfl (fun K hK => ?_) AllReadyL.nil
      have f7 := H7.r3.frozen 1
      have p7 := H7.r3.cell 1 (v := .slice AT T1.length cT) rfl
      have H8 := H7.r3.set 1 (.slice A4 (T1.length + 1) c4)
      go_simp
      refine hK.out _ _ (Keep.off (by kernel_rfl) trivial) (fun hKeep' => ?_)
      clear hK hKeep hKeep'
      refine rgl_done (by kernel_rfl) ?_ _
      generalize World.setCell _ _ _ = w8 at *
      have HT : RvS w0 w8 F bv rb S ((r.opqe n).2, N1, T1 ++ [(r.opqe n).1]) := ⟨AN, cN, A4, c4, by
        dsimp only
        rw [show (T1 ++ [(r.opqe n).1]).length = T1.length + 1 by simp, svs_snoc]
        exact H8.ord 4 [0, 2, 3, 1]⟩
      clear H8 H7 H5 HSd f7 p7
      obtain ⟨S2, hS2⟩ : ∃ S2 : TS, S2 = ((r.opqe n).2, N1, T1 ++ [(r.opqe n).1]) := ⟨_, rfl⟩
      have hstep : tk (.sign 111 n Tr.nil .nil) none (r, N1, T1) = finT S2 := by rw [hS2]; rw [tk, if_neg (by decide), if_neg (by decide), if_neg (by decide), if_pos rfl, bind_nil, putT_fin]
      rw [← hS2] at HT
      have hce := HT.err
      have HST := Lib.hid hstep
      have hOS : o = (finT S2).bind (tk t' none) := by rw [HO.out, tk_cons, hstep]
      have HOS := Lib.hid hOS
      clear hS2 hstep hOS
      by_cases he : S2.1.e = 0
      · rw [he] at hce
        have HE := Lib.hid he
        have hfin : finT S2 = .ok S2 := if_pos he
        have HFN := Lib.hid hfin
        clear he hfin
        go_wp2_with (fail)
        go_roundw
        case rel =>
          have hg := tk_grow _ _ _ _ (HST.out.trans HFN.out)
          exact ⟨j, e1, t', S2, by omega, by omega, HPT.out, by rw [HOS.out, HFN.out]; rfl, by have := hsg; simp only [Tr.sg] at this; omega, HE.out, Nat.le_trans hg.size hz1, bnd_next (g := 1 + (Tr.nil).sg) hg HB.out, by go_num, HT⟩
        case measure => simp [intOf]; omega
      · have hne : (S2.1.e != 0) = true := bne_iff_ne.2 he
        have hfin : finT S2 = .error S2.1.e := if_neg he
        have hno : o = finT S2 := by rw [HOS.out, hfin]; rfl
        have HNO := Lib.hid hno
        clear he hfin hno
        obtain ⟨G, HG, HGB⟩ := HT.any
        have HGB := Lib.hid HGB
        go_wp2_with (fail)
        refine (skipx_ok s hs (e1) (by omega) HG).mono ?_
        rintro x w9 ⟨⟨nx, rfl⟩, H9⟩
        clear HG hce
        go_wp2_with (fail)
        go_ret
        exact ⟨⟨_, rfl⟩, S2, HNO.out, HGB.out _ H9⟩
    by_cases e102 : ci = 102
    · as_aux_lemma =>
      subst e102
      obtain ⟨n, e1, t', hnum, rfl, hpt⟩ := pr_txt HP.out 102 (by have := HPK.out; omega) (.inr rfl)
      have hdg := digits_ok s (q + 1) hs (by omega)
      rw [(digI_some hnum).1, (digI_some hnum).2] at hdg
      have hrg := numF_range hnum
      dsimp only at hrg hdg
      have he1 : e1 ≤ s.size := hrg.2.2 (by omega)
      have he0 : q + 1 < e1 := hrg.1
      have HPT := Lib.hid hpt
      clear hpt HP hnum hrg
      obtain ⟨AN, cN, AT, cT, HS⟩ := HT
      dsimp only at HS
      go_upto_region 18 with (go_at_call 40; refine (hdg _).mono ?_; rintro x w1 ⟨rfl, rfl⟩)
      have HSd := HS.drew
      refine wp_region_L [(9, fun w' => w'.cell? ⟨bv, 1, none⟩ = some (.slice AT T1.length cT))] (by kernel_rfl) (Keep.on (HSd.cell 1 rfl) trivial) (fun hKeep => ?_)
      generalize World.drew _ = w6 at *
      clear HS
      refine rgl_take (i := 0) (v := ?_) [] rfl (by kernel_rfl) (by kernel_rfl) (by decide +kernel) (fun _ _ _ h => h) (by kernel_rfl) (by kernel_rfl) (Or.inl ⟨by kernel_rfl, ?_⟩) hKeep ?_
      rotate_left 1
      · rintro w' -
        go_simp
        first | done | with_reducible rfl
      intro hKeep'
      clear hKeep
      have hKeep := hKeep'
      clear hKeep'
      try simp only [Act.put, List.setIfInBounds_toArray, List.set_cons_zero, List.set_cons_succ]
      refine rgl_take (i := 1) (v := ?_) [] rfl (by kernel_rfl) (by kernel_rfl) (by decide +kernel) (fun _ _ _ h => h) (by kernel_rfl) (by kernel_rfl) (Or.inl ⟨by kernel_rfl, ?_⟩) hKeep ?_
      rotate_left 1
      · rintro w' -
        go_simp
        first | done | with_reducible rfl
      intro hKeep'
      clear hKeep
      have hKeep := hKeep'
      clear hKeep'
      try simp only [Act.put, List.setIfInBounds_toArray, List.set_cons_zero, List.set_cons_succ]
      refine rgl_take (i := 2) (v := ?_) [] rfl (by kernel_rfl) (by kernel_rfl) (by decide +kernel) (fun _ _ _ h => h) (by kernel_rfl) (by kernel_rfl) (Or.inl ⟨by kernel_rfl, ?_⟩) hKeep ?_
      rotate_left 1
      · rintro w' -
        go_simp
        first | done | with_reducible rfl
      intro hKeep'
      clear hKeep
      have hKeep := hKeep'
      clear hKeep'
      try simp only [Act.put, List.setIfInBounds_toArray, List.set_cons_zero, List.set_cons_succ]
      refine rgl_take (i := 3) (v := ?_) [] rfl (by kernel_rfl) (by kernel_rfl) (by decide +kernel) (fun _ _ _ h => h) (by kernel_rfl) (by kernel_rfl) (Or.inl ⟨by kernel_rfl, ?_⟩) hKeep ?_
      rotate_left 1
      · rintro w' -
        go_simp
        first | done | with_reducible rfl
      intro hKeep'
      clear hKeep
      have hKeep := hKeep'
      clear hKeep'
      try simp only [Act.put, List.setIfInBounds_toArray, List.set_cons_zero, List.set_cons_succ]
      refine rgl_take (i := 4) (v := ?_) [9] rfl (by kernel_rfl) (by kernel_rfl) (by decide +kernel) (fun _ _ _ h => h) (by kernel_rfl) (by kernel_rfl) (Or.inl ⟨by kernel_rfl, ?_⟩) hKeep ?_
      rotate_left 1
      · rintro w' ⟨L, hL, hSw⟩
        have q := Keep.hd hSw (hL 9 (by simp))
        try dsimp only at q
        clear hSw hL
        go_simp
        first | done | with_reducible rfl
      intro hKeep'
      clear hKeep
      have hKeep := hKeep'
      clear hKeep'
      try simp only [Act.put, List.setIfInBounds_toArray, List.set_cons_zero, List.set_cons_succ]
      refine rgl_take (i := 5) (v := ?_) [] rfl (by kernel_rfl) (by kernel_rfl) (by decide +kernel) (fun _ _ _ h => h) (by kernel_rfl) (by kernel_rfl) (Or.inl ⟨by kernel_rfl, ?_⟩) hKeep ?_
      rotate_left 1
      · rintro w' -
        go_simp
        first | done | with_reducible rfl
      intro hKeep'
      clear hKeep
      have hKeep := hKeep'
      clear hKeep'
      try simp only [Act.put, List.setIfInBounds_toArray, List.set_cons_zero, List.set_cons_succ]
      refine rgl_take (i := 6) (v := ?_) [] rfl (by kernel_rfl) (by kernel_rfl) (by decide +kernel) (fun _ _ _ h => h) (by kernel_rfl) (by kernel_rfl) (Or.inl ⟨by kernel_rfl, ?_⟩) hKeep ?_
      rotate_left 1
      · rintro w' -
        go_simp
        first | done | with_reducible rfl
      intro hKeep'
      clear hKeep
      have hKeep := hKeep'
      clear hKeep'
      try simp only [Act.put, List.setIfInBounds_toArray, List.set_cons_zero, List.set_cons_succ]
      refine rgl_ready (rs := [7]) (by decide +kernel) (by simp) ?_
      refine rgl_cons rfl (fun K hK => ?_) AllReadyL.nil
      go_simp
      refine (reftext_ok rb S r n (by omega) HSd.r2).mono ?_
      rintro x w5 ⟨rfl, H5⟩
      refine hK.out _ _ (Keep.on (H5.r2.cell 1 rfl) trivial) (fun hKeep' => ?_)
      clear hK hKeep
      have hKeep := hKeep'
      clear hKeep'
      try simp only [Act.put, List.setIfInBounds_toArray, List.set_cons_zero, List.set_cons_succ]
      refine rgl_ready (rs := [8]) (by decide +kernel) (by simp) ?_
      refine rgl_cons rfl (fun K hK => ?_) AllReadyL.nil
      have H6 := (H5.r4).more (.cells #[.string (r.fixed n).1] 9)
      have hq6 := (H5.alloc #[.string (r.fixed n).1] 9).r3.cell 1 (v := .slice AT T1.length cT) rfl
      go_simp
      refine hK.out _ _ (Keep.on hq6 trivial) (fun hKeep' => ?_)
      clear hK hKeep
      have hKeep := hKeep'
      clear hKeep'
      try simp only [Act.put, List.setIfInBounds_toArray, List.set_cons_zero, List.set_cons_succ]
      refine rgl_ready (rs := [9]) (by decide +kernel) (by simp) ?_
      refine rgl_cons rfl (fun K hK => ?_) AllReadyL.nil
      refine step_append_st (by rfl) _ _ _ (by rfl) 9 x0 (.string ByteArray.empty) 1 16 Try.underlying24 hx hx0 hx1 hx2 rfl (by decide) AT T1.length cT (svs T1) H6 (by rfl) ⟨_, 0, none⟩ 1 1 [.string (r.fixed n).1] (by rfl) rfl (World.news_of_block (heap_alloc_new _ _)) (fun u hu => by simp at hu; subst hu; rfl) (by unfold maxLen; omega) (by omega) ?_
      intro A4 c4 w4 H7
      clear hq6 H6
      refine hK.out _ _ (Keep.off (by kernel_rfl) trivial) (fun hKeep' => ?_)
      clear hK hKeep
      have hKeep := hKeep'
      clear hKeep'
      try simp only [Act.put, List.setIfInBounds_toArray, List.set_cons_zero, List.set_cons_succ]
      refine rgl_take (i := 10) (v := ?_) [] rfl (by kernel_rfl) (by kernel_rfl) (by decide +kernel) (fun _ _ _ h => h) (by kernel_rfl) (by kernel_rfl) (Or.inl ⟨by kernel_rfl, ?_⟩) hKeep ?_
      rotate_left 1
      · rintro w' -
        go_simp
        first | done | with_reducible rfl
      intro hKeep'
      clear hKeep
      have hKeep := hKeep'
      clear hKeep'
      try simp only [Act.put, List.setIfInBounds_toArray, List.set_cons_zero, List.set_cons_succ]
      refine rgl_take (i := 11) (v := ?_) [] rfl (by kernel_rfl) (by kernel_rfl) (by decide +kernel) (fun _ _ _ h => h) (by kernel_rfl) (by kernel_rfl) (Or.inl ⟨by kernel_rfl, ?_⟩) hKeep ?_
      rotate_left 1
      · rintro w' -
        go_simp
        first | done | with_reducible rfl
      intro hKeep'
      clear hKeep
      have hKeep := hKeep'
      clear hKeep'
      try simp only [Act.put, List.setIfInBounds_toArray, List.set_cons_zero, List.set_cons_succ]
      refine rgl_ready (rs := [12]) (by decide +kernel) (by simp) ?_
      refine rgl_cons rfl (fun K hK => ?_) AllReadyL.nil
      have f7 := H7.r3.frozen 1
      have p7 := H7.r3.cell 1 (v := .slice AT T1.length cT) rfl
      have H8 := H7.r3.set 1 (.slice A4 (T1.length + 1) c4)
      go_simp
      refine hK.out _ _ (Keep.off (by kernel_rfl) trivial) (fun hKeep' => ?_)
      clear hK hKeep hKeep'
      refine rgl_done (by kernel_rfl) ?_ _
      generalize World.setCell _ _ _ = w8 at *
      have HT : RvS w0 w8 F bv rb S ((r.fixed n).2, N1, T1 ++ [(r.fixed n).1]) := ⟨AN, cN, A4, c4, by
        dsimp only
        rw [show (T1 ++ [(r.fixed n).1]).length = T1.length + 1 by simp, svs_snoc]
        exact H8.ord 4 [0, 2, 3, 1]⟩
      clear H8 H7 H5 HSd f7 p7
      obtain ⟨S2, hS2⟩ : ∃ S2 : TS, S2 = ((r.fixed n).2, N1, T1 ++ [(r.fixed n).1]) := ⟨_, rfl⟩
      have hstep : tk (.sign 102 n Tr.nil .nil) none (r, N1, T1) = finT S2 := by rw [hS2]; rw [tk, if_neg (by decide), if_neg (by decide), if_neg (by decide), if_neg (by decide), if_pos rfl, bind_nil, putT_fin]
      rw [← hS2] at HT
      have hce := HT.err
      have HST := Lib.hid hstep
      have hOS : o = (finT S2).bind (tk t' none) := by rw [HO.out, tk_cons, hstep]
      have HOS := Lib.hid hOS
      clear hS2 hstep hOS
      by_cases he : S2.1.e = 0
      · rw [he] at hce
        have HE := Lib.hid he
        have hfin : finT S2 = .ok S2 := if_pos he
        have HFN := Lib.hid hfin
        clear he hfin
        go_wp2_with (fail)
        go_roundw
        case rel =>
          have hg := tk_grow _ _ _ _ (HST.out.trans HFN.out)
          exact ⟨j, e1, t', S2, by omega, by omega, HPT.out, by rw [HOS.out, HFN.out]; rfl, by have := hsg; simp only [Tr.sg] at this; omega, HE.out, Nat.le_trans hg.size hz1, bnd_next (g := 1 + (Tr.nil).sg) hg HB.out, by go_num, HT⟩
        case measure => simp [intOf]; omega
      · have hne : (S2.1.e != 0) = true := bne_iff_ne.2 he
        have hfin : finT S2 = .error S2.1.e := if_neg he
        have hno : o = finT S2 := by rw [HOS.out, hfin]; rfl
        have HNO := Lib.hid hno
        clear he hfin hno
        obtain ⟨G, HG, HGB⟩ := HT.any
        have HGB := Lib.hid HGB
        go_wp2_with (fail)
        refine (skipx_ok s hs (e1) (by omega) HG).mono ?_
        rintro x w9 ⟨⟨nx, rfl⟩, H9⟩
        clear HG hce
        go_wp2_with (fail)
        go_ret
        exact ⟨⟨_, rfl⟩, S2, HNO.out, HGB.out _ H9⟩
    by_cases e63 : ci = 63
    · as_aux_lemma =>
      subst e63
      obtain ⟨f, e1, t', hpf, h40, h41, rfl, hpt⟩ := pr_brk HP.out 63 (by have := HPK.out; omega) (.inl rfl)
      have hl41 := pk_lt (s := s) (i := e1) (by omega)
      have hl40 := pk_lt (s := s) (i := q + 1) (by omega)
      have hrg := (pr_range s _ _ _ _ _ _ hpf).1
      dsimp only at hrg
      have HPT := Lib.hid hpt; have HPF := Lib.hid hpf
      clear hpt hpf HP h40 h41
      obtain ⟨qq, hqq⟩ : ∃ qq, qq = r.bool := ⟨_, rfl⟩
      have hqle : qq.2.s.size ≤ r.s.size := by rw [hqq]; exact RS.bool_le r
      have hqt : qq.1 = true → qq.2.e = 0 := fun h => by rw [hqq] at h ⊢; exact (RS.bool_true h).2.1
      obtain ⟨AN, cN, AT, cT, HS⟩ := HT
      dsimp only at HS
      have hbl := refbool_ok rb S r (by omega) HS.r2
      rw [← hqq] at hbl
      have hst : tk (.sign 63 0 (.arm 0 false f .nil) .nil) none (r, N1, T1) = (putN (bitI qq.1) (qq.2, N1, T1)).bind fun st => if qq.1 = true then tk f none st else .ok st := by
        rw [tk, if_neg (by decide), if_neg (by decide), if_neg (by decide), if_neg (by decide), if_neg (by decide), if_pos rfl, bind_nil, ← hqq]
        simp only [arm0_tk]
      have HQT := Lib.hid hqt; have HST0 := Lib.hid hst
      clear hqt hst hqq
      obtain ⟨qb, qr⟩ := qq
      dsimp only at hbl hqle
      go_wp2_with (fail)
      refine hbl.mono ?_
      clear hbl
      rintro x w5 ⟨rfl, H5⟩
      clear HS
      cases qb with
      | false =>
        have hfl := flag_ok false w5
        rw [show bitI false = 0 from rfl] at hfl
        go_wp2_with (fail)
        refine hfl.mono ?_
        clear hfl
        rintro x w6 ⟨rfl, rfl⟩
        have c0 := H5.r2.cell 0 (v := .slice AN N1.length cN) rfl
        go_upto_region 23 with (at_builtin; refine wpList_append_st (by rfl) _ _ _ (by rfl) 3 i0 (.int .i64 0) 1 8 Try.underlying23 hi hi0 hi1 hi2 rfl (by decide) AN N1.length cN (ivs N1) ((H5.r3).more _) (by rfl) ⟨_, 0, none⟩ 1 1 [.int .i64 (0)] (by rfl) rfl (World.news_of_block (heap_alloc_new _ _)) (fun u hu => by simp at hu; subst hu; rfl) (by unfold maxLen; omega) (by omega) ?_; intro A4 c4 w4 H7; have s1 := H7.r3.cell 0 (v := .slice AN N1.length cN) rfl; have g1 := H7.r3.frozen 0; have H8 := H7.r3.set 0 (.slice A4 (N1.length + 1) c4))
        generalize World.setCell _ _ _ = w8 at *
        have HT : RvS w0 w8 F bv rb S (qr, N1 ++ [0], T1) := ⟨A4, c4, AT, cT, by
          dsimp only
          rw [show (N1 ++ [(0 : Int)]).length = N1.length + 1 by simp, ivs_snoc]
          exact H8.r3.r2⟩
        clear H8 H7 H5 c0 s1 g1
        obtain ⟨G, HG, HGB⟩ := HT.any
        have HGB := Lib.hid HGB
        go_wp2_with (fail)
        refine (skip0_ok s hs j (d + 1) (q + 2) (f, e1) (by omega) (by omega) HPF.out HG).mono ?_
        rintro x w9 ⟨rfl, H9⟩
        clear HT
        have HT := HGB.out _ H9
        clear HG HGB H9
        obtain ⟨S2, hS2⟩ : ∃ S2 : TS, S2 = (qr, N1 ++ [0], T1) := ⟨_, rfl⟩
        have hstep : tk (.sign 63 0 (Tr.arm 0 false f .nil) .nil) none (r, N1, T1) = finT S2 := by rw [hS2]; rw [HST0.out, show bitI false = 0 from rfl, putN_fin]; generalize finT _ = X; cases X <;> rfl
        rw [← hS2] at HT
        have hce := HT.err
        have HST := Lib.hid hstep
        have hOS : o = (finT S2).bind (tk t' none) := by rw [HO.out, tk_cons, hstep]
        have HOS := Lib.hid hOS
        clear hS2 hstep hOS
        by_cases he : S2.1.e = 0
        · rw [he] at hce
          have HE := Lib.hid he
          have hfin : finT S2 = .ok S2 := if_pos he
          have HFN := Lib.hid hfin
          clear he hfin
          go_wp2_with (fail)
          go_roundw
          case rel =>
            have hg := tk_grow _ _ _ _ (HST.out.trans HFN.out)
            exact ⟨j, e1 + 1, t', S2, by omega, by omega, HPT.out, by rw [HOS.out, HFN.out]; rfl, by have := hsg; simp only [Tr.sg] at this; omega, HE.out, Nat.le_trans hg.size hz1, bnd_next (g := 1 + ((Tr.arm 0 false f .nil)).sg) hg HB.out, by go_num, HT⟩
          case measure => simp [intOf]; omega
        · have hne : (S2.1.e != 0) = true := bne_iff_ne.2 he
          have hfin : finT S2 = .error S2.1.e := if_neg he
          have hno : o = finT S2 := by rw [HOS.out, hfin]; rfl
          have HNO := Lib.hid hno
          clear he hfin hno
          obtain ⟨G, HG, HGB⟩ := HT.any
          have HGB := Lib.hid HGB
          go_wp2_with (fail)
          refine (skipx_ok s hs (e1 + 1) (by omega) HG).mono ?_
          rintro x w9 ⟨⟨nx, rfl⟩, H9⟩
          clear HG hce
          go_wp2_with (fail)
          go_ret
          exact ⟨⟨_, rfl⟩, S2, HNO.out, HGB.out _ H9⟩
      | true =>
        have hfl := flag_ok true w5
        rw [show bitI true = 1 from rfl] at hfl
        have he0 : qr.e = 0 := HQT.out rfl
        have HE0 := Lib.hid he0; clear he0
        go_wp2_with (fail)
        refine hfl.mono ?_
        clear hfl
        rintro x w6 ⟨rfl, rfl⟩
        have c0 := H5.r2.cell 0 (v := .slice AN N1.length cN) rfl
        go_upto_region 23 with (at_builtin; refine wpList_append_st (by rfl) _ _ _ (by rfl) 3 i0 (.int .i64 0) 1 8 Try.underlying23 hi hi0 hi1 hi2 rfl (by decide) AN N1.length cN (ivs N1) ((H5.r3).more _) (by rfl) ⟨_, 0, none⟩ 1 1 [.int .i64 (1)] (by rfl) rfl (World.news_of_block (heap_alloc_new _ _)) (fun u hu => by simp at hu; subst hu; rfl) (by unfold maxLen; omega) (by omega) ?_; intro A4 c4 w4 H7; have s1 := H7.r3.cell 0 (v := .slice AN N1.length cN) rfl; have g1 := H7.r3.frozen 0; have H8 := H7.r3.set 0 (.slice A4 (N1.length + 1) c4))
        generalize World.setCell _ _ _ = w8 at *
        have HT : RvS w0 w8 F bv rb S (qr, N1 ++ [1], T1) := ⟨A4, c4, AT, cT, by
          dsimp only
          rw [show (N1 ++ [(1 : Int)]).length = N1.length + 1 by simp, ivs_snoc]
          exact H8.r3.r2⟩
        clear H8 H7 H5 c0 s1 g1
        have htk := IH ((f).sg + 1) (by have := hsg; simp only [Tr.sg] at this; omega) f j (d + 1) (q + 2) (e1) bv rb S ((qr, N1 ++ [1], T1)) w0 _ F (Nat.lt_succ_self _) (by omega) (by omega) HPF.out hSz HE0.out (by dsimp only; omega) (by dsimp only; rw [show (N1 ++ [(1 : Int)]).length = N1.length + 1 by simp]; exact bnd_q (h := (Tr.sign 63 0 (.arm 0 false f .nil) t').sg) (by simp only [Tr.sg]; omega) hqle HB.out) HT
        obtain ⟨p, hp⟩ : ∃ p, p = tk f none ((qr, N1 ++ [1], T1)) := ⟨_, rfl⟩
        rw [← hp] at htk
        have HPP := Lib.hid hp; clear hp
        go_wp2_with (fail)
        refine htk.mono ?_
        clear htk HT
        rintro x w9 ⟨⟨nr, rfl⟩, S3, hps, HT⟩
        have HPS := Lib.hid hps; clear hps
        obtain ⟨G, HG, HGB⟩ := HT.any
        have HGB := Lib.hid HGB
        go_wp2_with (fail)
        refine (skip0_ok s hs j (d + 1) (q + 2) (f, e1) (by omega) (by omega) HPF.out HG).mono ?_
        rintro x w9 ⟨rfl, H9⟩
        clear HT
        have HT := HGB.out _ H9
        clear HG HGB H9
        obtain ⟨S2, hS2⟩ : ∃ S2 : TS, S2 = S3 := ⟨_, rfl⟩
        have hstep : tk (.sign 63 0 (Tr.arm 0 false f .nil) .nil) none (r, N1, T1) = finT S2 := by rw [hS2]; rw [HST0.out, show bitI true = 1 from rfl, putN_fin, finT, if_pos HE0.out]; exact (HPP.out.symm.trans HPS.out)
        rw [← hS2] at HT
        have hce := HT.err
        have HST := Lib.hid hstep
        have hOS : o = (finT S2).bind (tk t' none) := by rw [HO.out, tk_cons, hstep]
        have HOS := Lib.hid hOS
        clear hS2 hstep hOS
        by_cases he : S2.1.e = 0
        · rw [he] at hce
          have HE := Lib.hid he
          have hfin : finT S2 = .ok S2 := if_pos he
          have HFN := Lib.hid hfin
          clear he hfin
          go_wp2_with (fail)
          go_roundw
          case rel =>
            have hg := tk_grow _ _ _ _ (HST.out.trans HFN.out)
            exact ⟨j, e1 + 1, t', S2, by omega, by omega, HPT.out, by rw [HOS.out, HFN.out]; rfl, by have := hsg; simp only [Tr.sg] at this; omega, HE.out, Nat.le_trans hg.size hz1, bnd_next (g := 1 + ((Tr.arm 0 false f .nil)).sg) hg HB.out, by go_num, HT⟩
          case measure => simp [intOf]; omega
        · have hne : (S2.1.e != 0) = true := bne_iff_ne.2 he
          have hfin : finT S2 = .error S2.1.e := if_neg he
          have hno : o = finT S2 := by rw [HOS.out, hfin]; rfl
          have HNO := Lib.hid hno
          clear he hfin hno
          obtain ⟨G, HG, HGB⟩ := HT.any
          have HGB := Lib.hid HGB
          go_wp2_with (fail)
          refine (skipx_ok s hs (e1 + 1) (by omega) HG).mono ?_
          rintro x w9 ⟨⟨nx, rfl⟩, H9⟩
          clear HG hce
          go_wp2_with (fail)
          go_ret
          exact ⟨⟨_, rfl⟩, S2, HNO.out, HGB.out _ H9⟩
    by_cases e42 : ci = 42
    · as_aux_lemma =>
      subst e42
      obtain ⟨f, e1, t', hpf, h40, h41, rfl, hpt⟩ := pr_brk HP.out 42 (by have := HPK.out; omega) (.inr rfl)
      have hl41 := pk_lt (s := s) (i := e1) (by omega)
      have hl40 := pk_lt (s := s) (i := q + 1) (by omega)
      have hrg := (pr_range s _ _ _ _ _ _ hpf).1
      dsimp only at hrg
      have HPT := Lib.hid hpt; have HPF := Lib.hid hpf
      clear hpt hpf HP h40 h41
      obtain ⟨AN, cN, AT, cT, HS⟩ := HT
      dsimp only at HS
      have H5 := HS.r2
      obtain ⟨i1, hi1⟩ : ∃ i1, i1 = N1.length := ⟨_, rfl⟩
      obtain ⟨X, hX⟩ : ∃ X, X = starL (fun st => tk f none st) N1.length (r.s.size + 1) (r, N1 ++ [0], T1) := ⟨_, rfl⟩
      have hst : tk (.sign 42 0 (.arm 0 false f .nil) .nil) none (r, N1, T1) = X := by
        rw [tk, if_neg (by decide), if_neg (by decide), if_neg (by decide), if_neg (by decide), if_neg (by decide), if_neg (by decide), if_pos rfl, bind_nil, putN, if_pos H0.out]
        show starL (fun st => tk (.arm 0 false f .nil) (some 0) st) N1.length (r.s.size + 1) (r, N1 ++ [0], T1) = X
        rw [hX]
        simp only [arm0_tk]
      rw [← hi1] at hX
      have HST0 := Lib.hid hst; have HX := Lib.hid hX; have HI1 := Lib.hid hi1
      clear hst hX HS hi1
      have c0 := H5.r2.cell 0 (v := .slice AN N1.length cN) rfl
      go_wp2_with (at_builtin; refine wpList_append_st (by rfl) _ _ _ (by rfl) 3 i0 (.int .i64 0) 1 8 Try.underlying23 hi hi0 hi1 hi2 rfl (by decide) AN N1.length cN (ivs N1) ((H5.r3).more _) (by rfl) ⟨_, 0, none⟩ 1 1 [.int .i64 (0)] (by rfl) rfl (World.news_of_block (heap_alloc_new _ _)) (fun u hu => by simp at hu; subst hu; rfl) (by unfold maxLen; omega) (by omega) ?_; intro A4 c4 w4 H7; have s1 := H7.r3.cell 0 (v := .slice AN N1.length cN) rfl; have g1 := H7.r3.frozen 0; have H8 := H7.r3.set 0 (.slice A4 (N1.length + 1) c4))
      generalize World.setCell _ _ _ = w8 at *
      have HT : RvS w0 w8 F bv rb S (r, N1 ++ [0], T1) := ⟨A4, c4, AT, cT, by
        dsimp only
        rw [show (N1 ++ [(0 : Int)]).length = N1.length + 1 by simp, ivs_snoc]
        exact H8.r3.r2⟩
      clear H8 H7 H5 c0 s1 g1
      rw [← HI1.out]
      have hi1b : i1 ≤ 1099511627776 := by have := HI1.out; omega
      go_loopw [157] (fun _ wx => ∃ st2 : TS, RvS w0 wx F bv rb S st2 ∧ ((st2.1.e ≠ 0 ∧ Hid (X = finT st2)) ∨ (st2.1.e = 0 ∧ ∃ k2, Hid (X = starL (fun st => tk f none st) i1 k2 st2) ∧ st2.1.s.size < k2 ∧ st2.1.s.size ≤ r.s.size ∧ i1 < st2.2.1.length ∧ Hid (0 ≤ st2.2.1.getD i1 0 ∧ st2.2.1.getD i1 0 + st2.1.s.size ≤ 1099511627776) ∧ Hid (st2.2.1.length + st2.2.2.length + f.sg * (1 + st2.1.s.size) ≤ 1099511627776)))) (fun _ wx => rfSize rb wx)
      case atStart =>
        refine ⟨(r, N1 ++ [0], T1), HT, .inr ⟨H0.out, r.s.size + 1, HX.out, Nat.lt_succ_self _, Nat.le_refl _, ?_, ?_, ?_⟩⟩
        · try dsimp only
          rw [List.length_append, ← HI1.out]; exact Nat.lt_succ_self _
        · show _ ∧ _
          try dsimp only
          have : (N1 ++ [(0 : Int)]).getD i1 0 = 0 := by rw [HI1.out]; simp [List.getD]
          rw [this]
          exact ⟨Int.le_refl _, by omega⟩
        · show _ ≤ _
          try dsimp only
          rw [List.length_append]
          exact bnd_first (h := (Tr.sign 42 0 (.arm 0 false f .nil) t').sg) (by simp only [Tr.sg]; omega) HB.out
      case round =>
        clear HT
        obtain ⟨st2, HT, hcs⟩ := hrel
        have HRD := Lib.hid HT.rfSize
        have hce := HT.err
        rcases hcs with ⟨hne, hXe⟩ | ⟨heq, k2, hXe, hk2, hzr, hi2, HC2, HB2⟩
        · have hb : (st2.1.e == 0) = false := beq_eq_false_iff_ne.2 hne
          clear hne
          obtain ⟨G, HG, HGB⟩ := HT.any
          have HGB := Lib.hid HGB
          go_wp2_with (fail)
          refine (skip0_ok s hs j (d + 1) (q + 2) (f, e1) (by omega) (by omega) HPF.out HG).mono ?_
          rintro x w9 ⟨rfl, H9⟩
          clear HT
          have HT := HGB.out _ H9
          clear HG HGB H9
          obtain ⟨S2, hS2⟩ : ∃ S2 : TS, S2 = st2 := ⟨_, rfl⟩
          have hstep : tk (.sign 42 0 (Tr.arm 0 false f .nil) .nil) none (r, N1, T1) = finT S2 := by rw [hS2]; rw [HST0.out, hXe.out]
          rw [← hS2] at HT
          have hce := HT.err
          have HST := Lib.hid hstep
          have hOS : o = (finT S2).bind (tk t' none) := by rw [HO.out, tk_cons, hstep]
          have HOS := Lib.hid hOS
          clear hS2 hstep hOS
          by_cases he : S2.1.e = 0
          · rw [he] at hce
            have HE := Lib.hid he
            have hfin : finT S2 = .ok S2 := if_pos he
            have HFN := Lib.hid hfin
            clear he hfin
            go_wp2_with (fail)
            go_roundw
            case rel =>
              have hg := tk_grow _ _ _ _ (HST.out.trans HFN.out)
              exact ⟨j, e1 + 1, t', S2, by omega, by omega, HPT.out, by rw [HOS.out, HFN.out]; rfl, by have := hsg; simp only [Tr.sg] at this; omega, HE.out, Nat.le_trans hg.size hz1, bnd_next (g := 1 + ((Tr.arm 0 false f .nil)).sg) hg HB.out, by go_num, HT⟩
            case measure => simp [intOf]; omega
          · have hne : (S2.1.e != 0) = true := bne_iff_ne.2 he
            have hfin : finT S2 = .error S2.1.e := if_neg he
            have hno : o = finT S2 := by rw [HOS.out, hfin]; rfl
            have HNO := Lib.hid hno
            clear he hfin hno
            obtain ⟨G, HG, HGB⟩ := HT.any
            have HGB := Lib.hid HGB
            go_wp2_with (fail)
            refine (skipx_ok s hs (e1 + 1) (by omega) HG).mono ?_
            rintro x w9 ⟨⟨nx, rfl⟩, H9⟩
            clear HG hce
            go_wp2_with (fail)
            go_ret
            exact ⟨⟨_, rfl⟩, S2, HNO.out, HGB.out _ H9⟩
        · obtain ⟨r2, N2, T2⟩ := st2
          try dsimp only at hk2 hzr hi2 heq hce
          rw [heq] at hce
          have HEQ := Lib.hid heq; clear heq
          obtain ⟨k3, rfl⟩ : ∃ k3, k2 = k3 + 1 := ⟨k2 - 1, by omega⟩
          obtain ⟨AN2, cN2, AT2, cT2, HU⟩ := HT
          try dsimp only at HU
          obtain ⟨qq, hqq⟩ : ∃ qq, qq = r2.bool := ⟨_, rfl⟩
          have hqle : qq.2.s.size ≤ r2.s.size := by rw [hqq]; exact RS.bool_le r2
          have hqt : qq.1 = true → qq.2.e = 0 ∧ qq.2.s.size + 4 = r2.s.size := fun h => by rw [hqq] at h ⊢; exact (RS.bool_true h).2
          have hbl := refbool_ok rb S r2 (by omega) HU.r2
          rw [← hqq] at hbl
          obtain ⟨qb, qr⟩ := qq
          try dsimp only at hbl hqle hqt
          have HQQ := Lib.hid hqq; have HQT := Lib.hid hqt
          clear hqq hqt
          go_wp2_with (fail)
          refine hbl.mono ?_
          clear hbl
          rintro x w5 ⟨rfl, H5⟩
          cases qb with
          | false =>
            have hX2 : X = finT (qr, N2, T2) := by rw [hXe.out, starL, ← HQQ.out]; rfl
            have HX2 := Lib.hid hX2; clear hX2
            have HT : RvS w0 w5 F bv rb S (qr, N2, T2) := ⟨AN2, cN2, AT2, cT2, H5.r2⟩
            clear H5 HU hce
            obtain ⟨G, HG, HGB⟩ := HT.any
            have HGB := Lib.hid HGB
            go_wp2_with (fail)
            refine (skip0_ok s hs j (d + 1) (q + 2) (f, e1) (by omega) (by omega) HPF.out HG).mono ?_
            rintro x w9 ⟨rfl, H9⟩
            clear HT
            have HT := HGB.out _ H9
            clear HG HGB H9
            obtain ⟨S2, hS2⟩ : ∃ S2 : TS, S2 = (qr, N2, T2) := ⟨_, rfl⟩
            have hstep : tk (.sign 42 0 (Tr.arm 0 false f .nil) .nil) none (r, N1, T1) = finT S2 := by rw [hS2]; rw [HST0.out, HX2.out]
            rw [← hS2] at HT
            have hce := HT.err
            have HST := Lib.hid hstep
            have hOS : o = (finT S2).bind (tk t' none) := by rw [HO.out, tk_cons, hstep]
            have HOS := Lib.hid hOS
            clear hS2 hstep hOS
            by_cases he : S2.1.e = 0
            · rw [he] at hce
              have HE := Lib.hid he
              have hfin : finT S2 = .ok S2 := if_pos he
              have HFN := Lib.hid hfin
              clear he hfin
              go_wp2_with (fail)
              go_roundw
              case rel =>
                have hg := tk_grow _ _ _ _ (HST.out.trans HFN.out)
                exact ⟨j, e1 + 1, t', S2, by omega, by omega, HPT.out, by rw [HOS.out, HFN.out]; rfl, by have := hsg; simp only [Tr.sg] at this; omega, HE.out, Nat.le_trans hg.size hz1, bnd_next (g := 1 + ((Tr.arm 0 false f .nil)).sg) hg HB.out, by go_num, HT⟩
              case measure => simp [intOf]; omega
            · have hne : (S2.1.e != 0) = true := bne_iff_ne.2 he
              have hfin : finT S2 = .error S2.1.e := if_neg he
              have hno : o = finT S2 := by rw [HOS.out, hfin]; rfl
              have HNO := Lib.hid hno
              clear he hfin hno
              obtain ⟨G, HG, HGB⟩ := HT.any
              have HGB := Lib.hid HGB
              go_wp2_with (fail)
              refine (skipx_ok s hs (e1 + 1) (by omega) HG).mono ?_
              rintro x w9 ⟨⟨nx, rfl⟩, H9⟩
              clear HG hce
              go_wp2_with (fail)
              go_ret
              exact ⟨⟨_, rfl⟩, S2, HNO.out, HGB.out _ H9⟩
          | true =>
            obtain ⟨hq0, hq4⟩ := HQT.out rfl
            have HE0 := Lib.hid hq0; clear hq0
            have c1 := H5.r2.cell 0 (v := .slice AN2 N2.length cN2) rfl
            obtain ⟨gN, oN, rfl⟩ := H5.r3.row_form (by show 0 < N2.length; omega)
            obtain ⟨cnt, hcnt⟩ : ∃ x, N2[i1]? = some x := ⟨_, List.getElem?_eq_getElem hi2⟩
            have hgd : N2.getD i1 0 = cnt := by simp [List.getD, hcnt]
            obtain ⟨hc0, hcB⟩ := HC2.out
            try dsimp only at hc0 hcB
            rw [hgd] at hc0 hcB
            have hcap : N2.length ≤ cN2 := by
              rcases H5.r3.row_cases with ⟨h, _⟩ | ⟨_, _, _, _, _, _, _, h, _⟩
              · cases h
              · exact h
            have nc := H5.r3.row_cell i1 (u := .int .i64 cnt) (by rw [ivs, List.getElem?_map, hcnt]; rfl)
            have nf := H5.r3.row_frozen i1 (by omega)
            obtain ⟨m2, hm2⟩ : ∃ m2, m2 = N2.length := ⟨_, rfl⟩
            have hiI : (i1 : Int) < m2 := by omega
            have H7 := H5.r3.setCell_row i1 (by rw [ivs_length]; exact hi2) (.int .i64 (cnt + 1))
            rw [← hm2] at c1 H7
            have HM2 := Lib.hid hm2; have HGD := Lib.hid hgd
            clear hcnt hm2 hgd
            have hc2 : cnt ≤ 1099511627776 := by omega
            go_upto_region 31 with (fail)
            rw [← ivs_set] at H7
            generalize w5.setCell ⟨gN, oN + i1, none⟩ (.int .i64 (cnt + 1)) = w7 at *
            have HT : RvS w0 w7 F bv rb S (qr, N2.set i1 (cnt + 1), T2) := ⟨some ⟨gN, oN, none⟩, cN2, AT2, cT2, by
              dsimp only
              rw [List.length_set, ← HM2.out]
              exact H7.ord 4 [2, 1, 0, 3]⟩
            clear c1 nc nf HU H5 H7 hce
            have HCB : Hid (cnt + r2.s.size ≤ 1099511627776) := hcB
            have HC0 : Hid (0 ≤ cnt) := hc0
            clear hcB hc0 hc2
            have htk := IH ((f).sg + 1) (by have := hsg; simp only [Tr.sg] at this; omega) f j (d + 1) (q + 2) (e1) bv rb S ((qr, N2.set i1 (cnt + 1), T2)) w0 _ F (Nat.lt_succ_self _) (by omega) (by omega) HPF.out hSz HE0.out (by dsimp only; omega) (by dsimp only; rw [List.length_set]; refine Nat.le_trans (Nat.add_le_add_left (Nat.mul_le_mul_left _ ?_) _) HB2.out; show 1 + qr.s.size ≤ 1 + r2.s.size; omega) HT
            obtain ⟨p, hp⟩ : ∃ p, p = tk f none ((qr, N2.set i1 (cnt + 1), T2)) := ⟨_, rfl⟩
            rw [← hp] at htk
            have HPP := Lib.hid hp; clear hp
            go_wp2_with (fail)
            refine htk.mono ?_
            clear htk HT
            rintro x w9 ⟨⟨nr, rfl⟩, S3, hps, HT⟩
            have HPS := Lib.hid hps; clear hps
            have hX2 : X = (finT S3).bind (starL (fun st => tk f none st) i1 k3) := by
              rw [hXe.out, starL, ← HQQ.out, if_pos rfl]
              dsimp only
              rw [HGD.out, ← HPS.out, ← HPP.out]
            have HX2 := Lib.hid hX2; clear hX2
            have HRD2 := Lib.hid HT.rfSize
            go_wp2_with (fail)
            go_roundw
            case rel =>
              refine ⟨S3, HT, ?_⟩
              by_cases h3 : S3.1.e = 0
              · have hok : tk f none (qr, N2.set i1 (cnt + 1), T2) = .ok S3 := by rw [← HPP.out, HPS.out]; exact if_pos h3
                have hg := tk_grow _ _ _ _ hok
                have hgs : S3.1.s.size ≤ qr.s.size := hg.size
                obtain ⟨Y1, Y2, x1, y1, l1⟩ := hg.app
                refine .inr ⟨h3, k3, ?_, by omega, by omega, ?_, ?_, ?_⟩
                · show X = _; rw [HX2.out, finT, if_pos h3]; rfl
                · rw [x1, List.length_append, List.length_set]; have := HM2.out; omega
                · have : S3.2.1.getD i1 0 = cnt + 1 := by
                    rw [x1]
                    have hlt2 : i1 < (N2.set i1 (cnt + 1)).length := by rw [List.length_set]; have := HM2.out; omega
                    simp only [List.getD]
                    rw [List.getElem?_append_left hlt2, List.getElem?_set_self (by simpa using hlt2)]
                    rfl
                  show _ ∧ _
                  rw [this]
                  have h1 := HCB.out; have h2 := HC0.out
                  exact ⟨by omega, by omega⟩
                · exact bnd_star hg hq4 (by dsimp only; rw [List.length_set]; exact HB2.out)
              · exact .inl ⟨h3, by show X = _; rw [HX2.out, finT, if_neg h3]; rfl⟩
            case measure =>
              rw [HRD.out, HRD2.out, if_pos HEQ.out]
              show (if S3.1.e = 0 then 1 + S3.1.s.size else 0) < 1 + r2.s.size
              split
              · rename_i h3
                have hok : tk f none (qr, N2.set i1 (cnt + 1), T2) = .ok S3 := by rw [← HPP.out, HPS.out]; exact if_pos h3
                have hgs : S3.1.s.size ≤ qr.s.size := (tk_grow _ _ _ _ hok).size
                omega
              · omega
    by_cases e60 : ci = 60
    · as_aux_lemma =>
      subst e60
      obtain ⟨a, e1, t', hpa, h62, rfl, hpt⟩ := pr_alt HP.out (by have := HPK.out; omega)
      have hl62 := pk_lt (s := s) (i := e1) (by omega)
      have hrg := (pr_range s _ _ _ _ _ _ hpa).1
      dsimp only at hrg
      have HPT := Lib.hid hpt; have HPA := Lib.hid hpa; have H62 := Lib.hid h62
      clear hpt hpa HP h62
      obtain ⟨AN, cN, AT, cT, HS⟩ := HT
      dsimp only at HS
      obtain ⟨qq, hqq⟩ : ∃ qq, qq = r.nat 4 := ⟨_, rfl⟩
      have hqle : qq.2.s.size ≤ r.s.size := by rw [hqq]; exact RS.nat_le r 4
      have hbl := refnum4_ok rb S r (by omega) HS.r2
      rw [← hqq] at hbl
      have hst : tk (.sign 60 0 a .nil) none (r, N1, T1) = (putN qq.1 (qq.2, N1, T1)).bind fun st => (match pickT a qq.1 with | none => .error 4 | some f => tk f none st) := by
        rw [tk, if_neg (by decide), if_neg (by decide), if_neg (by decide), if_neg (by decide), if_neg (by decide), if_neg (by decide), if_neg (by decide), if_pos rfl, bind_nil, ← hqq]
        rw [show (fun st : TS => tk a (some qq.1) st) = fun st => (match pickT a qq.1 with | none => .error 4 | some f => tk f none st) from funext fun st => tk_arms a qq.1 st]
      have HST0 := Lib.hid hst
      clear hst hqq
      obtain ⟨qn, qr⟩ := qq
      dsimp only at hbl hqle HST0
      go_wp2_with (fail)
      refine hbl.mono ?_
      clear hbl
      rintro x w5 ⟨rfl, H5⟩
      clear HS
      have c0 := H5.r2.cell 0 (v := .slice AN N1.length cN) rfl
      go_upto_region 36 with (at_builtin; refine wpList_append_st (by rfl) _ _ _ (by rfl) 3 i0 (.int .i64 0) 1 8 Try.underlying23 hi hi0 hi1 hi2 rfl (by decide) AN N1.length cN (ivs N1) ((H5.r3).more _) (by rfl) ⟨_, 0, none⟩ 1 1 [.int .i64 (qn)] (by rfl) rfl (World.news_of_block (heap_alloc_new _ _)) (fun u hu => by simp at hu; subst hu; rfl) (by unfold maxLen; omega) (by omega) ?_; intro A4 c4 w4 H7; have s1 := H7.r3.cell 0 (v := .slice AN N1.length cN) rfl; have g1 := H7.r3.frozen 0; have H8 := H7.r3.set 0 (.slice A4 (N1.length + 1) c4))
      generalize World.setCell _ _ _ = w8 at *
      have HT : RvS w0 w8 F bv rb S (qr, N1 ++ [qn], T1) := ⟨A4, c4, AT, cT, by
        dsimp only
        rw [show (N1 ++ [(qn : Int)]).length = N1.length + 1 by simp, ivs_snoc]
        exact H8.r3.r2⟩
      clear H8 H7 H5 c0 s1 g1
      obtain ⟨G, HG, HGB⟩ := HT.any
      have HGB := Lib.hid HGB
      go_wp2_with (fail)
      refine (choose_ok s hs j (d + 1) (q + 1) e1 [] a qn (by omega) (by omega) HPA.out H62.out HG).mono ?_
      rintro x w9 ⟨pl, rfl, hfa, H9⟩
      clear HT
      have HT := HGB.out _ H9
      clear HG HGB H9
      by_cases hqe : qr.e = 0
      rotate_left 1
      · have hfin : finT (qr, N1 ++ [qn], T1) = .error qr.e := if_neg hqe
        have hne : (qr.e == 0) = false := beq_eq_false_iff_ne.2 hqe
        have HFI := Lib.hid hfin; have HQE := Lib.hid hqe
        clear hfin hqe
        have hcq := HT.err
        by_cases hpl : pl < 0
        · obtain ⟨AN, cN, AT, cT, HS⟩ := HT
          dsimp only at HS
          go_wp2_with (fail)
          refine (refwrong_ok rb S qr 4 HS.r2).mono ?_
          rintro x w5 ⟨rfl, H5⟩
          have HT : RvS w0 w5 F bv rb S (qr.wrong 4, N1 ++ [qn], T1) := ⟨AN, cN, AT, cT, H5.r2⟩
          clear HS H5 hcq
          obtain ⟨S2, hS2⟩ : ∃ S2 : TS, S2 = (qr.wrong 4, N1 ++ [qn], T1) := ⟨_, rfl⟩
          have hstep : tk (.sign 60 0 a .nil) none (r, N1, T1) = finT S2 := by rw [hS2]; rw [HST0.out, putN_fin, HFI.out]; unfold finT RS.wrong; simp [HQE.out, Except.bind]
          rw [← hS2] at HT
          have hce := HT.err
          have HST := Lib.hid hstep
          have hOS : o = (finT S2).bind (tk t' none) := by rw [HO.out, tk_cons, hstep]
          have HOS := Lib.hid hOS
          clear hS2 hstep hOS
          by_cases he : S2.1.e = 0
          · rw [he] at hce
            have HE := Lib.hid he
            have hfin : finT S2 = .ok S2 := if_pos he
            have HFN := Lib.hid hfin
            clear he hfin
            go_wp2_with (fail)
            go_roundw
            case rel =>
              have hg := tk_grow _ _ _ _ (HST.out.trans HFN.out)
              exact ⟨j, e1 + 1, t', S2, by omega, by omega, HPT.out, by rw [HOS.out, HFN.out]; rfl, by have := hsg; simp only [Tr.sg] at this; omega, HE.out, Nat.le_trans hg.size hz1, bnd_next (g := 1 + (a).sg) hg HB.out, by go_num, HT⟩
            case measure => simp [intOf]; omega
          · have hne : (S2.1.e != 0) = true := bne_iff_ne.2 he
            have hfin : finT S2 = .error S2.1.e := if_neg he
            have hno : o = finT S2 := by rw [HOS.out, hfin]; rfl
            have HNO := Lib.hid hno
            clear he hfin hno
            obtain ⟨G, HG, HGB⟩ := HT.any
            have HGB := Lib.hid HGB
            go_wp2_with (fail)
            refine (skipx_ok s hs (e1 + 1) (by omega) HG).mono ?_
            rintro x w9 ⟨⟨nx, rfl⟩, H9⟩
            clear HG hce
            go_wp2_with (fail)
            go_ret
            exact ⟨⟨_, rfl⟩, S2, HNO.out, HGB.out _ H9⟩
        · have hpl0 : ¬ pl < 0 := hpl
          go_wp2_with (fail)
          clear hcq hne
          obtain ⟨S2, hS2⟩ : ∃ S2 : TS, S2 = (qr, N1 ++ [qn], T1) := ⟨_, rfl⟩
          have hstep : tk (.sign 60 0 a .nil) none (r, N1, T1) = finT S2 := by rw [hS2]; rw [HST0.out, putN_fin, HFI.out]; rfl
          rw [← hS2] at HT
          have HS2 := Lib.hid hS2
          have hce := HT.err
          have HST := Lib.hid hstep
          have hOS : o = (finT S2).bind (tk t' none) := by rw [HO.out, tk_cons, hstep]
          have HOS := Lib.hid hOS
          clear hS2 hstep hOS
          have he : S2.1.e ≠ 0 := by rw [HS2.out]; exact HQE.out
          have hne : (S2.1.e != 0) = true := bne_iff_ne.2 he
          have hfin : finT S2 = .error S2.1.e := if_neg he
          have hno : o = finT S2 := by rw [HOS.out, hfin]; rfl
          have HNO := Lib.hid hno
          clear he hfin hno
          obtain ⟨G, HG, HGB⟩ := HT.any
          have HGB := Lib.hid HGB
          go_wp2_with (fail)
          refine (skipx_ok s hs (e1 + 1) (by omega) HG).mono ?_
          rintro x w9 ⟨⟨nx, rfl⟩, H9⟩
          clear HG hce
          go_wp2_with (fail)
          go_ret
          exact ⟨⟨_, rfl⟩, S2, HNO.out, HGB.out _ H9⟩
      have hfin : finT (qr, N1 ++ [qn], T1) = .ok (qr, N1 ++ [qn], T1) := if_pos hqe
      have HFI := Lib.hid hfin; clear hfin
      obtain ⟨pf, hpf⟩ : ∃ pf, pf = pickT a qn := ⟨_, rfl⟩
      rw [← hpf] at hfa
      have HPK2 := Lib.hid hpf; clear hpf
      cases pf with
      | none =>
        obtain rfl : pl = -1 := hfa
        obtain ⟨AN, cN, AT, cT, HS⟩ := HT
        dsimp only at HS
        have HQE := Lib.hid hqe; clear hqe
        go_wp2_with (fail)
        refine (refwrong_ok rb S qr 4 HS.r2).mono ?_
        rintro x w5 ⟨rfl, H5⟩
        have HT : RvS w0 w5 F bv rb S (qr.wrong 4, N1 ++ [qn], T1) := ⟨AN, cN, AT, cT, H5.r2⟩
        clear HS H5
        obtain ⟨S2, hS2⟩ : ∃ S2 : TS, S2 = (qr.wrong 4, N1 ++ [qn], T1) := ⟨_, rfl⟩
        have hstep : tk (.sign 60 0 a .nil) none (r, N1, T1) = finT S2 := by rw [hS2]; rw [HST0.out, putN_fin, HFI.out, ← HPK2.out]; unfold finT RS.wrong; simp [HQE.out, Except.bind]
        rw [← hS2] at HT
        have hce := HT.err
        have HST := Lib.hid hstep
        have hOS : o = (finT S2).bind (tk t' none) := by rw [HO.out, tk_cons, hstep]
        have HOS := Lib.hid hOS
        clear hS2 hstep hOS
        by_cases he : S2.1.e = 0
        · rw [he] at hce
          have HE := Lib.hid he
          have hfin : finT S2 = .ok S2 := if_pos he
          have HFN := Lib.hid hfin
          clear he hfin
          go_wp2_with (fail)
          go_roundw
          case rel =>
            have hg := tk_grow _ _ _ _ (HST.out.trans HFN.out)
            exact ⟨j, e1 + 1, t', S2, by omega, by omega, HPT.out, by rw [HOS.out, HFN.out]; rfl, by have := hsg; simp only [Tr.sg] at this; omega, HE.out, Nat.le_trans hg.size hz1, bnd_next (g := 1 + (a).sg) hg HB.out, by go_num, HT⟩
          case measure => simp [intOf]; omega
        · have hne : (S2.1.e != 0) = true := bne_iff_ne.2 he
          have hfin : finT S2 = .error S2.1.e := if_neg he
          have hno : o = finT S2 := by rw [HOS.out, hfin]; rfl
          have HNO := Lib.hid hno
          clear he hfin hno
          obtain ⟨G, HG, HGB⟩ := HT.any
          have HGB := Lib.hid HGB
          go_wp2_with (fail)
          refine (skipx_ok s hs (e1 + 1) (by omega) HG).mono ?_
          rintro x w9 ⟨⟨nx, rfl⟩, H9⟩
          clear HG hce
          go_wp2_with (fail)
          go_ret
          exact ⟨⟨_, rfl⟩, S2, HNO.out, HGB.out _ H9⟩
      | some f =>
        obtain ⟨P, kf, df, ef, rfl, hkf, hPs, hpf⟩ := hfa
        have hce := HT.err
        dsimp only at hce
        rw [hqe] at hce
        have HE0 := Lib.hid hqe; clear hqe
        have hsf := pickT_sg HPK2.out.symm
        have HPF := Lib.hid hpf; clear hpf
        have hP0 : ¬ (P : Int) < 0 := by omega
        have htk := IH ((f).sg + 1) (by have := hsg; simp only [Tr.sg] at this; omega) f kf (df) (P) (ef) bv rb S ((qr, N1 ++ [qn], T1)) w0 _ F (Nat.lt_succ_self _) (by omega) (by omega) HPF.out hSz HE0.out (by dsimp only; omega) (by dsimp only; rw [show (N1 ++ [(qn : Int)]).length = N1.length + 1 by simp]; exact bnd_q (h := (Tr.sign 60 0 a t').sg) (by simp only [Tr.sg]; omega) hqle HB.out) HT
        obtain ⟨p, hp⟩ : ∃ p, p = tk f none ((qr, N1 ++ [qn], T1)) := ⟨_, rfl⟩
        rw [← hp] at htk
        have HPP := Lib.hid hp; clear hp
        go_wp2_with (fail)
        refine htk.mono ?_
        clear htk HT
        rintro x w9 ⟨⟨nr, rfl⟩, S3, hps, HT⟩
        have HPS := Lib.hid hps; clear hps
        clear hce
        obtain ⟨S2, hS2⟩ : ∃ S2 : TS, S2 = S3 := ⟨_, rfl⟩
        have hstep : tk (.sign 60 0 a .nil) none (r, N1, T1) = finT S2 := by rw [hS2]; rw [HST0.out, putN_fin, HFI.out, ← HPK2.out]; exact (HPP.out.symm.trans HPS.out)
        rw [← hS2] at HT
        have hce := HT.err
        have HST := Lib.hid hstep
        have hOS : o = (finT S2).bind (tk t' none) := by rw [HO.out, tk_cons, hstep]
        have HOS := Lib.hid hOS
        clear hS2 hstep hOS
        by_cases he : S2.1.e = 0
        · rw [he] at hce
          have HE := Lib.hid he
          have hfin : finT S2 = .ok S2 := if_pos he
          have HFN := Lib.hid hfin
          clear he hfin
          go_wp2_with (fail)
          go_roundw
          case rel =>
            have hg := tk_grow _ _ _ _ (HST.out.trans HFN.out)
            exact ⟨j, e1 + 1, t', S2, by omega, by omega, HPT.out, by rw [HOS.out, HFN.out]; rfl, by have := hsg; simp only [Tr.sg] at this; omega, HE.out, Nat.le_trans hg.size hz1, bnd_next (g := 1 + (a).sg) hg HB.out, by go_num, HT⟩
          case measure => simp [intOf]; omega
        · have hne : (S2.1.e != 0) = true := bne_iff_ne.2 he
          have hfin : finT S2 = .error S2.1.e := if_neg he
          have hno : o = finT S2 := by rw [HOS.out, hfin]; rfl
          have HNO := Lib.hid hno
          clear he hfin hno
          obtain ⟨G, HG, HGB⟩ := HT.any
          have HGB := Lib.hid HGB
          go_wp2_with (fail)
          refine (skipx_ok s hs (e1 + 1) (by omega) HG).mono ?_
          rintro x w9 ⟨⟨nx, rfl⟩, H9⟩
          clear HG hce
          go_wp2_with (fail)
          go_ret
          exact ⟨⟨_, rfl⟩, S2, HNO.out, HGB.out _ H9⟩
    have hno : o = finT (r, N1, T1) := by
      have := HPK.out
      rw [HO.out, pr_end HP.out (by omega), tk, finT, if_pos H0.out]
    have HNO := Lib.hid hno; clear hno
    go_wp2_with (fail)
    go_ret
    exact ⟨⟨_, rfl⟩, _, HNO.out, HT⟩
theorem rtaker_ok (s : ByteArray) (hs : s.size ≤ 1099511627776) (k : Nat) : RtOK s k := by
  induction k using Nat.strongRecOn with
  | _ k ih => exact rtake_step s hs k ih
end Go.Proofs.Ytpmhjjfcipjnoaa

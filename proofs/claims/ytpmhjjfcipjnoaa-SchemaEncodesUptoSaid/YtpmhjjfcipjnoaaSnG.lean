/- Layer 2's reference: a value is laid. -/
import Derived.Test.YtpmhjjfcipjnoaaSnF
import Derived.Test.YtpmhjjfcipjnoaaSnB
import Derived.Test.YtpmhjjfcipjnoaaXdrG
namespace Go.Proofs.Ytpmhjjfcipjnoaa
open Go.RowKit

theorem pickT_wf' : ∀ {a : Tr} {n : Int} {f : Tr}, a.wf true → pickT a n = some f → f.wf false
  | .nil, _, _, _, h => by simp [pickT] at h
  | .sign .., _, _, _, h => by simp [pickT] at h
  | .arm k y g t, n, f, hw, h => by
    rw [pickT] at h
    split at h
    · injection h with h; subst h; exact hw.2.1
    · exact pickT_wf' hw.2.2 h
theorem layL_arms (p : LP) : ∀ (a : Tr) (n : Int) (s : Ls), layL p a (some n) s = match pickT a n with
    | none => s.fail
    | some f => layL p f none s
  | .nil, _, _ => by rw [layL, pickT]; exact fun _ _ _ _ h => by cases h
  | .sign .., _, _ => by rw [layL, pickT]; exact fun _ _ _ _ h => by cases h
  | .arm k y f t, n, s => by
    rw [layL, pickT]
    split
    · rfl
    · exact layL_arms p t n s
theorem arm0_layL (p : LP) (f : Tr) (s : Ls) : layL p (.arm 0 false f .nil) (some 0) s = layL p f none s := by rw [layL, if_pos (.inr rfl)]
theorem Ls.fail_of {s : Ls} (h : s.bad = true) : s.fail = s := by
  obtain ⟨a, b, c, d, e⟩ := s
  dsimp only at h; subst h; rfl
theorem Ls.num_out (p : LP) (w : Bool) (s : Ls) : (s.num p w).2.out = s.out := by
  unfold Ls.num; split
  · rfl
  · split <;> rfl
theorem Ls.txt_out (p : LP) (s : Ls) : (s.txt p).2.out = s.out := by
  unfold Ls.txt; split <;> rfl
theorem Ls.put_small {s : Ls} (h : s.out.length ≤ 65536) (hz : s.out.length ≤ s.sz) (l : List UInt8) : (s.put l).out.length ≤ 65536 ∧ (s.put l).out.length ≤ (s.put l).sz := by
  show (if s.sz + l.length ≤ 65536 then s.out ++ l else s.out).length ≤ 65536 ∧ (if s.sz + l.length ≤ 65536 then s.out ++ l else s.out).length ≤ s.sz + l.length
  split
  · rw [List.length_append]; omega
  · omega
def Ls.fits (s : Ls) : Prop := s.out.length ≤ 65536 ∧ s.out.length ≤ s.sz
theorem Ls.num_sz (p : LP) (w : Bool) (s : Ls) : (s.num p w).2.sz = s.sz := by
  unfold Ls.num; split
  · rfl
  · split <;> rfl
theorem Ls.txt_sz (p : LP) (s : Ls) : (s.txt p).2.sz = s.sz := by
  unfold Ls.txt; split <;> rfl
theorem Ls.fits.num {p : LP} {w : Bool} {s : Ls} (h : s.fits) : (s.num p w).2.fits := by unfold Ls.fits; rw [Ls.num_out, Ls.num_sz]; exact h
theorem Ls.fits.txt {p : LP} {s : Ls} (h : s.fits) : (s.txt p).2.fits := by unfold Ls.fits; rw [Ls.txt_out, Ls.txt_sz]; exact h
theorem Ls.fits.put {s : Ls} (h : s.fits) (l : List UInt8) : (s.put l).fits := Ls.put_small h.1 h.2 l
theorem reL_fits {f : Ls → Ls} (hf : ∀ s, s.fits → (f s).fits) : ∀ (k : Nat) (s : Ls), s.fits → (reL f k s).fits
  | 0, _, h => h
  | k + 1, s, h => by
    rw [reL]; split
    · exact h
    · exact reL_fits hf k _ (hf _ (h.put _))
theorem sgL_fits {p : LP} {k n : Nat} {f : Int → Ls → Ls} (hf : ∀ m s, s.fits → (f m s).fits) {s : Ls} (h : s.fits) : (sgL p k n f s).fits := by
  have h1 := fun w => h.num (p := p) (w := w)
  have h2 := h.txt (p := p)
  have hfl : ∀ s : Ls, s.fits → s.fail.fits := fun s h => h
  unfold sgL
  repeat' split
  all_goals first
    | exact h
    | exact (h1 _).put _
    | exact h2.put _
    | exact hfl _ (h1 _)
    | exact hfl _ h2
    | exact Ls.fits.put (hfl _ (h1 _)) _
    | exact hf _ _ ((h1 _).put _)
    | exact (reL_fits (hf 0) _ _ (h1 _)).put _
    | exact (reL_fits (hf 0) _ _ (hfl _ (h1 _))).put _
theorem layL_fits (p : LP) : ∀ (t : Tr) (m : Option Int) (s : Ls), s.fits → (layL p t m s).fits
  | .nil, none, s, h => h
  | .nil, some _, s, h => h
  | .sign .., some _, s, h => h
  | .arm .., none, s, h => h
  | .arm k y f t, some n, s, h => by
    rw [layL]
    split
    · exact layL_fits p f none s h
    · exact layL_fits p t (some n) s h
  | .sign k n a t, none, s, h => by
    rw [layL]
    exact layL_fits p t none _ (sgL_fits (fun m s h => layL_fits p a (some m) s h) h)
theorem sgL_next {p : LP} {k n : Nat} {a t : Tr} (hw : (Tr.sign k n a t).wf false) (hu : (Tr.sign k n a t).full) (s : Ls) : (sgL p k n (fun m s => layL p a (some m) s) s).pot p + 16 * t.sg ≤ s.pot p + 16 * (Tr.sign k n a t).sg := by
  obtain ⟨hk, hn, hka, hwa, hwt⟩ := hw
  obtain ⟨hu42, hua, hut⟩ := hu
  have ha := fun m s => layL_pot p a (some m) s hwa hua
  have h1 := sgL_pot (p := p) (n := n) (K := 16 * a.sg) (f := fun m s => layL p a (some m) s) hk (fun m s => (ha m s).1) (fun m s h => by have := (ha m s).2 h; omega) (fun h s hb => by
    obtain ⟨f, hf, hf0⟩ := hu42 h
    subst hf
    rw [layL, if_pos (.inr rfl)] at hb ⊢
    have := (layL_pot p f none s hwa.2.1 hua.1).2 hb
    rw [if_pos ⟨rfl, hf0⟩] at this
    exact this) s
  simp only [Tr.sg]
  omega
theorem num_le {p : LP} (hr : ∀ x ∈ p.N, -9223372036854775808 ≤ x ∧ x ≤ 9223372036854775807) (w : Bool) (s : Ls) : (s.num p w).1 ≤ 9223372036854775807 := by
  unfold Ls.num
  split
  · show (0 : Int) ≤ _; decide
  · rename_i h
    split
    · show (0 : Int) ≤ _; decide
    · have hl : s.ni < p.N.length := by omega
      show p.N.getD s.ni 0 ≤ _
      rw [List.getD_eq_getElem?_getD, List.getElem?_eq_getElem hl]
      exact (hr _ (List.getElem_mem _)).2
theorem Ls.num_nz {p : LP} {w : Bool} {s : Ls} (h : (s.num p w).1 ≠ 0) : (s.num p w).2.bad = false := by
  unfold Ls.num at h ⊢
  split
  · rename_i h1; rw [if_pos h1] at h; exact absurd rfl h
  · rename_i h1
    rw [if_neg h1] at h
    split
    · rename_i h2; rw [if_pos h2] at h; exact absurd rfl h
    · show s.bad = false
      cases hb : s.bad with
      | false => rfl
      | true => exact absurd (.inr hb) h1
theorem txt_le {p : LP} (hs : ∀ x ∈ p.T, x.size ≤ 1099511627776) (s : Ls) : (s.txt p).1.size ≤ 1099511627776 := by
  unfold Ls.txt
  split
  · show (0 : Nat) ≤ _; omega
  · rename_i h
    have hl : s.ti < p.T.length := by omega
    show (p.T.getD s.ti ⟨#[]⟩).size ≤ _
    rw [List.getD_eq_getElem?_getD, List.getElem?_eq_getElem hl]
    exact hs _ (List.getElem_mem _)
def RlOK (s : ByteArray) (k : Nat) : Prop := ∀ (t : Tr) (j d q e b : Nat) (p : LP) (L : Ls) (w0 w : World) (F : List Assn), t.sg < k → s.size - q < j → q ≤ s.size → pr s j false d q [] = some (t, e) → t.full → t.wf false → p.good w0 → (∀ x ∈ p.N, -9223372036854775808 ≤ x ∧ x ≤ 9223372036854775807) → L.fits →
  L.pot p + 16 * t.sg ≤ 1125899906842624 → RlS w0 w F b p L →
  Calls Try.prog 28 #[.string s, .int .i64 q, .pointer (some ⟨b, 0, none⟩)] w fun x w' => (∃ n, x = .returned (.int .i64 n)) ∧ RlS w0 w' F b p (layL p t none L)
-- the sign is done: HT of §1; §2 why it is the sign's; §3 the next place, §4 the sign's arms, §5 the sign
-- a number is taken from the layer: §1 word; behind it (xn, L3)
-- a number is laid: §1 the state, §2 the number, §3 the reference's function, §4 how many bytes, §5 size, §6 out
-- a text is taken from the layer
-- it is bad: the state §1 fails; §2 up to which region
-- a text is laid: §1 the reference's function, §2 its bytes, §3 why they are few
-- a row within is laid: §1 the form, §2 its depth, §3 its place, §4 where it ends, §5 its facts, §6 the state, §7 full, §8 wf, §9 fuel; hff, hbb: fits, bound
set_option maxRecDepth 100000 in
set_option maxHeartbeats 16000000 in
theorem rlay_step (s : ByteArray) (hs : s.size ≤ 1099511627776) (k : Nat) (IH : ∀ j, j < k → RlOK s j) : RlOK s k := by
  intro t0 j0 d q0 e b p L0 w0 w F hk hj hq hp hu hw hg hrg hf hb H
  obtain ⟨X, hX⟩ : ∃ X, X = layL p t0 none L0 := ⟨_, rfl⟩
  rw [← hX]
  have HX := Lib.hid hX; have HP := Lib.hid hp; have HU := Lib.hid hu; have HW := Lib.hid hw; have HB := Lib.hid hb; have HFT := Lib.hid hf; have HG := Lib.hid hg; have HRG := Lib.hid hrg
  clear hX hp hu hw hb hf hg hrg
  go_enter Try.func28, Try.ntmps28
  go_wp2_with (fail)
  go_loopw [1] (fun a wr => ∃ (j q : Nat) (t : Tr) (L1 : Ls), s.size - q < j ∧ q ≤ s.size ∧ Hid (pr s j false d q [] = some (t, e)) ∧ Hid (X = layL p t none L1) ∧ t.sg < k ∧ Hid (t.wf false) ∧ Hid t.full ∧ Hid L1.fits ∧ Hid (L1.pot p + 16 * t.sg ≤ 1125899906842624) ∧ a = .int .i64 q ∧ RlS w0 wr F b p L1) (fun a _ => s.size - (intOf a).toNat)
  case atStart => exact ⟨j0, q0, t0, L0, hj, hq, HP.out, HX.out, hk, HW.out, HU.out, HFT.out, HB.out, rfl, H⟩
  case round =>
    clear H HX HP HW HU HFT HB hk hj hq
    obtain ⟨j, q, t, L1, hqj, hqs, HP, HX, hsg, HW, HU, HFT, HB, rfl, HT⟩ := hrel
    obtain ⟨j, rfl⟩ : ∃ i, j = i + 1 := ⟨j - 1, by omega⟩
    by_cases hlt : q < s.size
    rotate_left 1
    · have hz : ¬ (q : Int) < s.size := by omega
      have hno : X = L1 := by
        rw [HX.out, pr_end HP.out (by rw [pk_out hlt]; decide), layL]
      have HNO := Lib.hid hno; clear hno
      go_wp2_with (fail)
      go_ret
      rw [HNO.out]
      exact ⟨⟨_, rfl⟩, HT⟩
    have hltI : (q : Int) < s.size := by omega
    obtain ⟨ci, hci⟩ : ∃ ci : Int, ci = (s[q].toNat : Int) := ⟨_, rfl⟩
    have hpk : (pk s q : Int) = ci := by rw [hci, pk_in hlt]
    have HPK := Lib.hid hpk
    have hix : ∀ (h : q < s.size), (s[q].toNat : Int) = ci := fun _ => hci.symm
    clear hci hpk
    go_upto_region 4 with (fail)
    clear hix
    by_cases e117 : ci = 117
    · as_aux_lemma =>
      subst e117
      obtain ⟨t', rfl, hpt⟩ := pr_num HP.out 117 (by have := HPK.out; omega) (.inl rfl)
      have HPT := Lib.hid hpt
      clear hpt HP
      obtain ⟨qq, hqq⟩ : ∃ qq, qq = L1.num p true := ⟨_, rfl⟩
      have hnb := rnumber_ok b p L1 true HG.out HT
      rw [← hqq] at hnb
      have h3f : qq.2.fits := by rw [hqq]; exact HFT.out.num
      have h3p : qq.2.pot p ≤ L1.pot p := by rw [hqq]; exact (L1.num_pot p true).1
      have h3z : qq.2.sz ≤ 1125899906842624 := by have := qq.2.sz_pot p; have := HB.out; omega
      have h3b : qq.2.out.length ≤ 65536 := h3f.1
      have HQQ := Lib.hid hqq; have H3F := Lib.hid h3f; have H3P := Lib.hid h3p
      obtain ⟨xn, L3⟩ := qq
      dsimp only at hnb h3z h3b
      clear hqq h3f h3p
      go_wp2_with (fail)
      refine hnb.mono ?_
      clear hnb HT
      rintro x w5 ⟨rfl, HT⟩
      obtain ⟨G, HGS, HGB⟩ := HT.any
      have HGB := Lib.hid HGB
      go_wp2_with (fail)
      refine (refuint_ok (xn) HGS).mono ?_
      rintro x w6 ⟨rfl, H6⟩
      clear HT
      have HT := HGB.out _ H6
      clear HGB HGS H6
      have hpb := rput_ok b p (L3) (mkb (be (xn) 4)) (by rw [mkb_size, be_length]; have h5 := h3z; omega) (h3b) HT
      rw [bl_mkb] at hpb
      go_wp2_with (fail)
      refine hpb.mono ?_
      clear hpb HT
      rintro x w7 ⟨rfl, HT⟩
      obtain ⟨L2, hL2⟩ : ∃ L2 : Ls, L2 = (L3.put (be xn 4)) := ⟨_, rfl⟩
      rw [← hL2] at HT
      have hsg2 : L2 = sgL p 117 0 (fun m s => layL p Tr.nil (some m) s) L1 := by rw [hL2]; rw [sgL, if_pos rfl, ← HQQ.out]
      have hX2 : X = layL p t' none L2 := by rw [HX.out, layL, hsg2]
      have hf2 : L2.fits := by rw [hsg2]; exact sgL_fits (fun m s h => layL_fits p Tr.nil (some m) s h) HFT.out
      have hp2 : L2.pot p + 16 * t'.sg ≤ 1125899906842624 := by rw [hsg2]; exact Nat.le_trans (sgL_next HW.out HU.out L1) HB.out
      have HX2 := Lib.hid hX2; have HF2 := Lib.hid hf2; have HP2 := Lib.hid hp2
      clear hL2 hsg2 hX2 hf2 hp2
      go_wp2_with (fail)
      go_roundw
      case rel => exact ⟨j, q + 1, t', L2, by omega, by omega, HPT.out, HX2.out, by have := hsg; simp only [Tr.sg] at this; omega, HW.out.2.2.2.2, HU.out.2.2, HF2.out, HP2.out, by go_num, HT⟩
      case measure => simp [intOf]; omega
    by_cases e113 : ci = 113
    · as_aux_lemma =>
      subst e113
      obtain ⟨t', rfl, hpt⟩ := pr_num HP.out 113 (by have := HPK.out; omega) (.inr (.inl rfl))
      have HPT := Lib.hid hpt
      clear hpt HP
      obtain ⟨qq, hqq⟩ : ∃ qq, qq = L1.num p false := ⟨_, rfl⟩
      have hnb := rnumber_ok b p L1 false HG.out HT
      rw [← hqq] at hnb
      have h3f : qq.2.fits := by rw [hqq]; exact HFT.out.num
      have h3p : qq.2.pot p ≤ L1.pot p := by rw [hqq]; exact (L1.num_pot p false).1
      have h3z : qq.2.sz ≤ 1125899906842624 := by have := qq.2.sz_pot p; have := HB.out; omega
      have h3b : qq.2.out.length ≤ 65536 := h3f.1
      have HQQ := Lib.hid hqq; have H3F := Lib.hid h3f; have H3P := Lib.hid h3p
      obtain ⟨xn, L3⟩ := qq
      dsimp only at hnb h3z h3b
      clear hqq h3f h3p
      go_wp2_with (fail)
      refine hnb.mono ?_
      clear hnb HT
      rintro x w5 ⟨rfl, HT⟩
      obtain ⟨G, HGS, HGB⟩ := HT.any
      have HGB := Lib.hid HGB
      go_wp2_with (fail)
      refine (refhyper_ok (xn) HGS).mono ?_
      rintro x w6 ⟨rfl, H6⟩
      clear HT
      have HT := HGB.out _ H6
      clear HGB HGS H6
      have hpb := rput_ok b p (L3) (mkb (be (xn) 8)) (by rw [mkb_size, be_length]; have h5 := h3z; omega) (h3b) HT
      rw [bl_mkb] at hpb
      go_wp2_with (fail)
      refine hpb.mono ?_
      clear hpb HT
      rintro x w7 ⟨rfl, HT⟩
      obtain ⟨L2, hL2⟩ : ∃ L2 : Ls, L2 = (L3.put (be xn 8)) := ⟨_, rfl⟩
      rw [← hL2] at HT
      have hsg2 : L2 = sgL p 113 0 (fun m s => layL p Tr.nil (some m) s) L1 := by rw [hL2]; rw [sgL, if_neg (by decide), if_pos rfl, ← HQQ.out]
      have hX2 : X = layL p t' none L2 := by rw [HX.out, layL, hsg2]
      have hf2 : L2.fits := by rw [hsg2]; exact sgL_fits (fun m s h => layL_fits p Tr.nil (some m) s h) HFT.out
      have hp2 : L2.pot p + 16 * t'.sg ≤ 1125899906842624 := by rw [hsg2]; exact Nat.le_trans (sgL_next HW.out HU.out L1) HB.out
      have HX2 := Lib.hid hX2; have HF2 := Lib.hid hf2; have HP2 := Lib.hid hp2
      clear hL2 hsg2 hX2 hf2 hp2
      go_wp2_with (fail)
      go_roundw
      case rel => exact ⟨j, q + 1, t', L2, by omega, by omega, HPT.out, HX2.out, by have := hsg; simp only [Tr.sg] at this; omega, HW.out.2.2.2.2, HU.out.2.2, HF2.out, HP2.out, by go_num, HT⟩
      case measure => simp [intOf]; omega
    by_cases e98 : ci = 98
    · as_aux_lemma =>
      subst e98
      obtain ⟨t', rfl, hpt⟩ := pr_num HP.out 98 (by have := HPK.out; omega) (.inr (.inr rfl))
      have HPT := Lib.hid hpt
      clear hpt HP
      obtain ⟨qq, hqq⟩ : ∃ qq, qq = L1.num p true := ⟨_, rfl⟩
      have hnb := rnumber_ok b p L1 true HG.out HT
      rw [← hqq] at hnb
      have h3f : qq.2.fits := by rw [hqq]; exact HFT.out.num
      have h3p : qq.2.pot p ≤ L1.pot p := by rw [hqq]; exact (L1.num_pot p true).1
      have h3z : qq.2.sz ≤ 1125899906842624 := by have := qq.2.sz_pot p; have := HB.out; omega
      have h3b : qq.2.out.length ≤ 65536 := h3f.1
      have HQQ := Lib.hid hqq; have H3F := Lib.hid h3f; have H3P := Lib.hid h3p
      obtain ⟨xn, L3⟩ := qq
      dsimp only at hnb h3z h3b
      clear hqq h3f h3p
      go_wp2_with (fail)
      refine hnb.mono ?_
      clear hnb HT
      rintro x w5 ⟨rfl, HT⟩
      by_cases hx1 : xn > 1
      · have c6 := HT.bad.1
        have f6 := HT.bad.2
        have HF := HT.fail
        go_upto_region 15 with (fail)
        generalize World.setCell _ _ _ = w6 at *
        clear HT c6 f6
        have HT := HF
        clear HF
        obtain ⟨G, HGS, HGB⟩ := HT.any
        have HGB := Lib.hid HGB
        go_wp2_with (fail)
        refine (refuint_ok (xn) HGS).mono ?_
        rintro x w6 ⟨rfl, H6⟩
        clear HT
        have HT := HGB.out _ H6
        clear HGB HGS H6
        have hpb := rput_ok b p (L3.fail) (mkb (be (xn) 4)) (by rw [mkb_size, be_length]; have h5 := (show L3.fail.sz ≤ 1125899906842624 from h3z); omega) ((show L3.fail.out.length ≤ 65536 from h3b)) HT
        rw [bl_mkb] at hpb
        go_wp2_with (fail)
        refine hpb.mono ?_
        clear hpb HT
        rintro x w7 ⟨rfl, HT⟩
        obtain ⟨L2, hL2⟩ : ∃ L2 : Ls, L2 = (L3.fail.put (be xn 4)) := ⟨_, rfl⟩
        rw [← hL2] at HT
        have hsg2 : L2 = sgL p 98 0 (fun m s => layL p Tr.nil (some m) s) L1 := by rw [hL2]; rw [sgL, if_neg (by decide), if_neg (by decide), if_pos rfl, ← HQQ.out]; dsimp only; rw [if_pos (by omega)]
        have hX2 : X = layL p t' none L2 := by rw [HX.out, layL, hsg2]
        have hf2 : L2.fits := by rw [hsg2]; exact sgL_fits (fun m s h => layL_fits p Tr.nil (some m) s h) HFT.out
        have hp2 : L2.pot p + 16 * t'.sg ≤ 1125899906842624 := by rw [hsg2]; exact Nat.le_trans (sgL_next HW.out HU.out L1) HB.out
        have HX2 := Lib.hid hX2; have HF2 := Lib.hid hf2; have HP2 := Lib.hid hp2
        clear hL2 hsg2 hX2 hf2 hp2
        go_wp2_with (fail)
        go_roundw
        case rel => exact ⟨j, q + 1, t', L2, by omega, by omega, HPT.out, HX2.out, by have := hsg; simp only [Tr.sg] at this; omega, HW.out.2.2.2.2, HU.out.2.2, HF2.out, HP2.out, by go_num, HT⟩
        case measure => simp [intOf]; omega
      · obtain ⟨G, HGS, HGB⟩ := HT.any
        have HGB := Lib.hid HGB
        go_wp2_with (fail)
        refine (refuint_ok (xn) HGS).mono ?_
        rintro x w6 ⟨rfl, H6⟩
        clear HT
        have HT := HGB.out _ H6
        clear HGB HGS H6
        have hpb := rput_ok b p (L3) (mkb (be (xn) 4)) (by rw [mkb_size, be_length]; have h5 := h3z; omega) (h3b) HT
        rw [bl_mkb] at hpb
        go_wp2_with (fail)
        refine hpb.mono ?_
        clear hpb HT
        rintro x w7 ⟨rfl, HT⟩
        obtain ⟨L2, hL2⟩ : ∃ L2 : Ls, L2 = (L3.put (be xn 4)) := ⟨_, rfl⟩
        rw [← hL2] at HT
        have hsg2 : L2 = sgL p 98 0 (fun m s => layL p Tr.nil (some m) s) L1 := by rw [hL2]; rw [sgL, if_neg (by decide), if_neg (by decide), if_pos rfl, ← HQQ.out]; dsimp only; rw [if_neg (by omega)]
        have hX2 : X = layL p t' none L2 := by rw [HX.out, layL, hsg2]
        have hf2 : L2.fits := by rw [hsg2]; exact sgL_fits (fun m s h => layL_fits p Tr.nil (some m) s h) HFT.out
        have hp2 : L2.pot p + 16 * t'.sg ≤ 1125899906842624 := by rw [hsg2]; exact Nat.le_trans (sgL_next HW.out HU.out L1) HB.out
        have HX2 := Lib.hid hX2; have HF2 := Lib.hid hf2; have HP2 := Lib.hid hp2
        clear hL2 hsg2 hX2 hf2 hp2
        go_wp2_with (fail)
        go_roundw
        case rel => exact ⟨j, q + 1, t', L2, by omega, by omega, HPT.out, HX2.out, by have := hsg; simp only [Tr.sg] at this; omega, HW.out.2.2.2.2, HU.out.2.2, HF2.out, HP2.out, by go_num, HT⟩
        case measure => simp [intOf]; omega
    by_cases e111 : ci = 111
    · as_aux_lemma =>
      subst e111
      obtain ⟨n, e1, t', hnum, rfl, hpt⟩ := pr_txt HP.out 111 (by have := HPK.out; omega) (.inl rfl)
      have hdg := digits_ok s (q + 1) hs (by omega)
      rw [(digI_some hnum).1, (digI_some hnum).2] at hdg
      have hrg := numF_range hnum
      dsimp only at hrg hdg
      have he1 : e1 ≤ s.size := hrg.2.2 (by omega)
      have he0 : q + 1 < e1 := hrg.1
      have HPT := Lib.hid hpt
      clear hpt HP hnum hrg
      obtain ⟨qq, hqq⟩ : ∃ qq, qq = L1.txt p := ⟨_, rfl⟩
      have hnb := rtext_ok b p L1 HG.out HT
      rw [← hqq] at hnb
      have h3f : qq.2.fits := by rw [hqq]; exact HFT.out.txt
      have h3p : qq.2.pot p ≤ L1.pot p := by rw [hqq]; exact (L1.txt_pot p).1
      have h3z : qq.2.sz ≤ 1125899906842624 := by have := qq.2.sz_pot p; have := HB.out; omega
      have h3b : qq.2.out.length ≤ 65536 := h3f.1
      have hxt : qq.1.size ≤ 1099511627776 := by rw [hqq]; exact txt_le HG.out.szT L1
      have HQQ := Lib.hid hqq; have H3F := Lib.hid h3f; have H3P := Lib.hid h3p
      obtain ⟨xt, L3⟩ := qq
      dsimp only at hnb h3z h3b hxt
      clear hqq h3f h3p
      go_wp2_with (go_at_call 40; refine (hdg _).mono ?_; rintro x w1 ⟨rfl, rfl⟩)
      refine hnb.mono ?_
      clear hnb HT
      rintro x w5 ⟨rfl, HT⟩
      by_cases hxn : n < xt.size
      · have hxI : (xt.size : Int) > n := by omega
        have c6 := HT.bad.1
        have f6 := HT.bad.2
        have HF := HT.fail
        go_wp2_with (fail)
        generalize World.setCell _ _ _ = w6 at *
        clear HT c6 f6
        have HT := HF
        clear HF
        obtain ⟨L2, hL2⟩ : ∃ L2 : Ls, L2 = L3.fail := ⟨_, rfl⟩
        rw [← hL2] at HT
        have hsg2 : L2 = sgL p 111 n (fun m s => layL p Tr.nil (some m) s) L1 := by rw [hL2]; rw [sgL, if_neg (by decide), if_neg (by decide), if_neg (by decide), if_pos rfl, ← HQQ.out]; dsimp only; rw [if_pos hxn]
        have hX2 : X = layL p t' none L2 := by rw [HX.out, layL, hsg2]
        have hf2 : L2.fits := by rw [hsg2]; exact sgL_fits (fun m s h => layL_fits p Tr.nil (some m) s h) HFT.out
        have hp2 : L2.pot p + 16 * t'.sg ≤ 1125899906842624 := by rw [hsg2]; exact Nat.le_trans (sgL_next HW.out HU.out L1) HB.out
        have HX2 := Lib.hid hX2; have HF2 := Lib.hid hf2; have HP2 := Lib.hid hp2
        clear hL2 hsg2 hX2 hf2 hp2
        go_wp2_with (fail)
        go_roundw
        case rel => exact ⟨j, e1, t', L2, by omega, by omega, HPT.out, HX2.out, by have := hsg; simp only [Tr.sg] at this; omega, HW.out.2.2.2.2, HU.out.2.2, HF2.out, HP2.out, by go_num, HT⟩
        case measure => simp [intOf]; omega
      · have hxI : ¬ (xt.size : Int) > n := by omega
        obtain ⟨G, HGS, HGB⟩ := HT.any
        have HGB := Lib.hid HGB
        go_wp2_with (fail)
        refine (refopaq_ok xt hxt HGS).mono ?_
        rintro x w6 ⟨rfl, H6⟩
        clear HT
        have HT := HGB.out _ H6
        clear HGB HGS H6
        have hpb := rput_ok b p L3 (mkb (opaq (bl xt))) (by rw [mkb_size]; have h5 := opaq_le' xt; omega) h3b HT
        rw [bl_mkb] at hpb
        go_wp2_with (fail)
        refine hpb.mono ?_
        clear hpb HT
        rintro x w7 ⟨rfl, HT⟩
        obtain ⟨L2, hL2⟩ : ∃ L2 : Ls, L2 = (L3.put (opaq (bl xt))) := ⟨_, rfl⟩
        rw [← hL2] at HT
        have hsg2 : L2 = sgL p 111 n (fun m s => layL p Tr.nil (some m) s) L1 := by rw [hL2]; rw [sgL, if_neg (by decide), if_neg (by decide), if_neg (by decide), if_pos rfl, ← HQQ.out]; dsimp only; rw [if_neg (by omega)]
        have hX2 : X = layL p t' none L2 := by rw [HX.out, layL, hsg2]
        have hf2 : L2.fits := by rw [hsg2]; exact sgL_fits (fun m s h => layL_fits p Tr.nil (some m) s h) HFT.out
        have hp2 : L2.pot p + 16 * t'.sg ≤ 1125899906842624 := by rw [hsg2]; exact Nat.le_trans (sgL_next HW.out HU.out L1) HB.out
        have HX2 := Lib.hid hX2; have HF2 := Lib.hid hf2; have HP2 := Lib.hid hp2
        clear hL2 hsg2 hX2 hf2 hp2
        go_wp2_with (fail)
        go_roundw
        case rel => exact ⟨j, e1, t', L2, by omega, by omega, HPT.out, HX2.out, by have := hsg; simp only [Tr.sg] at this; omega, HW.out.2.2.2.2, HU.out.2.2, HF2.out, HP2.out, by go_num, HT⟩
        case measure => simp [intOf]; omega
    by_cases e102 : ci = 102
    · as_aux_lemma =>
      subst e102
      obtain ⟨n, e1, t', hnum, rfl, hpt⟩ := pr_txt HP.out 102 (by have := HPK.out; omega) (.inr rfl)
      have hdg := digits_ok s (q + 1) hs (by omega)
      rw [(digI_some hnum).1, (digI_some hnum).2] at hdg
      have hrg := numF_range hnum
      dsimp only at hrg hdg
      have he1 : e1 ≤ s.size := hrg.2.2 (by omega)
      have he0 : q + 1 < e1 := hrg.1
      have HPT := Lib.hid hpt
      clear hpt HP hnum hrg
      obtain ⟨qq, hqq⟩ : ∃ qq, qq = L1.txt p := ⟨_, rfl⟩
      have hnb := rtext_ok b p L1 HG.out HT
      rw [← hqq] at hnb
      have h3f : qq.2.fits := by rw [hqq]; exact HFT.out.txt
      have h3p : qq.2.pot p ≤ L1.pot p := by rw [hqq]; exact (L1.txt_pot p).1
      have h3z : qq.2.sz ≤ 1125899906842624 := by have := qq.2.sz_pot p; have := HB.out; omega
      have h3b : qq.2.out.length ≤ 65536 := h3f.1
      have hxt : qq.1.size ≤ 1099511627776 := by rw [hqq]; exact txt_le HG.out.szT L1
      have HQQ := Lib.hid hqq; have H3F := Lib.hid h3f; have H3P := Lib.hid h3p
      obtain ⟨xt, L3⟩ := qq
      dsimp only at hnb h3z h3b hxt
      clear hqq h3f h3p
      go_wp2_with (go_at_call 40; refine (hdg _).mono ?_; rintro x w1 ⟨rfl, rfl⟩)
      refine hnb.mono ?_
      clear hnb HT
      rintro x w5 ⟨rfl, HT⟩
      by_cases hxn : n < xt.size
      · have hxI : decide ((xt.size : Int) > n) = true := decide_eq_true (by omega)
        have hxN : decide (n < xt.size) = true := decide_eq_true (by omega)
        have c6 := HT.bad.1
        have f6 := HT.bad.2
        have HF := HT.fail
        go_wp2_with (fail)
        generalize World.setCell _ _ _ = w6 at *
        clear HT c6 f6
        have HT := HF
        clear HF
        obtain ⟨L2, hL2⟩ : ∃ L2 : Ls, L2 = L3.fail := ⟨_, rfl⟩
        rw [← hL2] at HT
        have hsg2 : L2 = sgL p 102 n (fun m s => layL p Tr.nil (some m) s) L1 := by rw [hL2]; rw [sgL, if_neg (by decide), if_neg (by decide), if_neg (by decide), if_neg (by decide), if_pos rfl, ← HQQ.out]; dsimp only; rw [if_pos (by omega)]
        have hX2 : X = layL p t' none L2 := by rw [HX.out, layL, hsg2]
        have hf2 : L2.fits := by rw [hsg2]; exact sgL_fits (fun m s h => layL_fits p Tr.nil (some m) s h) HFT.out
        have hp2 : L2.pot p + 16 * t'.sg ≤ 1125899906842624 := by rw [hsg2]; exact Nat.le_trans (sgL_next HW.out HU.out L1) HB.out
        have HX2 := Lib.hid hX2; have HF2 := Lib.hid hf2; have HP2 := Lib.hid hp2
        clear hL2 hsg2 hX2 hf2 hp2
        go_wp2_with (fail)
        go_roundw
        case rel => exact ⟨j, e1, t', L2, by omega, by omega, HPT.out, HX2.out, by have := hsg; simp only [Tr.sg] at this; omega, HW.out.2.2.2.2, HU.out.2.2, HF2.out, HP2.out, by go_num, HT⟩
        case measure => simp [intOf]; omega
      by_cases hxe : xt.size = n
      rotate_left 1
      · have hxI : decide ((xt.size : Int) > n) = false := decide_eq_false (by omega)
        have hxN : decide (n < xt.size) = false := decide_eq_false (by omega)
        have hxJ : ((xt.size : Int) != n) = true := bne_iff_ne.2 (by omega)
        have hxK : (xt.size != n) = true := bne_iff_ne.2 (by omega)
        have hxL : (xt.size == n) = false := beq_eq_false_iff_ne.2 (by omega)
        have c6 := HT.bad.1
        have f6 := HT.bad.2
        have HF := HT.fail
        have HXE := Lib.hid hxe; clear hxe hxn
        go_wp2_with (fail)
        generalize World.setCell _ _ _ = w6 at *
        clear HT c6 f6
        have HT := HF
        clear HF
        obtain ⟨L2, hL2⟩ : ∃ L2 : Ls, L2 = L3.fail := ⟨_, rfl⟩
        rw [← hL2] at HT
        have hsg2 : L2 = sgL p 102 n (fun m s => layL p Tr.nil (some m) s) L1 := by rw [hL2]; rw [sgL, if_neg (by decide), if_neg (by decide), if_neg (by decide), if_neg (by decide), if_pos rfl, ← HQQ.out]; dsimp only; rw [if_pos HXE.out]
        have hX2 : X = layL p t' none L2 := by rw [HX.out, layL, hsg2]
        have hf2 : L2.fits := by rw [hsg2]; exact sgL_fits (fun m s h => layL_fits p Tr.nil (some m) s h) HFT.out
        have hp2 : L2.pot p + 16 * t'.sg ≤ 1125899906842624 := by rw [hsg2]; exact Nat.le_trans (sgL_next HW.out HU.out L1) HB.out
        have HX2 := Lib.hid hX2; have HF2 := Lib.hid hf2; have HP2 := Lib.hid hp2
        clear hL2 hsg2 hX2 hf2 hp2
        go_wp2_with (fail)
        go_roundw
        case rel => exact ⟨j, e1, t', L2, by omega, by omega, HPT.out, HX2.out, by have := hsg; simp only [Tr.sg] at this; omega, HW.out.2.2.2.2, HU.out.2.2, HF2.out, HP2.out, by go_num, HT⟩
        case measure => simp [intOf]; omega
      · have hxI : decide ((xt.size : Int) > n) = false := decide_eq_false (by omega)
        have hxN : decide (n < xt.size) = false := decide_eq_false (by omega)
        have hxJ : ((xt.size : Int) != n) = false := by rw [hxe]; simp
        have hxK : (xt.size != n) = false := by rw [hxe]; simp
        have hxL : (xt.size == n) = true := by rw [hxe]; simp
        have HXE := Lib.hid hxe; clear hxe hxn
        obtain ⟨G, HGS, HGB⟩ := HT.any
        have HGB := Lib.hid HGB
        go_wp2_with (fail)
        refine (reffixed_ok xt hxt HGS).mono ?_
        rintro x w6 ⟨rfl, H6⟩
        clear HT
        have HT := HGB.out _ H6
        clear HGB HGS H6
        have hpb := rput_ok b p L3 (mkb (fixed (bl xt))) (by rw [mkb_size]; have h5 := fixed_le' xt; omega) h3b HT
        rw [bl_mkb] at hpb
        go_wp2_with (fail)
        refine hpb.mono ?_
        clear hpb HT
        rintro x w7 ⟨rfl, HT⟩
        obtain ⟨L2, hL2⟩ : ∃ L2 : Ls, L2 = (L3.put (fixed (bl xt))) := ⟨_, rfl⟩
        rw [← hL2] at HT
        have hsg2 : L2 = sgL p 102 n (fun m s => layL p Tr.nil (some m) s) L1 := by rw [hL2]; rw [sgL, if_neg (by decide), if_neg (by decide), if_neg (by decide), if_neg (by decide), if_pos rfl, ← HQQ.out]; dsimp only; rw [if_neg (fun h => h HXE.out)]
        have hX2 : X = layL p t' none L2 := by rw [HX.out, layL, hsg2]
        have hf2 : L2.fits := by rw [hsg2]; exact sgL_fits (fun m s h => layL_fits p Tr.nil (some m) s h) HFT.out
        have hp2 : L2.pot p + 16 * t'.sg ≤ 1125899906842624 := by rw [hsg2]; exact Nat.le_trans (sgL_next HW.out HU.out L1) HB.out
        have HX2 := Lib.hid hX2; have HF2 := Lib.hid hf2; have HP2 := Lib.hid hp2
        clear hL2 hsg2 hX2 hf2 hp2
        go_wp2_with (fail)
        go_roundw
        case rel => exact ⟨j, e1, t', L2, by omega, by omega, HPT.out, HX2.out, by have := hsg; simp only [Tr.sg] at this; omega, HW.out.2.2.2.2, HU.out.2.2, HF2.out, HP2.out, by go_num, HT⟩
        case measure => simp [intOf]; omega
    by_cases e63 : ci = 63
    · as_aux_lemma =>
      subst e63
      obtain ⟨f, e1, t', hpf, h40, h41, rfl, hpt⟩ := pr_brk HP.out 63 (by have := HPK.out; omega) (.inl rfl)
      have hl41 := pk_lt (s := s) (i := e1) (by omega)
      have hl40 := pk_lt (s := s) (i := q + 1) (by omega)
      have hrg := (pr_range s _ _ _ _ _ _ hpf).1
      dsimp only at hrg
      have HPT := Lib.hid hpt; have HPF := Lib.hid hpf
      clear hpt hpf HP h40 h41
      obtain ⟨qq, hqq⟩ : ∃ qq, qq = L1.num p true := ⟨_, rfl⟩
      have hnb := rnumber_ok b p L1 true HG.out HT
      rw [← hqq] at hnb
      have h3f : qq.2.fits := by rw [hqq]; exact HFT.out.num
      have h3p : qq.2.pot p ≤ L1.pot p := by rw [hqq]; exact (L1.num_pot p true).1
      have h3z : qq.2.sz ≤ 1125899906842624 := by have := qq.2.sz_pot p; have := HB.out; omega
      have h3b : qq.2.out.length ≤ 65536 := h3f.1
      have HQQ := Lib.hid hqq; have H3F := Lib.hid h3f; have H3P := Lib.hid h3p
      obtain ⟨xn, L3⟩ := qq
      dsimp only at hnb h3z h3b
      clear hqq h3f h3p
      go_wp2_with (fail)
      refine hnb.mono ?_
      clear hnb HT
      rintro x w5 ⟨rfl, HT⟩
      by_cases hx1 : xn > 1
      · have c6 := HT.bad.1
        have f6 := HT.bad.2
        have HF := HT.fail
        go_upto_region 15 with (fail)
        generalize World.setCell _ _ _ = w6 at *
        clear HT c6 f6
        have HT := HF
        clear HF
        obtain ⟨G, HGS, HGB⟩ := HT.any
        have HGB := Lib.hid HGB
        go_wp2_with (fail)
        refine (refuint_ok (xn) HGS).mono ?_
        rintro x w6 ⟨rfl, H6⟩
        clear HT
        have HT := HGB.out _ H6
        clear HGB HGS H6
        have hpb := rput_ok b p (L3.fail) (mkb (be (xn) 4)) (by rw [mkb_size, be_length]; have h5 := (show L3.fail.sz ≤ 1125899906842624 from h3z); omega) ((show L3.fail.out.length ≤ 65536 from h3b)) HT
        rw [bl_mkb] at hpb
        go_wp2_with (fail)
        refine hpb.mono ?_
        clear hpb HT
        rintro x w7 ⟨rfl, HT⟩
        have hx2 : (xn == 1) = false := beq_eq_false_iff_ne.2 (by omega)
        obtain ⟨G, HGS, HGB⟩ := HT.any
        have HGB := Lib.hid HGB
        go_wp2_with (fail)
        refine (skip0_ok s hs j (d + 1) (q + 2) (f, e1) (by omega) (by omega) HPF.out HGS).mono ?_
        rintro x w9 ⟨rfl, H9⟩
        clear HT
        have HT := HGB.out _ H9
        clear HGS HGB H9
        obtain ⟨L2, hL2⟩ : ∃ L2 : Ls, L2 = (L3.fail.put (be xn 4)) := ⟨_, rfl⟩
        rw [← hL2] at HT
        have hsg2 : L2 = sgL p 63 0 (fun m s => layL p (Tr.arm 0 false f .nil) (some m) s) L1 := by rw [hL2]; rw [sgL, if_neg (by decide), if_neg (by decide), if_neg (by decide), if_neg (by decide), if_neg (by decide), if_pos rfl, ← HQQ.out]; dsimp only; rw [if_neg (fun h => by omega), if_pos (by omega)]
        have hX2 : X = layL p t' none L2 := by rw [HX.out, layL, hsg2]
        have hf2 : L2.fits := by rw [hsg2]; exact sgL_fits (fun m s h => layL_fits p (Tr.arm 0 false f .nil) (some m) s h) HFT.out
        have hp2 : L2.pot p + 16 * t'.sg ≤ 1125899906842624 := by rw [hsg2]; exact Nat.le_trans (sgL_next HW.out HU.out L1) HB.out
        have HX2 := Lib.hid hX2; have HF2 := Lib.hid hf2; have HP2 := Lib.hid hp2
        clear hL2 hsg2 hX2 hf2 hp2
        go_wp2_with (fail)
        go_roundw
        case rel => exact ⟨j, e1 + 1, t', L2, by omega, by omega, HPT.out, HX2.out, by have := hsg; simp only [Tr.sg] at this; omega, HW.out.2.2.2.2, HU.out.2.2, HF2.out, HP2.out, by go_num, HT⟩
        case measure => simp [intOf]; omega
      · by_cases hx2 : xn = 1
        · subst hx2
          have hbd : L3.bad = false := by have h1 := Ls.num_nz (p := p) (w := true) (s := L1) (by rw [← HQQ.out]; show (1 : Int) ≠ 0; decide); rw [← HQQ.out] at h1; exact h1
          have hpt16 : L3.pot p + 16 ≤ L1.pot p := by have h1 := (L1.num_pot p true).2 (by rw [← HQQ.out]; exact hbd); rw [← HQQ.out] at h1; exact h1
          obtain ⟨G, HGS, HGB⟩ := HT.any
          have HGB := Lib.hid HGB
          go_wp2_with (fail)
          refine (refuint_ok (1) HGS).mono ?_
          rintro x w6 ⟨rfl, H6⟩
          clear HT
          have HT := HGB.out _ H6
          clear HGB HGS H6
          have hpb := rput_ok b p (L3) (mkb (be (1) 4)) (by rw [mkb_size, be_length]; have h5 := h3z; omega) (h3b) HT
          rw [bl_mkb] at hpb
          go_wp2_with (fail)
          refine hpb.mono ?_
          clear hpb HT
          rintro x w7 ⟨rfl, HT⟩
          have hcb := HT.bad.1
          rw [Ls.put_bad, hbd] at hcb
          have HBD := Lib.hid hbd; clear hbd
          have HFF := Lib.hid (H3F.out.put (be 1 4))
          have HBB : Hid ((L3.put (be 1 4)).pot p + 16 * f.sg ≤ 1125899906842624) := by
            show _ ≤ _
            rw [Ls.put_pot, be_length]
            have := HB.out
            simp only [Tr.sg] at this
            omega
          have hly := IH ((f).sg + 1) (by have := hsg; simp only [Tr.sg] at this; omega) f j (d + 1) (q + 2) (e1) b p (L3.put (be 1 4)) w0 _ F (Nat.lt_succ_self _) (by omega) (by omega) HPF.out HU.out.2.1.1 HW.out.2.2.2.1.2.1 HG.out HRG.out HFF.out HBB.out HT
          go_wp2_with (fail)
          refine hly.mono ?_
          clear hly HT
          rintro x w9 ⟨⟨nr, rfl⟩, HT⟩
          clear hcb
          obtain ⟨G, HGS, HGB⟩ := HT.any
          have HGB := Lib.hid HGB
          go_wp2_with (fail)
          refine (skip0_ok s hs j (d + 1) (q + 2) (f, e1) (by omega) (by omega) HPF.out HGS).mono ?_
          rintro x w9 ⟨rfl, H9⟩
          clear HT
          have HT := HGB.out _ H9
          clear HGS HGB H9
          obtain ⟨L2, hL2⟩ : ∃ L2 : Ls, L2 = (layL p f none (L3.put (be 1 4))) := ⟨_, rfl⟩
          rw [← hL2] at HT
          have hsg2 : L2 = sgL p 63 0 (fun m s => layL p (Tr.arm 0 false f .nil) (some m) s) L1 := by rw [hL2]; rw [sgL, if_neg (by decide), if_neg (by decide), if_neg (by decide), if_neg (by decide), if_neg (by decide), if_pos rfl, ← HQQ.out]; dsimp only; rw [if_pos ⟨rfl, HBD.out⟩, arm0_layL]
          have hX2 : X = layL p t' none L2 := by rw [HX.out, layL, hsg2]
          have hf2 : L2.fits := by rw [hsg2]; exact sgL_fits (fun m s h => layL_fits p (Tr.arm 0 false f .nil) (some m) s h) HFT.out
          have hp2 : L2.pot p + 16 * t'.sg ≤ 1125899906842624 := by rw [hsg2]; exact Nat.le_trans (sgL_next HW.out HU.out L1) HB.out
          have HX2 := Lib.hid hX2; have HF2 := Lib.hid hf2; have HP2 := Lib.hid hp2
          clear hL2 hsg2 hX2 hf2 hp2
          go_wp2_with (fail)
          go_roundw
          case rel => exact ⟨j, e1 + 1, t', L2, by omega, by omega, HPT.out, HX2.out, by have := hsg; simp only [Tr.sg] at this; omega, HW.out.2.2.2.2, HU.out.2.2, HF2.out, HP2.out, by go_num, HT⟩
          case measure => simp [intOf]; omega
        · have hx2b : (xn == 1) = false := beq_eq_false_iff_ne.2 hx2
          have HX2' := Lib.hid hx2; clear hx2
          obtain ⟨G, HGS, HGB⟩ := HT.any
          have HGB := Lib.hid HGB
          go_wp2_with (fail)
          refine (refuint_ok (xn) HGS).mono ?_
          rintro x w6 ⟨rfl, H6⟩
          clear HT
          have HT := HGB.out _ H6
          clear HGB HGS H6
          have hpb := rput_ok b p (L3) (mkb (be (xn) 4)) (by rw [mkb_size, be_length]; have h5 := h3z; omega) (h3b) HT
          rw [bl_mkb] at hpb
          go_wp2_with (fail)
          refine hpb.mono ?_
          clear hpb HT
          rintro x w7 ⟨rfl, HT⟩
          obtain ⟨G, HGS, HGB⟩ := HT.any
          have HGB := Lib.hid HGB
          go_wp2_with (fail)
          refine (skip0_ok s hs j (d + 1) (q + 2) (f, e1) (by omega) (by omega) HPF.out HGS).mono ?_
          rintro x w9 ⟨rfl, H9⟩
          clear HT
          have HT := HGB.out _ H9
          clear HGS HGB H9
          obtain ⟨L2, hL2⟩ : ∃ L2 : Ls, L2 = (L3.put (be xn 4)) := ⟨_, rfl⟩
          rw [← hL2] at HT
          have hsg2 : L2 = sgL p 63 0 (fun m s => layL p (Tr.arm 0 false f .nil) (some m) s) L1 := by rw [hL2]; rw [sgL, if_neg (by decide), if_neg (by decide), if_neg (by decide), if_neg (by decide), if_neg (by decide), if_pos rfl, ← HQQ.out]; dsimp only; rw [if_neg (fun h => HX2'.out h.1), if_neg (by omega)]
          have hX2 : X = layL p t' none L2 := by rw [HX.out, layL, hsg2]
          have hf2 : L2.fits := by rw [hsg2]; exact sgL_fits (fun m s h => layL_fits p (Tr.arm 0 false f .nil) (some m) s h) HFT.out
          have hp2 : L2.pot p + 16 * t'.sg ≤ 1125899906842624 := by rw [hsg2]; exact Nat.le_trans (sgL_next HW.out HU.out L1) HB.out
          have HX2 := Lib.hid hX2; have HF2 := Lib.hid hf2; have HP2 := Lib.hid hp2
          clear hL2 hsg2 hX2 hf2 hp2
          go_wp2_with (fail)
          go_roundw
          case rel => exact ⟨j, e1 + 1, t', L2, by omega, by omega, HPT.out, HX2.out, by have := hsg; simp only [Tr.sg] at this; omega, HW.out.2.2.2.2, HU.out.2.2, HF2.out, HP2.out, by go_num, HT⟩
          case measure => simp [intOf]; omega
    by_cases e42 : ci = 42
    · as_aux_lemma =>
      subst e42
      obtain ⟨f, e1, t', hpf, h40, h41, rfl, hpt⟩ := pr_brk HP.out 42 (by have := HPK.out; omega) (.inr rfl)
      have hl41 := pk_lt (s := s) (i := e1) (by omega)
      have hl40 := pk_lt (s := s) (i := q + 1) (by omega)
      have hrg := (pr_range s _ _ _ _ _ _ hpf).1
      dsimp only at hrg
      have hfl : f.len ≠ 0 := by
        obtain ⟨f', hf', hf0⟩ := HU.out.1 rfl
        injection hf' with h1 h2 h3 h4; subst h3; exact hf0
      have HPT := Lib.hid hpt; have HPF := Lib.hid hpf; have HFL := Lib.hid hfl
      clear hpt hpf HP h40 h41 hfl
      obtain ⟨qq, hqq⟩ : ∃ qq, qq = L1.num p false := ⟨_, rfl⟩
      have hnb := rnumber_ok b p L1 false HG.out HT
      rw [← hqq] at hnb
      have h3f : qq.2.fits := by rw [hqq]; exact HFT.out.num
      have h3p : qq.2.pot p ≤ L1.pot p := by rw [hqq]; exact (L1.num_pot p false).1
      have h3z : qq.2.sz ≤ 1125899906842624 := by have := qq.2.sz_pot p; have := HB.out; omega
      have h3b : qq.2.out.length ≤ 65536 := h3f.1
      have HQQ := Lib.hid hqq; have H3F := Lib.hid h3f; have H3P := Lib.hid h3p
      obtain ⟨xn, L3⟩ := qq
      dsimp only at hnb h3z h3b
      clear hqq h3f h3p
      go_wp2_with (fail)
      refine hnb.mono ?_
      clear hnb HT
      rintro x w5 ⟨rfl, HT⟩
      have hxle : xn ≤ 9223372036854775807 := by have := num_le HRG.out false L1; rw [← HQQ.out] at this; exact this
      by_cases hx0 : xn < 0
      · have c6 := HT.bad.1
        have f6 := HT.bad.2
        have HF := HT.fail
        go_upto_region 34 with (fail)
        generalize World.setCell _ _ _ = w6 at *
        clear HT c6 f6
        have HT := HF
        clear HF
        go_wp2_with (fail)
        refine wp_loop_rounds 1 ?_
        rw [rounds_succ]
        have hx00 : ¬ (0 : Int) < xn := by omega
        obtain ⟨G, HGS, HGB⟩ := HT.any
        have HGB := Lib.hid HGB
        go_wp2_with (fail)
        refine (refuint_ok (0) HGS).mono ?_
        rintro x w6 ⟨rfl, H6⟩
        clear HT
        have HT := HGB.out _ H6
        clear HGB HGS H6
        have hpb := rput_ok b p (L3.fail) (mkb (be (0) 4)) (by rw [mkb_size, be_length]; have h5 := (show L3.fail.sz ≤ 1125899906842624 from h3z); omega) ((show L3.fail.out.length ≤ 65536 from h3b)) HT
        rw [bl_mkb] at hpb
        go_wp2_with (fail)
        refine hpb.mono ?_
        clear hpb HT
        rintro x w7 ⟨rfl, HT⟩
        obtain ⟨G, HGS, HGB⟩ := HT.any
        have HGB := Lib.hid HGB
        go_wp2_with (fail)
        refine (skip0_ok s hs j (d + 1) (q + 2) (f, e1) (by omega) (by omega) HPF.out HGS).mono ?_
        rintro x w9 ⟨rfl, H9⟩
        clear HT
        have HT := HGB.out _ H9
        clear HGS HGB H9
        obtain ⟨L2, hL2⟩ : ∃ L2 : Ls, L2 = (L3.fail.put (be 0 4)) := ⟨_, rfl⟩
        rw [← hL2] at HT
        have hsg2 : L2 = sgL p 42 0 (fun m s => layL p (Tr.arm 0 false f .nil) (some m) s) L1 := by rw [hL2]; rw [sgL, if_neg (by decide), if_neg (by decide), if_neg (by decide), if_neg (by decide), if_neg (by decide), if_neg (by decide), if_pos rfl, ← HQQ.out]; dsimp only; rw [if_pos hx0, reL_bad _ rfl]
        have hX2 : X = layL p t' none L2 := by rw [HX.out, layL, hsg2]
        have hf2 : L2.fits := by rw [hsg2]; exact sgL_fits (fun m s h => layL_fits p (Tr.arm 0 false f .nil) (some m) s h) HFT.out
        have hp2 : L2.pot p + 16 * t'.sg ≤ 1125899906842624 := by rw [hsg2]; exact Nat.le_trans (sgL_next HW.out HU.out L1) HB.out
        have HX2 := Lib.hid hX2; have HF2 := Lib.hid hf2; have HP2 := Lib.hid hp2
        clear hL2 hsg2 hX2 hf2 hp2
        go_wp2_with (fail)
        go_roundw
        case rel => exact ⟨j, e1 + 1, t', L2, by omega, by omega, HPT.out, HX2.out, by have := hsg; simp only [Tr.sg] at this; omega, HW.out.2.2.2.2, HU.out.2.2, HF2.out, HP2.out, by go_num, HT⟩
        case measure => simp [intOf]; omega
      obtain ⟨n, rfl⟩ := Int.eq_ofNat_of_zero_le (show 0 ≤ xn by omega)
      obtain ⟨XL, hXL⟩ : ∃ XL, XL = reL (layL p f none) n L3 := ⟨_, rfl⟩
      have HXL := Lib.hid hXL; have HXL0 := Lib.hid hXL; clear hXL
      go_wp2_with (fail)
      go_loopw [13] (fun iv wr => ∃ (i : Nat) (L4 : Ls), iv = .int .i64 i ∧ i ≤ n ∧ Hid (XL = reL (layL p f none) (n - i) L4) ∧ RlS w0 wr F b p L4 ∧ Hid L4.fits ∧ Hid ((L4.bad = false → L4.pot p ≤ L3.pot p) ∧ L4.pot p ≤ L3.pot p + 4 + 16 * f.sg)) (fun iv _ => n - (intOf iv).toNat)
      case atStart => exact ⟨0, L3, rfl, Nat.zero_le _, HXL.out, HT, H3F.out, fun _ => Nat.le_refl _, by omega⟩
      case round =>
        clear HT HXL
        obtain ⟨i, L4, rfl, hin, HXL, HT, H4F, H4P⟩ := hrel
        have h4z : L4.sz ≤ 1125899906842624 := by
          have h1 := L4.sz_pot p
          have h2 := H4P.out.2
          have h3 := H3P.out
          have h4 := HB.out
          simp only [Tr.sg] at h4
          try dsimp only at h3
          omega
        have h4b : L4.out.length ≤ 65536 := H4F.out.1
        have hcb := HT.bad.1
        by_cases hi : i < n ∧ L4.bad = false
        · obtain ⟨hi, hbd⟩ := hi
          have hiI : (i : Int) < n := by omega
          have hiD : decide ((i : Int) < n) = true := decide_eq_true hiI
          rw [hbd] at hcb
          have HBD := Lib.hid hbd; clear hbd
          obtain ⟨G, HGS, HGB⟩ := HT.any
          have HGB := Lib.hid HGB
          go_wp2_with (fail)
          refine (refuint_ok (1) HGS).mono ?_
          rintro x w6 ⟨rfl, H6⟩
          clear HT
          have HT := HGB.out _ H6
          clear HGB HGS H6
          have hpb := rput_ok b p (L4) (mkb (be (1) 4)) (by rw [mkb_size, be_length]; have h5 := h4z; omega) (h4b) HT
          rw [bl_mkb] at hpb
          go_wp2_with (fail)
          refine hpb.mono ?_
          clear hpb HT
          rintro x w7 ⟨rfl, HT⟩
          clear hcb
          have HFF := Lib.hid (H4F.out.put (be 1 4))
          have HBB : Hid ((L4.put (be 1 4)).pot p + 16 * f.sg ≤ 1125899906842624) := by
            show _ ≤ _
            rw [Ls.put_pot, be_length]
            have h1 := H4P.out.1 HBD.out
            have h3 := H3P.out
            have := HB.out
            simp only [Tr.sg] at this
            try dsimp only at h3
            omega
          have hly := IH ((f).sg + 1) (by have := hsg; simp only [Tr.sg] at this; omega) f j (d + 1) (q + 2) (e1) b p (L4.put (be 1 4)) w0 _ F (Nat.lt_succ_self _) (by omega) (by omega) HPF.out HU.out.2.1.1 HW.out.2.2.2.1.2.1 HG.out HRG.out HFF.out HBB.out HT
          go_wp2_with (fail)
          refine hly.mono ?_
          clear hly HT
          rintro x w9 ⟨⟨nr, rfl⟩, HT⟩
          go_wp2_with (fail)
          go_roundw
          case rel =>
            refine ⟨i + 1, layL p f none (L4.put (be 1 4)), by go_num, by omega, ?_, HT, layL_fits p f none _ HFF.out, ?_⟩
            · show XL = _
              rw [HXL.out, show n - i = (n - (i + 1)) + 1 by omega, reL, if_neg (by rw [HBD.out]; decide)]
            · show _ ∧ _
              have hpp := layL_pot p f none (L4.put (be 1 4)) HW.out.2.2.2.1.2.1 HU.out.2.1.1
              rw [Ls.put_pot, be_length, if_pos ⟨rfl, HFL.out⟩] at hpp
              have h1 := H4P.out.1 HBD.out
              exact ⟨fun h => by have := hpp.2 h; omega, by have := hpp.1; omega⟩
          case measure => simp [intOf]; omega
        · have hXE : XL = L4 := by
            rw [HXL.out]
            by_cases hbd : L4.bad = true
            · exact reL_bad _ hbd
            · have : n - i = 0 := by
                have : ¬ i < n := fun h => hi ⟨h, by cases hq : L4.bad; rfl; exact absurd hq hbd⟩
                omega
              rw [this]; rfl
          have HXE := Lib.hid hXE; clear hXE
          have hgo : Hid (¬ (i < n) ∨ (i < n ∧ L4.bad = true)) := by
            show _ ∨ _
            by_cases hin2 : i < n
            · refine .inr ⟨hin2, ?_⟩
              cases hq : L4.bad with
              | true => rfl
              | false => exact absurd ⟨hin2, hq⟩ hi
            · exact .inl hin2
          clear hi
          have hdone : sgL p 42 0 (fun m s => layL p (.arm 0 false f .nil) (some m) s) L1 = L4.put (be 0 4) := by
            rw [sgL, if_neg (by decide), if_neg (by decide), if_neg (by decide), if_neg (by decide), if_neg (by decide), if_neg (by decide), if_pos rfl, ← HQQ.out]
            dsimp only
            rw [if_neg (by omega), ← HXE.out, HXL0.out, Int.toNat_natCast, show (fun s => layL p (.arm 0 false f .nil) (some 0) s) = layL p f none from funext fun s => arm0_layL p f s]
          have HDN := Lib.hid hdone; clear hdone
          rcases hgo with hgo | ⟨hgo, hbd⟩
          · have hgI : ¬ (i : Int) < n := by omega
            have hgD : decide ((i : Int) < n) = false := decide_eq_false hgI
            have hgN : decide (i < n) = false := decide_eq_false hgo
            clear hgo
            go_upto_region 39 with (fail)
            obtain ⟨G, HGS, HGB⟩ := HT.any
            have HGB := Lib.hid HGB
            go_wp2_with (fail)
            refine (refuint_ok (0) HGS).mono ?_
            rintro x w6 ⟨rfl, H6⟩
            clear HT
            have HT := HGB.out _ H6
            clear HGB HGS H6
            have hpb := rput_ok b p (L4) (mkb (be (0) 4)) (by rw [mkb_size, be_length]; have h5 := h4z; omega) (h4b) HT
            rw [bl_mkb] at hpb
            go_wp2_with (fail)
            refine hpb.mono ?_
            clear hpb HT
            rintro x w7 ⟨rfl, HT⟩
            clear hcb
            obtain ⟨G, HGS, HGB⟩ := HT.any
            have HGB := Lib.hid HGB
            go_wp2_with (fail)
            refine (skip0_ok s hs j (d + 1) (q + 2) (f, e1) (by omega) (by omega) HPF.out HGS).mono ?_
            rintro x w9 ⟨rfl, H9⟩
            clear HT
            have HT := HGB.out _ H9
            clear HGS HGB H9
            obtain ⟨L2, hL2⟩ : ∃ L2 : Ls, L2 = (L4.put (be 0 4)) := ⟨_, rfl⟩
            rw [← hL2] at HT
            have hsg2 : L2 = sgL p 42 0 (fun m s => layL p (Tr.arm 0 false f .nil) (some m) s) L1 := by rw [hL2]; exact HDN.out.symm
            have hX2 : X = layL p t' none L2 := by rw [HX.out, layL, hsg2]
            have hf2 : L2.fits := by rw [hsg2]; exact sgL_fits (fun m s h => layL_fits p (Tr.arm 0 false f .nil) (some m) s h) HFT.out
            have hp2 : L2.pot p + 16 * t'.sg ≤ 1125899906842624 := by rw [hsg2]; exact Nat.le_trans (sgL_next HW.out HU.out L1) HB.out
            have HX2 := Lib.hid hX2; have HF2 := Lib.hid hf2; have HP2 := Lib.hid hp2
            clear hL2 hsg2 hX2 hf2 hp2
            go_wp2_with (fail)
            go_roundw
            case rel => exact ⟨j, e1 + 1, t', L2, by omega, by omega, HPT.out, HX2.out, by have := hsg; simp only [Tr.sg] at this; omega, HW.out.2.2.2.2, HU.out.2.2, HF2.out, HP2.out, by go_num, HT⟩
            case measure => simp [intOf]; omega
          · have hgI : (i : Int) < n := by omega
            have hgD : decide ((i : Int) < n) = true := decide_eq_true hgI
            have hgN : decide (i < n) = true := decide_eq_true hgo
            clear hgo
            rw [hbd] at hcb
            clear hbd
            obtain ⟨G, HGS, HGB⟩ := HT.any
            have HGB := Lib.hid HGB
            go_wp2_with (fail)
            refine (refuint_ok (0) HGS).mono ?_
            rintro x w6 ⟨rfl, H6⟩
            clear HT
            have HT := HGB.out _ H6
            clear HGB HGS H6
            have hpb := rput_ok b p (L4) (mkb (be (0) 4)) (by rw [mkb_size, be_length]; have h5 := h4z; omega) (h4b) HT
            rw [bl_mkb] at hpb
            go_wp2_with (fail)
            refine hpb.mono ?_
            clear hpb HT
            rintro x w7 ⟨rfl, HT⟩
            clear hcb
            obtain ⟨G, HGS, HGB⟩ := HT.any
            have HGB := Lib.hid HGB
            go_wp2_with (fail)
            refine (skip0_ok s hs j (d + 1) (q + 2) (f, e1) (by omega) (by omega) HPF.out HGS).mono ?_
            rintro x w9 ⟨rfl, H9⟩
            clear HT
            have HT := HGB.out _ H9
            clear HGS HGB H9
            obtain ⟨L2, hL2⟩ : ∃ L2 : Ls, L2 = (L4.put (be 0 4)) := ⟨_, rfl⟩
            rw [← hL2] at HT
            have hsg2 : L2 = sgL p 42 0 (fun m s => layL p (Tr.arm 0 false f .nil) (some m) s) L1 := by rw [hL2]; exact HDN.out.symm
            have hX2 : X = layL p t' none L2 := by rw [HX.out, layL, hsg2]
            have hf2 : L2.fits := by rw [hsg2]; exact sgL_fits (fun m s h => layL_fits p (Tr.arm 0 false f .nil) (some m) s h) HFT.out
            have hp2 : L2.pot p + 16 * t'.sg ≤ 1125899906842624 := by rw [hsg2]; exact Nat.le_trans (sgL_next HW.out HU.out L1) HB.out
            have HX2 := Lib.hid hX2; have HF2 := Lib.hid hf2; have HP2 := Lib.hid hp2
            clear hL2 hsg2 hX2 hf2 hp2
            go_wp2_with (fail)
            go_roundw
            case rel => exact ⟨j, e1 + 1, t', L2, by omega, by omega, HPT.out, HX2.out, by have := hsg; simp only [Tr.sg] at this; omega, HW.out.2.2.2.2, HU.out.2.2, HF2.out, HP2.out, by go_num, HT⟩
            case measure => simp [intOf]; omega
    by_cases e60 : ci = 60
    · as_aux_lemma =>
      subst e60
      obtain ⟨a, e1, t', hpa, h62, rfl, hpt⟩ := pr_alt HP.out (by have := HPK.out; omega)
      have hl62 := pk_lt (s := s) (i := e1) (by omega)
      have hrg := (pr_range s _ _ _ _ _ _ hpa).1
      dsimp only at hrg
      have HPT := Lib.hid hpt; have HPA := Lib.hid hpa; have H62 := Lib.hid h62
      clear hpt hpa HP h62
      obtain ⟨qq, hqq⟩ : ∃ qq, qq = L1.num p true := ⟨_, rfl⟩
      have hnb := rnumber_ok b p L1 true HG.out HT
      rw [← hqq] at hnb
      have h3f : qq.2.fits := by rw [hqq]; exact HFT.out.num
      have h3p : qq.2.pot p ≤ L1.pot p := by rw [hqq]; exact (L1.num_pot p true).1
      have h3z : qq.2.sz ≤ 1125899906842624 := by have := qq.2.sz_pot p; have := HB.out; omega
      have h3b : qq.2.out.length ≤ 65536 := h3f.1
      have HQQ := Lib.hid hqq; have H3F := Lib.hid h3f; have H3P := Lib.hid h3p
      obtain ⟨xn, L3⟩ := qq
      dsimp only at hnb h3z h3b
      clear hqq h3f h3p
      go_wp2_with (fail)
      refine hnb.mono ?_
      clear hnb HT
      rintro x w5 ⟨rfl, HT⟩
      obtain ⟨G, HGS, HGB⟩ := HT.any
      have HGB := Lib.hid HGB
      go_wp2_with (fail)
      refine (refuint_ok (xn) HGS).mono ?_
      rintro x w6 ⟨rfl, H6⟩
      clear HT
      have HT := HGB.out _ H6
      clear HGB HGS H6
      have hpb := rput_ok b p (L3) (mkb (be (xn) 4)) (by rw [mkb_size, be_length]; have h5 := h3z; omega) (h3b) HT
      rw [bl_mkb] at hpb
      go_wp2_with (fail)
      refine hpb.mono ?_
      clear hpb HT
      rintro x w7 ⟨rfl, HT⟩
      have hsgl : sgL p 60 0 (fun m s => layL p a (some m) s) L1 = if L3.bad = true then L3.put (be xn 4) else match pickT a xn with
          | none => (L3.put (be xn 4)).fail
          | some f => layL p f none (L3.put (be xn 4)) := by
        rw [sgL, if_neg (by decide), if_neg (by decide), if_neg (by decide), if_neg (by decide), if_neg (by decide), if_neg (by decide), if_neg (by decide), if_pos rfl, ← HQQ.out]
        dsimp only
        rw [layL_arms]
      have HSG := Lib.hid hsgl; clear hsgl
      obtain ⟨G, HGS, HGB⟩ := HT.any
      have HGB := Lib.hid HGB
      go_wp2_with (fail)
      refine (choose_ok s hs j (d + 1) (q + 1) e1 [] a xn (by omega) (by omega) HPA.out H62.out HGS).mono ?_
      rintro x w9 ⟨pl, rfl, hfa, H9⟩
      clear HT
      have HT := HGB.out _ H9
      clear HGS HGB H9
      obtain ⟨pf, hpf⟩ : ∃ pf, pf = pickT a xn := ⟨_, rfl⟩
      rw [← hpf] at hfa
      have HPK2 := Lib.hid hpf; clear hpf
      cases pf with
      | none =>
        obtain rfl : pl = -1 := hfa
        have c6 := HT.bad.1
        have f6 := HT.bad.2
        have HF := HT.fail
        go_upto_region 49 with (fail)
        generalize World.setCell _ _ _ = w6 at *
        clear HT c6 f6
        have HT := HF
        clear HF
        obtain ⟨L2, hL2⟩ : ∃ L2 : Ls, L2 = (L3.put (be xn 4)).fail := ⟨_, rfl⟩
        rw [← hL2] at HT
        have hsg2 : L2 = sgL p 60 0 (fun m s => layL p a (some m) s) L1 := by rw [hL2]; rw [HSG.out, ← HPK2.out]; split; (rename_i hb; exact Ls.fail_of hb); rfl
        have hX2 : X = layL p t' none L2 := by rw [HX.out, layL, hsg2]
        have hf2 : L2.fits := by rw [hsg2]; exact sgL_fits (fun m s h => layL_fits p a (some m) s h) HFT.out
        have hp2 : L2.pot p + 16 * t'.sg ≤ 1125899906842624 := by rw [hsg2]; exact Nat.le_trans (sgL_next HW.out HU.out L1) HB.out
        have HX2 := Lib.hid hX2; have HF2 := Lib.hid hf2; have HP2 := Lib.hid hp2
        clear hL2 hsg2 hX2 hf2 hp2
        go_wp2_with (fail)
        go_roundw
        case rel => exact ⟨j, e1 + 1, t', L2, by omega, by omega, HPT.out, HX2.out, by have := hsg; simp only [Tr.sg] at this; omega, HW.out.2.2.2.2, HU.out.2.2, HF2.out, HP2.out, by go_num, HT⟩
        case measure => simp [intOf]; omega
      | some f =>
        obtain ⟨P, kf, df, ef, rfl, hkf, hPs, hpf⟩ := hfa
        have hcb := HT.bad.1
        rw [Ls.put_bad] at hcb
        have hP0 : ¬ (P : Int) < 0 := by omega
        have HPF := Lib.hid hpf; clear hpf
        cases hbd : L3.bad with
        | true =>
          rw [hbd] at hcb
          have HBD := Lib.hid hbd; clear hbd
          obtain ⟨L2, hL2⟩ : ∃ L2 : Ls, L2 = (L3.put (be xn 4)) := ⟨_, rfl⟩
          rw [← hL2] at HT
          have hsg2 : L2 = sgL p 60 0 (fun m s => layL p a (some m) s) L1 := by rw [hL2]; rw [HSG.out, if_pos HBD.out]
          have hX2 : X = layL p t' none L2 := by rw [HX.out, layL, hsg2]
          have hf2 : L2.fits := by rw [hsg2]; exact sgL_fits (fun m s h => layL_fits p a (some m) s h) HFT.out
          have hp2 : L2.pot p + 16 * t'.sg ≤ 1125899906842624 := by rw [hsg2]; exact Nat.le_trans (sgL_next HW.out HU.out L1) HB.out
          have HX2 := Lib.hid hX2; have HF2 := Lib.hid hf2; have HP2 := Lib.hid hp2
          clear hL2 hsg2 hX2 hf2 hp2
          go_wp2_with (fail)
          go_roundw
          case rel => exact ⟨j, e1 + 1, t', L2, by omega, by omega, HPT.out, HX2.out, by have := hsg; simp only [Tr.sg] at this; omega, HW.out.2.2.2.2, HU.out.2.2, HF2.out, HP2.out, by go_num, HT⟩
          case measure => simp [intOf]; omega
        | false =>
          rw [hbd] at hcb
          have HBD := Lib.hid hbd; clear hbd
          have hsf := pickT_sg HPK2.out.symm
          have HFF := Lib.hid (H3F.out.put (be xn 4))
          have HBB : Hid ((L3.put (be xn 4)).pot p + 16 * f.sg ≤ 1125899906842624) := by
            show _ ≤ _
            rw [Ls.put_pot, be_length]
            have h3 := H3P.out
            have := HB.out
            simp only [Tr.sg] at this
            try dsimp only at h3
            omega
          have hfu := pickT_full HU.out.2.1 HPK2.out.symm
          have hfw := pickT_wf' HW.out.2.2.2.1 HPK2.out.symm
          have HFU := Lib.hid hfu; have HFW := Lib.hid hfw
          clear hfu hfw
          have hly := IH ((f).sg + 1) (by have := hsg; simp only [Tr.sg] at this; omega) f kf (df) (P) (ef) b p (L3.put (be xn 4)) w0 _ F (Nat.lt_succ_self _) (by omega) (by omega) HPF.out HFU.out HFW.out HG.out HRG.out HFF.out HBB.out HT
          go_wp2_with (fail)
          refine hly.mono ?_
          clear hly HT
          rintro x w9 ⟨⟨nr, rfl⟩, HT⟩
          clear hcb
          obtain ⟨L2, hL2⟩ : ∃ L2 : Ls, L2 = (layL p f none (L3.put (be xn 4))) := ⟨_, rfl⟩
          rw [← hL2] at HT
          have hsg2 : L2 = sgL p 60 0 (fun m s => layL p a (some m) s) L1 := by rw [hL2]; rw [HSG.out, if_neg (by rw [HBD.out]; decide), ← HPK2.out]
          have hX2 : X = layL p t' none L2 := by rw [HX.out, layL, hsg2]
          have hf2 : L2.fits := by rw [hsg2]; exact sgL_fits (fun m s h => layL_fits p a (some m) s h) HFT.out
          have hp2 : L2.pot p + 16 * t'.sg ≤ 1125899906842624 := by rw [hsg2]; exact Nat.le_trans (sgL_next HW.out HU.out L1) HB.out
          have HX2 := Lib.hid hX2; have HF2 := Lib.hid hf2; have HP2 := Lib.hid hp2
          clear hL2 hsg2 hX2 hf2 hp2
          go_wp2_with (fail)
          go_roundw
          case rel => exact ⟨j, e1 + 1, t', L2, by omega, by omega, HPT.out, HX2.out, by have := hsg; simp only [Tr.sg] at this; omega, HW.out.2.2.2.2, HU.out.2.2, HF2.out, HP2.out, by go_num, HT⟩
          case measure => simp [intOf]; omega
    have hno : X = L1 := by
      have := HPK.out
      rw [HX.out, pr_end HP.out (by omega), layL]
    have HNO := Lib.hid hno; clear hno
    go_wp2_with (fail)
    go_ret
    rw [HNO.out]
    exact ⟨⟨_, rfl⟩, HT⟩
theorem rlayer_ok (s : ByteArray) (hs : s.size ≤ 1099511627776) (k : Nat) : RlOK s k := by
  induction k using Nat.strongRecOn with
  | _ k ih => exact rlay_step s hs k ih
end Go.Proofs.Ytpmhjjfcipjnoaa

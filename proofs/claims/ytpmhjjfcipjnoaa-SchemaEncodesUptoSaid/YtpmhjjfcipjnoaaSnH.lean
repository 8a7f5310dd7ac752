/- Layer 2's reference: Encode. -/
import Derived.Test.YtpmhjjfcipjnoaaSnG
import Derived.Test.YtpmhjjfcipjnoaaSnD
namespace Go.Proofs.Ytpmhjjfcipjnoaa
open Go.RowKit

theorem enc_lay {p : LP} (hr : ∀ x ∈ p.N, -9223372036854775808 ≤ x ∧ x ≤ 9223372036854775807) {t : Tr} (hw : t.wf false) (L : Ls) (hL : L = layL p t none ⟨0, 0, [], 0, false⟩) :
    encodeT t p.N p.T = if L.bad = true ∨ L.ni < p.N.length ∨ L.ti < p.T.length then .error 4 else if 65536 < L.sz then .error 2 else .ok (mkb L.out) := by
  have h := layL_ly hr t none ⟨0, 0, [], 0, false⟩ [] hw ⟨rfl, rfl, fun _ => rfl, by decide⟩
  rw [← hL] at h
  have h0 : Ls.rest p ⟨0, 0, [], 0, false⟩ = (p.N, p.T) := rfl
  rw [h0] at h
  unfold encodeT
  cases ho : ly t none (p.N, p.T) with
  | error e =>
    rw [ho] at h
    have h : L.bad = true := h
    rw [if_pos (.inl h)]
    rw [ly_err t none _ _ ho]
  | ok r =>
    rw [ho] at h
    obtain ⟨⟨h1, h2, h3, h4⟩, h5⟩ := h
    rw [List.nil_append] at h2 h3
    have e1 : r.2.1 = p.N.drop L.ni := by rw [← h5]; rfl
    have e2 : r.2.2 = p.T.drop L.ti := by rw [← h5]; rfl
    dsimp only
    rw [e1, e2]
    have hn : ∀ {α : Type} (l : List α) (k : Nat), l.drop k ≠ [] ↔ k < l.length := fun l k => by
      rw [Ne, List.drop_eq_nil_iff]; omega
    by_cases hb : L.ni < p.N.length ∨ L.ti < p.T.length
    · rw [if_pos (hb.imp (hn _ _).2 (hn _ _).2), if_pos (.inr hb)]
    · rw [if_neg (fun h => hb (h.imp (hn _ _).1 (hn _ _).1)), if_neg (show ¬ (L.bad = true ∨ L.ni < p.N.length ∨ L.ti < p.T.length) from fun h => h.elim (fun h => by rw [h1] at h; cases h) hb), ← h2]
      by_cases hz : 65536 < L.sz
      · rw [if_pos hz, if_pos hz]
      · rw [if_neg hz, if_neg hz, h3 (by omega)]
-- the end in error: §1 the number
def EncB (w : World) (o : Except Int ByteArray) (x : Ending) (w' : World) : Prop := (match o with
  | .error e => x = .returned (.tuple #[.string ⟨#[]⟩, .int .i64 e])
  | .ok s => x = .returned (.tuple #[.string s, .int .i64 0])) ∧ Below w.heap.size w w'
set_option maxRecDepth 100000 in
set_option maxHeartbeats 8000000 in
theorem rencode_ok (form : ByteArray) (hf : form.size ≤ 1099511627776) (AN : Option Addr) (cN : Nat) (AT : Option Addr) (cT : Nat) (N : List Int) (T : List ByteArray) (hN : N.length ≤ 1099511627776) (hT : T.length ≤ 1099511627776) (hTs : ∀ x ∈ T, x.size ≤ 1099511627776) (hNr : ∀ x ∈ N, -9223372036854775808 ≤ x ∧ x ≤ 9223372036854775807) (hwg : wgt (N, T) ≤ 562949953421312)
    {w0 w : World} {F : List Assn} (hrN : RdI w AN N) (hrT : RdS w AT T) (H0 : St w0 w F) :
    Calls Try.prog 16 #[.string form, .agg #[.slice AN N.length cN, .slice AT T.length cT]] w (EncE w0 F (encodeF form N T)) := by
  suffices hh : Calls Try.prog 16 #[.string form, .agg #[.slice AN N.length cN, .slice AT T.length cT]] w (EncB w (encodeF form N T)) by
    refine hh.mono fun x w' h => ?_
    cases ho : encodeF form N T with
    | error e => rw [ho] at h; exact ⟨h.1, H0.keep h.2⟩
    | ok s => rw [ho] at h; exact ⟨h.1, H0.keep h.2⟩
  clear H0
  obtain ⟨p, hp⟩ : ∃ p : LP, p = ⟨AN, cN, AT, cT, N, T⟩ := ⟨_, rfl⟩
  have hg : p.good w := by subst hp; exact ⟨hrN, hrT, hN, hT, hTs⟩
  have hpr : ∀ x ∈ p.N, -9223372036854775808 ≤ x ∧ x ≤ 9223372036854775807 := by subst hp; exact hNr
  have hpw : wgt (p.N, p.T) ≤ 562949953421312 := by subst hp; exact hwg
  obtain ⟨nN, hnN⟩ : ∃ nN, nN = p.N.length := ⟨_, rfl⟩
  obtain ⟨nT, hnT⟩ : ∃ nT, nT = p.T.length := ⟨_, rfl⟩
  have hNz : nN ≤ 1099511627776 := by rw [hnN]; subst hp; exact hN
  have hTz : nT ≤ 1099511627776 := by rw [hnT]; subst hp; exact hT
  obtain ⟨o, ho⟩ : ∃ o, o = encodeF form p.N p.T := ⟨_, rfl⟩
  rw [show Value.agg #[.slice AN N.length cN, .slice AT T.length cT] = .agg #[.slice p.AN nN p.cN, .slice p.AT nT p.cT] by rw [hnN, hnT, hp], show encodeF form N T = o by rw [ho, hp]]
  have HO := Lib.hid ho; have HG := Lib.hid hg; have HPR := Lib.hid hpr; have HPW := Lib.hid hpw; have HNN := Lib.hid hnN; have HNT := Lib.hid hnT
  clear ho hp hg hpr hpw hnN hnT hrN hrT hN hT hTs hNr hwg
  clear AN AT cN cT N T
  have H1 := (St.init w).alloc #[.slice p.AN nN p.cN, .slice p.AT nT p.cT] 32
  obtain ⟨b3, hb3⟩ : ∃ b, b = w.heap.size := ⟨_, rfl⟩
  go_enter Try.func16, Try.ntmps16
  go_upto_region 1 with (fail)
  rw [← hb3] at H1 ⊢
  generalize w.alloc (.cells #[.slice p.AN nN p.cN, .slice p.AT nT p.cT] 32) = w1 at *
  clear hb3
  go_wp2_with (fail)
  refine (refcheck_ok form hf H1).mono ?_
  rintro x w2 ⟨rfl, H⟩
  clear H1
  obtain ⟨pf, hpf⟩ : ∃ pf, pf = parseF form := ⟨_, rfl⟩
  rw [← hpf]
  have HPF := Lib.hid hpf; clear hpf
  cases pf with
  | none =>
    have hno : o = .error 1 := by rw [HO.out, encodeF, ← HPF.out]
    have HNO := Lib.hid hno; clear hno
    rw [show (none : Option Tr).isSome = false from rfl]
    go_wp2_with (fail)
    go_ret2
    rw [HNO.out]
    exact ⟨rfl, H.below⟩
  | some t =>
  rw [show (some t : Option Tr).isSome = true from rfl]
  obtain ⟨hf1, e, hpr⟩ := parse_pr HPF.out.symm
  have hwf := (parseF_wf HPF.out.symm).1
  have hsg := (parseF_wf HPF.out.symm).2
  have hful := parseF_full HPF.out.symm
  obtain ⟨L, hL⟩ : ∃ L, L = layL p t none ⟨0, 0, [], 0, false⟩ := ⟨_, rfl⟩
  have hoT : o = if L.bad = true ∨ L.ni < nN ∨ L.ti < nT then .error 4 else if 65536 < L.sz then .error 2 else .ok (mkb L.out) := by
    rw [HO.out, encodeF, ← HPF.out, HNN.out, HNT.out]
    exact enc_lay HPR.out hwf L hL
  have hLf : L.fits := by rw [hL]; exact layL_fits p t none _ ⟨by decide, by decide⟩
  have hsz : L.sz ≤ 1125899906842624 := by
    have h1 := (layL_pot p t none ⟨0, 0, [], 0, false⟩ hwf hful).1
    rw [← hL] at h1
    have h2 := L.sz_pot p
    have h3 : Ls.pot p ⟨0, 0, [], 0, false⟩ = 0 + wgt (p.N, p.T) := rfl
    have h4 := HPW.out
    omega
  have p0 := H.cell 0 rfl
  have p1 := H.cell 1 rfl
  have H2 := H.alloc #[.slice p.AN nN p.cN, .slice p.AT nT p.cT, .int .i64 0, .int .i64 0, .slice none 0 0, .int .i64 0, .bool false] 74
  obtain ⟨b6, hb6⟩ : ∃ b, b = w2.heap.size := ⟨_, rfl⟩
  have HPRR := Lib.hid hpr; have HWF := Lib.hid hwf; have HFU := Lib.hid hful; have HL := Lib.hid hL; have HOT := Lib.hid hoT
  clear hpr hwf hful hL hoT HO
  go_upto_region 4 with (fail)
  rw [← hb6] at H2 ⊢
  generalize w2.alloc (.cells #[.slice p.AN nN p.cN, .slice p.AT nT p.cT, .int .i64 0, .int .i64 0, .slice none 0 0, .int .i64 0, .bool false] 74) = w3 at *
  clear hb6 H p0 p1
  have HT : RlS w w3 [Pt b3 #[.slice p.AN nN p.cN, .slice p.AT nT p.cT] 32] b6 p ⟨0, 0, [], 0, false⟩ := ⟨none, 0, by
    rw [← HNN.out, ← HNT.out]
    exact (H2.nilRow 5 1).r2⟩
  have hly := rlayer_ok form hf (t.sg + 1) t (form.size + 1) 0 0 e b6 p ⟨0, 0, [], 0, false⟩ w w3 _ (Nat.lt_succ_self _) (by omega) (Nat.zero_le _) HPRR.out HFU.out HWF.out HG.out HPR.out ⟨by decide, by decide⟩ (by
    have h3 : Ls.pot p ⟨0, 0, [], 0, false⟩ = 0 + wgt (p.N, p.T) := rfl
    have h4 := HPW.out
    omega) HT
  rw [← HL.out] at hly
  go_wp2_with (fail)
  refine hly.mono ?_
  clear hly HT H2
  rintro x w4 ⟨⟨nr, rfl⟩, A, c, H⟩
  have k0 := H.r3.cell 0 rfl
  have k1 := H.r3.cell 1 rfl
  have l2 : w4.cell? ⟨b6, 2, none⟩ = some (.int .i64 L.ni) := H.cell 2 rfl
  have l3 : w4.cell? ⟨b6, 3, none⟩ = some (.int .i64 L.ti) := H.cell 3 rfl
  have l6 : w4.cell? ⟨b6, 6, none⟩ = some (.bool L.bad) := H.cell 6 rfl
  by_cases hbad : L.bad = true ∨ L.ni < nN ∨ L.ti < nT
  · have hno : o = .error 4 := by rw [HOT.out, if_pos hbad]
    have HNO := Lib.hid hno; clear hno
    cases hb : L.bad with
    | true =>
      rw [hb] at l6
      clear hbad
      go_wp2_with (fail)
      go_quiet (fail)
      have H := H.drewN nq
      go_wp2_with (fail)
      go_ret2
      rw [HNO.out]
      exact ⟨rfl, H.below⟩
    | false =>
      rw [hb] at l6
      by_cases h1 : L.ni < nN
      · have h1I : decide ((L.ni : Int) < nN) = true := decide_eq_true (by omega)
        have h1N : decide (L.ni < nN) = true := decide_eq_true h1
        clear hbad
        go_wp2_with (fail)
        go_quiet (fail)
        have H := H.drewN nq
        go_wp2_with (fail)
        go_ret2
        rw [HNO.out]
        exact ⟨rfl, H.below⟩
      · have h2 : L.ti < nT := by
          rcases hbad with h | h | h
          · rw [hb] at h; cases h
          · exact absurd h h1
          · exact h
        have h1I : decide ((L.ni : Int) < nN) = false := decide_eq_false (by omega)
        have h1N : decide (L.ni < nN) = false := decide_eq_false h1
        have h2I : (L.ti : Int) < nT := by omega
        clear hbad
        go_wp2_with (fail)
        go_quiet (fail)
        have H := H.drewN nq
        go_wp2_with (fail)
        go_ret2
        rw [HNO.out]
        exact ⟨rfl, H.below⟩
  · have hb : L.bad = false := by cases hb : L.bad; rfl; exact absurd (.inl hb) hbad
    have h1 : ¬ L.ni < nN := fun h => hbad (.inr (.inl h))
    have h2 : ¬ L.ti < nT := fun h => hbad (.inr (.inr h))
    have hno : o = if 65536 < L.sz then .error 2 else .ok (mkb L.out) := by rw [HOT.out, if_neg hbad]
    have HNO := Lib.hid hno; clear hno hbad
    have h1I : decide ((L.ni : Int) < nN) = false := decide_eq_false (by omega)
    have h1N : decide (L.ni < nN) = false := decide_eq_false h1
    have h2I : ¬ (L.ti : Int) < nT := by omega
    rw [hb] at l6
    go_wp2_with (fail)
    go_quiet (fail)
    have H := H.drewN nq
    generalize w4.drewN nq = w5 at *
    clear k0 k1 l2 l3 l6
    have l5 : w5.cell? ⟨b6, 5, none⟩ = some (.int .i64 L.sz) := H.cell 5 rfl
    have l4 : w5.cell? ⟨b6, 4, none⟩ = some (.slice A L.out.length c) := H.cell 4 rfl
    by_cases hz : 65536 < L.sz
    · have hzI : (L.sz : Int) > 65536 := by omega
      have hno : o = .error 2 := by rw [HNO.out, if_pos hz]
      have HNO := Lib.hid hno; clear hno hz
      go_wp2_with (fail)
      go_ret2
      rw [HNO.out]
      exact ⟨rfl, H.below⟩
    · have hzI : ¬ (L.sz : Int) > 65536 := by omega
      have hno : o = .ok (mkb L.out) := by rw [HNO.out, if_neg hz]
      have HNO := Lib.hid hno; clear hno hz
      have hcv := H.r2.toStr Try.underlying66 Try.underlying5 Try.underlying9
      go_wp2_with (fail)
      go_ret2
      rw [HNO.out]
      exact ⟨rfl, H.below⟩
end Go.Proofs.Ytpmhjjfcipjnoaa

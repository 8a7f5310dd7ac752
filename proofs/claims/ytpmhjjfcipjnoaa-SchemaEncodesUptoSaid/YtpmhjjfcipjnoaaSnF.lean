/- Layer 2's reference: put, number, text. -/
import Derived.Test.YtpmhjjfcipjnoaaSnE
import Derived.Test.YtpmhjjfcipjnoaaSmR
namespace Go.Proofs.Ytpmhjjfcipjnoaa
open Go.RowKit

def RlS (w0 w : World) (F : List Assn) (b : Nat) (p : LP) (s : Ls) : Prop := ∃ A c, St w0 w (Pt b #[.slice p.AN p.N.length p.cN, .slice p.AT p.T.length p.cT, .int .i64 s.ni, .int .i64 s.ti, .slice A s.out.length c, .int .i64 s.sz, .bool s.bad] 74 :: Row 5 1 A s.out.length c (bv s.out) :: F)
theorem RlS.any {w0 w : World} {F : List Assn} {b : Nat} {p : LP} {s : Ls} (H : RlS w0 w F b p s) : ∃ G, St w0 w G ∧ ∀ w', St w0 w' G → RlS w0 w' F b p s := by
  obtain ⟨A, c, H⟩ := H
  exact ⟨_, H, fun w' H' => ⟨A, c, H'⟩⟩
theorem RlS.bad {w0 w : World} {F : List Assn} {b : Nat} {p : LP} {s : Ls} (H : RlS w0 w F b p s) : w.cell? ⟨b, 6, none⟩ = some (.bool s.bad) ∧ w.frozen? ⟨b, 6, none⟩ = false := by
  obtain ⟨A, c, H⟩ := H
  exact ⟨H.cell 6 rfl, H.frozen 6⟩
theorem RlS.fail {w0 w : World} {F : List Assn} {b : Nat} {p : LP} {s : Ls} (H : RlS w0 w F b p s) : RlS w0 (w.setCell ⟨b, 6, none⟩ (.bool true)) F b p s.fail := by
  obtain ⟨A, c, H⟩ := H
  exact ⟨A, c, H.set 6 (.bool true)⟩
theorem RlS.keepB {w0 w w' : World} {F : List Assn} {b : Nat} {p : LP} {s : Ls} (H : RlS w0 w F b p s) (h : Below w.heap.size w w') : RlS w0 w' F b p s := by
  obtain ⟨A, c, H⟩ := H
  exact ⟨A, c, H.keep h⟩
set_option maxRecDepth 100000 in
set_option maxHeartbeats 4000000 in
theorem rput_ok (b : Nat) (p : LP) (s : Ls) (x : ByteArray) (hs : s.sz + x.size ≤ 1152921504606846976) (ho : s.out.length ≤ 65536) {w0 w : World} {F : List Assn} (H : RlS w0 w F b p s) :
    Calls Try.prog 57 #[.pointer (some ⟨b, 0, none⟩), .string x] w fun r w' => r = .returned (.tuple #[]) ∧ RlS w0 w' F b p (s.put (bl x)) := by
  obtain ⟨i0, hi, hz0, hz1, hz2⟩ := info_parts infoU8
  obtain ⟨A, c, H⟩ := H
  obtain ⟨ni, ti, out, sz, bad⟩ := s
  dsimp only at H hs ho
  obtain ⟨n, hn⟩ : ∃ n, n = out.length := ⟨_, rfl⟩
  obtain ⟨xz, hxz⟩ : ∃ n, n = x.size := ⟨_, rfl⟩
  rw [← hn] at H ho
  rw [← hxz] at hs
  have HN := Lib.hid hn; have HX := Lib.hid hxz
  have c5 : w.cell? ⟨b, 5, none⟩ = some (.int .i64 sz) := H.cell 5 rfl
  have f5 := H.frozen 5
  have H2 := H.set 5 (.int .i64 ((sz : Int) + x.size))
  clear hn hxz
  go_enter Try.func57, Try.ntmps57
  have hxb : x.size ≤ 1152921504606846976 := by have := HX.out; omega
  have hxs : sz + x.size ≤ 1152921504606846976 := by have := HX.out; omega
  go_upto_region 1 with (fail)
  generalize w.setCell ⟨b, 5, none⟩ (.int .i64 ((sz : Int) + x.size)) = w2 at *
  clear c5 f5 H
  have c5 : w2.cell? ⟨b, 5, none⟩ = some (.int .i64 ((sz : Int) + x.size)) := H2.cell 5 rfl
  by_cases hz : sz + x.size ≤ 65536
  rotate_left 1
  · have hzI : ¬ (sz : Int) + x.size ≤ 65536 := by omega
    have HZ := Lib.hid hz; clear hz
    go_wp2_with (fail)
    go_end0
    refine ⟨rfl, A, c, ?_⟩
    unfold Ls.put
    dsimp only
    rw [bl_length, if_neg HZ.out, ← HN.out]
    exact H2
  · have hzI : (sz : Int) + x.size ≤ 65536 := by omega
    have HZ := Lib.hid hz
    have c4 : w2.cell? ⟨b, 4, none⟩ = some (.slice A n c) := H2.cell 4 rfl
    go_wp2_with (at_builtin; refine wpList_append_str (by rfl) _ _ _ _ (by rfl) 5 i0 Try.underlying66 Try.underlying9 hi hz0 hz1 hz2 A n c (bv out) H2.r2 (by rfl) x (by rfl) (by unfold maxLen; omega) (by omega) ?_; intro A4 c4' w4 H4; have s1 := H4.r2.cell 4 (v := .slice A n c) rfl; have g1 := H4.r2.frozen 4; have H5 := H4.r2.set 4 (.slice A4 (n + x.size) c4'))
    go_end0
    refine ⟨rfl, A4, c4', ?_⟩
    unfold Ls.put
    dsimp only
    rw [bl_length, if_pos HZ.out, List.length_append, bl_length, ← HN.out, bv_append, show bv (bl x) = Lib.strCells x from rfl]
    exact H5
-- the answer is nought, and it is bad: §1 the result's facts
set_option maxRecDepth 100000 in
set_option maxHeartbeats 4000000 in
theorem rnumber_ok (b : Nat) (p : LP) (s : Ls) (word : Bool) {w0 w : World} {F : List Assn} (hg : p.good w0) (H : RlS w0 w F b p s) :
    Calls Try.prog 59 #[.pointer (some ⟨b, 0, none⟩), .bool word] w fun r w' => r = .returned (.int .i64 (s.num p word).1) ∧ RlS w0 w' F b p (s.num p word).2 := by
  obtain ⟨A, c, H⟩ := H
  obtain ⟨o, ho⟩ : ∃ o, o = s.num p word := ⟨_, rfl⟩
  rw [← ho]
  have HG := Lib.hid hg; clear hg
  obtain ⟨nl, hnl⟩ : ∃ n, n = p.N.length := ⟨_, rfl⟩
  have HNL := Lib.hid hnl
  have hnlz : nl ≤ 1099511627776 := by have := HG.out.lenN; omega
  have c0 : w.cell? ⟨b, 0, none⟩ = some (.slice p.AN nl p.cN) := by rw [hnl]; exact H.cell 0 rfl
  have c2 : w.cell? ⟨b, 2, none⟩ = some (.int .i64 s.ni) := H.cell 2 rfl
  have c6 : w.cell? ⟨b, 6, none⟩ = some (.bool s.bad) := H.cell 6 rfl
  clear hnl
  go_enter Try.func59, Try.ntmps59
  by_cases hl : nl ≤ s.ni
  · have hlI : (s.ni : Int) ≥ nl := by omega
    have hob : o = (0, s.fail) := by rw [ho, Ls.num, if_pos (.inl (by rw [← HNL.out]; exact hl))]
    have HO := Lib.hid hob
    clear hob ho
    go_wp2_with (fail)
    go_quiet (fail)
    have H := H.drewN nq
    generalize w.drewN nq = w2 at *
    clear c0 c2 c6
    have c6 : w2.cell? ⟨b, 6, none⟩ = some (.bool s.bad) := H.cell 6 rfl
    have f6 := H.frozen 6
    have HF := RlS.fail ⟨A, c, H⟩
    go_wp2_with (fail)
    go_ret
    rw [HO.out]
    exact ⟨rfl, HF⟩
  have hlI : ¬ (s.ni : Int) ≥ nl := by omega
  cases hb : s.bad with
  | true =>
    have hob : o = (0, s.fail) := by rw [ho, Ls.num, if_pos (.inr hb)]
    rw [hb] at c6
    have HO := Lib.hid hob
    clear hob ho
    go_wp2_with (fail)
    go_quiet (fail)
    have H := H.drewN nq
    generalize w.drewN nq = w2 at *
    clear c0 c2 c6
    have c6 : w2.cell? ⟨b, 6, none⟩ = some (.bool s.bad) := H.cell 6 rfl
    have f6 := H.frozen 6
    have HF := RlS.fail ⟨A, c, H⟩
    go_wp2_with (fail)
    go_ret
    rw [HO.out]
    exact ⟨rfl, HF⟩
  | false =>
  rw [hb] at c6
  have hno : ¬ (p.N.length ≤ s.ni ∨ s.bad = true) := fun h => h.elim (by have := HNL.out; omega) (fun h => by rw [hb] at h; cases h)
  rw [Ls.num, if_neg hno] at ho
  obtain ⟨x, hx⟩ : ∃ x, x = p.N.getD s.ni 0 := ⟨_, rfl⟩
  rw [← hx] at ho
  have hx2 : p.N[s.ni]? = some x := by rw [hx, List.getD_eq_getElem?_getD, List.getElem?_eq_getElem (by have := HNL.out; omega)]; rfl
  obtain ⟨g, og, hA, e1⟩ := (HG.out.rdN.keep H) s.ni x hx2
  rw [hA] at c0
  have HO := Lib.hid ho; have HA := Lib.hid hA; have HB := Lib.hid hb
  clear ho hx hx2 hno hA hb
  obtain ⟨ni, hni⟩ : ∃ ni, ni = s.ni := ⟨_, rfl⟩
  rw [← hni] at c2 e1 hl hlI
  have hlt : (ni : Int) < nl := by omega
  have HNI := Lib.hid hni; clear hni
  go_wp2_with (fail)
  go_quiet (fail)
  have H := H.drewN nq
  rw [show w.cell? = (w.drewN nq).cell? from rfl] at c0 c2 c6 e1
  generalize w.drewN nq = w2 at *
  go_wp2_with (fail)
  go_quiet (fail)
  have H := H.drewN nq
  generalize w2.drewN nq = w3 at *
  clear c0 c6 e1 c2
  have c2 : w3.cell? ⟨b, 2, none⟩ = some (.int .i64 ni) := by rw [HNI.out]; exact H.cell 2 rfl
  have f2 := H.frozen 2
  have H2 := H.set 2 (.int .i64 ((ni : Int) + 1))
  go_upto_region 6 with (fail)
  generalize w3.setCell ⟨b, 2, none⟩ (.int .i64 ((ni : Int) + 1)) = w4 at *
  clear c2 f2 H
  have HS : RlS w0 w4 F b p { s with ni := s.ni + 1 } := ⟨A, c, by rw [← HNI.out]; exact H2⟩
  clear H2
  have c6 := HS.bad.1
  have f6 := HS.bad.2
  dsimp only at c6
  rw [HB.out] at c6
  by_cases hxx : word = true ∧ (x < 0 ∨ 4294967295 < x)
  · have hob : o = (0, { s with ni := s.ni + 1, bad := true }) := by rw [HO.out, if_pos hxx]
    have HOB := Lib.hid hob; clear hob
    obtain ⟨rfl, hx⟩ := hxx
    have HF := HS.fail
    by_cases hx0 : x < 0
    · have hd : decide (x < 0) = true := decide_eq_true hx0
      go_wp2_with (fail)
      go_ret
      rw [HOB.out]
      exact ⟨rfl, HF⟩
    · have hd : decide (x < 0) = false := decide_eq_false hx0
      have hx1 : x > 4294967295 := by omega
      go_wp2_with (fail)
      go_ret
      rw [HOB.out]
      exact ⟨rfl, HF⟩
  · have hob : o = (x, { s with ni := s.ni + 1 }) := by rw [HO.out, if_neg hxx]
    have HOB := Lib.hid hob; clear hob
    cases word with
    | false =>
      go_wp2_with (fail)
      go_ret
      rw [HOB.out]
      exact ⟨rfl, HS⟩
    | true =>
      have hx0 : ¬ x < 0 := fun h => hxx ⟨rfl, .inl h⟩
      have hx1 : ¬ x > 4294967295 := fun h => hxx ⟨rfl, .inr h⟩
      clear hxx
      have hd : decide (x < 0) = false := decide_eq_false hx0
      go_wp2_with (fail)
      go_ret
      rw [HOB.out]
      exact ⟨rfl, HS⟩
-- the answer is the empty text, and it is bad
set_option maxRecDepth 100000 in
set_option maxHeartbeats 4000000 in
theorem rtext_ok (b : Nat) (p : LP) (s : Ls) {w0 w : World} {F : List Assn} (hg : p.good w0) (H : RlS w0 w F b p s) :
    Calls Try.prog 61 #[.pointer (some ⟨b, 0, none⟩)] w fun r w' => r = .returned (.string (s.txt p).1) ∧ RlS w0 w' F b p (s.txt p).2 := by
  obtain ⟨A, c, H⟩ := H
  obtain ⟨o, ho⟩ : ∃ o, o = s.txt p := ⟨_, rfl⟩
  rw [← ho]
  have HG := Lib.hid hg; clear hg
  obtain ⟨nl, hnl⟩ : ∃ n, n = p.T.length := ⟨_, rfl⟩
  have HNL := Lib.hid hnl
  have hnlz : nl ≤ 1099511627776 := by have := HG.out.lenT; omega
  have c0 : w.cell? ⟨b, 1, none⟩ = some (.slice p.AT nl p.cT) := by rw [hnl]; exact H.cell 1 rfl
  have c2 : w.cell? ⟨b, 3, none⟩ = some (.int .i64 s.ti) := H.cell 3 rfl
  have c6 : w.cell? ⟨b, 6, none⟩ = some (.bool s.bad) := H.cell 6 rfl
  clear hnl
  go_enter Try.func61, Try.ntmps61
  by_cases hl : nl ≤ s.ti
  · have hlI : (s.ti : Int) ≥ nl := by omega
    have hob : o = (⟨#[]⟩, s.fail) := by rw [ho, Ls.txt, if_pos (.inl (by rw [← HNL.out]; exact hl))]
    have HO := Lib.hid hob
    clear hob ho
    go_wp2_with (fail)
    go_quiet (fail)
    have H := H.drewN nq
    generalize w.drewN nq = w2 at *
    clear c0 c2 c6
    have c6 : w2.cell? ⟨b, 6, none⟩ = some (.bool s.bad) := H.cell 6 rfl
    have f6 := H.frozen 6
    have HF := RlS.fail ⟨A, c, H⟩
    go_wp2_with (fail)
    go_ret
    rw [HO.out]
    exact ⟨rfl, HF⟩
  have hlI : ¬ (s.ti : Int) ≥ nl := by omega
  cases hb : s.bad with
  | true =>
    have hob : o = (⟨#[]⟩, s.fail) := by rw [ho, Ls.txt, if_pos (.inr hb)]
    rw [hb] at c6
    have HO := Lib.hid hob
    clear hob ho
    go_wp2_with (fail)
    go_quiet (fail)
    have H := H.drewN nq
    generalize w.drewN nq = w2 at *
    clear c0 c2 c6
    have c6 : w2.cell? ⟨b, 6, none⟩ = some (.bool s.bad) := H.cell 6 rfl
    have f6 := H.frozen 6
    have HF := RlS.fail ⟨A, c, H⟩
    go_wp2_with (fail)
    go_ret
    rw [HO.out]
    exact ⟨rfl, HF⟩
  | false =>
  rw [hb] at c6
  have hno : ¬ (p.T.length ≤ s.ti ∨ s.bad = true) := fun h => h.elim (by have := HNL.out; omega) (fun h => by rw [hb] at h; cases h)
  rw [Ls.txt, if_neg hno] at ho
  obtain ⟨x, hx⟩ : ∃ x, x = p.T.getD s.ti ⟨#[]⟩ := ⟨_, rfl⟩
  rw [← hx] at ho
  have hx2 : p.T[s.ti]? = some x := by rw [hx, List.getD_eq_getElem?_getD, List.getElem?_eq_getElem (by have := HNL.out; omega)]; rfl
  obtain ⟨g, og, hA, e1⟩ := (HG.out.rdT.keep H) s.ti x hx2
  have e0 := (HG.out.rdT) s.ti x hx2
  have HO := Lib.hid ho; have HA := Lib.hid hA; have HB := Lib.hid hb; have HE := Lib.hid e0
  clear ho hx hx2 hno hA hb e1 e0
  obtain ⟨ti, hti⟩ : ∃ ti, ti = s.ti := ⟨_, rfl⟩
  rw [← hti] at c2 hl hlI
  have hlt : (ti : Int) < nl := by omega
  have HTI := Lib.hid hti; clear hti
  go_wp2_with (fail)
  go_quiet (fail)
  have H := H.drewN nq
  generalize w.drewN nq = w2 at *
  clear c0 c2 c6
  have c2 : w2.cell? ⟨b, 3, none⟩ = some (.int .i64 ti) := by rw [HTI.out]; exact H.cell 3 rfl
  have f2 := H.frozen 3
  have H2 := H.set 3 (.int .i64 ((ti : Int) + 1))
  go_upto_region 5 with (fail)
  generalize w2.setCell ⟨b, 3, none⟩ (.int .i64 ((ti : Int) + 1)) = w4 at *
  clear c2 f2 H
  have HS : RlS w0 w4 F b p { s with ti := s.ti + 1 } := ⟨A, c, by rw [← HTI.out]; exact H2⟩
  clear H2
  obtain ⟨A2, c2, H⟩ := HS
  dsimp only at H
  have c3 : w4.cell? ⟨b, 3, none⟩ = some (.int .i64 ((ti : Int) + 1)) := by rw [HTI.out]; exact H.cell 3 rfl
  have c1 : w4.cell? ⟨b, 1, none⟩ = some (.slice p.AT nl p.cT) := by rw [HNL.out]; exact H.cell 1 rfl
  obtain ⟨g', og', hA', e1⟩ := HE.out
  have e1 : w4.cell? ⟨g', og' + s.ti, none⟩ = some (.string x) := by rw [H.old (World.block_lt_of_cell? w0 _ e1)]; exact e1
  rw [← HTI.out] at e1
  rw [hA'] at c1
  clear hA'
  have hsub : (ti : Int) + 1 - 1 = ti := by omega
  go_wp2_with (fail)
  go_quiet (fail)
  go_wp2_with (fail)
  go_ret
  rw [HO.out]
  exact ⟨rfl, A2, c2, H.drewN _⟩
end Go.Proofs.Ytpmhjjfcipjnoaa

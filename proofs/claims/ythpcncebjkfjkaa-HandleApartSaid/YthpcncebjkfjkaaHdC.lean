/- Layer 14: a handle is taken apart; the document's answer; the second file. -/
import Derived.Test.YthpcncebjkfjkaaHdA
import Derived.OwnWalk
namespace Go.Proofs.Ythpcncebjkfjkaa
open Go.RowKit

theorem results_tmp4 {fn : Func} {t u v x : Tmp} (h : fn.results = #[.tmp t, .tmp u, .tmp v, .tmp x]) (tmps : Array Value) (P : Program) (w : World) :
    (results fn tmps).run P w = .ok (.tuple #[tmps.getD t undef, tmps.getD u undef, tmps.getD v undef, tmps.getD x undef]) w := by
  simp [results, h]
theorem toList_ne {s t : ByteArray} (h : s ≠ t) : (s.toList == t.toList) = false := by
  rw [beq_eq_false_iff_ne, ByteArray.toList_eq, ByteArray.toList_eq]
  exact fun he => h (bl_inj he)
def pfx (s : ByteArray) : Bool := decide ((bl s).take 4 = mark)
theorem pfx_take (s : ByteArray) : ((s.extract 0 4).toList == [99, 111, 114, 97]) = pfx s := by
  have e : bl (s.extract 0 4) = (bl s).take 4 := by rw [bl_extract]; simp
  unfold pfx
  rw [ByteArray.toList_eq, show (s.extract 0 4).data.toList = (bl s).take 4 from e]
  rw [Bool.eq_iff_iff, beq_iff_eq, decide_eq_true_eq]; rfl
theorem pfx_short (s : ByteArray) (h : ¬ 4 ≤ s.size) : pfx s = false := by
  refine decide_eq_false fun h1 => h ?_
  have := congrArg List.length h1
  rw [List.length_take, bl_length] at this
  have e : mark.length = 4 := rfl
  omega
theorem cutp_ok (s : ByteArray) (w : World) (hs : s.size ≤ 1099511627776) :
    Calls Try.prog 16 #[.string s, .string ⟨#[99, 111, 114, 97]⟩] w fun r w' => r = .returned (.tuple #[.string (if pfx s then s.extract 4 s.size else s), .bool (pfx s)]) ∧ w = w' := by
  by_cases h4 : 4 ≤ s.size
  · have hp := pfx_take s
    have h4I : (4 : Int) ≤ s.size := by omega
    cases hq : pfx s
    · rw [hq] at hp
      go_enter Try.func16, Try.ntmps16
      have HQ := Lib.hid hq; clear hq
      go_wp2
      go_ret2
      exact ⟨rfl, rfl⟩
    · rw [hq] at hp
      go_enter Try.func16, Try.ntmps16
      have HQ := Lib.hid hq; clear hq
      go_wp2
      go_ret2
      exact ⟨rfl, rfl⟩
  · rw [pfx_short s h4]
    have h4I : decide ((4 : Int) ≤ s.size) = false := decide_eq_false (by omega)
    go_enter Try.func16, Try.ntmps16
    go_wp2
    go_ret2
    exact ⟨rfl, rfl⟩
theorem bl_pre4 (s : ByteArray) : (bl s).take 4 = (bl s).take 4 := rfl
theorem isH_pfx (s : ByteArray) : isH s = (pfx s && decide (s.size = 28)) := by
  unfold isH pfx; rw [Bool.eq_iff_iff]; simp [and_comm]
theorem pfx_size (s : ByteArray) (h : pfx s = true) : 4 ≤ s.size := by
  by_cases h4 : 4 ≤ s.size
  · exact h4
  · rw [pfx_short s h4] at h; cases h
set_option maxHeartbeats 1000000 in
theorem hget_ok (s : ByteArray) (hs : s.size ≤ 1099511627776) {w0 w : World} {F : List Assn} (H : St w0 w F) :
    Calls Try.prog 8 #[.string s] w fun r w' => r = .returned (.tuple #[.int .i64 (getB s).1, .int .i64 (getB s).2.1, .int .i64 (getB s).2.2, .bool (isH s)]) ∧ St w0 w' F := by
  obtain ⟨s4, hs4⟩ : ∃ s4, s4 = (if pfx s then s.extract 4 s.size else s) := ⟨_, rfl⟩
  have hle : s4.size ≤ s.size := by
    rw [hs4]; split
    · exact extract_le s 4 s.size
    · exact Nat.le_refl _
  obtain ⟨l1, l2, l3⟩ := r_le s4
  have HS4 := Lib.hid hs4
  go_enter Try.func8, Try.ntmps8
  go_wp2_with (fail)
  refine (cutp_ok s _ hs).mono ?_
  rw [← hs4]
  clear hs4
  rintro e w1 ⟨rfl, rfl⟩
  go_wp2_with (fail)
  refine (open_ok s4 H).mono ?_
  rintro e w1 ⟨b, rfl, H1⟩
  go_wp2_with (fail)
  refine (hyper_ok b ⟨s4, 0⟩ (by dsimp only; omega) H1).mono ?_
  rintro e w2 ⟨rfl, H2⟩
  go_wp2_with (fail)
  refine (hyper_ok b (r1 s4) (by omega) H2).mono ?_
  rintro e w3 ⟨rfl, H3⟩
  go_wp2_with (fail)
  refine (hyper_ok b (r2 s4) (by omega) H3).mono ?_
  rintro e w4 ⟨rfl, H4⟩
  have hfin := fin_eq24 s4
  cases hp : pfx s
  · have hg : getB s = (0, 0, 0) ∧ isH s = false := by
      have : isH s = false := by rw [isH_pfx, hp]; rfl
      exact ⟨by unfold getB; rw [this]; rfl, this⟩
    have HG := Lib.hid hg; have HF := Lib.hid hfin; clear hg hfin
    go_wp2_with (fail)
    refine bodyPost_ret (results_tmp4 rfl _ _ _) rfl ?_
    rw [HG.out.1, HG.out.2]
    exact ⟨rfl, H4.tail⟩
  · have h4 := pfx_size s hp
    have e4 : s4 = s.extract 4 s.size := by rw [HS4.out, hp]; rfl
    have z4 : s4.size = s.size - 4 := by rw [e4, ByteArray.size_extract]; omega
    by_cases h28 : s.size = 28
    · have hi : isH s = true := by rw [isH_pfx, hp, h28]; rfl
      have hg : getB s = (v1 s4, v2 s4, v3 s4) := by unfold getB; rw [hi, if_pos rfl, ← e4]
      have hf : (r3 s4).fin = 0 := by rw [hfin, if_pos (by omega)]
      have HI := Lib.hid hi; have HG := Lib.hid hg; have HF := Lib.hid hf; have E4 := Lib.hid e4; have Z4 := Lib.hid z4; have H28 := Lib.hid h28
      clear hi hg hf e4 z4 h28 hfin
      go_wp2_with (fail)
      refine (end_ok b (r3 s4) H4).mono ?_
      rw [HF.out]
      rintro e w5 ⟨rfl, rfl⟩
      go_wp2_with (fail)
      refine bodyPost_ret (results_tmp4 rfl _ _ _) rfl ?_
      rw [HG.out, HI.out]
      exact ⟨rfl, H4.tail⟩
    · have hi : isH s = false := by rw [isH_pfx, hp, decide_eq_false h28]; rfl
      have hg : getB s = (0, 0, 0) := by unfold getB; rw [hi]; rfl
      have hf : ((r3 s4).fin != 0) = true := by
        rw [hfin, if_neg (by omega)]
        split <;> rfl
      have HI := Lib.hid hi; have HG := Lib.hid hg; have E4 := Lib.hid e4; have Z4 := Lib.hid z4; have H28 := Lib.hid h28; have HF := Lib.hid hfin
      clear hi hg e4 z4 h28 hfin
      go_wp2_with (fail)
      refine (end_ok b (r3 s4) H4).mono ?_
      rintro e w5 ⟨rfl, rfl⟩
      go_wp2_with (fail)
      refine bodyPost_ret (results_tmp4 rfl _ _ _) rfl ?_
      rw [HG.out, HI.out]
      exact ⟨rfl, H4.tail⟩
theorem numB_no (s : ByteArray) (h : goodB s = false) : numB s = (0, 10001) := by unfold numB; rw [h]; rfl
theorem numB_yes (s : ByteArray) (h : goodB s = true) : numB s = ((getB s).2.1, 0) := by unfold numB; rw [h]; rfl
set_option maxHeartbeats 1000000 in
theorem hnumber_ok (s : ByteArray) (hs : s.size ≤ 1099511627776) {w0 w : World} {F : List Assn} (H : St w0 w F) :
    Calls Try.prog 10 #[.string s] w fun r w' => r = .returned (.tuple #[.int .i64 (numB s).1, .int .i64 (numB s).2]) ∧ St w0 w' F := by
  have hg : goodB s = (isH s && (getB s).1 == 1 && decide (1 ≤ (getB s).2.1) && (getB s).2.2 == (getB s).2.1) := rfl
  obtain ⟨x, hx⟩ : ∃ x, x = getB s := ⟨_, rfl⟩
  obtain ⟨f, id, gen⟩ := x
  obtain ⟨nb, hnb⟩ : ∃ x, x = numB s := ⟨_, rfl⟩
  obtain ⟨i, hi⟩ : ∃ x, x = isH s := ⟨_, rfl⟩
  rw [← hx, ← hi] at hg
  dsimp only at hg
  rw [← hnb]
  have HX := Lib.hid hx; have HI := Lib.hid hi; have HN := Lib.hid hnb
  go_enter Try.func10, Try.ntmps10
  go_wp2_with (fail)
  refine (hget_ok s hs H).mono ?_
  rw [← hx, ← hi]
  dsimp only
  clear hx hi hnb
  rintro e w1 ⟨rfl, H1⟩
  by_cases hgood : goodB s = true
  · have hgg := hgood
    rw [hg] at hgg
    simp only [Bool.and_eq_true, beq_iff_eq, decide_eq_true_eq] at hgg
    obtain ⟨⟨⟨h1, h2⟩, h3⟩, h4⟩ := hgg
    subst h1 h2 h4
    have hnn : nb = (gen, 0) := by rw [HN.out, numB_yes s hgood, ← HX.out]
    have HNN := Lib.hid hnn; have HGG := Lib.hid hgood; clear hnn hgood hg
    go_wp2_with (fail)
    go_ret2
    rw [HNN.out]
    exact ⟨rfl, H1⟩
  · have hgb : goodB s = false := by simpa using hgood
    have hnn : nb = (0, 10001) := by rw [HN.out, numB_no s hgb]
    rw [hgb] at hg
    have HNN := Lib.hid hnn; have HGG := Lib.hid hgb; clear hnn hgood hgb
    cases i
    · clear hg
      go_wp2_with (fail)
      go_ret2
      rw [HNN.out]
      exact ⟨rfl, H1⟩
    · by_cases h2 : f = 1
      · subst h2
        by_cases h3 : 1 ≤ id
        · have h4 : (gen != id) = true := by
            have : (gen == id) = false := by rw [decide_eq_true h3] at hg; simpa using hg.symm
            rw [bne, this]; rfl
          have h3' : decide (id < 1) = false := decide_eq_false (by omega)
          clear hg
          go_wp2_with (fail)
          go_ret2
          rw [HNN.out]
          exact ⟨rfl, H1⟩
        · have h3' : decide (id < 1) = true := decide_eq_true (by omega)
          clear hg
          go_wp2_with (fail)
          go_ret2
          rw [HNN.out]
          exact ⟨rfl, H1⟩
      · have h2' : (f != 1) = true := by rw [bne_iff_ne]; exact h2
        clear hg
        go_wp2_with (fail)
        go_ret2
        rw [HNN.out]
        exact ⟨rfl, H1⟩
set_option maxHeartbeats 1000000 in
theorem refhget_ok (s : ByteArray) (hs : s.size ≤ 1099511627776) {w0 w : World} {F : List Assn} (H : St w0 w F) :
    Calls Try.prog 9 #[.string s] w fun r w' => r = .returned (.tuple #[.int .i64 (getB s).1, .int .i64 (getB s).2.1, .int .i64 (getB s).2.2, .bool (isH s)]) ∧ St w0 w' F := by
  by_cases h28 : s.size = 28
  · have h4 : 4 ≤ s.size := by omega
    have h4I : (4 : Int) ≤ s.size := by omega
    have hp := pfx_take s
    have hb28 : ((s.size : Int) != 28) = false := by rw [h28]; rfl
    cases hq : pfx s
    · rw [hq] at hp
      have hi : isH s = false := by rw [isH_pfx, hq]; rfl
      have hg : getB s = (0, 0, 0) := by unfold getB; rw [hi]; rfl
      have hp' : ((s.extract 0 4).toList != [99, 111, 114, 97]) = true := by rw [bne, hp]; rfl
      have HI := Lib.hid hi; have HG := Lib.hid hg; have H28 := Lib.hid h28; clear hi hg h28
      go_enter Try.func9, Try.ntmps9
      go_wp2_with (fail)
      refine bodyPost_ret (results_tmp4 rfl _ _ _) rfl ?_
      rw [HG.out, HI.out]
      exact ⟨rfl, H⟩
    · rw [hq] at hp
      have hi : isH s = true := by rw [isH_pfx, hq, h28]; rfl
      have hg : getB s = (v1 (s.extract 4 s.size), v2 (s.extract 4 s.size), v3 (s.extract 4 s.size)) := by unfold getB; rw [hi]; rfl
      have hp' : ((s.extract 0 4).toList != [99, 111, 114, 97]) = false := by rw [bne, hp]; rfl
      have hle := extract_le s 4 s.size
      obtain ⟨s4, hs4⟩ : ∃ s4, s4 = s.extract 4 s.size := ⟨_, rfl⟩
      rw [← hs4] at hg hle
      have HI := Lib.hid hi; have HG := Lib.hid hg; have H28 := Lib.hid h28; have HS4 := Lib.hid hs4; clear hi hg h28 hs4
      go_enter Try.func9, Try.ntmps9
      go_wp2_with (fail)
      rw [← HS4.out]
      have H1 := St.shutRf (i := 0) (s := s4) (H.alloc #[.string s4, .int .i64 0, .int .i64 0] 45) (Nat.zero_le _) (by apply bl_inj; rw [bl_extract]; simp; exact (List.take_of_length_le (by rw [bl_length]; exact Nat.le_refl _)).symm)
      refine (refnum8_ok _ s4 ⟨s4, 0⟩ (by omega) H1).mono ?_
      rintro e w2 ⟨rfl, H2⟩
      go_wp2_with (fail)
      refine (refnum8_ok _ s4 (r1 s4) (by omega) H2).mono ?_
      rintro e w3 ⟨rfl, H3⟩
      go_wp2_with (fail)
      refine (refnum8_ok _ s4 (r2 s4) (by omega) H3).mono ?_
      rintro e w4 ⟨rfl, H4⟩
      go_wp2_with (fail)
      refine bodyPost_ret (results_tmp4 rfl _ _ _) rfl ?_
      rw [HG.out, HI.out]
      exact ⟨rfl, H4.tail⟩
  · have hi : isH s = false := by rw [isH_pfx, decide_eq_false h28, Bool.and_false]
    have hg : getB s = (0, 0, 0) := by unfold getB; rw [hi]; rfl
    have hb28 : ((s.size : Int) != 28) = true := by rw [bne_iff_ne]; omega
    have HI := Lib.hid hi; have HG := Lib.hid hg; have H28 := Lib.hid h28; clear hi hg h28
    go_enter Try.func9, Try.ntmps9
    go_wp2_with (fail)
    refine bodyPost_ret (results_tmp4 rfl _ _ _) rfl ?_
    rw [HG.out, HI.out]
    exact ⟨rfl, H⟩
set_option maxHeartbeats 1000000 in
theorem refhnumber_ok (s : ByteArray) (hs : s.size ≤ 1099511627776) {w0 w : World} {F : List Assn} (H : St w0 w F) :
    Calls Try.prog 11 #[.string s] w fun r w' => r = .returned (.tuple #[.int .i64 (numB s).1, .int .i64 (numB s).2]) ∧ St w0 w' F := by
  have hg : goodB s = (isH s && (getB s).1 == 1 && decide (1 ≤ (getB s).2.1) && (getB s).2.2 == (getB s).2.1) := rfl
  obtain ⟨x, hx⟩ : ∃ x, x = getB s := ⟨_, rfl⟩
  obtain ⟨f, id, gen⟩ := x
  obtain ⟨nb, hnb⟩ : ∃ x, x = numB s := ⟨_, rfl⟩
  obtain ⟨i, hi⟩ : ∃ x, x = isH s := ⟨_, rfl⟩
  rw [← hx, ← hi] at hg
  dsimp only at hg
  rw [← hnb]
  have HX := Lib.hid hx; have HI := Lib.hid hi; have HN := Lib.hid hnb
  go_enter Try.func11, Try.ntmps11
  go_wp2_with (fail)
  refine (refhget_ok s hs H).mono ?_
  rw [← hx, ← hi]
  dsimp only
  clear hx hi hnb
  rintro e w1 ⟨rfl, H1⟩
  by_cases hgood : goodB s = true
  · have hgg := hgood
    rw [hg] at hgg
    simp only [Bool.and_eq_true, beq_iff_eq, decide_eq_true_eq] at hgg
    obtain ⟨⟨⟨h1, h2⟩, h3⟩, h4⟩ := hgg
    subst h1 h2 h4
    have hnn : nb = (gen, 0) := by rw [HN.out, numB_yes s hgood, ← HX.out]
    have HNN := Lib.hid hnn; have HGG := Lib.hid hgood; clear hnn hgood hg
    go_wp2_with (fail)
    go_ret2
    rw [HNN.out]
    exact ⟨rfl, H1⟩
  · have hgb : goodB s = false := by simpa using hgood
    have hnn : nb = (0, 10001) := by rw [HN.out, numB_no s hgb]
    rw [hgb] at hg
    have HNN := Lib.hid hnn; have HGG := Lib.hid hgb; clear hnn hgood hgb
    cases i
    · clear hg
      go_wp2_with (fail)
      go_ret2
      rw [HNN.out]
      exact ⟨rfl, H1⟩
    · by_cases h2 : f = 1
      · subst h2
        by_cases h3 : 1 ≤ id
        · have h4 : (gen != id) = true := by
            have : (gen == id) = false := by rw [decide_eq_true h3] at hg; simpa using hg.symm
            rw [bne, this]; rfl
          have h3' : decide (id < 1) = false := decide_eq_false (by omega)
          clear hg
          go_wp2_with (fail)
          go_ret2
          rw [HNN.out]
          exact ⟨rfl, H1⟩
        · have h3' : decide (id < 1) = true := decide_eq_true (by omega)
          clear hg
          go_wp2_with (fail)
          go_ret2
          rw [HNN.out]
          exact ⟨rfl, H1⟩
      · have h2' : (f != 1) = true := by rw [bne_iff_ne]; exact h2
        clear hg
        go_wp2_with (fail)
        go_ret2
        rw [HNN.out]
        exact ⟨rfl, H1⟩
theorem numB_put (f id gen : Int) (h1 : inI64 f) (h2 : inI64 id) (h3 : inI64 gen) : numB (mkb (hb f id gen)) = if f = 1 ∧ 1 ≤ id ∧ gen = id then (id, 0) else (0, 10001) := by
  unfold numB goodB
  rw [get_put f id gen h1 h2 h3, isH_put]
  dsimp only
  by_cases h : f = 1 ∧ 1 ≤ id ∧ gen = id
  · rw [if_pos h, if_pos]
    obtain ⟨rfl, h4, rfl⟩ := h
    simp [h4]
  · rw [if_neg h, if_neg]
    intro hx; apply h
    simp only [Bool.and_eq_true, beq_iff_eq, decide_eq_true_eq] at hx
    exact ⟨hx.1.1.2, hx.1.2, hx.2⟩
theorem hb_size (f id gen : Int) : (mkb (hb f id gen)).size = 28 := by rw [mkb_size, hb_length]
theorem hspeaks_ok {w0 w : World} {F : List Assn} (H : St w0 w F) :
    Calls Try.prog 7 #[] w fun r w' => r = .returned (.bool true) ∧ St w0 w' F := by
  have hn : numB (mkb (hb 1 2 2)) = (2, 0) := by rw [numB_put 1 2 2 ⟨by decide, by decide⟩ ⟨by decide, by decide⟩ ⟨by decide, by decide⟩]; rfl
  have hz := hb_size 1 2 2
  have HN := Lib.hid hn; have HZ := Lib.hid hz; clear hn hz
  go_enter Try.func7, Try.ntmps7
  go_wp2_with (fail)
  refine (hput_ok 1 2 2 H).mono ?_
  rintro e w1 ⟨rfl, H1⟩
  go_wp2_with (fail)
  refine (hnumber_ok _ (by rw [HZ.out]; decide) H1).mono ?_
  rw [HN.out]
  rintro e w2 ⟨rfl, H2⟩
  go_wp2_with (fail)
  go_ret
  exact ⟨rfl, H2⟩
end Go.Proofs.Ythpcncebjkfjkaa

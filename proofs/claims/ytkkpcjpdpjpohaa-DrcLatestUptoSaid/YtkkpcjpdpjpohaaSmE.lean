/- Layer 2: what the taker's small functions do. -/
import Derived.Test.YtkkpcjpdpjpohaaSmD
import Derived.Test.YtkkpcjpdpjpohaaSmU
import Derived.Test.YtkkpcjpdpjpohaaXdrF
import Derived.Deep.MidRow
namespace Go.Proofs.Ytkkpcjpdpjpohaa
open Go.RowKit

theorem infoInt : (Try.prog.info? 3).map (fun i => (i.zero, i.size, i.bytes)) = some (some (.int .i64 0), 1, 8) := by kernel_rfl
theorem infoStr : (Try.prog.info? 9).map (fun i => (i.zero, i.size, i.bytes)) = some (some (.string ByteArray.empty), 1, 16) := by kernel_rfl
def ivs (l : List Int) : List Value := l.map (fun x => .int .i64 x)
theorem ivs_length (l : List Int) : (ivs l).length = l.length := List.length_map ..
theorem ivs_snoc (l : List Int) (x : Int) : ivs (l ++ [x]) = ivs l ++ [.int .i64 x] := by simp [ivs]
def svs (l : List ByteArray) : List Value := l.map (fun x => .string x)
theorem svs_length (l : List ByteArray) : (svs l).length = l.length := List.length_map ..
theorem svs_snoc (l : List ByteArray) (x : ByteArray) : svs (l ++ [x]) = svs l ++ [.string x] := by simp [svs]
/-- a taker in block bt, its reader in rb -/
def TkS (w0 w : World) (F : List Assn) (bt rb : Nat) (st : TS) : Prop := ∃ AN cN AT cT, St w0 w (Pt bt #[.pointer (some ⟨rb, 0, none⟩), .slice AN st.2.1.length cN, .slice AT st.2.2.length cT] 83 :: Rdr rb st.1 :: Row 3 1 AN st.2.1.length cN (ivs st.2.1) :: Row 9 1 AT st.2.2.length cT (svs st.2.2) :: F)
abbrev pan (e : Int) : Ending := .panicked [{ v := threw e, recovered := false }]
theorem RS.take_e6 (r : RS) (n : Int) (h : r.e ≠ 6) : (r.take n).2.e ≠ 6 := by
  unfold RS.take; split
  · split <;> (dsimp only; decide)
  · exact h
theorem RS.nat_e6 (r : RS) (n : Int) (h : r.e ≠ 6) : (r.nat n).2.e ≠ 6 := r.take_e6 n h
theorem RS.wrong_e6 (r : RS) (h : r.e ≠ 6) : (r.wrong 4).e ≠ 6 ∧ (r.wrong 2).e ≠ 6 := by
  unfold RS.wrong; dsimp only; constructor <;> (split; decide; exact h)
theorem RS.bool_e6 (r : RS) (h : r.e ≠ 6) : r.bool.2.e ≠ 6 := by
  unfold RS.bool; split
  · exact ((r.nat 4).2.wrong_e6 (RS.nat_e6 r 4 h)).1
  · exact RS.nat_e6 r 4 h
theorem RS.fixed_e6 (r : RS) (n : Int) (h : r.e ≠ 6) : (r.fixed n).2.e ≠ 6 := by
  unfold RS.fixed; repeat' split
  all_goals first | exact h | (dsimp only; decide)
theorem RS.opqe_e6 (r : RS) (n : Int) (h : r.e ≠ 6) : (r.opqe n).2.e ≠ 6 := by
  unfold RS.opqe; split
  · exact ((r.nat 4).2.wrong_e6 (RS.nat_e6 r 4 h)).2
  · exact RS.fixed_e6 _ _ (RS.nat_e6 r 4 h)
theorem bit_ok (b : Bool) (w : World) : Calls Try.prog 40 #[.bool b] w fun x w' => x = .returned (.int .i64 (bitI b)) ∧ w = w' := by
  cases b
  · go_enter Try.func40, Try.ntmps40
    go_wp2_with (fail)
    go_ret
    exact ⟨rfl, rfl⟩
  · go_enter Try.func40, Try.ntmps40
    go_wp2_with (fail)
    go_ret
    exact ⟨rfl, rfl⟩
/-- how 'check' ends -/
def ChkE (w : World) (e : Int) (x : Ending) (w' : World) : Prop := (if e = 0 then x = .returned (.tuple #[]) else x = pan e) ∧ w = w'
theorem tcheck_ok (bt rb : Nat) (st : TS) (h6 : st.1.e ≠ 6) {w0 w : World} {F : List Assn} (H : TkS w0 w F bt rb st) :
    Calls Try.prog 45 #[.pointer (some ⟨bt, 0, none⟩)] w (ChkE w st.1.e) := by
  obtain ⟨AN, cN, AT, cT, H⟩ := H
  have c0 := H.cell 0 rfl
  obtain ⟨r, N, T⟩ := st
  dsimp only at *
  have he := end_ok rb r H.r2
  by_cases h0 : r.e = 0
  · rw [h0]
    have hf : r.fin = 0 ∨ r.fin = 6 := by unfold RS.fin; rw [if_pos h0]; split; exact .inl rfl; exact .inr rfl
    have H0 := Lib.hid h0; clear h0 h6
    rcases hf with hf | hf
    · rw [hf] at he
      have HF := Lib.hid hf; clear hf
      go_enter Try.func45, Try.ntmps45
      go_wp2_with (go_at_call 28; refine he.mono ?_; rintro x w1 ⟨rfl, rfl⟩)
      go_end0
      exact ⟨rfl, rfl⟩
    · rw [hf] at he
      have HF := Lib.hid hf; clear hf
      go_enter Try.func45, Try.ntmps45
      go_wp2_with (go_at_call 28; refine he.mono ?_; rintro x w1 ⟨rfl, rfl⟩)
      go_end0
      exact ⟨rfl, rfl⟩
  · have hf : r.fin = r.e := by unfold RS.fin; rw [if_neg h0]
    rw [hf] at he
    have a1 : (r.e != 0) = true := bne_iff_ne.2 h0
    have a2 : (r.e != 6) = true := bne_iff_ne.2 h6
    have H0 := Lib.hid h0
    clear hf h0 h6
    go_enter Try.func45, Try.ntmps45
    go_wp2_with (go_at_call 28; refine he.mono ?_; rintro x w1 ⟨rfl, rfl⟩)
    refine ⟨rfl, ?_, rfl⟩
    rw [if_neg H0.out]
/-- how 'number' and 'text' end -/
def PutE (w0 : World) (F : List Assn) (bt rb : Nat) (v : Value) (st : TS) (o : Except Int TS) (x : Ending) (w' : World) : Prop := match o with
  | .error e => x = pan e ∧ TkS w0 w' F bt rb st
  | .ok st' => x = .returned v ∧ TkS w0 w' F bt rb st'
set_option maxRecDepth 100000 in
set_option maxHeartbeats 2000000 in
theorem tnumber_ok (bt rb : Nat) (st : TS) (n : Int) (h6 : st.1.e ≠ 6) (hN : st.2.1.length ≤ 1099511627776) {w0 w : World} {F : List Assn} (H : TkS w0 w F bt rb st) :
    Calls Try.prog 37 #[.pointer (some ⟨bt, 0, none⟩), .int .i64 n] w (PutE w0 F bt rb (.int .i64 n) st (putN n st)) := by
  have hc := tcheck_ok bt rb st h6 H
  obtain ⟨i0, hi, hz0, hz1, hz2⟩ := info_parts infoInt
  unfold putN
  by_cases h0 : st.1.e = 0
  · rw [if_pos h0]
    rw [h0] at hc
    have H0 := Lib.hid h0; clear h0 h6
    obtain ⟨AN, cN, AT, cT, H⟩ := H
    obtain ⟨r, N, T⟩ := st
    dsimp only at H hN ⊢
    have c1 := H.cell 1 rfl
    obtain ⟨m, hm⟩ : ∃ m, m = N.length := ⟨_, rfl⟩
    rw [← hm] at H c1 hN
    have HM := Lib.hid hm; clear hm
    go_enter Try.func37, Try.ntmps37
    go_upto_region 2 with (go_at_call 45; refine hc.mono ?_; rintro x w1 ⟨hx, rfl⟩; obtain rfl := hx)
    go_wp2_with (at_builtin; refine wpList_append_st (by rfl) _ _ _ (by rfl) 3 i0 (.int .i64 0) 1 8 Try.underlying62 hi hz0 hz1 hz2 rfl (by decide) AN m cN (ivs N) ((H.r3).more _) (by rfl) ⟨_, 0, none⟩ 1 1 [.int .i64 n] (by rfl) rfl (World.news_of_block (heap_alloc_new _ _)) (fun u hu => by simp at hu; subst hu; rfl) (by unfold maxLen; omega) (by omega) ?_; intro A4 c4 w4 H4; have s1 := H4.r2.cell 1 rfl; have g1 := H4.r2.frozen 1)
    go_ret
    refine ⟨rfl, A4, c4, AT, cT, ?_⟩
    have H5 := (H4.r2.set 1 (.slice A4 (m + 1) c4)).r3.r2
    have hl : (N ++ [n]).length = m + 1 := by rw [List.length_append, ← HM.out]; rfl
    dsimp only
    rw [hl, ivs_snoc]
    exact H5
  · rw [if_neg h0]
    have H0 := Lib.hid h0; clear h0
    go_enter Try.func37, Try.ntmps37
    go_wp2_with (fail)
    refine hc.mono ?_
    rintro x w1 ⟨hx, rfl⟩
    rw [if_neg H0.out] at hx
    subst hx
    exact ⟨rfl, rfl, H⟩
set_option maxRecDepth 100000 in
set_option maxHeartbeats 2000000 in
theorem ttext_ok (bt rb : Nat) (st : TS) (n : ByteArray) (h6 : st.1.e ≠ 6) (hN : st.2.2.length ≤ 1099511627776) {w0 w : World} {F : List Assn} (H : TkS w0 w F bt rb st) :
    Calls Try.prog 42 #[.pointer (some ⟨bt, 0, none⟩), .string n] w (PutE w0 F bt rb (.tuple #[]) st (putT n st)) := by
  have hc := tcheck_ok bt rb st h6 H
  obtain ⟨i0, hi, hz0, hz1, hz2⟩ := info_parts infoStr
  unfold putT
  by_cases h0 : st.1.e = 0
  · rw [if_pos h0]
    rw [h0] at hc
    have H0 := Lib.hid h0; clear h0 h6
    obtain ⟨AN, cN, AT, cT, H⟩ := H
    obtain ⟨r, N, T⟩ := st
    dsimp only at H hN ⊢
    have c1 := H.cell 2 rfl
    obtain ⟨m, hm⟩ : ∃ m, m = T.length := ⟨_, rfl⟩
    rw [← hm] at H c1 hN
    have HM := Lib.hid hm; clear hm
    go_enter Try.func42, Try.ntmps42
    go_upto_region 1 with (go_at_call 45; refine hc.mono ?_; rintro x w1 ⟨hx, rfl⟩; obtain rfl := hx)
    go_wp2_with (at_builtin; refine wpList_append_st (by rfl) _ _ _ (by rfl) 9 i0 (.string ByteArray.empty) 1 16 Try.underlying34 hi hz0 hz1 hz2 rfl (by decide) AT m cT (svs T) ((H.r4).more _) (by rfl) ⟨_, 0, none⟩ 1 1 [.string n] (by rfl) rfl (World.news_of_block (heap_alloc_new _ _)) (fun u hu => by simp at hu; subst hu; rfl) (by unfold maxLen; omega) (by omega) ?_; intro A4 c4 w4 H4; have s1 := H4.r2.cell 2 rfl; have g1 := H4.r2.frozen 2)
    go_end0
    refine ⟨rfl, AN, cN, A4, c4, ?_⟩
    have H5 := (H4.r2.set 2 (.slice A4 (m + 1) c4)).r4.r4.r3
    have hl : (T ++ [n]).length = m + 1 := by rw [List.length_append, ← HM.out]; rfl
    dsimp only
    rw [hl, svs_snoc]
    exact H5
  · rw [if_neg h0]
    have H0 := Lib.hid h0; clear h0
    go_enter Try.func42, Try.ntmps42
    go_wp2_with (fail)
    refine hc.mono ?_
    rintro x w1 ⟨hx, rfl⟩
    rw [if_neg H0.out] at hx
    subst hx
    exact ⟨rfl, rfl, H⟩
end Go.Proofs.Ytkkpcjpdpjpohaa

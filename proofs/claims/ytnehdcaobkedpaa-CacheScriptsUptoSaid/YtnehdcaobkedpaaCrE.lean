/- Layer 20: rows go. -/
import Derived.Test.YtnehdcaobkedpaaCrD
namespace Go.Proofs.Ytnehdcaobkedpaa.Ca
open Go.Proofs.Ytnehdcaobkedpaa
open Go.RowKit

theorem infoF : (Try.prog.info? 48).map (fun i => (i.zero, i.size, i.bytes)) = some (some (.agg #[.string ⟨#[]⟩, .int .i64 0, .int .i64 0, .int .i64 0, .int .i64 0, .int .i64 0]), 6, 56) := by kernel_rfl
theorem infoN : (Try.prog.info? 58).map (fun i => (i.zero, i.size, i.bytes)) = some (some (.agg #[.string ⟨#[]⟩, .string ⟨#[]⟩, .string ⟨#[]⟩, .int .i64 0]), 4, 56) := by kernel_rfl
theorem infoP : (Try.prog.info? 62).map (fun i => (i.zero, i.size, i.bytes)) = some (some (.agg #[.string ⟨#[]⟩, .int .i64 0, .string ⟨#[]⟩]), 3, 40) := by kernel_rfl
theorem take_snoc {α : Type} {L : List α} {k : Nat} {p : α} (h : L[k]? = some p) : L.take (k + 1) = L.take k ++ [p] := by rw [List.take_add_one, h]; rfl
theorem filter_snoc {α : Type} (p : α → Bool) {L : List α} {k : Nat} {x : α} (h : L[k]? = some x) : (L.take (k + 1)).filter p = if p x = true then (L.take k).filter p ++ [x] else (L.take k).filter p := by
  rw [take_snoc h, List.filter_append, List.filter_cons]
  cases p x <;> simp
theorem filter_le {α : Type} (p : α → Bool) (L : List α) (k : Nat) : ((L.take k).filter p).length ≤ L.length := Nat.le_trans (List.length_filter_le _ _) (by rw [List.length_take]; omega)
theorem flat_snoc {α : Type} (f : α → List Value) (l : List α) (x : α) : (l ++ [x]).flatMap f = l.flatMap f ++ f x := by simp
def notP (h : ByteArray) (x : PR) : Bool := !decide (x.h = h)
def notN (d s : ByteArray) (x : NR) : Bool := !isN d s x
def notF (h : ByteArray) (x : FR) : Bool := !isH h x
set_option maxRecDepth 100000 in
set_option maxHeartbeats 4000000 in
theorem refdrop_ok (r : RC) (h : ByteArray) (hpl : r.pl.length ≤ 1000000000000) {w0 w : World} {F : List Assn} (H : St w0 w (RCx r :: F)) :
    Calls Try.prog 27 #[.pointer (some ⟨r.b, 0, none⟩), .string h] w fun e w' => e = .returned (.tuple #[]) ∧ St w0 w' (RCx { r with pl := r.pl.filter (notP h) } :: F) := by
  obtain ⟨A1, c1, A2, c2, A3, c3, H1⟩ := St.openR H
  obtain ⟨i0, hi, hz0, hz1, hz2⟩ := info_parts infoP
  obtain ⟨m, hmm⟩ : ∃ m, m = r.pl.length := ⟨_, rfl⟩
  rw [← hmm] at H1 hpl
  have HM := Lib.hid hmm; clear hmm H
  go_enter Try.func27, Try.ntmps27
  go_wp2_with (fail)
  go_loopw [4, 5] (fun ov iv wr => ∃ i : Nat, i ≤ m ∧ iv = .int .i64 i ∧ ∃ (n : Nat) (A : Option Addr) (c : Nat), ov = .slice A n c ∧ n = ((r.pl.take i).filter (notP h)).length ∧ St w0 wr (Row 62 3 A n c (((r.pl.take i).filter (notP h)).flatMap PR.cells) ::
    Pt r.b #[.int .i64 r.age, .slice A1 r.fl.length c1, .slice A2 r.nl.length c2, .slice A3 m c3] 56 :: Row 48 6 A1 r.fl.length c1 (r.fl.flatMap FR.cells) ::
    Row 58 4 A2 r.nl.length c2 (r.nl.flatMap NR.cells) :: Row 62 3 A3 m c3 (r.pl.flatMap PR.cells) :: F)) (fun _ iv _ => m - (intOf iv).toNat)
  case atStart => exact ⟨0, Nat.zero_le _, rfl, 0, none, 0, rfl, rfl, H1.nilRow _ _⟩
  case round =>
    obtain ⟨i, him, rfl, n, A, c, rfl, hn, H2⟩ := hrel
    clear H1
    have p3 := H2.r2.cell 3 (v := .slice A3 m c3) rfl
    have hnm : n ≤ m := by rw [hn, HM.out]; exact filter_le _ _ _
    have HN := Lib.hid hn; clear hn
    by_cases hlt : i < m
    · obtain ⟨x, hx⟩ : ∃ x, r.pl[i]? = some x := ⟨_, List.getElem?_eq_getElem (by rw [← HM.out]; exact hlt)⟩
      obtain ⟨g, o, hA, k0, kk⟩ := rows_get pcell (H2.ord 5 [4, 0, 1, 2, 3]) hx HM.out.symm
      subst hA
      have c0 := k0 _ rfl
      have e1 := kk 1 _ rfl
      have e2 := kk 2 _ rfl
      have hiI : (i : Int) < m := by omega
      have ht := tl x.h h
      have hfs := filter_snoc (notP h) hx
      clear kk k0
      cases hd : decide (x.h = h) with
      | true =>
        rw [hd] at ht
        rw [if_neg (by unfold notP; rw [hd]; decide)] at hfs
        have HF := Lib.hid hfs; clear hfs
        go_wp2_with (fail)
        refine ⟨⟨i + 1, by omega, by go_num, n, A, c, rfl, by rw [HF.out]; exact HN.out, by rw [HF.out]; exact H2⟩, by simp [intOf]; omega⟩
      | false =>
        rw [hd] at ht
        rw [if_pos (by unfold notP; rw [hd]; decide)] at hfs
        have HF := Lib.hid hfs; clear hfs
        go_wp2_with (at_builtin; refine wpList_append_st (by rfl) _ _ _ (by rfl) 62 i0 (.agg #[.string ⟨#[]⟩, .int .i64 0, .string ⟨#[]⟩]) 3 40 Try.underlying54 hi hz0 hz1 hz2 rfl (by decide) A n c _ (H2.more _) (by rfl) ⟨_, 0, none⟩ 1 1 x.cells (by rfl) rfl (World.news_of_block (heap_alloc_new _ _)) (fun u hu => by simp [PR.cells] at hu; rcases hu with rfl | rfl | rfl <;> rfl) (by unfold maxLen; omega) (by omega) ?_; intro A4 c4 w4 H4)
        rw [← flat_snoc, ← HF.out] at H4
        refine ⟨⟨i + 1, by omega, by go_num, n + 1, A4, c4, rfl, by rw [HF.out, List.length_append, ← HN.out]; rfl, H4⟩, by simp [intOf]; omega⟩
    · obtain rfl : m = i := by omega
      rw [List.take_of_length_le (by rw [HM.out]; exact Nat.le_refl _)] at H2 HN
      have f3 := H2.r2.frozen 3
      have H3 := H2.r2.set 3 (.slice A n c)
      clear hlt
      go_wp2_with (fail)
      go_end0
      exact ⟨rfl, St.shutR (r := { r with pl := r.pl.filter (notP h) }) rfl rfl HN.out (H3.ord 5 [4, 0, 2, 3, 1] |>.tail)⟩
set_option maxRecDepth 100000 in
set_option maxHeartbeats 4000000 in
theorem refloose_ok (r : RC) (d s : ByteArray) (hpl : r.nl.length ≤ 1000000000000) {w0 w : World} {F : List Assn} (H : St w0 w (RCx r :: F)) :
    Calls Try.prog 20 #[.pointer (some ⟨r.b, 0, none⟩), .string d, .string s] w fun e w' => e = .returned (.tuple #[]) ∧ St w0 w' (RCx { r with nl := r.nl.filter (notN d s) } :: F) := by
  obtain ⟨A1, c1, A2, c2, A3, c3, H1⟩ := St.openR H
  obtain ⟨i0, hi, hz0, hz1, hz2⟩ := info_parts infoN
  obtain ⟨m, hmm⟩ : ∃ m, m = r.nl.length := ⟨_, rfl⟩
  rw [← hmm] at H1 hpl
  have HM := Lib.hid hmm; clear hmm H
  go_enter Try.func20, Try.ntmps20
  go_wp2_with (fail)
  go_loopw [6, 7] (fun ov iv wr => ∃ i : Nat, i ≤ m ∧ iv = .int .i64 i ∧ ∃ (n : Nat) (A : Option Addr) (c : Nat), ov = .slice A n c ∧ n = ((r.nl.take i).filter (notN d s)).length ∧ St w0 wr (Row 58 4 A n c (((r.nl.take i).filter (notN d s)).flatMap NR.cells) ::
    Pt r.b #[.int .i64 r.age, .slice A1 r.fl.length c1, .slice A2 m c2, .slice A3 r.pl.length c3] 56 :: Row 48 6 A1 r.fl.length c1 (r.fl.flatMap FR.cells) ::
    Row 58 4 A2 m c2 (r.nl.flatMap NR.cells) :: Row 62 3 A3 r.pl.length c3 (r.pl.flatMap PR.cells) :: F)) (fun _ iv _ => m - (intOf iv).toNat)
  case atStart => exact ⟨0, Nat.zero_le _, rfl, 0, none, 0, rfl, rfl, H1.nilRow _ _⟩
  case round =>
    obtain ⟨i, him, rfl, n, A, c, rfl, hn, H2⟩ := hrel
    clear H1
    have p3 := H2.r2.cell 2 (v := .slice A2 m c2) rfl
    have hnm : n ≤ m := by rw [hn, HM.out]; exact filter_le _ _ _
    have HN := Lib.hid hn; clear hn
    by_cases hlt : i < m
    · obtain ⟨x, hx⟩ : ∃ x, r.nl[i]? = some x := ⟨_, List.getElem?_eq_getElem (by rw [← HM.out]; exact hlt)⟩
      obtain ⟨g, o, hA, k0, kk⟩ := rows_get ncell (H2.ord 5 [3, 0, 1, 2, 4]) hx HM.out.symm
      subst hA
      have c0 := k0 _ rfl
      have e1 := kk 1 _ rfl
      have e2 := kk 2 _ rfl
      have e3 := kk 3 _ rfl
      have hiI : (i : Int) < m := by omega
      have ht := tl x.d d
      have hu := tl x.s s
      have hfs := filter_snoc (notN d s) hx
      clear kk k0
      cases hd : decide (x.d = d) with
      | false =>
        rw [hd] at ht
        rw [if_pos (by unfold notN isN; rw [hd]; rfl)] at hfs
        have HF := Lib.hid hfs; clear hfs
        go_wp2_with (at_builtin; refine wpList_append_st (by rfl) _ _ _ (by rfl) 58 i0 (.agg #[.string ⟨#[]⟩, .string ⟨#[]⟩, .string ⟨#[]⟩, .int .i64 0]) 4 56 Try.underlying52 hi hz0 hz1 hz2 rfl (by decide) A n c _ (H2.more _) (by rfl) ⟨_, 0, none⟩ 1 1 x.cells (by rfl) rfl (World.news_of_block (heap_alloc_new _ _)) (fun u hu => by simp [NR.cells] at hu; rcases hu with rfl | rfl | rfl | rfl <;> rfl) (by unfold maxLen; omega) (by omega) ?_; intro A4 c4 w4 H4)
        rw [← flat_snoc, ← HF.out] at H4
        refine ⟨⟨i + 1, by omega, by go_num, n + 1, A4, c4, rfl, by rw [HF.out, List.length_append, ← HN.out]; rfl, H4⟩, by simp [intOf]; omega⟩
      | true =>
        rw [hd] at ht
        cases hd2 : decide (x.s = s) with
        | true =>
          rw [hd2] at hu
          rw [if_neg (by unfold notN isN; rw [hd, hd2]; decide)] at hfs
          have HF := Lib.hid hfs; clear hfs
          go_wp2_with (fail)
          refine ⟨⟨i + 1, by omega, by go_num, n, A, c, rfl, by rw [HF.out]; exact HN.out, by rw [HF.out]; exact H2⟩, by simp [intOf]; omega⟩
        | false =>
          rw [hd2] at hu
          rw [if_pos (by unfold notN isN; rw [hd, hd2]; rfl)] at hfs
          have HF := Lib.hid hfs; clear hfs
          go_wp2_with (at_builtin; refine wpList_append_st (by rfl) _ _ _ (by rfl) 58 i0 (.agg #[.string ⟨#[]⟩, .string ⟨#[]⟩, .string ⟨#[]⟩, .int .i64 0]) 4 56 Try.underlying52 hi hz0 hz1 hz2 rfl (by decide) A n c _ (H2.more _) (by rfl) ⟨_, 0, none⟩ 1 1 x.cells (by rfl) rfl (World.news_of_block (heap_alloc_new _ _)) (fun u hu => by simp [NR.cells] at hu; rcases hu with rfl | rfl | rfl | rfl <;> rfl) (by unfold maxLen; omega) (by omega) ?_; intro A4 c4 w4 H4)
          rw [← flat_snoc, ← HF.out] at H4
          refine ⟨⟨i + 1, by omega, by go_num, n + 1, A4, c4, rfl, by rw [HF.out, List.length_append, ← HN.out]; rfl, H4⟩, by simp [intOf]; omega⟩
    · obtain rfl : m = i := by omega
      rw [List.take_of_length_le (by rw [HM.out]; exact Nat.le_refl _)] at H2 HN
      have f3 := H2.r2.frozen 2
      have H3 := H2.r2.set 2 (.slice A n c)
      clear hlt
      go_wp2_with (fail)
      go_end0
      exact ⟨rfl, St.shutR (r := { r with nl := r.nl.filter (notN d s) }) rfl HN.out rfl (H3.ord 5 [3, 0, 2, 1, 4] |>.tail)⟩
end Go.Proofs.Ytnehdcaobkedpaa.Ca

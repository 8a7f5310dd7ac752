/- Layer 20: all rows of a file go. -/
import Derived.Test.YtnehdcaobkedpaaCrE
import Derived.Deep.QuietTactic
namespace Go.Proofs.Ytnehdcaobkedpaa.Ca
open Go.Proofs.Ytnehdcaobkedpaa
open Go.RowKit

/-- does a name's row stay, that others stand behind? -/
def okN (h : ByteArray) (x : NR) (rest : List NR) : Bool := rest.all (notN x.d x.s) && (!decide (x.d = h) && !decide (x.h = h))
def keepN (h : ByteArray) : List NR → List NR
  | [] => []
  | x :: rest => if okN h x rest = true then x :: keepN h rest else keepN h rest
theorem drop_cons {α : Type} {l : List α} {i : Nat} {x : α} (h : l[i]? = some x) : l.drop i = x :: l.drop (i + 1) := by
  obtain ⟨h1, h2⟩ := List.getElem?_eq_some_iff.1 h
  rw [List.drop_eq_getElem_cons h1, h2]
theorem keepN_step (h : ByteArray) {l : List NR} {i : Nat} {x : NR} (hx : l[i]? = some x) : keepN h (l.drop i) = if okN h x (l.drop (i + 1)) = true then x :: keepN h (l.drop (i + 1)) else keepN h (l.drop (i + 1)) := by
  rw [drop_cons hx]; rfl
set_option maxRecDepth 100000 in
set_option maxHeartbeats 8000000 in
theorem reffilter_ok (r : RC) (h : ByteArray) (hpl : r.fl.length ≤ 1000000000000) (hpp : r.pl.length ≤ 1000000000000) (hnl : r.nl.length ≤ 1000000000000) {w0 w : World} {F : List Assn} (H : St w0 w (RCx r :: F)) :
    Calls Try.prog 23 #[.pointer (some ⟨r.b, 0, none⟩), .string h] w fun e w' => e = .returned (.tuple #[]) ∧ St w0 w' (RCx ⟨r.b, r.age, r.fl.filter (notF h), keepN h r.nl, r.pl.filter (notP h)⟩ :: F) := by
  obtain ⟨A1, c1, A2, c2, A3, c3, H1⟩ := St.openR H
  obtain ⟨i0, hi, hz0, hz1, hz2⟩ := info_parts infoF
  obtain ⟨m, hmm⟩ : ∃ m, m = r.fl.length := ⟨_, rfl⟩
  rw [← hmm] at H1 hpl
  have HM := Lib.hid hmm; clear hmm H
  go_enter Try.func23, Try.ntmps23
  go_wp2_with (fail)
  go_loopw [4, 5] (fun ov iv wr => ∃ i : Nat, i ≤ m ∧ iv = .int .i64 i ∧ ∃ (n : Nat) (A : Option Addr) (c : Nat), ov = .slice A n c ∧ n = ((r.fl.take i).filter (notF h)).length ∧ St w0 wr (Row 48 6 A n c (((r.fl.take i).filter (notF h)).flatMap FR.cells) ::
    Pt r.b #[.int .i64 r.age, .slice A1 m c1, .slice A2 r.nl.length c2, .slice A3 r.pl.length c3] 56 :: Row 48 6 A1 m c1 (r.fl.flatMap FR.cells) ::
    Row 58 4 A2 r.nl.length c2 (r.nl.flatMap NR.cells) :: Row 62 3 A3 r.pl.length c3 (r.pl.flatMap PR.cells) :: F)) (fun _ iv _ => m - (intOf iv).toNat)
  case atStart => exact ⟨0, Nat.zero_le _, rfl, 0, none, 0, rfl, rfl, H1.nilRow _ _⟩
  case round =>
    obtain ⟨i, him, rfl, n, A, c, rfl, hn, H2⟩ := hrel
    clear H1
    have p3 := H2.r2.cell 1 (v := .slice A1 m c1) rfl
    have hnm : n ≤ m := by rw [hn, HM.out]; exact filter_le _ _ _
    have HN := Lib.hid hn; clear hn
    by_cases hlt : i < m
    · obtain ⟨x, hx⟩ : ∃ x, r.fl[i]? = some x := ⟨_, List.getElem?_eq_getElem (by rw [← HM.out]; exact hlt)⟩
      obtain ⟨g, o, hA, k0, kk⟩ := rows_get fcell (H2.ord 5 [2, 0, 1, 3, 4]) hx HM.out.symm
      subst hA
      have c0 := k0 _ rfl
      have e1 := kk 1 _ rfl
      have e2 := kk 2 _ rfl
      have e3 := kk 3 _ rfl
      have e4 := kk 4 _ rfl
      have e5 := kk 5 _ rfl
      have hiI : (i : Int) < m := by omega
      have ht := tl x.h h
      have hfs := filter_snoc (notF h) hx
      clear kk k0
      cases hd : decide (x.h = h) with
      | true =>
        rw [hd] at ht
        rw [if_neg (by unfold notF isH; rw [hd]; decide)] at hfs
        have HF := Lib.hid hfs; clear hfs
        go_wp2_with (fail)
        refine ⟨⟨i + 1, by omega, by go_num, n, A, c, rfl, by rw [HF.out]; exact HN.out, by rw [HF.out]; exact H2⟩, by simp [intOf]; omega⟩
      | false =>
        rw [hd] at ht
        rw [if_pos (by unfold notF isH; rw [hd]; decide)] at hfs
        have HF := Lib.hid hfs; clear hfs
        go_wp2_with (at_builtin; refine wpList_append_st (by rfl) _ _ _ (by rfl) 48 i0 (.agg #[.string ⟨#[]⟩, .int .i64 0, .int .i64 0, .int .i64 0, .int .i64 0, .int .i64 0]) 6 56 Try.underlying53 hi hz0 hz1 hz2 rfl (by decide) A n c _ (H2.more _) (by rfl) ⟨_, 0, none⟩ 1 1 x.cells (by rfl) rfl (World.news_of_block (heap_alloc_new _ _)) (fun u hu => by simp [FR.cells] at hu; rcases hu with rfl | rfl | rfl | rfl | rfl | rfl <;> rfl) (by unfold maxLen; omega) (by omega) ?_; intro A4 c4 w4 H4)
        rw [← flat_snoc, ← HF.out] at H4
        refine ⟨⟨i + 1, by omega, by go_num, n + 1, A4, c4, rfl, by rw [HF.out, List.length_append, ← HN.out]; rfl, H4⟩, by simp [intOf]; omega⟩
    · obtain rfl : m = i := by omega
      rw [List.take_of_length_le (by rw [HM.out]; exact Nat.le_refl _)] at H2 HN
      have f3 := H2.r2.frozen 1
      have H3 := H2.r2.set 1 (.slice A n c)
      clear hlt
      have H4 : St w0 _ (RCx ⟨r.b, r.age, r.fl.filter (notF h), r.nl, r.pl⟩ :: F) := St.shutR (r := ⟨r.b, r.age, r.fl.filter (notF h), r.nl, r.pl⟩) HN.out rfl rfl (H3.ord 5 [2, 0, 1, 3, 4] |>.tail)
      have hdr := refdrop_ok ⟨r.b, r.age, r.fl.filter (notF h), r.nl, r.pl⟩ h hpp H4
      have HDR := Lib.hid hdr; clear hdr H3 H4
      go_wp2_with (fail)
      refine HDR.out.mono ?_
      clear HDR H2 p3 f3 hi hz0 hz1 hz2 HN
      rintro e w5 ⟨rfl, H5⟩
      obtain ⟨A1, c1, A2, c2, A3, c3, H6⟩ := St.openR H5
      try dsimp only at H6
      obtain ⟨i0, hi, hz0, hz1, hz2⟩ := info_parts infoN
      obtain ⟨fl, hfl⟩ : ∃ fl, fl = r.fl.filter (notF h) := ⟨_, rfl⟩
      obtain ⟨pl, hpl⟩ : ∃ pl, pl = r.pl.filter (notP h) := ⟨_, rfl⟩
      obtain ⟨m, hmm⟩ : ∃ m, m = r.nl.length := ⟨_, rfl⟩
      rw [← hfl, ← hpl, ← hmm] at H6
      rw [← hmm] at hnl
      have HM := Lib.hid hmm; have HFL := Lib.hid hfl; have HPL := Lib.hid hpl; clear hmm hfl hpl H5
      have k0n : keepN h (r.nl.drop 0) = keepN h r.nl := by rw [List.drop_zero]
      go_wp2_with (fail)
      go_loopw [6, 7] (fun ov iv wr => ∃ i : Nat, i ≤ m ∧ iv = .int .i64 i ∧ ∃ (n : Nat) (A : Option Addr) (c : Nat) (out : List NR), ov = .slice A n c ∧ n = out.length ∧ n ≤ i ∧ out ++ keepN h (r.nl.drop i) = keepN h r.nl ∧ St w0 wr (Row 58 4 A n c (out.flatMap NR.cells) ::
        Pt r.b #[.int .i64 r.age, .slice A1 fl.length c1, .slice A2 m c2, .slice A3 pl.length c3] 56 :: Row 48 6 A1 fl.length c1 (fl.flatMap FR.cells) ::
        Row 58 4 A2 m c2 (r.nl.flatMap NR.cells) :: Row 62 3 A3 pl.length c3 (pl.flatMap PR.cells) :: F)) (fun _ iv _ => m - (intOf iv).toNat)
      case atStart => exact ⟨0, Nat.zero_le _, rfl, 0, none, 0, [], rfl, rfl, Nat.le_refl _, k0n, H6.nilRow _ _⟩
      case round =>
        obtain ⟨i, him, rfl, n, A, c, out, rfl, hno, hni, hout, H7⟩ := hrel
        subst hno
        clear H6 k0n
        have p3 := H7.r2.cell 2 (v := .slice A2 m c2) rfl
        by_cases hlt : i < m
        · obtain ⟨x, hx⟩ : ∃ x, r.nl[i]? = some x := ⟨_, List.getElem?_eq_getElem (by rw [← HM.out]; exact hlt)⟩
          have hstep := keepN_step h hx
          obtain ⟨g, o, hA, k0, kk⟩ := rows_get ncell (H7.ord 5 [3, 0, 1, 2, 4]) hx HM.out.symm
          subst hA
          have hiI : (i : Int) < m := by omega
          have a0 : (((r.nl.drop (i + 1)).take 0).all (notN x.d x.s)) = true := rfl
          have HX := Lib.hid hx; have HST := Lib.hid hstep; have HOUT := Lib.hid hout; clear hx hstep hout k0 kk
          go_wp2_with (fail)
          go_loopw [8, 9] (fun lv kv wr => ∃ k : Nat, i + 1 ≤ k ∧ k ≤ m ∧ kv = .int .i64 k ∧ lv = .bool (((r.nl.drop (i + 1)).take (k - (i + 1))).all (notN x.d x.s)) ∧ St w0 wr (Row 58 4 A out.length c (out.flatMap NR.cells) ::
            Pt r.b #[.int .i64 r.age, .slice A1 fl.length c1, .slice (some ⟨g, o, none⟩) m c2, .slice A3 pl.length c3] 56 :: Row 48 6 A1 fl.length c1 (fl.flatMap FR.cells) ::
            Row 58 4 (some ⟨g, o, none⟩) m c2 (r.nl.flatMap NR.cells) :: Row 62 3 A3 pl.length c3 (pl.flatMap PR.cells) :: F)) (fun _ kv _ => m - (intOf kv).toNat)
          case atStart => exact ⟨i + 1, Nat.le_refl _, by omega, by go_num, by rw [Nat.sub_self, a0], H7⟩
          case round =>
            obtain ⟨k, hk1, hk2, rfl, rfl, H8⟩ := hrel
            clear H7 p3
            have p3 := H8.r2.cell 2 (v := .slice (some ⟨g, o, none⟩) m c2) rfl
            obtain ⟨la, hla⟩ : ∃ la, la = (((r.nl.drop (i + 1)).take (k - (i + 1))).all (notN x.d x.s)) := ⟨_, rfl⟩
            rw [← hla]
            have HLA := Lib.hid hla; clear hla
            by_cases hlt2 : k < m
            · obtain ⟨y, hy⟩ : ∃ y, r.nl[k]? = some y := ⟨_, List.getElem?_eq_getElem (by rw [← HM.out]; exact hlt2)⟩
              have hall : (((r.nl.drop (i + 1)).take (k + 1 - (i + 1))).all (notN x.d x.s)) = (la && notN x.d x.s y) := by
                rw [show k + 1 - (i + 1) = (k - (i + 1)) + 1 by omega, take_snoc (p := y) (by rw [List.getElem?_drop, show i + 1 + (k - (i + 1)) = k by omega]; exact hy), List.all_append, HLA.out]
                simp
              obtain ⟨_, _, hA, k0, kk⟩ := rows_get ncell (H8.ord 5 [3, 0, 1, 2, 4]) hy HM.out.symm
              cases hA
              obtain ⟨_, _, hA, j0, jj⟩ := rows_get ncell (H8.ord 5 [3, 0, 1, 2, 4]) HX.out HM.out.symm
              cases hA
              have c0 := k0 _ rfl
              have c1' := kk 1 _ rfl
              have d0 := j0 _ rfl
              have d1 := jj 1 _ rfl
              have hkI : (k : Int) < m := by omega
              have ht := tl y.d x.d
              have hu := tl y.s x.s
              have HALL := Lib.hid hall; clear hall k0 kk j0 jj hy
              go_wp2_with (fail)
              refine wp_region_held_drew (S := fun w' => w'.cell? ⟨r.b, 2, none⟩ = some (.slice (some ⟨g, o, none⟩) m c2) ∧ w'.cell? ⟨g, o + k * 4, none⟩ = some (.string y.d) ∧ w'.cell? ⟨g, o + k * 4 + 1, none⟩ = some (.string y.s) ∧ w'.cell? ⟨g, o + i * 4, none⟩ = some (.string x.d) ∧ w'.cell? ⟨g, o + i * 4 + 1, none⟩ = some (.string x.s)) (by kernel_rfl) ⟨p3, c0, c1', d0, d1⟩ (fun hHeld => ?_)
              have H9 := H8.drew
              clear p3 c0 c1' d0 d1 H8
              generalize wr.drew = w9 at *
              cases la with
              | false =>
                refine rg_take (i := 0) (v := ?_) rfl (by kernel_rfl) (by kernel_rfl) (by kernel_rfl) (fun _ _ _ h => h) (Or.inl ⟨by kernel_rfl, ?_⟩) (by assumption) ?_
                rotate_left 1
                · intro w' hSw
                  try dsimp only at hSw
                  go_simp
                  first | done | with_reducible rfl
                simp only [Act.put, List.setIfInBounds_toArray, List.set_cons_zero, List.set_cons_succ]
                refine rg_take (i := 1) (v := ?_) rfl (by kernel_rfl) (by kernel_rfl) (by kernel_rfl) (fun _ _ _ h => h) (Or.inl ⟨by kernel_rfl, ?_⟩) (by assumption) ?_
                rotate_left 1
                · intro w' hSw
                  try dsimp only at hSw
                  go_simp
                  first | done | with_reducible rfl
                simp only [Act.put, List.setIfInBounds_toArray, List.set_cons_zero, List.set_cons_succ]
                refine rg_take (i := 2) (v := undef) rfl (by kernel_rfl) (by kernel_rfl) (by kernel_rfl) (fun _ _ _ h => h) (Or.inr ⟨by kernel_rfl, rfl⟩) (by assumption) ?_
                simp only [Act.put, List.setIfInBounds_toArray, List.set_cons_zero, List.set_cons_succ]
                refine rg_take (i := 3) (v := undef) rfl (by kernel_rfl) (by kernel_rfl) (by kernel_rfl) (fun _ _ _ h => h) (Or.inr ⟨by kernel_rfl, rfl⟩) (by assumption) ?_
                simp only [Act.put, List.setIfInBounds_toArray, List.set_cons_zero, List.set_cons_succ]
                refine rg_take (i := 4) (v := undef) rfl (by kernel_rfl) (by kernel_rfl) (by kernel_rfl) (fun _ _ _ h => h) (Or.inr ⟨by kernel_rfl, rfl⟩) (by assumption) ?_
                simp only [Act.put, List.setIfInBounds_toArray, List.set_cons_zero, List.set_cons_succ]
                refine rg_take (i := 5) (v := undef) rfl (by kernel_rfl) (by kernel_rfl) (by kernel_rfl) (fun _ _ _ h => h) (Or.inr ⟨by kernel_rfl, rfl⟩) (by assumption) ?_
                simp only [Act.put, List.setIfInBounds_toArray, List.set_cons_zero, List.set_cons_succ]
                refine rg_take (i := 6) (v := undef) rfl (by kernel_rfl) (by kernel_rfl) (by kernel_rfl) (fun _ _ _ h => h) (Or.inr ⟨by kernel_rfl, rfl⟩) (by assumption) ?_
                simp only [Act.put, List.setIfInBounds_toArray, List.set_cons_zero, List.set_cons_succ]
                refine rg_take (i := 7) (v := undef) rfl (by kernel_rfl) (by kernel_rfl) (by kernel_rfl) (fun _ _ _ h => h) (Or.inr ⟨by kernel_rfl, rfl⟩) (by assumption) ?_
                simp only [Act.put, List.setIfInBounds_toArray, List.set_cons_zero, List.set_cons_succ]
                refine rg_take (i := 8) (v := undef) rfl (by kernel_rfl) (by kernel_rfl) (by kernel_rfl) (fun _ _ _ h => h) (Or.inr ⟨by kernel_rfl, rfl⟩) (by assumption) ?_
                simp only [Act.put, List.setIfInBounds_toArray, List.set_cons_zero, List.set_cons_succ]
                refine rg_take (i := 9) (v := undef) rfl (by kernel_rfl) (by kernel_rfl) (by kernel_rfl) (fun _ _ _ h => h) (Or.inr ⟨by kernel_rfl, rfl⟩) (by assumption) ?_
                simp only [Act.put, List.setIfInBounds_toArray, List.set_cons_zero, List.set_cons_succ]
                refine rg_take (i := 10) (v := undef) rfl (by kernel_rfl) (by kernel_rfl) (by kernel_rfl) (fun _ _ _ h => h) (Or.inr ⟨by kernel_rfl, rfl⟩) (by assumption) ?_
                simp only [Act.put, List.setIfInBounds_toArray, List.set_cons_zero, List.set_cons_succ]
                refine rg_take (i := 11) (v := undef) rfl (by kernel_rfl) (by kernel_rfl) (by kernel_rfl) (fun _ _ _ h => h) (Or.inr ⟨by kernel_rfl, rfl⟩) (by assumption) ?_
                simp only [Act.put, List.setIfInBounds_toArray, List.set_cons_zero, List.set_cons_succ]
                refine rg_take (i := 12) (v := undef) rfl (by kernel_rfl) (by kernel_rfl) (by kernel_rfl) (fun _ _ _ h => h) (Or.inr ⟨by kernel_rfl, rfl⟩) (by assumption) ?_
                simp only [Act.put, List.setIfInBounds_toArray, List.set_cons_zero, List.set_cons_succ]
                refine rg_take (i := 13) (v := undef) rfl (by kernel_rfl) (by kernel_rfl) (by kernel_rfl) (fun _ _ _ h => h) (Or.inr ⟨by kernel_rfl, rfl⟩) (by assumption) ?_
                simp only [Act.put, List.setIfInBounds_toArray, List.set_cons_zero, List.set_cons_succ]
                refine rg_take (i := 14) (v := undef) rfl (by kernel_rfl) (by kernel_rfl) (by kernel_rfl) (fun _ _ _ h => h) (Or.inr ⟨by kernel_rfl, rfl⟩) (by assumption) ?_
                simp only [Act.put, List.setIfInBounds_toArray, List.set_cons_zero, List.set_cons_succ]
                refine rg_take (i := 15) (v := undef) rfl (by kernel_rfl) (by kernel_rfl) (by kernel_rfl) (fun _ _ _ h => h) (Or.inr ⟨by kernel_rfl, rfl⟩) (by assumption) ?_
                simp only [Act.put, List.setIfInBounds_toArray, List.set_cons_zero, List.set_cons_succ]
                refine rg_take (i := 16) (v := undef) rfl (by kernel_rfl) (by kernel_rfl) (by kernel_rfl) (fun _ _ _ h => h) (Or.inr ⟨by kernel_rfl, rfl⟩) (by assumption) ?_
                simp only [Act.put, List.setIfInBounds_toArray, List.set_cons_zero, List.set_cons_succ]
                refine rg_take (i := 17) (v := undef) rfl (by kernel_rfl) (by kernel_rfl) (by kernel_rfl) (fun _ _ _ h => h) (Or.inr ⟨by kernel_rfl, rfl⟩) (by assumption) ?_
                simp only [Act.put, List.setIfInBounds_toArray, List.set_cons_zero, List.set_cons_succ]
                refine rg_take (i := 18) (v := undef) rfl (by kernel_rfl) (by kernel_rfl) (by kernel_rfl) (fun _ _ _ h => h) (Or.inr ⟨by kernel_rfl, rfl⟩) (by assumption) ?_
                simp only [Act.put, List.setIfInBounds_toArray, List.set_cons_zero, List.set_cons_succ]
                refine rg_take (i := 19) (v := undef) rfl (by kernel_rfl) (by kernel_rfl) (by kernel_rfl) (fun _ _ _ h => h) (Or.inr ⟨by kernel_rfl, rfl⟩) (by assumption) ?_
                simp only [Act.put, List.setIfInBounds_toArray, List.set_cons_zero, List.set_cons_succ]
                refine rg_take (i := 20) (v := undef) rfl (by kernel_rfl) (by kernel_rfl) (by kernel_rfl) (fun _ _ _ h => h) (Or.inr ⟨by kernel_rfl, rfl⟩) (by assumption) ?_
                simp only [Act.put, List.setIfInBounds_toArray, List.set_cons_zero, List.set_cons_succ]
                refine rg_take (i := 21) (v := undef) rfl (by kernel_rfl) (by kernel_rfl) (by kernel_rfl) (fun _ _ _ h => h) (Or.inr ⟨by kernel_rfl, rfl⟩) (by assumption) ?_
                simp only [Act.put, List.setIfInBounds_toArray, List.set_cons_zero, List.set_cons_succ]
                refine rg_take (i := 22) (v := undef) rfl (by kernel_rfl) (by kernel_rfl) (by kernel_rfl) (fun _ _ _ h => h) (Or.inr ⟨by kernel_rfl, rfl⟩) (by assumption) ?_
                simp only [Act.put, List.setIfInBounds_toArray, List.set_cons_zero, List.set_cons_succ]
                refine rg_take (i := 23) (v := undef) rfl (by kernel_rfl) (by kernel_rfl) (by kernel_rfl) (fun _ _ _ h => h) (Or.inr ⟨by kernel_rfl, rfl⟩) (by assumption) ?_
                simp only [Act.put, List.setIfInBounds_toArray, List.set_cons_zero, List.set_cons_succ]
                refine rg_take (i := 24) (v := undef) rfl (by kernel_rfl) (by kernel_rfl) (by kernel_rfl) (fun _ _ _ h => h) (Or.inr ⟨by kernel_rfl, rfl⟩) (by assumption) ?_
                simp only [Act.put, List.setIfInBounds_toArray, List.set_cons_zero, List.set_cons_succ]
                refine rg_take (i := 25) (v := undef) rfl (by kernel_rfl) (by kernel_rfl) (by kernel_rfl) (fun _ _ _ h => h) (Or.inr ⟨by kernel_rfl, rfl⟩) (by assumption) ?_
                simp only [Act.put, List.setIfInBounds_toArray, List.set_cons_zero, List.set_cons_succ]
                refine rg_take (i := 26) (v := undef) rfl (by kernel_rfl) (by kernel_rfl) (by kernel_rfl) (fun _ _ _ h => h) (Or.inr ⟨by kernel_rfl, rfl⟩) (by assumption) ?_
                simp only [Act.put, List.setIfInBounds_toArray, List.set_cons_zero, List.set_cons_succ]
                refine rg_take (i := 27) (v := undef) rfl (by kernel_rfl) (by kernel_rfl) (by kernel_rfl) (fun _ _ _ h => h) (Or.inr ⟨by kernel_rfl, rfl⟩) (by assumption) ?_
                simp only [Act.put, List.setIfInBounds_toArray, List.set_cons_zero, List.set_cons_succ]
                refine rg_take (i := 28) (v := undef) rfl (by kernel_rfl) (by kernel_rfl) (by kernel_rfl) (fun _ _ _ h => h) (Or.inr ⟨by kernel_rfl, rfl⟩) (by assumption) ?_
                simp only [Act.put, List.setIfInBounds_toArray, List.set_cons_zero, List.set_cons_succ]
                refine rg_take (i := 29) (v := undef) rfl (by kernel_rfl) (by kernel_rfl) (by kernel_rfl) (fun _ _ _ h => h) (Or.inr ⟨by kernel_rfl, rfl⟩) (by assumption) ?_
                simp only [Act.put, List.setIfInBounds_toArray, List.set_cons_zero, List.set_cons_succ]
                refine rg_take (i := 30) (v := undef) rfl (by kernel_rfl) (by kernel_rfl) (by kernel_rfl) (fun _ _ _ h => h) (Or.inr ⟨by kernel_rfl, rfl⟩) (by assumption) ?_
                simp only [Act.put, List.setIfInBounds_toArray, List.set_cons_zero, List.set_cons_succ]
                refine rg_take (i := 31) (v := undef) rfl (by kernel_rfl) (by kernel_rfl) (by kernel_rfl) (fun _ _ _ h => h) (Or.inr ⟨by kernel_rfl, rfl⟩) (by assumption) ?_
                simp only [Act.put, List.setIfInBounds_toArray, List.set_cons_zero, List.set_cons_succ]
                refine rg_take (i := 32) (v := undef) rfl (by kernel_rfl) (by kernel_rfl) (by kernel_rfl) (fun _ _ _ h => h) (Or.inr ⟨by kernel_rfl, rfl⟩) (by assumption) ?_
                simp only [Act.put, List.setIfInBounds_toArray, List.set_cons_zero, List.set_cons_succ]
                refine rg_take (i := 33) (v := undef) rfl (by kernel_rfl) (by kernel_rfl) (by kernel_rfl) (fun _ _ _ h => h) (Or.inr ⟨by kernel_rfl, rfl⟩) (by assumption) ?_
                simp only [Act.put, List.setIfInBounds_toArray, List.set_cons_zero, List.set_cons_succ]
                refine rg_take (i := 34) (v := undef) rfl (by kernel_rfl) (by kernel_rfl) (by kernel_rfl) (fun _ _ _ h => h) (Or.inr ⟨by kernel_rfl, rfl⟩) (by assumption) ?_
                simp only [Act.put, List.setIfInBounds_toArray, List.set_cons_zero, List.set_cons_succ]
                refine rg_take (i := 35) (v := undef) rfl (by kernel_rfl) (by kernel_rfl) (by kernel_rfl) (fun _ _ _ h => h) (Or.inr ⟨by kernel_rfl, rfl⟩) (by assumption) ?_
                simp only [Act.put, List.setIfInBounds_toArray, List.set_cons_zero, List.set_cons_succ]
                refine rg_take (i := 36) (v := undef) rfl (by kernel_rfl) (by kernel_rfl) (by kernel_rfl) (fun _ _ _ h => h) (Or.inr ⟨by kernel_rfl, rfl⟩) (by assumption) ?_
                simp only [Act.put, List.setIfInBounds_toArray, List.set_cons_zero, List.set_cons_succ]
                refine rg_take (i := 37) (v := undef) rfl (by kernel_rfl) (by kernel_rfl) (by kernel_rfl) (fun _ _ _ h => h) (Or.inr ⟨by kernel_rfl, rfl⟩) (by assumption) ?_
                simp only [Act.put, List.setIfInBounds_toArray, List.set_cons_zero, List.set_cons_succ]
                refine rg_take (i := 38) (v := ?_) rfl (by kernel_rfl) (by kernel_rfl) (by kernel_rfl) (fun _ _ _ h => h) (Or.inl ⟨by kernel_rfl, ?_⟩) (by assumption) ?_
                rotate_left 1
                · intro w' hSw
                  try dsimp only at hSw
                  go_simp
                  first | done | with_reducible rfl
                simp only [Act.put, List.setIfInBounds_toArray, List.set_cons_zero, List.set_cons_succ]
                refine rg_take (i := 39) (v := ?_) rfl (by kernel_rfl) (by kernel_rfl) (by kernel_rfl) (fun _ _ _ h => h) (Or.inl ⟨by kernel_rfl, ?_⟩) (by assumption) ?_
                rotate_left 1
                · intro w' hSw
                  try dsimp only at hSw
                  go_simp
                  first | done | with_reducible rfl
                simp only [Act.put, List.setIfInBounds_toArray, List.set_cons_zero, List.set_cons_succ]
                refine wpAnyH_done (by kernel_rfl) ?_ _
                clear hHeld
                go_wp2_with (fail)
                refine ⟨⟨k + 1, by omega, by omega, by go_num, by rw [HALL.out]; unfold notN isN; skip; rfl, H9⟩, by simp [intOf]; omega⟩
              | true =>
                refine rg_take (i := 0) (v := ?_) rfl (by kernel_rfl) (by kernel_rfl) (by kernel_rfl) (fun _ _ _ h => h) (Or.inl ⟨by kernel_rfl, ?_⟩) (by assumption) ?_
                rotate_left 1
                · intro w' hSw
                  try dsimp only at hSw
                  go_simp
                  first | done | with_reducible rfl
                simp only [Act.put, List.setIfInBounds_toArray, List.set_cons_zero, List.set_cons_succ]
                refine rg_take (i := 1) (v := ?_) rfl (by kernel_rfl) (by kernel_rfl) (by kernel_rfl) (fun _ _ _ h => h) (Or.inl ⟨by kernel_rfl, ?_⟩) (by assumption) ?_
                rotate_left 1
                · intro w' hSw
                  try dsimp only at hSw
                  go_simp
                  first | done | with_reducible rfl
                simp only [Act.put, List.setIfInBounds_toArray, List.set_cons_zero, List.set_cons_succ]
                refine rg_take (i := 2) (v := ?_) rfl (by kernel_rfl) (by kernel_rfl) (by kernel_rfl) (fun _ _ _ h => h) (Or.inl ⟨by kernel_rfl, ?_⟩) (by assumption) ?_
                rotate_left 1
                · intro w' hSw
                  try dsimp only at hSw
                  go_simp
                  first | done | with_reducible rfl
                simp only [Act.put, List.setIfInBounds_toArray, List.set_cons_zero, List.set_cons_succ]
                refine rg_take (i := 3) (v := ?_) rfl (by kernel_rfl) (by kernel_rfl) (by kernel_rfl) (fun _ _ _ h => h) (Or.inl ⟨by kernel_rfl, ?_⟩) (by assumption) ?_
                rotate_left 1
                · intro w' hSw
                  try dsimp only at hSw
                  go_simp
                  first | done | with_reducible rfl
                simp only [Act.put, List.setIfInBounds_toArray, List.set_cons_zero, List.set_cons_succ]
                refine rg_take (i := 4) (v := ?_) rfl (by kernel_rfl) (by kernel_rfl) (by kernel_rfl) (fun _ _ _ h => h) (Or.inl ⟨by kernel_rfl, ?_⟩) (by assumption) ?_
                rotate_left 1
                · intro w' hSw
                  try dsimp only at hSw
                  go_simp
                  first | done | with_reducible rfl
                simp only [Act.put, List.setIfInBounds_toArray, List.set_cons_zero, List.set_cons_succ]
                refine rg_take (i := 5) (v := ?_) rfl (by kernel_rfl) (by kernel_rfl) (by kernel_rfl) (fun _ _ _ h => h) (Or.inl ⟨by kernel_rfl, ?_⟩) (by assumption) ?_
                rotate_left 1
                · intro w' hSw
                  try dsimp only at hSw
                  go_simp
                  first | done | with_reducible rfl
                simp only [Act.put, List.setIfInBounds_toArray, List.set_cons_zero, List.set_cons_succ]
                refine rg_take (i := 6) (v := ?_) rfl (by kernel_rfl) (by kernel_rfl) (by kernel_rfl) (fun _ _ _ h => h) (Or.inl ⟨by kernel_rfl, ?_⟩) (by assumption) ?_
                rotate_left 1
                · intro w' hSw
                  try dsimp only at hSw
                  go_simp
                  first | done | with_reducible rfl
                simp only [Act.put, List.setIfInBounds_toArray, List.set_cons_zero, List.set_cons_succ]
                refine rg_take (i := 7) (v := ?_) rfl (by kernel_rfl) (by kernel_rfl) (by kernel_rfl) (fun _ _ _ h => h) (Or.inl ⟨by kernel_rfl, ?_⟩) (by assumption) ?_
                rotate_left 1
                · intro w' hSw
                  try dsimp only at hSw
                  go_simp
                  first | done | with_reducible rfl
                simp only [Act.put, List.setIfInBounds_toArray, List.set_cons_zero, List.set_cons_succ]
                refine rg_take (i := 8) (v := ?_) rfl (by kernel_rfl) (by kernel_rfl) (by kernel_rfl) (fun _ _ _ h => h) (Or.inl ⟨by kernel_rfl, ?_⟩) (by assumption) ?_
                rotate_left 1
                · intro w' hSw
                  try dsimp only at hSw
                  go_simp
                  first | done | with_reducible rfl
                simp only [Act.put, List.setIfInBounds_toArray, List.set_cons_zero, List.set_cons_succ]
                refine rg_take (i := 9) (v := ?_) rfl (by kernel_rfl) (by kernel_rfl) (by kernel_rfl) (fun _ _ _ h => h) (Or.inl ⟨by kernel_rfl, ?_⟩) (by assumption) ?_
                rotate_left 1
                · intro w' hSw
                  try dsimp only at hSw
                  go_simp
                  first | done | with_reducible rfl
                simp only [Act.put, List.setIfInBounds_toArray, List.set_cons_zero, List.set_cons_succ]
                refine rg_take (i := 10) (v := ?_) rfl (by kernel_rfl) (by kernel_rfl) (by kernel_rfl) (fun _ _ _ h => h) (Or.inl ⟨by kernel_rfl, ?_⟩) (by assumption) ?_
                rotate_left 1
                · intro w' hSw
                  try dsimp only at hSw
                  go_simp
                  first | done | with_reducible rfl
                simp only [Act.put, List.setIfInBounds_toArray, List.set_cons_zero, List.set_cons_succ]
                refine rg_take (i := 11) (v := ?_) rfl (by kernel_rfl) (by kernel_rfl) (by kernel_rfl) (fun _ _ _ h => h) (Or.inl ⟨by kernel_rfl, ?_⟩) (by assumption) ?_
                rotate_left 1
                · intro w' hSw
                  try dsimp only at hSw
                  go_simp
                  first | done | with_reducible rfl
                simp only [Act.put, List.setIfInBounds_toArray, List.set_cons_zero, List.set_cons_succ]
                refine rg_take (i := 12) (v := ?_) rfl (by kernel_rfl) (by kernel_rfl) (by kernel_rfl) (fun _ _ _ h => h) (Or.inl ⟨by kernel_rfl, ?_⟩) (by assumption) ?_
                rotate_left 1
                · intro w' hSw
                  try dsimp only at hSw
                  go_simp
                  first | done | with_reducible rfl
                simp only [Act.put, List.setIfInBounds_toArray, List.set_cons_zero, List.set_cons_succ]
                refine rg_take (i := 13) (v := ?_) rfl (by kernel_rfl) (by kernel_rfl) (by kernel_rfl) (fun _ _ _ h => h) (Or.inl ⟨by kernel_rfl, ?_⟩) (by assumption) ?_
                rotate_left 1
                · intro w' hSw
                  try dsimp only at hSw
                  go_simp
                  first | done | with_reducible rfl
                simp only [Act.put, List.setIfInBounds_toArray, List.set_cons_zero, List.set_cons_succ]
                refine rg_take (i := 14) (v := ?_) rfl (by kernel_rfl) (by kernel_rfl) (by kernel_rfl) (fun _ _ _ h => h) (Or.inl ⟨by kernel_rfl, ?_⟩) (by assumption) ?_
                rotate_left 1
                · intro w' hSw
                  try dsimp only at hSw
                  go_simp
                  first | done | with_reducible rfl
                simp only [Act.put, List.setIfInBounds_toArray, List.set_cons_zero, List.set_cons_succ]
                refine rg_take (i := 15) (v := ?_) rfl (by kernel_rfl) (by kernel_rfl) (by kernel_rfl) (fun _ _ _ h => h) (Or.inl ⟨by kernel_rfl, ?_⟩) (by assumption) ?_
                rotate_left 1
                · intro w' hSw
                  try dsimp only at hSw
                  go_simp
                  first | done | with_reducible rfl
                simp only [Act.put, List.setIfInBounds_toArray, List.set_cons_zero, List.set_cons_succ]
                refine rg_take (i := 16) (v := ?_) rfl (by kernel_rfl) (by kernel_rfl) (by kernel_rfl) (fun _ _ _ h => h) (Or.inl ⟨by kernel_rfl, ?_⟩) (by assumption) ?_
                rotate_left 1
                · intro w' hSw
                  try dsimp only at hSw
                  go_simp
                  first | done | with_reducible rfl
                simp only [Act.put, List.setIfInBounds_toArray, List.set_cons_zero, List.set_cons_succ]
                refine rg_take (i := 17) (v := ?_) rfl (by kernel_rfl) (by kernel_rfl) (by kernel_rfl) (fun _ _ _ h => h) (Or.inl ⟨by kernel_rfl, ?_⟩) (by assumption) ?_
                rotate_left 1
                · intro w' hSw
                  try dsimp only at hSw
                  go_simp
                  first | done | with_reducible rfl
                simp only [Act.put, List.setIfInBounds_toArray, List.set_cons_zero, List.set_cons_succ]
                cases hd : decide (y.d = x.d) with
                | false =>
                  rw [hd] at ht
                  refine rg_take (i := 18) (v := ?_) rfl (by kernel_rfl) (by kernel_rfl) (by kernel_rfl) (fun _ _ _ h => h) (Or.inl ⟨by kernel_rfl, ?_⟩) (by assumption) ?_
                  rotate_left 1
                  · intro w' hSw
                    try dsimp only at hSw
                    go_simp
                    first | done | with_reducible rfl
                  simp only [Act.put, List.setIfInBounds_toArray, List.set_cons_zero, List.set_cons_succ]
                  refine rg_take (i := 19) (v := ?_) rfl (by kernel_rfl) (by kernel_rfl) (by kernel_rfl) (fun _ _ _ h => h) (Or.inl ⟨by kernel_rfl, ?_⟩) (by assumption) ?_
                  rotate_left 1
                  · intro w' hSw
                    try dsimp only at hSw
                    go_simp
                    first | done | with_reducible rfl
                  simp only [Act.put, List.setIfInBounds_toArray, List.set_cons_zero, List.set_cons_succ]
                  refine rg_take (i := 20) (v := undef) rfl (by kernel_rfl) (by kernel_rfl) (by kernel_rfl) (fun _ _ _ h => h) (Or.inr ⟨by kernel_rfl, rfl⟩) (by assumption) ?_
                  simp only [Act.put, List.setIfInBounds_toArray, List.set_cons_zero, List.set_cons_succ]
                  refine rg_take (i := 21) (v := undef) rfl (by kernel_rfl) (by kernel_rfl) (by kernel_rfl) (fun _ _ _ h => h) (Or.inr ⟨by kernel_rfl, rfl⟩) (by assumption) ?_
                  simp only [Act.put, List.setIfInBounds_toArray, List.set_cons_zero, List.set_cons_succ]
                  refine rg_take (i := 22) (v := undef) rfl (by kernel_rfl) (by kernel_rfl) (by kernel_rfl) (fun _ _ _ h => h) (Or.inr ⟨by kernel_rfl, rfl⟩) (by assumption) ?_
                  simp only [Act.put, List.setIfInBounds_toArray, List.set_cons_zero, List.set_cons_succ]
                  refine rg_take (i := 23) (v := undef) rfl (by kernel_rfl) (by kernel_rfl) (by kernel_rfl) (fun _ _ _ h => h) (Or.inr ⟨by kernel_rfl, rfl⟩) (by assumption) ?_
                  simp only [Act.put, List.setIfInBounds_toArray, List.set_cons_zero, List.set_cons_succ]
                  refine rg_take (i := 24) (v := undef) rfl (by kernel_rfl) (by kernel_rfl) (by kernel_rfl) (fun _ _ _ h => h) (Or.inr ⟨by kernel_rfl, rfl⟩) (by assumption) ?_
                  simp only [Act.put, List.setIfInBounds_toArray, List.set_cons_zero, List.set_cons_succ]
                  refine rg_take (i := 25) (v := undef) rfl (by kernel_rfl) (by kernel_rfl) (by kernel_rfl) (fun _ _ _ h => h) (Or.inr ⟨by kernel_rfl, rfl⟩) (by assumption) ?_
                  simp only [Act.put, List.setIfInBounds_toArray, List.set_cons_zero, List.set_cons_succ]
                  refine rg_take (i := 26) (v := undef) rfl (by kernel_rfl) (by kernel_rfl) (by kernel_rfl) (fun _ _ _ h => h) (Or.inr ⟨by kernel_rfl, rfl⟩) (by assumption) ?_
                  simp only [Act.put, List.setIfInBounds_toArray, List.set_cons_zero, List.set_cons_succ]
                  refine rg_take (i := 27) (v := undef) rfl (by kernel_rfl) (by kernel_rfl) (by kernel_rfl) (fun _ _ _ h => h) (Or.inr ⟨by kernel_rfl, rfl⟩) (by assumption) ?_
                  simp only [Act.put, List.setIfInBounds_toArray, List.set_cons_zero, List.set_cons_succ]
                  refine rg_take (i := 28) (v := undef) rfl (by kernel_rfl) (by kernel_rfl) (by kernel_rfl) (fun _ _ _ h => h) (Or.inr ⟨by kernel_rfl, rfl⟩) (by assumption) ?_
                  simp only [Act.put, List.setIfInBounds_toArray, List.set_cons_zero, List.set_cons_succ]
                  refine rg_take (i := 29) (v := undef) rfl (by kernel_rfl) (by kernel_rfl) (by kernel_rfl) (fun _ _ _ h => h) (Or.inr ⟨by kernel_rfl, rfl⟩) (by assumption) ?_
                  simp only [Act.put, List.setIfInBounds_toArray, List.set_cons_zero, List.set_cons_succ]
                  refine rg_take (i := 30) (v := undef) rfl (by kernel_rfl) (by kernel_rfl) (by kernel_rfl) (fun _ _ _ h => h) (Or.inr ⟨by kernel_rfl, rfl⟩) (by assumption) ?_
                  simp only [Act.put, List.setIfInBounds_toArray, List.set_cons_zero, List.set_cons_succ]
                  refine rg_take (i := 31) (v := undef) rfl (by kernel_rfl) (by kernel_rfl) (by kernel_rfl) (fun _ _ _ h => h) (Or.inr ⟨by kernel_rfl, rfl⟩) (by assumption) ?_
                  simp only [Act.put, List.setIfInBounds_toArray, List.set_cons_zero, List.set_cons_succ]
                  refine rg_take (i := 32) (v := undef) rfl (by kernel_rfl) (by kernel_rfl) (by kernel_rfl) (fun _ _ _ h => h) (Or.inr ⟨by kernel_rfl, rfl⟩) (by assumption) ?_
                  simp only [Act.put, List.setIfInBounds_toArray, List.set_cons_zero, List.set_cons_succ]
                  refine rg_take (i := 33) (v := undef) rfl (by kernel_rfl) (by kernel_rfl) (by kernel_rfl) (fun _ _ _ h => h) (Or.inr ⟨by kernel_rfl, rfl⟩) (by assumption) ?_
                  simp only [Act.put, List.setIfInBounds_toArray, List.set_cons_zero, List.set_cons_succ]
                  refine rg_take (i := 34) (v := undef) rfl (by kernel_rfl) (by kernel_rfl) (by kernel_rfl) (fun _ _ _ h => h) (Or.inr ⟨by kernel_rfl, rfl⟩) (by assumption) ?_
                  simp only [Act.put, List.setIfInBounds_toArray, List.set_cons_zero, List.set_cons_succ]
                  refine rg_take (i := 35) (v := undef) rfl (by kernel_rfl) (by kernel_rfl) (by kernel_rfl) (fun _ _ _ h => h) (Or.inr ⟨by kernel_rfl, rfl⟩) (by assumption) ?_
                  simp only [Act.put, List.setIfInBounds_toArray, List.set_cons_zero, List.set_cons_succ]
                  refine rg_take (i := 36) (v := undef) rfl (by kernel_rfl) (by kernel_rfl) (by kernel_rfl) (fun _ _ _ h => h) (Or.inr ⟨by kernel_rfl, rfl⟩) (by assumption) ?_
                  simp only [Act.put, List.setIfInBounds_toArray, List.set_cons_zero, List.set_cons_succ]
                  refine rg_take (i := 37) (v := ?_) rfl (by kernel_rfl) (by kernel_rfl) (by kernel_rfl) (fun _ _ _ h => h) (Or.inl ⟨by kernel_rfl, ?_⟩) (by assumption) ?_
                  rotate_left 1
                  · intro w' hSw
                    try dsimp only at hSw
                    go_simp
                    first | done | with_reducible rfl
                  simp only [Act.put, List.setIfInBounds_toArray, List.set_cons_zero, List.set_cons_succ]
                  refine rg_take (i := 38) (v := ?_) rfl (by kernel_rfl) (by kernel_rfl) (by kernel_rfl) (fun _ _ _ h => h) (Or.inl ⟨by kernel_rfl, ?_⟩) (by assumption) ?_
                  rotate_left 1
                  · intro w' hSw
                    try dsimp only at hSw
                    go_simp
                    first | done | with_reducible rfl
                  simp only [Act.put, List.setIfInBounds_toArray, List.set_cons_zero, List.set_cons_succ]
                  refine rg_take (i := 39) (v := ?_) rfl (by kernel_rfl) (by kernel_rfl) (by kernel_rfl) (fun _ _ _ h => h) (Or.inl ⟨by kernel_rfl, ?_⟩) (by assumption) ?_
                  rotate_left 1
                  · intro w' hSw
                    try dsimp only at hSw
                    go_simp
                    first | done | with_reducible rfl
                  simp only [Act.put, List.setIfInBounds_toArray, List.set_cons_zero, List.set_cons_succ]
                  refine wpAnyH_done (by kernel_rfl) ?_ _
                  clear hHeld
                  go_wp2_with (fail)
                  refine ⟨⟨k + 1, by omega, by omega, by go_num, by rw [HALL.out]; unfold notN isN; rw [hd]; rfl, H9⟩, by simp [intOf]; omega⟩
                | true =>
                  rw [hd] at ht
                  refine rg_take (i := 18) (v := ?_) rfl (by kernel_rfl) (by kernel_rfl) (by kernel_rfl) (fun _ _ _ h => h) (Or.inl ⟨by kernel_rfl, ?_⟩) (by assumption) ?_
                  rotate_left 1
                  · intro w' hSw
                    try dsimp only at hSw
                    go_simp
                    first | done | with_reducible rfl
                  simp only [Act.put, List.setIfInBounds_toArray, List.set_cons_zero, List.set_cons_succ]
                  refine rg_take (i := 19) (v := ?_) rfl (by kernel_rfl) (by kernel_rfl) (by kernel_rfl) (fun _ _ _ h => h) (Or.inl ⟨by kernel_rfl, ?_⟩) (by assumption) ?_
                  rotate_left 1
                  · intro w' hSw
                    try dsimp only at hSw
                    go_simp
                    first | done | with_reducible rfl
                  simp only [Act.put, List.setIfInBounds_toArray, List.set_cons_zero, List.set_cons_succ]
                  refine rg_take (i := 20) (v := ?_) rfl (by kernel_rfl) (by kernel_rfl) (by kernel_rfl) (fun _ _ _ h => h) (Or.inl ⟨by kernel_rfl, ?_⟩) (by assumption) ?_
                  rotate_left 1
                  · intro w' hSw
                    try dsimp only at hSw
                    go_simp
                    first | done | with_reducible rfl
                  simp only [Act.put, List.setIfInBounds_toArray, List.set_cons_zero, List.set_cons_succ]
                  refine rg_take (i := 21) (v := ?_) rfl (by kernel_rfl) (by kernel_rfl) (by kernel_rfl) (fun _ _ _ h => h) (Or.inl ⟨by kernel_rfl, ?_⟩) (by assumption) ?_
                  rotate_left 1
                  · intro w' hSw
                    try dsimp only at hSw
                    go_simp
                    first | done | with_reducible rfl
                  simp only [Act.put, List.setIfInBounds_toArray, List.set_cons_zero, List.set_cons_succ]
                  refine rg_take (i := 22) (v := ?_) rfl (by kernel_rfl) (by kernel_rfl) (by kernel_rfl) (fun _ _ _ h => h) (Or.inl ⟨by kernel_rfl, ?_⟩) (by assumption) ?_
                  rotate_left 1
                  · intro w' hSw
                    try dsimp only at hSw
                    go_simp
                    first | done | with_reducible rfl
                  simp only [Act.put, List.setIfInBounds_toArray, List.set_cons_zero, List.set_cons_succ]
                  refine rg_take (i := 23) (v := ?_) rfl (by kernel_rfl) (by kernel_rfl) (by kernel_rfl) (fun _ _ _ h => h) (Or.inl ⟨by kernel_rfl, ?_⟩) (by assumption) ?_
                  rotate_left 1
                  · intro w' hSw
                    try dsimp only at hSw
                    go_simp
                    first | done | with_reducible rfl
                  simp only [Act.put, List.setIfInBounds_toArray, List.set_cons_zero, List.set_cons_succ]
                  refine rg_take (i := 24) (v := ?_) rfl (by kernel_rfl) (by kernel_rfl) (by kernel_rfl) (fun _ _ _ h => h) (Or.inl ⟨by kernel_rfl, ?_⟩) (by assumption) ?_
                  rotate_left 1
                  · intro w' hSw
                    try dsimp only at hSw
                    go_simp
                    first | done | with_reducible rfl
                  simp only [Act.put, List.setIfInBounds_toArray, List.set_cons_zero, List.set_cons_succ]
                  refine rg_take (i := 25) (v := ?_) rfl (by kernel_rfl) (by kernel_rfl) (by kernel_rfl) (fun _ _ _ h => h) (Or.inl ⟨by kernel_rfl, ?_⟩) (by assumption) ?_
                  rotate_left 1
                  · intro w' hSw
                    try dsimp only at hSw
                    go_simp
                    first | done | with_reducible rfl
                  simp only [Act.put, List.setIfInBounds_toArray, List.set_cons_zero, List.set_cons_succ]
                  refine rg_take (i := 26) (v := ?_) rfl (by kernel_rfl) (by kernel_rfl) (by kernel_rfl) (fun _ _ _ h => h) (Or.inl ⟨by kernel_rfl, ?_⟩) (by assumption) ?_
                  rotate_left 1
                  · intro w' hSw
                    try dsimp only at hSw
                    go_simp
                    first | done | with_reducible rfl
                  simp only [Act.put, List.setIfInBounds_toArray, List.set_cons_zero, List.set_cons_succ]
                  refine rg_take (i := 27) (v := ?_) rfl (by kernel_rfl) (by kernel_rfl) (by kernel_rfl) (fun _ _ _ h => h) (Or.inl ⟨by kernel_rfl, ?_⟩) (by assumption) ?_
                  rotate_left 1
                  · intro w' hSw
                    try dsimp only at hSw
                    go_simp
                    first | done | with_reducible rfl
                  simp only [Act.put, List.setIfInBounds_toArray, List.set_cons_zero, List.set_cons_succ]
                  refine rg_take (i := 28) (v := ?_) rfl (by kernel_rfl) (by kernel_rfl) (by kernel_rfl) (fun _ _ _ h => h) (Or.inl ⟨by kernel_rfl, ?_⟩) (by assumption) ?_
                  rotate_left 1
                  · intro w' hSw
                    try dsimp only at hSw
                    go_simp
                    first | done | with_reducible rfl
                  simp only [Act.put, List.setIfInBounds_toArray, List.set_cons_zero, List.set_cons_succ]
                  refine rg_take (i := 29) (v := ?_) rfl (by kernel_rfl) (by kernel_rfl) (by kernel_rfl) (fun _ _ _ h => h) (Or.inl ⟨by kernel_rfl, ?_⟩) (by assumption) ?_
                  rotate_left 1
                  · intro w' hSw
                    try dsimp only at hSw
                    go_simp
                    first | done | with_reducible rfl
                  simp only [Act.put, List.setIfInBounds_toArray, List.set_cons_zero, List.set_cons_succ]
                  refine rg_take (i := 30) (v := ?_) rfl (by kernel_rfl) (by kernel_rfl) (by kernel_rfl) (fun _ _ _ h => h) (Or.inl ⟨by kernel_rfl, ?_⟩) (by assumption) ?_
                  rotate_left 1
                  · intro w' hSw
                    try dsimp only at hSw
                    go_simp
                    first | done | with_reducible rfl
                  simp only [Act.put, List.setIfInBounds_toArray, List.set_cons_zero, List.set_cons_succ]
                  refine rg_take (i := 31) (v := ?_) rfl (by kernel_rfl) (by kernel_rfl) (by kernel_rfl) (fun _ _ _ h => h) (Or.inl ⟨by kernel_rfl, ?_⟩) (by assumption) ?_
                  rotate_left 1
                  · intro w' hSw
                    try dsimp only at hSw
                    go_simp
                    first | done | with_reducible rfl
                  simp only [Act.put, List.setIfInBounds_toArray, List.set_cons_zero, List.set_cons_succ]
                  refine rg_take (i := 32) (v := ?_) rfl (by kernel_rfl) (by kernel_rfl) (by kernel_rfl) (fun _ _ _ h => h) (Or.inl ⟨by kernel_rfl, ?_⟩) (by assumption) ?_
                  rotate_left 1
                  · intro w' hSw
                    try dsimp only at hSw
                    go_simp
                    first | done | with_reducible rfl
                  simp only [Act.put, List.setIfInBounds_toArray, List.set_cons_zero, List.set_cons_succ]
                  refine rg_take (i := 33) (v := ?_) rfl (by kernel_rfl) (by kernel_rfl) (by kernel_rfl) (fun _ _ _ h => h) (Or.inl ⟨by kernel_rfl, ?_⟩) (by assumption) ?_
                  rotate_left 1
                  · intro w' hSw
                    try dsimp only at hSw
                    go_simp
                    first | done | with_reducible rfl
                  simp only [Act.put, List.setIfInBounds_toArray, List.set_cons_zero, List.set_cons_succ]
                  refine rg_take (i := 34) (v := ?_) rfl (by kernel_rfl) (by kernel_rfl) (by kernel_rfl) (fun _ _ _ h => h) (Or.inl ⟨by kernel_rfl, ?_⟩) (by assumption) ?_
                  rotate_left 1
                  · intro w' hSw
                    try dsimp only at hSw
                    go_simp
                    first | done | with_reducible rfl
                  simp only [Act.put, List.setIfInBounds_toArray, List.set_cons_zero, List.set_cons_succ]
                  refine rg_take (i := 35) (v := ?_) rfl (by kernel_rfl) (by kernel_rfl) (by kernel_rfl) (fun _ _ _ h => h) (Or.inl ⟨by kernel_rfl, ?_⟩) (by assumption) ?_
                  rotate_left 1
                  · intro w' hSw
                    try dsimp only at hSw
                    go_simp
                    first | done | with_reducible rfl
                  simp only [Act.put, List.setIfInBounds_toArray, List.set_cons_zero, List.set_cons_succ]
                  cases hd2 : decide (y.s = x.s) with
                  | false =>
                    rw [hd2] at hu
                    refine rg_take (i := 36) (v := ?_) rfl (by kernel_rfl) (by kernel_rfl) (by kernel_rfl) (fun _ _ _ h => h) (Or.inl ⟨by kernel_rfl, ?_⟩) (by assumption) ?_
                    rotate_left 1
                    · intro w' hSw
                      try dsimp only at hSw
                      go_simp
                      first | done | with_reducible rfl
                    simp only [Act.put, List.setIfInBounds_toArray, List.set_cons_zero, List.set_cons_succ]
                    refine rg_take (i := 37) (v := ?_) rfl (by kernel_rfl) (by kernel_rfl) (by kernel_rfl) (fun _ _ _ h => h) (Or.inl ⟨by kernel_rfl, ?_⟩) (by assumption) ?_
                    rotate_left 1
                    · intro w' hSw
                      try dsimp only at hSw
                      go_simp
                      first | done | with_reducible rfl
                    simp only [Act.put, List.setIfInBounds_toArray, List.set_cons_zero, List.set_cons_succ]
                    refine rg_take (i := 38) (v := ?_) rfl (by kernel_rfl) (by kernel_rfl) (by kernel_rfl) (fun _ _ _ h => h) (Or.inl ⟨by kernel_rfl, ?_⟩) (by assumption) ?_
                    rotate_left 1
                    · intro w' hSw
                      try dsimp only at hSw
                      go_simp
                      first | done | with_reducible rfl
                    simp only [Act.put, List.setIfInBounds_toArray, List.set_cons_zero, List.set_cons_succ]
                    refine rg_take (i := 39) (v := ?_) rfl (by kernel_rfl) (by kernel_rfl) (by kernel_rfl) (fun _ _ _ h => h) (Or.inl ⟨by kernel_rfl, ?_⟩) (by assumption) ?_
                    rotate_left 1
                    · intro w' hSw
                      try dsimp only at hSw
                      go_simp
                      first | done | with_reducible rfl
                    simp only [Act.put, List.setIfInBounds_toArray, List.set_cons_zero, List.set_cons_succ]
                    refine wpAnyH_done (by kernel_rfl) ?_ _
                    clear hHeld
                    go_wp2_with (fail)
                    refine ⟨⟨k + 1, by omega, by omega, by go_num, by rw [HALL.out]; unfold notN isN; rw [hd, hd2]; rfl, H9⟩, by simp [intOf]; omega⟩
                  | true =>
                    rw [hd2] at hu
                    refine rg_take (i := 36) (v := ?_) rfl (by kernel_rfl) (by kernel_rfl) (by kernel_rfl) (fun _ _ _ h => h) (Or.inl ⟨by kernel_rfl, ?_⟩) (by assumption) ?_
                    rotate_left 1
                    · intro w' hSw
                      try dsimp only at hSw
                      go_simp
                      first | done | with_reducible rfl
                    simp only [Act.put, List.setIfInBounds_toArray, List.set_cons_zero, List.set_cons_succ]
                    refine rg_take (i := 37) (v := ?_) rfl (by kernel_rfl) (by kernel_rfl) (by kernel_rfl) (fun _ _ _ h => h) (Or.inl ⟨by kernel_rfl, ?_⟩) (by assumption) ?_
                    rotate_left 1
                    · intro w' hSw
                      try dsimp only at hSw
                      go_simp
                      first | done | with_reducible rfl
                    simp only [Act.put, List.setIfInBounds_toArray, List.set_cons_zero, List.set_cons_succ]
                    refine rg_take (i := 38) (v := ?_) rfl (by kernel_rfl) (by kernel_rfl) (by kernel_rfl) (fun _ _ _ h => h) (Or.inl ⟨by kernel_rfl, ?_⟩) (by assumption) ?_
                    rotate_left 1
                    · intro w' hSw
                      try dsimp only at hSw
                      go_simp
                      first | done | with_reducible rfl
                    simp only [Act.put, List.setIfInBounds_toArray, List.set_cons_zero, List.set_cons_succ]
                    refine rg_take (i := 39) (v := ?_) rfl (by kernel_rfl) (by kernel_rfl) (by kernel_rfl) (fun _ _ _ h => h) (Or.inl ⟨by kernel_rfl, ?_⟩) (by assumption) ?_
                    rotate_left 1
                    · intro w' hSw
                      try dsimp only at hSw
                      go_simp
                      first | done | with_reducible rfl
                    simp only [Act.put, List.setIfInBounds_toArray, List.set_cons_zero, List.set_cons_succ]
                    refine wpAnyH_done (by kernel_rfl) ?_ _
                    clear hHeld
                    go_wp2_with (fail)
                    refine ⟨⟨k + 1, by omega, by omega, by go_num, by rw [HALL.out]; unfold notN isN; rw [hd, hd2]; rfl, H9⟩, by simp [intOf]; omega⟩
            · obtain rfl : m = k := by omega
              have hl2 : la = (r.nl.drop (i + 1)).all (notN x.d x.s) := by
                have := HLA.out
                rw [List.take_of_length_le (by rw [List.length_drop, ← HM.out]; omega)] at this
                exact this
              have HL2 := Lib.hid hl2; clear hl2 HLA hlt2
              obtain ⟨_, _, hA, j0, jj⟩ := rows_get ncell (H8.ord 5 [3, 0, 1, 2, 4]) HX.out HM.out.symm
              cases hA
              have d0 := j0 _ rfl
              have d1 := jj 1 _ rfl
              have d2 := jj 2 _ rfl
              have d3 := jj 3 _ rfl
              have ht := tl x.d h
              have hu := tl x.h h
              clear j0 jj
              cases la with
              | false =>
                have hok : okN h x (r.nl.drop (i + 1)) = false := by unfold okN; rw [← HL2.out]; skip; rfl
                have hnew : out ++ keepN h (r.nl.drop (i + 1)) = keepN h r.nl := by
                  have h1 := HST.out
                  rw [hok, if_neg (by decide)] at h1
                  rw [← h1]; exact HOUT.out
                have HNEW := Lib.hid hnew; clear hnew hok
                go_wp2_with (fail)
                refine ⟨⟨i + 1, by omega, by go_num, out.length, A, c, out, rfl, rfl, by omega, HNEW.out, H8⟩, by simp [intOf]; omega⟩
              | true =>
                cases hd : decide (x.d = h) with
                | true =>
                  rw [hd] at ht
                  have hok : okN h x (r.nl.drop (i + 1)) = false := by unfold okN; rw [← HL2.out]; rw [hd]; rfl
                  have hnew : out ++ keepN h (r.nl.drop (i + 1)) = keepN h r.nl := by
                    have h1 := HST.out
                    rw [hok, if_neg (by decide)] at h1
                    rw [← h1]; exact HOUT.out
                  have HNEW := Lib.hid hnew; clear hnew hok
                  go_wp2_with (fail)
                  refine ⟨⟨i + 1, by omega, by go_num, out.length, A, c, out, rfl, rfl, by omega, HNEW.out, H8⟩, by simp [intOf]; omega⟩
                | false =>
                  rw [hd] at ht
                  cases hd2 : decide (x.h = h) with
                  | true =>
                    rw [hd2] at hu
                    have hok : okN h x (r.nl.drop (i + 1)) = false := by unfold okN; rw [← HL2.out]; rw [hd, hd2]; rfl
                    have hnew : out ++ keepN h (r.nl.drop (i + 1)) = keepN h r.nl := by
                      have h1 := HST.out
                      rw [hok, if_neg (by decide)] at h1
                      rw [← h1]; exact HOUT.out
                    have HNEW := Lib.hid hnew; clear hnew hok
                    go_wp2_with (fail)
                    refine ⟨⟨i + 1, by omega, by go_num, out.length, A, c, out, rfl, rfl, by omega, HNEW.out, H8⟩, by simp [intOf]; omega⟩
                  | false =>
                    rw [hd2] at hu
                    have hok : okN h x (r.nl.drop (i + 1)) = true := by unfold okN; rw [← HL2.out, hd, hd2]; rfl
                    have hnew : (out ++ [x]) ++ keepN h (r.nl.drop (i + 1)) = keepN h r.nl := by
                      have h1 := HST.out
                      rw [hok, if_pos rfl] at h1
                      rw [List.append_assoc, List.singleton_append, ← h1]; exact HOUT.out
                    have HNEW := Lib.hid hnew; clear hnew hok
                    go_wp2_with (at_builtin; refine wpList_append_st (by rfl) _ _ _ (by rfl) 58 i0 (.agg #[.string ⟨#[]⟩, .string ⟨#[]⟩, .string ⟨#[]⟩, .int .i64 0]) 4 56 Try.underlying52 hi hz0 hz1 hz2 rfl (by decide) A out.length c _ (H8.more _) (by rfl) ⟨_, 0, none⟩ 1 1 x.cells (by rfl) rfl (World.news_of_block (heap_alloc_new _ _)) (fun u hu => by simp [NR.cells] at hu; rcases hu with rfl | rfl | rfl | rfl <;> rfl) (by unfold maxLen; omega) (by omega) ?_; intro A4 c4 w4 H9)
                    rw [← flat_snoc] at H9
                    refine ⟨⟨i + 1, by omega, by go_num, out.length + 1, A4, c4, out ++ [x], rfl, by simp, by omega, HNEW.out, H9⟩, by simp [intOf]; omega⟩
        · obtain rfl : m = i := by omega
          rw [List.drop_of_length_le (by rw [← HM.out]; exact Nat.le_refl _)] at hout
          rw [show keepN h [] = [] from rfl, List.append_nil] at hout
          have HO := Lib.hid hout; clear hout hlt
          have f3 := H7.r2.frozen 2
          have H8 := H7.r2.set 2 (.slice A out.length c)
          go_wp2_with (fail)
          go_end0
          have HF : St w0 _ (RCx ⟨r.b, r.age, fl, out, pl⟩ :: F) := St.shutR (r := ⟨r.b, r.age, fl, out, pl⟩) rfl rfl rfl (H8.ord 5 [3, 0, 2, 1, 4] |>.tail)
          have heq : (⟨r.b, r.age, fl, out, pl⟩ : RC) = ⟨r.b, r.age, r.fl.filter (notF h), keepN h r.nl, r.pl.filter (notP h)⟩ := by rw [HO.out, HFL.out, HPL.out]
          rw [heq] at HF
          exact ⟨rfl, HF⟩
end Go.Proofs.Ytnehdcaobkedpaa.Ca

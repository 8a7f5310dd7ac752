/- Layer 21: a net in memory; choices. -/
import Derived.Test.YtpeoajmlmkmffaaProg
import Derived.Test.YtpeoajmlmkmffaaXdrP
import Derived.Test.YtpeoajmlmkmffaaSLA
import Derived.Test.YtpeoajmlmkmffaaBits
import Derived.WalkSpells
namespace Go.Proofs.Ytpeoajmlmkmffaa
open Go.RowKit

theorem infoInt : (Try.prog.info? 3).map (fun i => (i.zero, i.size, i.bytes)) = some (some (.int .i64 0), 1, 8) := by kernel_rfl
theorem infoStr : (Try.prog.info? 9).map (fun i => (i.zero, i.size, i.bytes)) = some (some (.string ByteArray.empty), 1, 16) := by kernel_rfl
theorem infoLate : (Try.prog.info? 32).map (fun i => (i.zero, i.size, i.bytes)) = some (some (.agg #[.int .i64 0, .string ByteArray.empty]), 2, 24) := by kernel_rfl
def iv (x : Int) : Value := .int .i64 x
def ivs (l : List Int) : List Value := l.map iv
theorem ivs_length (l : List Int) : (ivs l).length = l.length := List.length_map ..
def lateC (p : Int × ByteArray) : List Value := [.int .i64 p.1, .string p.2]
def lateV (l : List (Int × ByteArray)) : List Value := l.flatMap lateC
theorem lateV_length (l : List (Int × ByteArray)) : (lateV l).length = l.length * 2 := by
  induction l with
  | nil => rfl
  | cons x l ih => unfold lateV at *; rw [List.flatMap_cons, List.length_append, ih]; simp [lateC]; omega
theorem lateV_snoc (l : List (Int × ByteArray)) (p : Int × ByteArray) : lateV (l ++ [p]) = lateV l ++ lateC p := by simp [lateV]
theorem lateV_get : ∀ (l : List (Int × ByteArray)) (i : Nat) (p : Int × ByteArray), l[i]? = some p → (lateV l)[i * 2]? = some (.int .i64 p.1) ∧ (lateV l)[i * 2 + 1]? = some (.string p.2)
  | [], i, p, h => by simp at h
  | q :: l, 0, p, h => by
    simp at h; subst h
    exact ⟨rfl, rfl⟩
  | q :: l, i + 1, p, h => by
    have := lateV_get l i p (by simpa using h)
    rw [show (i + 1) * 2 = i * 2 + 1 + 1 by omega]
    exact this
/-- the rest of a row behind its first element -/
theorem St.rowTail {w0 w : World} {e : TypeId} {g o n c : Nat} {x : Value} {xs : List Value} {L : List Assn} (H : St w0 w (Row e 1 (some ⟨g, o, none⟩) (n + 1) c (x :: xs) :: L)) :
    St w0 w (Row e 1 (some ⟨g, if c = 1 then o else o + 1, none⟩) n (c - 1) xs :: L) := by
  have hl := H.row_length
  rcases H.row_cases with ⟨h0, _⟩ | ⟨g', o', cur, fr, hA, H1, h1, h2, h3, h4, h5⟩
  · cases h0
  · injection hA with hA
    injection hA with hg ho
    subst hg ho
    refine H1.toRow (by simp at hl ⊢; omega) h1 (by omega) (by omega) (by split <;> omega) fun j u hu => ?_
    by_cases hc : c = 1
    · have : xs = [] := List.eq_nil_of_length_eq_zero (by simp at hl; omega)
      subst this; simp at hu
    · rw [if_neg hc]
      have := h5 (j + 1) u (by simpa using hu)
      rwa [show o + 1 + j = o + (j + 1) by omega]
/-- a net: its choices, what is under way, the bits of the next reply -/
structure NS where
  ch : List Int
  late : List (Int × ByteArray)
  bits : List Int
abbrev netC (p : (Option Addr × Nat) × (Option Addr × Nat) × (Option Addr × Nat)) (s : NS) : Array Value := #[.slice p.1.1 s.ch.length p.1.2, .slice p.2.1.1 s.late.length p.2.1.2, .slice p.2.2.1 s.bits.length p.2.2.2]
def Net (b : Nat) (s : NS) : Assn :=
  exA fun p : (Option Addr × Nat) × (Option Addr × Nat) × (Option Addr × Nat) => star (Pt b (netC p s) 51) (star (Row 3 1 p.1.1 s.ch.length p.1.2 (ivs s.ch)) (star (Row 32 2 p.2.1.1 s.late.length p.2.1.2 (lateV s.late)) (Row 3 1 p.2.2.1 s.bits.length p.2.2.2 (ivs s.bits))))
theorem St.openN {w0 w : World} {b : Nat} {s : NS} {F : List Assn} (H : St w0 w (Net b s :: F)) :
    ∃ A1 c1 A2 c2 A3 c3, St w0 w (Pt b #[.slice A1 s.ch.length c1, .slice A2 s.late.length c2, .slice A3 s.bits.length c3] 51 :: Row 3 1 A1 s.ch.length c1 (ivs s.ch) :: Row 32 2 A2 s.late.length c2 (lateV s.late) :: Row 3 1 A3 s.bits.length c3 (ivs s.bits) :: F) := by
  obtain ⟨p, H⟩ := H.unex
  have H1 := H.unstar
  have H2 := H1.r2.unstar
  have H3 := H2.r2.unstar
  exact ⟨p.1.1, p.1.2, p.2.1.1, p.2.1.2, p.2.2.1, p.2.2.2, H3.r4.r4.r2⟩
theorem St.shutN {w0 w : World} {b : Nat} {s : NS} {F : List Assn} {A1 A2 A3 : Option Addr} {n1 n2 n3 c1 c2 c3 : Nat} (h1 : n1 = s.ch.length) (h2 : n2 = s.late.length) (h3 : n3 = s.bits.length) (H : St w0 w (Pt b #[.slice A1 n1 c1, .slice A2 n2 c2, .slice A3 n3 c3] 51 :: Row 3 1 A1 n1 c1 (ivs s.ch) :: Row 32 2 A2 n2 c2 (lateV s.late) :: Row 3 1 A3 n3 c3 (ivs s.bits) :: F)) :
    St w0 w (Net b s :: F) := by
  subst h1 h2 h3
  have H1 := H.r4.r4.star
  have H2 := H1.r3.star
  have H3 := H2.r2.star
  exact St.ex ((A1, c1), (A2, c2), (A3, c3)) H3
/-- what a choice tells -/
def fate1 (x : Int) : Int := if x < 0 then -(x + 1) else x
def fate (l : List Int) : Int × Int := match l with
  | [] => (0, 0)
  | x :: _ => (fate1 x % 8, fate1 x / 8)
def NS.chosen (s : NS) : NS := ⟨s.ch.tail, s.late, s.bits⟩
def inI (x : Int) : Prop := -9223372036854775808 ≤ x ∧ x ≤ 9223372036854775807
theorem ret2 {a b c d : Int} (h1 : a = c) (h2 : b = d) : Ending.returned (.tuple #[.int .i64 a, .int .i64 b]) = .returned (.tuple #[.int .i64 c, .int .i64 d]) := by rw [h1, h2]
theorem fate_neg (x : Int) (h : x < 0) (h2 : -9223372036854775808 ≤ x) : fate1 x % 8 = -(x + 1).tmod 8 ∧ fate1 x / 8 = wrap64 (-(x + 1).tdiv 8) := by
  have e : fate1 x = -(x + 1) := by unfold fate1; rw [if_pos h]
  have h1 := Int.tmod_eq_emod_of_nonneg (a := -(x + 1)) (b := 8) (by omega)
  have h3 := Int.tdiv_eq_ediv_of_nonneg (a := -(x + 1)) (b := 8) (by omega)
  rw [Int.neg_tmod] at h1
  rw [Int.neg_tdiv] at h3
  rw [e, h1, h3]
  refine ⟨rfl, ?_⟩
  unfold wrap64; omega
theorem fate_pos (x : Int) (h : ¬ x < 0) : fate1 x % 8 = x % 8 ∧ fate1 x / 8 = x / 8 := by
  have e : fate1 x = x := by unfold fate1; rw [if_neg h]
  rw [e]; exact ⟨rfl, rfl⟩
set_option maxHeartbeats 1000000 in
theorem choose_ok (b : Nat) (s : NS) (hok : ∀ x ∈ s.ch, inI x) {w0 w : World} {F : List Assn} (H : St w0 w (Net b s :: F)) :
    Calls Try.prog 19 #[.pointer (some ⟨b, 0, none⟩)] w fun r w' => r = .returned (.tuple #[.int .i64 (fate s.ch).1, .int .i64 (fate s.ch).2]) ∧ St w0 w' (Net b s.chosen :: F) := by
  obtain ⟨ch, late, bs⟩ := s
  obtain ⟨A1, c1, A2, c2, A3, c3, H1⟩ := H.openN
  dsimp only at *
  have d0 := H1.cell 0 rfl
  have f0 := H1.frozen 0
  cases ch with
  | nil =>
    go_enter Try.func19, Try.ntmps19
    go_wp2_with (fail)
    go_ret2
    exact ⟨rfl, H⟩
  | cons x ch =>
    obtain ⟨hx1, hx2⟩ := hok x (List.mem_cons_self ..)
    have hle := H1.r2.row_le
    obtain ⟨g, o, hA⟩ := H1.r2.row_form (by simp)
    subst hA
    have e0 := H1.r2.row_cell 0 (u := .int .i64 x) rfl
    rw [Nat.add_zero] at e0
    have H2 := H1.r2.rowTail (n := ch.length) (x := iv x) (xs := ivs ch)
    have hnc : ch.length + 1 ≤ c1 ∧ c1 ≤ maxLen := by
      rcases H1.r2.row_cases with ⟨h0, _⟩ | ⟨g', o', cur, fr, hA, _, _, h2, h3, _⟩
      · cases h0
      · exact ⟨h2, h3⟩
    unfold maxLen at hle hnc
    obtain ⟨hnc1, hnc2⟩ := hnc
    simp only [List.length_cons] at *
    have hlt : (0 : Int) < ((ch.length + 1 : Nat) : Int) := by omega
    have hz : (((ch.length + 1 : Nat) : Int) == 0) = false := by rw [beq_eq_false_iff_ne]; omega
    by_cases hc : c1 = 1
    · subst hc
      obtain rfl : ch = [] := List.eq_nil_of_length_eq_zero (by omega)
      rw [if_pos rfl] at H2
      by_cases hx : x < 0
      · obtain ⟨q1, q2⟩ := fate_neg x hx hx1
        have Q1 := Lib.hid q1; have Q2 := Lib.hid q2; clear q1 q2
        go_enter Try.func19, Try.ntmps19
        go_wp2_with (fail)
        go_ret2
        refine ⟨ret2 (Q1.out.symm) (Q2.out.symm), ?_⟩
        have H3 := H2.r2.set 0 (.slice (some ⟨g, o, none⟩) 0 0)
        exact St.shutN (s := ⟨[], late, bs⟩) rfl rfl rfl H3
      · obtain ⟨q1, q2⟩ := fate_pos x hx
        have Q1 := Lib.hid q1; have Q2 := Lib.hid q2; clear q1 q2
        go_enter Try.func19, Try.ntmps19
        go_wp2_with (fail)
        go_ret2
        refine ⟨ret2 (Q1.out.symm) (Q2.out.symm), ?_⟩
        have H3 := H2.r2.set 0 (.slice (some ⟨g, o, none⟩) 0 0)
        exact St.shutN (s := ⟨[], late, bs⟩) rfl rfl rfl H3
    · rw [if_neg hc] at H2
      have hc' : 1 < c1 := by omega
      by_cases hx : x < 0
      · obtain ⟨q1, q2⟩ := fate_neg x hx hx1
        have Q1 := Lib.hid q1; have Q2 := Lib.hid q2; clear q1 q2
        go_enter Try.func19, Try.ntmps19
        go_wp2_with (fail)
        go_ret2
        refine ⟨ret2 (Q1.out.symm) (Q2.out.symm), ?_⟩
        have H3 := H2.r2.set 0 (.slice (some ⟨g, o + 1, none⟩) ch.length (c1 - 1))
        exact St.shutN (s := ⟨ch, late, bs⟩) rfl rfl rfl H3
      · obtain ⟨q1, q2⟩ := fate_pos x hx
        have Q1 := Lib.hid q1; have Q2 := Lib.hid q2; clear q1 q2
        go_enter Try.func19, Try.ntmps19
        go_wp2_with (fail)
        go_ret2
        refine ⟨ret2 (Q1.out.symm) (Q2.out.symm), ?_⟩
        have H3 := H2.r2.set 0 (.slice (some ⟨g, o + 1, none⟩) ch.length (c1 - 1))
        exact St.shutN (s := ⟨ch, late, bs⟩) rfl rfl rfl H3
end Go.Proofs.Ytpeoajmlmkmffaa

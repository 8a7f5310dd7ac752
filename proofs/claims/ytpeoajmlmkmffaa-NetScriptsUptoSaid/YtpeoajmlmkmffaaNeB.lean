/- Layer 21: a net's functions. -/
import Derived.Test.YtpeoajmlmkmffaaNeA
import Derived.Test.YtpeoajmlmkmffaaSLP
import Derived.RegionTactic
import Derived.Deep.QuietTactic
import Derived.BigQuiet
import Derived.Lib.ConvBytes
import Derived.Outline
namespace Go.Proofs.Ytpeoajmlmkmffaa
open Go.RowKit

theorem ivs_one (l : List Int) : ∀ u ∈ ivs l, u.oneCell' = true := fun u hu => by
  obtain ⟨x, _, rfl⟩ := List.mem_map.1 hu; rfl
theorem clone_ok (A : Option Addr) (n c : Nat) (l : List Int) (hl : l.length = n) (hn : n ≤ 1099511627776) {w0 w : World} {F : List Assn} (hr : ∀ w', Below w.heap.size w w' → Src w' A n (ivs l)) (H : St w0 w F) :
    Calls Try.prog 18 #[.slice A n c] w fun r w' => ∃ A' c', r = .returned (.slice A' n c') ∧ St w0 w' (Row 3 1 A' n c' (ivs l) :: F) := by
  obtain ⟨i0, hi, hz0, hz1, hz2⟩ := info_parts infoInt
  have hr0 := hr w (Below.refl _ _)
  have hnil := fun (w : World) (A : Option Addr) (n c : Nat) => Lib.run_eql_slice_nil (P := Try.prog) w 24 3 A n c 0 0 Try.underlying24
  cases A with
  | none =>
    have hn0 : n = 0 := by
      rcases hr0 with ⟨ad, h, _⟩ | ⟨_, h⟩
      · cases h
      · exact h
    subst hn0
    obtain rfl : l = [] := List.eq_nil_of_length_eq_zero hl
    clear hr hr0
    go_enter Try.func18, Try.ntmps18
    go_wp2_with (fail)
    go_ret
    exact ⟨none, 0, rfl, H.nilRow _ _⟩
  | some ad =>
    have hs := hr (w.alloc (.cells #[] 3)) ((Below.refl _ _).alloc (Nat.le_refl _) _)
    have H1 := (H.alloc #[] 3).emptyRow (size := 1)
    have HS := Lib.hid hs; have HL := Lib.hid hl; clear hr hr0 hs hl
    go_enter Try.func18, Try.ntmps18
    go_wp2_with (at_builtin; refine wpList_append_any (by rfl) _ _ _ (by rfl) 3 i0 (.int .i64 0) 1 8 Try.underlying24 hi hz0 hz1 hz2 rfl (by decide) _ 0 0 [] H1 (by rfl) (some ad) n c (ivs l) (by rfl) (by rw [ivs_length, HL.out, Nat.mul_one]) HS.out (ivs_one l) (by unfold maxLen; omega) (by omega) ?_; rw [List.nil_append, Nat.zero_add]; intro A5 c5 w5 H5)
    go_ret
    exact ⟨_, _, rfl, H5⟩
theorem new_ok (A : Option Addr) (n c : Nat) (l : List Int) (hl : l.length = n) (hn : n ≤ 1099511627776) {w0 w : World} {F : List Assn} (hr : ∀ w', Below w.heap.size w w' → Src w' A n (ivs l)) (H : St w0 w F) :
    Calls Try.prog 9 #[.slice A n c] w fun r w' => ∃ b, r = .returned (.pointer (some ⟨b, 0, none⟩)) ∧ St w0 w' (Net b ⟨l, [], []⟩ :: F) := by
  have HR := Lib.hid hr; have HL := Lib.hid hl; clear hr hl
  go_enter Try.func9, Try.ntmps9
  go_wp2_with (fail)
  refine (clone_ok A n c l HL.out hn HR.out H).mono ?_
  rintro e w1 ⟨A', c', rfl, H1⟩
  go_wp2_with (fail)
  go_ret
  refine ⟨_, rfl, ?_⟩
  have H2 := (((H1.nilRow 3 1).nilRow 32 2).alloc #[.slice A' n c', .slice none 0 0, .slice none 0 0] 51)
  exact St.shutN (s := ⟨l, [], []⟩) HL.out.symm rfl rfl H2.r4.r2
def NS.held (s : NS) (p : Int × ByteArray) : NS := if s.late.length < 64 then ⟨s.ch, s.late ++ [p], s.bits⟩ else s
theorem hold_ok (b : Nat) (s : NS) (from_ : Int) (d : ByteArray) {w0 w : World} {F : List Assn} (H : St w0 w (Net b s :: F)) :
    Calls Try.prog 20 #[.pointer (some ⟨b, 0, none⟩), .int .i64 from_, .string d] w fun r w' => r = .returned (.tuple #[]) ∧ St w0 w' (Net b (s.held (from_, d)) :: F) := by
  obtain ⟨i0, hi, hz0, hz1, hz2⟩ := info_parts infoLate
  obtain ⟨ch, late, bs⟩ := s
  obtain ⟨A1, c1, A2, c2, A3, c3, H1⟩ := H.openN
  dsimp only at *
  have d1 := H1.cell 1 rfl
  have f1 := H1.frozen 1
  by_cases hlt : late.length < 64
  · have hh : NS.held ⟨ch, late, bs⟩ (from_, d) = ⟨ch, late ++ [(from_, d)], bs⟩ := if_pos hlt
    rw [hh]; clear hh
    have hd : decide ((late.length : Int) < 64) = true := decide_eq_true (by omega)
    go_enter Try.func20, Try.ntmps20
    go_wp2_with (at_builtin; refine wpList_append_st (by rfl) _ _ _ (by rfl) 32 i0 (.agg #[.int .i64 0, .string ByteArray.empty]) 2 24 Try.underlying29 hi hz0 hz1 hz2 rfl (by decide) A2 late.length c2 (lateV late) (H1.r3.more _) (by rfl) ⟨w.heap.size, 0, none⟩ 1 1 (lateC (from_, d)) (by rfl) rfl (World.news_of_block (heap_alloc_new _ _)) (fun u hu => by simp [lateC] at hu; rcases hu with rfl | rfl <;> rfl) (by unfold maxLen; omega) (by omega) ?_; intro A4 c4 w4 H4; have cc := H4.r2.cell 1 rfl; have ff := H4.r2.frozen 1)
    go_end0
    refine ⟨rfl, ?_⟩
    have H5 := H4.r2.set 1 (.slice A4 (late.length + 1) c4)
    rw [← lateV_snoc] at H5
    exact St.shutN (s := ⟨ch, late ++ [(from_, d)], bs⟩) rfl (by simp) rfl H5.r3.r2
  · have hh : NS.held ⟨ch, late, bs⟩ (from_, d) = ⟨ch, late, bs⟩ := if_neg hlt
    rw [hh]; clear hh
    have hd : decide ((late.length : Int) < 64) = false := decide_eq_false (by omega)
    go_enter Try.func20, Try.ntmps20
    go_wp2_with (fail)
    go_end0
    exact ⟨rfl, H⟩
theorem late_ok (b : Nat) (s : NS) {w0 w : World} {F : List Assn} (H : St w0 w (Net b s :: F)) :
    Calls Try.prog 11 #[.pointer (some ⟨b, 0, none⟩)] w fun r w' => ∃ A c, r = .returned (.slice A s.late.length c) ∧ St w0 w' (Row 32 2 A s.late.length c (lateV s.late) :: Net b ⟨s.ch, [], s.bits⟩ :: F) := by
  obtain ⟨ch, late, bs⟩ := s
  obtain ⟨A1, c1, A2, c2, A3, c3, H1⟩ := H.openN
  dsimp only at *
  have d1 := H1.cell 1 rfl
  have f1 := H1.frozen 1
  go_enter Try.func11, Try.ntmps11
  go_wp2_with (fail)
  go_ret
  refine ⟨_, _, rfl, ?_⟩
  have H3 := (H1.set 1 (.slice none 0 0)).nilRow 32 2
  exact (St.shutN (s := ⟨ch, [], bs⟩) rfl rfl rfl (H3.ord 5 [1, 2, 0, 4, 3])).r2
theorem left_ok (b : Nat) (s : NS) {w0 w : World} {F : List Assn} (H : St w0 w (Net b s :: F)) :
    Calls Try.prog 15 #[.pointer (some ⟨b, 0, none⟩)] w fun r w' => r = .returned (.tuple #[.int .i64 s.ch.length, .int .i64 s.late.length]) ∧ ∃ n, w' = w.drewN n := by
  obtain ⟨ch, late, bs⟩ := s
  obtain ⟨A1, c1, A2, c2, A3, c3, H1⟩ := H.openN
  dsimp only at *
  have d0 := H1.cell 0 rfl
  have d1 := H1.cell 1 rfl
  go_enter Try.func15, Try.ntmps15
  go_wp2_with (fail)
  go_quiet (fail)
  go_wp2_with (fail)
  go_ret2
  exact ⟨rfl, _, rfl⟩
theorem left_nil (w : World) : Calls Try.prog 15 #[.pointer none] w fun r w' => r = .returned (.tuple #[.int .i64 0, .int .i64 0]) ∧ w' = w := by
  go_enter Try.func15, Try.ntmps15
  go_wp2_with (fail)
  go_ret2
  exact ⟨rfl, rfl⟩
theorem late_nil (w : World) : Calls Try.prog 11 #[.pointer none] w fun r w' => r = .returned (.slice none 0 0) ∧ w' = w := by
  go_enter Try.func11, Try.ntmps11
  go_wp2_with (fail)
  go_ret
  exact ⟨rfl, rfl⟩
theorem back_nil (d : ByteArray) (w : World) : Calls Try.prog 12 #[.pointer none, .string d] w fun r w' => r = .returned (.string d) ∧ w' = w := by
  go_enter Try.func12, Try.ntmps12
  go_wp2_with (fail)
  go_ret
  exact ⟨rfl, rfl⟩
theorem carry_nil (f : Int) (d : ByteArray) (w : World) : Calls Try.prog 10 #[.pointer none, .int .i64 f, .string d] w fun r w' => r = .returned (.tuple #[.slice none 0 0, .bool false]) ∧ w' = w := by
  go_enter Try.func10, Try.ntmps10
  go_wp2_with (fail)
  go_ret2
  exact ⟨rfl, rfl⟩
end Go.Proofs.Ytpeoajmlmkmffaa

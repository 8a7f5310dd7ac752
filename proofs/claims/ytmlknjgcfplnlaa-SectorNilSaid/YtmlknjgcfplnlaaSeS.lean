/- Layer 4: the second of two writes lasts. -/
import Derived.Test.YtmlknjgcfplnlaaSeG
namespace Go.Proofs.Ytmlknjgcfplnlaa
open Go.RowKit

theorem full_256 (s : ByteArray) (h : s.size ≤ 256) : (full s).size = 256 := by
  rw [full, mkb_size, List.length_append, bl_length, zeros, List.length_replicate]; omega
theorem bl_extract (S : ByteArray) (a b : Nat) : bl (S.extract a b) = ((bl S).drop a).take (b - a) := Lib.extract_data S a b
def sA : ByteArray := ⟨#[97]⟩
def sB : ByteArray := ⟨#[98]⟩
theorem sp1 : (DS.new 2).write 0 ⟨#[97]⟩ = (0, ⟨blank 2, [(0, ⟨#[97]⟩)], 0, 0, false, 1, 0⟩) := by rfl
theorem sp2 : (⟨blank 2, [(0, ⟨#[97]⟩)], 0, 0, false, 1, 0⟩ : DS).write 1 ⟨#[98]⟩ = (0, ⟨blank 2, [(0, ⟨#[97]⟩), (1, ⟨#[98]⟩)], 0, 0, false, 2, 0⟩) := by rfl
theorem sp3 : (⟨blank 2, [(0, ⟨#[97]⟩), (1, ⟨#[98]⟩)], 0, 0, false, 2, 0⟩ : DS).crash 2 = ⟨[ByteArray.empty, ⟨#[98]⟩], [], 0, 0, false, 2, 0⟩ := by
  have e : lz (kb 2) [(0, ⟨#[97]⟩), (1, ⟨#[98]⟩)] (blank 2) 2 = [ByteArray.empty, ⟨#[98]⟩] := by
    have b0 : kb 2 0 = false := by decide
    have b1 : kb 2 1 = true := by decide
    simp [lz, b0, b1, blank]
  show (⟨lz (kb 2) [(0, ⟨#[97]⟩), (1, ⟨#[98]⟩)] (blank 2) 2, [], 0, 0, false, 2, 0⟩ : DS) = _
  rw [e]
theorem sp4 : (⟨[ByteArray.empty, ⟨#[98]⟩], [], 0, 0, false, 2, 0⟩ : DS).read 0 = (full ByteArray.empty, 0) ∧ (⟨[ByteArray.empty, ⟨#[98]⟩], [], 0, 0, false, 2, 0⟩ : DS).read 1 = (full ⟨#[98]⟩, 0) := by
  constructor <;> rfl
theorem ok_sp (q : List (Nat × ByteArray)) (l : List ByteArray) (n : Int) (h0 : 0 ≤ n) (h1 : n ≤ 2) (hl : ∀ s ∈ l, s.size ≤ 256) (hq : ∀ p ∈ q, p.1 < l.length ∧ p.2.size ≤ 256) (hql : q.length ≤ 2) : (⟨l, q, 0, 0, false, n, 0⟩ : DS).ok 2 :=
  ⟨hl, hq, ⟨Int.le_refl 0, by show (0 : Int) ≤ _; decide⟩, hql, ⟨h0, h1⟩, ⟨Int.le_refl 0, by show (0 : Int) ≤ 2; decide⟩⟩
theorem head_of {s : ByteArray} {x : UInt8} {r : List UInt8} (h : bl s = x :: r) (hs : 0 < s.size) : s[0]'hs = x := by
  have h1 : (bl s)[0]? = some (s[0]'hs) := by rw [List.getElem?_eq_getElem (by rw [bl_length]; exact hs)]; rfl
  rw [h] at h1
  injection h1 with h1; exact h1.symm
theorem take1_of {s : ByteArray} {x : UInt8} {r : List UInt8} (h : bl s = x :: r) : ((s.extract 0 1).toList == [x]) = true := by
  rw [ByteArray.toList_eq, beq_iff_eq]
  have e : bl (s.extract 0 1) = (bl s).take 1 := by rw [bl_extract]; simp
  rw [show (s.extract 0 1).data.toList = (bl s).take 1 from e, h]; rfl
set_option maxHeartbeats 1000000 in
theorem speaks_ok {w0 w : World} {F : List Assn} (H : St w0 w F) :
    Calls Try.prog 8 #[] w fun r w' => r = .returned (.bool true) ∧ St w0 w' F := by
  have z0 := full_256 ByteArray.empty (by decide)
  have z1 := full_256 ⟨#[98]⟩ (by decide)
  have hb0 : bl (full ByteArray.empty) = 0 :: zeros 255 := rfl
  have hb1 : bl (full ⟨#[98]⟩) = 98 :: zeros 255 := rfl
  have hn := DS.ok_new 2
  have S1 := Lib.hid sp1; have S2 := Lib.hid sp2; have S3 := Lib.hid sp3; have S4 := Lib.hid sp4
  go_enter Try.func8, Try.ntmps8
  go_wp2_with (fail)
  refine (new_ok 2 (by decide) (by decide) H).mono ?_
  rintro e w1 ⟨b, rfl, H1⟩
  go_wp2_with (fail)
  refine (write_ok b (DS.new 2) 0 ⟨#[97]⟩ 0 hn (by decide) (by decide) H1).mono ?_
  rw [S1.out]
  rintro e w2 ⟨rfl, H2⟩
  go_wp2_with (fail)
  refine (write_ok b _ 1 ⟨#[98]⟩ 2 (ok_sp _ _ 1 (by decide) (by decide) (by decide) (by decide) (by decide)) (by decide) (by decide) H2).mono ?_
  rw [S2.out]
  rintro e w3 ⟨rfl, H3⟩
  go_wp2_with (fail)
  refine (crash_ok b _ 2 2 (ok_sp _ _ 2 (by decide) (by decide) (by decide) (by decide) (by decide)) (by decide) H3).mono ?_
  rw [S3.out]
  rintro e w4 ⟨rfl, H4⟩
  go_wp2_with (fail)
  refine (read_ok b _ 0 2 (ok_sp _ _ 2 (by decide) (by decide) (by decide) (by decide) (by decide)) H4).mono ?_
  rw [S4.out.1]
  rintro e w5 ⟨rfl, H5⟩
  go_wp2_with (fail)
  refine (read_ok b _ 1 2 (ok_sp _ _ 2 (by decide) (by decide) (by decide) (by decide) (by decide)) H5).mono ?_
  rw [S4.out.2]
  rintro e w6 ⟨rfl, H6⟩
  have HB0 := Lib.hid hb0; have HB1 := Lib.hid hb1; have Z0 := Lib.hid z0; have Z1 := Lib.hid z1; clear hb0 hb1 z0 z1
  have zi : ((full ByteArray.empty).size : Int) = 256 := by rw [Z0.out]; rfl
  generalize full ByteArray.empty = f0 at *
  generalize full ⟨#[98]⟩ = f1 at *
  have hs0 : 0 < f0.size := by rw [Z0.out]; decide
  have hx0 := head_of HB0.out hs0
  have hx1 := take1_of HB1.out
  have hs1 : (1 : Int) ≤ f1.size := by rw [Z1.out]; decide
  go_wp2_with (fail)
  go_ret
  exact ⟨rfl, H6.tail⟩
end Go.Proofs.Ytmlknjgcfplnlaa

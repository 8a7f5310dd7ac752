/- Layer 2's statements: the guard that all of them share. -/
import Derived.Test.YtpmhjjfcipjnoaaSmL
namespace Go.Proofs.Ytpmhjjfcipjnoaa
open Go.RowKit

theorem dec0 : decodeF ⟨#[63, 40, 117, 41, 111, 56]⟩ ⟨#[0, 0, 0, 1, 0, 0, 0, 7, 0, 0, 0, 2, 97, 98, 0, 0]⟩ = .ok ([1, 7], [⟨#[97, 98]⟩]) := by kernel_rfl
set_option maxRecDepth 100000 in
set_option maxHeartbeats 4000000 in
theorem speaks_ok {w0 w : World} {F : List Assn} (H0 : St w0 w F) :
    Calls Try.prog 9 #[] w fun r w' => r = .returned (.bool true) ∧ St w0 w' F := by
  have hd := decode_ok ⟨#[63, 40, 117, 41, 111, 56]⟩ ⟨#[0, 0, 0, 1, 0, 0, 0, 7, 0, 0, 0, 2, 97, 98, 0, 0]⟩ (by decide) (by decide) H0
  rw [dec0] at hd
  have HD := Lib.hid hd; clear hd H0
  go_enter Try.func9, Try.ntmps9
  go_wp2_with (fail)
  refine HD.out.mono ?_
  rintro x w1 ⟨A, c, B, d, rfl, H⟩
  dsimp only [List.length_cons, List.length_nil] at H ⊢
  obtain ⟨g, og, rfl⟩ := H.row_form (by decide)
  obtain ⟨g2, og2, rfl⟩ := H.r2.row_form (by decide)
  have H1 := H.alloc #[.slice (some ⟨g, og, none⟩) 2 c, .slice (some ⟨g2, og2, none⟩) 1 d] 26
  obtain ⟨b1, hb1⟩ : ∃ b, b = w1.heap.size := ⟨_, rfl⟩
  go_upto_region 2 with (fail)
  rw [← hb1] at H1 ⊢
  generalize w1.alloc (.cells #[.slice (some ⟨g, og, none⟩) 2 c, .slice (some ⟨g2, og2, none⟩) 1 d] 26) = w2 at *
  clear hb1 H HD
  have p0 := H1.cell 0 rfl
  have p1 := H1.cell 1 rfl
  have e1 := H1.r2.row_cell 1 (u := .int .i64 7) rfl
  have e2 := H1.r3.row_cell 0 (u := .string ⟨#[97, 98]⟩) rfl
  rw [Nat.add_zero] at e2
  have hst : ((⟨#[97, 98]⟩ : ByteArray).toList == (⟨#[97, 98]⟩ : ByteArray).toList) = true := by simp
  go_wp2_with (fail)
  go_ret
  exact ⟨rfl, H1.tail.tail.tail⟩
end Go.Proofs.Ytpmhjjfcipjnoaa

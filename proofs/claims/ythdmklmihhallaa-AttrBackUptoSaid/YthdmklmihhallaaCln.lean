/- slices.Clone of numbers. -/
import Derived.Test.YthdmklmihhallaaAtQ
import Derived.WalkSpells
namespace Go.Proofs.Ythdmklmihhallaa
open Go.RowKit

theorem ivs_one (l : List Int) : ∀ u ∈ ivs l, u.oneCell' = true := fun u hu => by
  obtain ⟨x, _, rfl⟩ := List.mem_map.1 hu; rfl
theorem clone_ok (A : Option Addr) (n c : Nat) (l : List Int) (hl : l.length = n) (hn : n ≤ 1099511627776) {w0 w : World} {F : List Assn} (hr : ∀ w', Below w.heap.size w w' → Src w' A n (ivs l)) (H : St w0 w F) :
    Calls Try.prog 21 #[.slice A n c] w fun r w' => ∃ A' c', r = .returned (.slice A' n c') ∧ St w0 w' (Row 3 1 A' n c' (ivs l) :: F) := by
  obtain ⟨i0, hi, hz0, hz1, hz2⟩ := info_parts infoInt
  have hr0 := hr w (Below.refl _ _)
  have hnil := fun (w : World) (A : Option Addr) (n c : Nat) => Lib.run_eql_slice_nil (P := Try.prog) w 23 3 A n c 0 0 Try.underlying23
  cases A with
  | none =>
    have hn0 : n = 0 := by
      rcases hr0 with ⟨ad, h, _⟩ | ⟨_, h⟩
      · cases h
      · exact h
    subst hn0
    obtain rfl : l = [] := List.eq_nil_of_length_eq_zero hl
    clear hr hr0
    go_enter Try.func21, Try.ntmps21
    go_wp2_with (fail)
    go_ret
    exact ⟨none, 0, rfl, H.nilRow _ _⟩
  | some ad =>
    have hs := hr (w.alloc (.cells #[] 3)) ((Below.refl _ _).alloc (Nat.le_refl _) _)
    have H1 := (H.alloc #[] 3).emptyRow (size := 1)
    have HS := Lib.hid hs; have HL := Lib.hid hl; clear hr hr0 hs hl
    go_enter Try.func21, Try.ntmps21
    go_wp2_with (at_builtin; refine wpList_append_any (by rfl) _ _ _ (by rfl) 3 i0 (.int .i64 0) 1 8 Try.underlying23 hi hz0 hz1 hz2 rfl (by decide) _ 0 0 [] H1 (by rfl) (some ad) n c (ivs l) (by rfl) (by rw [ivs_length, HL.out, Nat.mul_one]) HS.out (ivs_one l) (by unfold maxLen; omega) (by omega) ?_; rw [List.nil_append, Nat.zero_add]; intro A5 c5 w5 H5)
    go_ret
    exact ⟨_, _, rfl, H5⟩
end Go.Proofs.Ythdmklmihhallaa

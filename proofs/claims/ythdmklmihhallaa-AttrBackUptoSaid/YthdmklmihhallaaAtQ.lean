/- Layer 9: Put. -/
import Derived.Test.YthdmklmihhallaaAtP
import Derived.Test.YthdmklmihhallaaSLA
namespace Go.Proofs.Ythdmklmihhallaa
open Go.RowKit

def iv (x : Int) : Value := .int .i64 x
def ivs (l : List Int) : List Value := l.map iv
theorem ivs_length (l : List Int) : (ivs l).length = l.length := List.length_map ..
theorem take_snoc' {α : Type} (l : List α) (k : Nat) (x : α) (h : l[k]? = some x) : l.take (k + 1) = l.take k ++ [x] := by rw [List.take_add_one, h]; rfl
theorem ptrs_get (b k : Nat) (h : k < 17) : (ptrs b).toArray[k]? = some (.pointer (some ⟨b, k, none⟩)) := by
  simp only [ptrs, List.getElem?_toArray, List.getElem?_map]
  rw [List.getElem?_range h]; rfl
theorem ivs_get (l : List Int) (k : Nat) (x : Int) (h : l[k]? = some x) : (ivs l).toArray[k]? = some (.int .i64 x) := by
  simp only [ivs, List.getElem?_toArray, List.getElem?_map, h]; rfl
set_option maxHeartbeats 1000000 in
theorem put_ok (l : List Int) (hl : l.length = 17) {w0 w : World} {F : List Assn} (H : St w0 w F) :
    Calls Try.prog 11 #[.agg (ivs l).toArray] w fun r w' => ∃ A c, r = .returned (.slice A 17 c) ∧ St w0 w' (Row 3 1 A 17 c (ivs l) :: F) := by
  obtain ⟨i0, hi, hz0, hz1, hz2⟩ := info_parts infoInt
  have H1 := H.alloc (ivs l).toArray 29
  have HL := Lib.hid hl; clear hl
  go_enter Try.func11, Try.ntmps11
  go_wp2_with (fail)
  generalize w.heap.size = b at *
  generalize w.alloc (.cells (ivs l).toArray 29) = w1 at *
  refine (fields_ok b H1).mono ?_
  rintro e w2 ⟨g, rfl, H2⟩
  go_wp2_with (fail)
  go_loopw [3, 5, 8] (fun s _ i wr => ∃ k : Nat, k ≤ 17 ∧ i = .int .i64 k ∧ ∃ A c, s = .slice A k c ∧ St w0 wr (Row 3 1 A k c (ivs (l.take k)) :: Pt g (ptrs b).toArray 60 :: Pt b (ivs l).toArray 29 :: F)) (fun _ _ i _ => 17 - (intOf i).toNat)
  case atStart => exact ⟨0, Nat.zero_le _, rfl, none, 0, rfl, H2.nilRow _ _⟩
  case round =>
    obtain ⟨k, hk, rfl, A, c, rfl, H3⟩ := hrel
    by_cases hlt : k < 17
    · obtain ⟨x, hx⟩ : ∃ x, l[k]? = some x := ⟨_, List.getElem?_eq_getElem (by rw [HL.out]; exact hlt)⟩
      have p0 := H3.r2.cell k (ptrs_get b k hlt)
      have p1 := H3.r3.cell k (ivs_get l k x hx)
      have hkI : (k : Int) < 17 := by omega
      have ht : ivs (l.take (k + 1)) = ivs (l.take k) ++ [iv x] := by rw [take_snoc' l k x hx, ivs, List.map_append]; rfl
      have HT := Lib.hid ht; clear ht hx
      go_wp2_with (at_builtin; refine wpList_append_st (by rfl) _ _ _ (by rfl) 3 i0 (.int .i64 0) 1 8 Try.underlying23 hi hz0 hz1 hz2 rfl (by decide) A k c (ivs (l.take k)) (H3.more _) (by rfl) ⟨wr.heap.size, 0, none⟩ 1 1 [iv x] (by rfl) rfl (World.news_of_block (heap_alloc_new _ _)) (fun u hu => by simp [iv] at hu; subst hu; rfl) (by unfold maxLen; omega) (by omega) ?_; intro A4 c4 w4 H4)
      go_roundw
      case rel => exact ⟨k + 1, by omega, by go_num, A4, c4, rfl, by rw [HT.out]; exact H4⟩
      case measure => simp [intOf]; omega
    · obtain rfl : k = 17 := by omega
      rw [List.take_of_length_le (by rw [HL.out]; exact Nat.le_refl _)] at H3
      go_wp2_with (fail)
      go_ret
      exact ⟨_, _, rfl, (H3.r2.tail).r2.tail⟩
end Go.Proofs.Ythdmklmihhallaa

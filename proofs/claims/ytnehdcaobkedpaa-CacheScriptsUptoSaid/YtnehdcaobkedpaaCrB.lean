/- Layer 20: the document's answers. -/
import Derived.Test.YtnehdcaobkedpaaCrA
import Derived.Deep.DeepCutAuto
namespace Go.Proofs.Ytnehdcaobkedpaa.Ca
open Go.Proofs.Ytnehdcaobkedpaa
open Go.RowKit

theorem reffresh_ok (s now age : Int) (hs : inI s) (hn : inI now) (ha : 0 ≤ age) (ha2 : inI age) (w : World) :
    Calls Try.prog 28 #[.int .i64 s, .int .i64 now, .int .i64 age] w fun r w' => r = .returned (.bool (freshB age now s)) ∧ w' = w := by
  unfold inI at *
  unfold freshB
  go_enter Try.func28, Try.ntmps28
  by_cases h : s ≤ now
  · have hd : decide (now < s) = false := decide_eq_false (by omega)
    go_wp2_with (fail)
    go_ret
    refine ⟨?_, rfl⟩
    show Ending.returned (.bool (decide (IntKind.u64.wrap (IntKind.u64.wrap now - IntKind.u64.wrap s) < age))) = _
    have e : IntKind.u64.wrap (IntKind.u64.wrap now - IntKind.u64.wrap s) = now - s := by
      simp only [IntKind.wrap, IntKind.bits, IntKind.signed]
      simp
      omega
    rw [e, decide_eq_true h, Bool.true_and]
  · have hd : decide (now < s) = true := decide_eq_true (by omega)
    go_wp2_with (fail)
    go_ret
    refine ⟨?_, rfl⟩
    rw [decide_eq_false (by omega), Bool.false_and]; rfl
theorem refnew_ok (age : Int) {w0 w : World} {F : List Assn} (H : St w0 w F) :
    Calls Try.prog 16 #[.int .i64 age] w fun r w' => ∃ b, r = .returned (.pointer (some ⟨b, 0, none⟩)) ∧ St w0 w' (RCx ⟨b, max age 0, [], [], []⟩ :: F) := by
  have key : St w0 (w.alloc (.cells #[.int .i64 (max age 0), .slice none 0 0, .slice none 0 0, .slice none 0 0] 56)) (RCx ⟨w.heap.size, max age 0, [], [], []⟩ :: F) :=
    St.shutR (r := ⟨w.heap.size, max age 0, [], [], []⟩) rfl rfl rfl ((((H.alloc #[.int .i64 (max age 0), .slice none 0 0, .slice none 0 0, .slice none 0 0] 56).nilRow 62 3).nilRow 58 4).nilRow 48 6 |>.ord 4 [3, 0, 1, 2])
  go_enter Try.func16, Try.ntmps16
  rcases Int.lt_or_le age 0 with h | h
  · rw [Int.max_eq_right (by omega)] at key ⊢
    go_wp2_with (fail)
    go_ret
    exact ⟨_, rfl, key⟩
  · rw [Int.max_eq_left h] at key ⊢
    have hd : decide (age < 0) = false := decide_eq_false (by omega)
    go_wp2_with (fail)
    go_ret
    exact ⟨_, rfl, key⟩
theorem fcell (x : FR) : (FR.cells x).length = 6 := rfl
theorem ncell (x : NR) : (NR.cells x).length = 4 := rfl
theorem pcell (x : PR) : (PR.cells x).length = 3 := rfl
def isH (h : ByteArray) (r : FR) : Bool := decide (r.h = h)
set_option maxHeartbeats 4000000 in
theorem known_ok (r : RC) (h : ByteArray) {w0 w : World} {F : List Assn} (H : St w0 w (RCx r :: F)) :
    Calls Try.prog 26 #[.pointer (some ⟨r.b, 0, none⟩), .string h] w fun e w' => e = .returned (.bool (r.fl.any (isH h))) ∧ w' = w := by
  obtain ⟨A1, c1, A2, c2, A3, c3, H1⟩ := St.openR H
  have p1 := H1.cell 1 (v := .slice A1 r.fl.length c1) rfl
  have hlen := H1.r2.row_le
  unfold maxLen at hlen
  obtain ⟨m, hm⟩ : ∃ m, m = r.fl.length := ⟨_, rfl⟩
  rw [← hm] at p1 hlen H1
  have HM := Lib.hid hm; clear hm
  go_enter Try.func26, Try.ntmps26
  go_wp2_with (fail)
  go_loopw [5] (fun iv wr => ∃ i : Nat, i ≤ m ∧ iv = .int .i64 i ∧ wr = w ∧ ∀ j x, j < i → r.fl[j]? = some x → isH h x = false) (fun iv _ => m - (intOf iv).toNat)
  case atStart => exact ⟨0, Nat.zero_le _, rfl, rfl, fun j x hj _ => absurd hj (by omega)⟩
  case round =>
    obtain ⟨i, hi, rfl, rfl, hno⟩ := hrel
    by_cases hlt : i < m
    · obtain ⟨x, hx⟩ : ∃ x, r.fl[i]? = some x := ⟨_, List.getElem?_eq_getElem (by rw [← HM.out]; exact hlt)⟩
      obtain ⟨g, o, rfl, k0, _⟩ := rows_get fcell H1.r2 hx HM.out.symm
      have c0 := k0 _ rfl
      have hiI : (i : Int) < m := by omega
      have ht := tl x.h h
      cases hd : decide (x.h = h) with
      | true =>
        rw [hd] at ht
        have ha : r.fl.any (isH h) = true := List.any_eq_true.2 ⟨x, List.mem_of_getElem? hx, hd⟩
        have HA := Lib.hid ha; clear ha hno
        go_wp2_with (fail)
        go_ret
        exact ⟨by rw [HA.out]; rfl, rfl⟩
      | false =>
        rw [hd] at ht
        have HN := Lib.hid hno; clear hno
        go_wp2_with (fail)
        refine ⟨⟨i + 1, by omega, by go_num, by first | rfl | trivial, fun j y hj hy => ?_⟩, by simp [intOf]; omega⟩
        by_cases e : j = i
        · subst e; rw [hx] at hy; cases hy; exact hd
        · exact HN.out j y (by omega) hy
    · obtain rfl : m = i := by omega
      have ha : r.fl.any (isH h) = false := List.any_eq_false.2 fun y hy => by
        obtain ⟨j, hj⟩ := List.mem_iff_getElem?.1 hy
        rw [hno j y (by rw [HM.out]; exact (List.getElem?_eq_some_iff.1 hj).1) hj]; decide
      have HA := Lib.hid ha; clear ha hno
      go_wp2_with (fail)
      go_ret
      exact ⟨by rw [HA.out]; rfl, rfl⟩
end Go.Proofs.Ytnehdcaobkedpaa.Ca

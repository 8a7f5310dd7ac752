/- Layer 20: the guard that all statements share. -/
import Derived.Test.YtnehdcaobkedpaaCaF
namespace Go.Proofs.Ytnehdcaobkedpaa.Ca
open Go.Proofs.Ytnehdcaobkedpaa
open Go.RowKit
open Classical

abbrev nCS (b bf bn bp : Nat) (age : Int) : CS := ⟨b, bf, bn, bp, max age 0, 0, 0, 0, fun _ => none, fun _ _ => none, fun _ _ => none⟩
theorem FM.set_same (m : FM) (h : ByteArray) (v : FV) : m.set h v h = some v := by unfold FM.set; rw [if_pos rfl]
theorem FM.set_ne (m : FM) {h x : ByteArray} (v : FV) (e : x ≠ h) : m.set h v x = m x := by unfold FM.set; rw [if_neg e]
set_option maxHeartbeats 4000000 in
theorem speaks_ok {w0 w : World} {F : List Assn} (H : St w0 w F) : Calls Try.prog 7 #[] w fun r w' => r = .returned (.bool true) ∧ St w0 w' F := by
  have hml : (0 : Nat) < maxLen := by decide
  have hm1 : (ByteArray.mk #[104]).size ≤ maxLen := by decide
  go_enter Try.func7, Try.ntmps7
  go_wp2_with (fail)
  refine (new_ok 3 H).mono ?_
  rintro e w1 ⟨b, bf, bn, bp, rfl, H1⟩
  have hl := learn_ok (nCS b bf bn bp 3) ⟨#[104]⟩ 9 0 0 0 5 hm1 hml H1
  have c1 : changed ((nCS b bf bn bp 3).fm ⟨#[104]⟩) 9 0 0 = false := rfl
  rw [c1] at hl
  obtain ⟨c, hc⟩ : ∃ c, c = (nCS b bf bn bp 3).learn ⟨#[104]⟩ 9 0 0 0 5 := ⟨_, rfl⟩
  have hb : c.b = b := by rw [hc]; rfl
  have ha : c.age = 3 := by rw [hc]; rfl
  have hf : c.fm ⟨#[104]⟩ = some ⟨9, 0, 0, 0, 5⟩ := by rw [hc]; show FM.set (fun _ => none) ⟨#[104]⟩ ⟨9, 0, 0, 0, 5⟩ ⟨#[104]⟩ = _; exact FM.set_same _ _ _
  rw [← hc] at hl
  clear hc c1
  have e1 : c.attrOf ⟨#[104]⟩ 7 = (attrC 9 0 0 0, true) := by unfold CS.attrOf; rw [hf]; dsimp only; rw [ha]; rfl
  have e2 : c.attrOf ⟨#[104]⟩ 8 = (attrC 0 0 0 0, false) := by unfold CS.attrOf; rw [hf]; dsimp only; rw [ha]; rfl
  have HL := Lib.hid hl; have E1 := Lib.hid e1; have E2 := Lib.hid e2; have HA := Lib.hid ha; have HF := Lib.hid hf; clear hl e1 e2 ha hf
  subst hb
  go_wp2_with (fail)
  refine HL.out.mono ?_
  rintro e w2 ⟨rfl, H2⟩
  have h7 := attr_ok c ⟨#[104]⟩ 7 hm1 (by unfold inI; decide) (by rw [HA.out]; decide) (by rw [HA.out]; unfold inI; decide) (fun x hx => by rw [HF.out] at hx; cases hx; unfold inI; decide) H2
  rw [E1.out] at h7
  have H7 := Lib.hid h7; clear h7
  go_wp2_with (fail)
  refine H7.out.mono ?_
  clear H7
  rintro e w3 ⟨rfl, H3⟩
  have HZ := H3.alloc (attrC 0 0 0 0) 30
  go_wp2_with (with_reducible refine hold_store ?_)
  unfold Hold
  with_reducible refine wpList_store_st (ty := 30) (HZ) (attrC 9 0 0 0) ?_ ?_ ?_ ?_ ?_ ?_ ?_
  rfl
  rfl
  rfl
  rfl
  kernel_rfl
  rfl
  intro w4 H4
  clear HZ H2 H1
  generalize w3.heap.size = b3 at *
  have h8 := attr_ok c ⟨#[104]⟩ 8 hm1 (by unfold inI; decide) (by rw [HA.out]; decide) (by rw [HA.out]; unfold inI; decide) (fun x hx => by rw [HF.out] at hx; cases hx; unfold inI; decide) (H4.ord 5 [1, 2, 3, 4, 0])
  rw [E2.out] at h8
  have H8 := Lib.hid h8; clear h8
  go_wp2_with (fail)
  refine H8.out.mono ?_
  clear H8
  rintro e w5 ⟨rfl, H5⟩
  have HZ := H5.alloc (attrC 0 0 0 0) 30
  go_wp2_with (with_reducible refine hold_store ?_)
  unfold Hold
  with_reducible refine wpList_store_st (ty := 30) (HZ) (attrC 0 0 0 0) ?_ ?_ ?_ ?_ ?_ ?_ ?_
  rfl
  rfl
  rfl
  rfl
  kernel_rfl
  rfl
  intro w6 H6
  have q5 := (H6.ord 6 [5, 0, 1, 2, 3, 4]).cell 5 (v := .int .i64 9) rfl
  go_wp2_with (fail)
  go_ret
  exact ⟨rfl, H6.tail.tail.tail.tail.tail.tail⟩
end Go.Proofs.Ytnehdcaobkedpaa.Ca

/- Layer 9's statements: are two slices of numbers one? -/
import Derived.Test.YthdmklmihhallaaCln
import Derived.Deep.QuietTactic
import Derived.BigQuiet
namespace Go.Proofs.Ythdmklmihhallaa
open Go.RowKit

theorem take_eq_step (l q : List Int) (k : Nat) (x : Int) (h : l.take k = q.take k) (h1 : l[k]? = some x) (h2 : q[k]? = some x) : l.take (k + 1) = q.take (k + 1) := by
  rw [take_snoc' l k x h1, take_snoc' q k x h2, h]
set_option maxHeartbeats 1000000 in
theorem ints_ok (A : Option Addr) (c : Nat) (l : List Int) (B : Option Addr) (d : Nat) (q : List Int) (hl : l.length ≤ 281474976710656) (hq : q.length ≤ 281474976710656) (w : World) (hA : Rd w A l) (hB : Rd w B q) :
    Calls Try.prog 12 #[.slice A l.length c, .slice B q.length d] w fun r w' => r = .returned (.bool (decide (l = q))) ∧ ∃ n, w' = w.drewN n := by
  have RA := Lib.hid hA; have RB := Lib.hid hB; clear hA hB
  obtain ⟨n, hn⟩ : ∃ n, n = l.length := ⟨_, rfl⟩
  obtain ⟨m, hm⟩ : ∃ m, m = q.length := ⟨_, rfl⟩
  obtain ⟨res, hres⟩ : ∃ r, r = decide (l = q) := ⟨_, rfl⟩
  rw [← hn, ← hm, ← hres]
  rw [← hn] at hl
  rw [← hm] at hq
  by_cases hnm : n = m
  · subst hnm
    have HN := Lib.hid hn; have HM := Lib.hid hm; have HR := Lib.hid hres; clear hn hm hres
    go_enter Try.func12, Try.ntmps12
    go_wp2_with (fail)
    go_loopw [5] (fun i wr => ∃ k : Nat, k ≤ n ∧ i = .int .i64 k ∧ Hid (l.take k = q.take k) ∧ ∃ j, wr = w.drewN j) (fun i _ => n - (intOf i).toNat)
    case atStart => exact ⟨0, Nat.zero_le _, rfl, Lib.hid (by simp), 0, rfl⟩
    case round =>
      obtain ⟨k, hk, rfl, hT, j, rfl⟩ := hrel
      by_cases hlt : k < n
      · obtain ⟨x, hx⟩ : ∃ x, l[k]? = some x := ⟨_, List.getElem?_eq_getElem (by rw [← HN.out]; exact hlt)⟩
        obtain ⟨y, hy⟩ : ∃ y, q[k]? = some y := ⟨_, List.getElem?_eq_getElem (by rw [← HM.out]; exact hlt)⟩
        obtain ⟨b1, o1, hA1, c1⟩ := RA.out k x hx
        obtain ⟨b2, o2, hA2, c2⟩ := RB.out k y hy
        subst hA1 hA2
        have hkI : (k : Int) < n := by omega
        have e1 : (w.drewN j).cell? ⟨b1, o1 + k, none⟩ = some (.int .i64 x) := c1
        have e2 : (w.drewN j).cell? ⟨b2, o2 + k, none⟩ = some (.int .i64 y) := c2
        by_cases hxy : x = y
        · subst hxy
          have hs := take_eq_step l q k x hT.out hx hy
          have HS := Lib.hid hs; clear hs hx hy
          go_wp2_with (fail)
          go_quiet (fail)
          go_wp2_with (fail)
          go_roundw
          case rel => exact ⟨k + 1, by omega, by go_num, HS, j + nq, rfl⟩
          case measure => simp [intOf]; omega
        · have hne : (x != y) = true := by simp [hxy]
          have hr : res = false := by
            rw [HR.out, decide_eq_false]
            intro h; rw [h, hy] at hx; injection hx with hx; exact hxy hx.symm
          have HR2 := Lib.hid hr; have HXY := Lib.hid hxy; clear hr hx hy hxy
          go_wp2_with (fail)
          go_quiet (fail)
          go_wp2_with (fail)
          go_ret
          rw [HR2.out]
          exact ⟨rfl, j + nq, by simp [World.drewN, Nat.add_assoc]⟩
      · obtain rfl : n = k := by omega
        have hr : res = true := by
          rw [HR.out, decide_eq_true_eq]
          have h := hT.out
          rwa [List.take_of_length_le (by rw [← HN.out]; exact Nat.le_refl _), List.take_of_length_le (by rw [← HM.out]; exact Nat.le_refl _)] at h
        have HR2 := Lib.hid hr; clear hr
        go_wp2_with (fail)
        go_ret
        rw [HR2.out]
        exact ⟨rfl, j, rfl⟩
  · have hne : ((n : Int) != (m : Int)) = true := by simp; omega
    have hr : res = false := by
      rw [hres, decide_eq_false]
      intro h; rw [hn, hm, h] at hnm; exact hnm rfl
    have HR2 := Lib.hid hr; have HNM := Lib.hid hnm; clear hr hnm hn hm hres
    go_enter Try.func12, Try.ntmps12
    go_wp2_with (fail)
    go_ret
    rw [HR2.out]
    exact ⟨rfl, 0, rfl⟩
end Go.Proofs.Ythdmklmihhallaa

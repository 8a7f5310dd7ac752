/- Layer 6: numbers that are none, and means. -/
import Derived.Test.YtdofeehnclobmaaScP
import Derived.Test.YtdofeehnclobmaaFEx
import Derived.Test.YtdofeehnclobmaaLift
namespace Go.Proofs.Ytdofeehnclobmaa
open Go.RowKit

theorem andNot_top (b : Nat) (h : b < 2 ^ 64) : bits .andNot .u64 (b : Int) 9223372036854775808 = (rung b : Int) := by
  have e : ~~~(BitVec.ofInt 64 9223372036854775808) = BitVec.ofNat 64 (2 ^ 63 - 1) := by decide +kernel
  show IntKind.u64.wrap (((BitVec.ofInt 64 (b : Int) &&& ~~~(BitVec.ofInt 64 9223372036854775808)).toNat : Nat) : Int) = _
  rw [e, BitVec.toNat_and, ofInt64_toNat, BitVec.toNat_ofNat]
  rw [show ((b : Int) % 18446744073709551616).toNat = b by omega, show (2 ^ 63 - 1) % 2 ^ 64 = 2 ^ 63 - 1 by decide, Nat.and_two_pow_sub_one_eq_mod]
  have : rung b = b % 9223372036854775808 := rfl
  rw [IntKind.wrap_u64, this]; omega
theorem nan_ok (w : World) : Calls Try.prog 21 #[] w fun r w' => r = .returned (.float .f64 9221120237041090561) ∧ w' = w := by
  go_enter Try.func21, Try.ntmps21
  go_wp2_with (fail)
  go_ret
  exact ⟨rfl, rfl⟩
theorem abs_ok (b : Nat) (h : b < 2 ^ 64) (w : World) : Calls Try.prog 27 #[.float .f64 b] w fun r w' => r = .returned (.float .f64 (rung b)) ∧ w' = w := by
  have e := andNot_top b h
  go_enter Try.func27, Try.ntmps27
  go_wp2_with (fail)
  go_ret
  exact ⟨rfl, rfl⟩
def fin (b : Nat) : Bool := decide (rung b < bI)
def isinf (b : Nat) : Bool := decide (rung b = bI)
theorem isinf_ord (b : Nat) : (FloatKind.f64.format.order (rung b) 9218868437227405311 == some .gt) = isinf b := by
  have hb : bI = 9218868437227405312 := by decide
  have hr := rung_lt b
  have e1 : rung (rung b) = rung b := Nat.mod_mod _ _
  have e2 : rung 9218868437227405311 = 9218868437227405311 := by decide
  have e3 : sneg (rung b) = false := by unfold sneg; rw [show rung b / bS = 0 from Nat.div_eq_of_lt hr]; rfl
  have e4 : sneg 9218868437227405311 = false := by decide
  show (Ieee.double.order (rung b) 9218868437227405311 == some .gt) = isinf b
  cases hn : nanb (rung b)
  · rw [order_key _ _ hn (by decide), cmp_gt]
    rw [nanb_rung, decide_eq_false_iff_not, e1] at hn
    unfold isinf fkey
    rw [e1, e2, e3, e4]
    simp only [sgn, Bool.false_eq_true, if_false]
    rw [Bool.eq_iff_iff]; simp only [decide_eq_true_eq]; omega
  · rw [order_nan _ _ (.inl hn)]
    rw [nanb_rung, decide_eq_true_iff, e1] at hn
    unfold isinf
    symm; rw [decide_eq_false (by omega)]; rfl
theorem isinf_ok (b : Nat) (h : b < 2 ^ 64) (w : World) : Calls Try.prog 23 #[.float .f64 b, .int .i64 0] w fun r w' => r = .returned (.bool (isinf b)) ∧ w' = w := by
  have E := Lib.hid (isinf_ord b)
  go_enter Try.func23, Try.ntmps23
  go_wp2_with (first | (go_at_call 27; refine (abs_ok _ h _).mono ?_; rintro x w1 ⟨rfl, rfl⟩))
  go_ret
  rw [← E.out]
  exact ⟨rfl, rfl⟩
theorem fin_eq (b : Nat) : fin b = (!nanb b && !isinf b) := by
  unfold fin isinf
  rw [nanb_rung, Bool.eq_iff_iff]
  simp only [decide_eq_true_eq, Bool.and_eq_true, Bool.not_eq_true', decide_eq_false_iff_not]; omega
/-- the sum of the first k numbers, whatever a NaN's bits are -/
def SumR (l : List Nat) : Nat → Nat → Prop
  | 0, s => s = 0
  | k + 1, s => if fin (l.getD k 0) then ∃ t, SumR l k t ∧ FR .add t (l.getD k 0) s else SumR l k s
def cntR (l : List Nat) : Nat → Nat
  | 0 => 0
  | k + 1 => if fin (l.getD k 0) then cntR l k + 1 else cntR l k
theorem cntR_le (l : List Nat) : ∀ k, cntR l k ≤ k
  | 0 => Nat.le_refl _
  | k + 1 => by have := cntR_le l k; rw [cntR]; split <;> omega
theorem SumR.eqv (l : List Nat) : ∀ k {s t}, SumR l k s → SumR l k t → Eqv s t
  | 0, s, t, h, h' => by cases h; cases h'; exact .inr rfl
  | k + 1, s, t, h, h' => by
    rw [SumR] at h h'
    by_cases hf : fin (l.getD k 0) = true
    · rw [if_pos hf] at h h'
      obtain ⟨s', h1, h2⟩ := h
      obtain ⟨t', h3, h4⟩ := h'
      exact h2.eqv h4 (SumR.eqv l k h1 h3) (.rfl' _)
    · rw [if_neg hf] at h h'
      exact SumR.eqv l k h h'
theorem SumR.zero (l : List Nat) : ∀ k {s}, SumR l k s → cntR l k = 0 → s = 0
  | 0, s, h, _ => h
  | k + 1, s, h, hc => by
    rw [SumR] at h; rw [cntR] at hc
    by_cases hf : fin (l.getD k 0) = true
    · rw [if_pos hf] at hc; omega
    · rw [if_neg hf] at h hc; exact SumR.zero l k h hc
/-- a slice that reads as these floats -/
def RdF (w : World) (A : Option Addr) (l : List Nat) : Prop := ∀ i x, l[i]? = some x → ∃ b o, A = some ⟨b, o, none⟩ ∧ w.cell? ⟨b, o + i, none⟩ = some (.float .f64 x)
theorem mean_ok (A : Option Addr) (c : Nat) (l : List Nat) (hl : l.length ≤ 281474976710656) (h64 : ∀ x ∈ l, x < 2 ^ 64) {w0 w : World} {F : List Assn} (hr : ∀ w', St w0 w' F → RdF w' A l) (H : St w0 w F) :
    Calls Try.prog 19 #[.slice A l.length c] w fun e w' => ∃ s r, SumR l l.length s ∧ (cntR l l.length = 0 → r = 9221120237041090561) ∧ (cntR l l.length ≠ 0 → FR .quo s (fl (cntR l l.length)) r) ∧ e = .returned (.tuple #[.float .f64 r, .int .i64 (cntR l l.length)]) ∧ St w0 w' F := by
  obtain ⟨n, hn⟩ : ∃ n, n = l.length := ⟨_, rfl⟩
  rw [← hn] at hl ⊢
  have HN := Lib.hid hn; have HR := Lib.hid hr; have HX := Lib.hid h64; clear hn hr h64
  go_enter Try.func19, Try.ntmps19
  go_wp2_with (fail)
  go_loopw [4, 5, 7, 10] (fun s c _ i wr => ∃ k : Nat, k ≤ n ∧ i = .int .i64 k ∧ c = .int .i64 (cntR l k) ∧ (∃ f, s = .float .f64 f ∧ SumR l k f) ∧ St w0 wr F) (fun _ _ _ i _ => n - (intOf i).toNat)
  case atStart => exact ⟨0, Nat.zero_le _, rfl, rfl, ⟨0, rfl, rfl⟩, H⟩
  case round =>
    obtain ⟨k, hk, rfl, rfl, ⟨f, rfl, hs⟩, H1⟩ := hrel
    have hc := cntR_le l k
    by_cases hlt : k < n
    · obtain ⟨x, hx⟩ : ∃ x, l[k]? = some x := ⟨_, List.getElem?_eq_getElem (by rw [← HN.out]; exact hlt)⟩
      have hx64 := HX.out x (List.mem_of_getElem? hx)
      have hxd : l.getD k 0 = x := by rw [List.getD_eq_getElem?_getD, hx]; rfl
      obtain ⟨b, o, hA, c0⟩ := HR.out _ H1 k x hx
      subst hA
      have hfe := fin_eq x
      cases hf : fin x
      · have e1 : SumR l (k + 1) f := by rw [SumR, hxd, hf]; exact hs
        have e2 : cntR l (k + 1) = cntR l k := by rw [cntR, hxd, hf]; rfl
        rw [hf] at hfe
        cases hnn : nanb x
        · rw [hnn] at hfe
          have hii : isinf x = true := by revert hfe; cases isinf x <;> decide
          have E1 := Lib.hid e1; have E2 := Lib.hid e2; have HNN := Lib.hid hnn; have HII := Lib.hid hii; clear e1 e2 hx hxd hfe hf hs hnn hii
          go_wp2_with (first | (go_at_call 26; refine (isnan_ok _ _).mono ?_; rw [HNN.out]; rintro q w1 ⟨rfl, rfl⟩) | (go_at_call 23; refine (isinf_ok _ hx64 _).mono ?_; rw [HII.out]; rintro q w1 ⟨rfl, rfl⟩))
          go_roundw
          case rel => exact ⟨k + 1, by omega, by go_num, by rw [E2.out], ⟨f, rfl, E1.out⟩, H1⟩
          case measure => simp [intOf]; omega
        · have E1 := Lib.hid e1; have E2 := Lib.hid e2; have HNN := Lib.hid hnn; clear e1 e2 hx hxd hfe hf hs hnn
          go_wp2_with (first | (go_at_call 26; refine (isnan_ok _ _).mono ?_; rw [HNN.out]; rintro q w1 ⟨rfl, rfl⟩))
          go_roundw
          case rel => exact ⟨k + 1, by omega, by go_num, by rw [E2.out], ⟨f, rfl, E1.out⟩, H1⟩
          case measure => simp [intOf]; omega
      · have e1 : ∀ t, FR .add f x t → SumR l (k + 1) t := fun t ht => by rw [SumR, hxd, hf]; exact ⟨f, hs, ht⟩
        have e2 : cntR l (k + 1) = cntR l k + 1 := by rw [cntR, hxd, hf]; rfl
        rw [hf] at hfe
        have hnn : nanb x = false := by revert hfe; cases isinf x <;> cases nanb x <;> decide
        have hii : isinf x = false := by revert hfe; cases isinf x <;> cases nanb x <;> decide
        have E1 := Lib.hid e1; have E2 := Lib.hid e2; have HNN := Lib.hid hnn; have HII := Lib.hid hii; clear e1 e2 hx hxd hfe hf hs hnn hii
        go_wp2_with (first | (go_at_call 26; refine (isnan_ok _ _).mono ?_; rw [HNN.out]; rintro q w1 ⟨rfl, rfl⟩) | (go_at_call 23; refine (isinf_ok _ hx64 _).mono ?_; rw [HII.out]; rintro q w1 ⟨rfl, rfl⟩))
        go_roundw
        case rel => exact ⟨k + 1, by omega, by go_num, by rw [E2.out]; go_num, ⟨_, rfl, E1.out _ (fbits_FR _ _ _ _)⟩, H1.drewN _⟩
        case measure => simp [intOf]; omega
    · have hkn : k = n := by omega
      subst hkn
      by_cases h0 : cntR l k = 0
      · have hb : ((cntR l k : Int) == 0) = true := by simp [h0]
        have H0 := Lib.hid h0; have HS := Lib.hid hs; clear h0 hs
        go_wp2_with (first | (go_at_call 21; refine (nan_ok _).mono ?_; rintro q w1 ⟨rfl, rfl⟩))
        go_ret2
        exact ⟨f, _, HS.out, fun _ => rfl, fun h => absurd H0.out h, by rw [H0.out]; rfl, H1⟩
      · have hb : ((cntR l k : Int) == 0) = false := by simp [h0]
        have H0 := Lib.hid h0; have HS := Lib.hid hs; clear h0 hs
        go_wp2_with (fail)
        go_ret2
        exact ⟨f, _, HS.out, fun h => absurd h H0.out, fun _ => fbits_FR _ _ _ _, rfl, H1.drewN _⟩
theorem exp_fin (x : Int) (h0 : 0 ≤ x) (h1 : x ≤ 18446744073709551615) : (x / 4503599627370496 % 2048 == 2047) = !fin x.toNat := by
  have e1 : bI = 9218868437227405312 := by decide
  have e2 : rung x.toNat = x.toNat % 9223372036854775808 := rfl
  unfold fin
  rw [Bool.eq_iff_iff]
  simp only [beq_iff_eq, Bool.not_eq_true', decide_eq_false_iff_not]
  omega
/-- a slice that reads as these numbers -/
def RdU (w : World) (A : Option Addr) (l : List Int) : Prop := ∀ i x, l[i]? = some x → ∃ b o, A = some ⟨b, o, none⟩ ∧ w.cell? ⟨b, o + i, none⟩ = some (.int .u64 x)
theorem and2047 (x : Int) (h0 : 0 ≤ x) (h1 : x ≤ 18446744073709551615) : bits .and .u64 x 2047 = x % 2048 := by
  show IntKind.u64.wrap (((BitVec.ofInt 64 x &&& BitVec.ofInt 64 2047).toNat : Nat) : Int) = _
  rw [BitVec.toNat_and, ofInt64_toNat, ofInt64_toNat, show ((2047 : Int) % 18446744073709551616).toNat = 2 ^ 11 - 1 by decide, Nat.and_two_pow_sub_one_eq_mod, IntKind.wrap_u64]
  omega
theorem refmean_ok (A : Option Addr) (c : Nat) (l : List Int) (hl : l.length ≤ 281474976710656) (h64 : ∀ x ∈ l, 0 ≤ x ∧ x ≤ 18446744073709551615) {w0 w : World} {F : List Assn} (hr : ∀ w', St w0 w' F → RdU w' A l) (H : St w0 w F) :
    Calls Try.prog 20 #[.slice A l.length c] w fun e w' => ∃ s r, SumR (l.map Int.toNat) l.length s ∧ FR .quo s (fl (cntR (l.map Int.toNat) l.length)) r ∧ e = .returned (.tuple #[.float .f64 r, .int .i64 (cntR (l.map Int.toNat) l.length)]) ∧ St w0 w' F := by
  obtain ⟨n, hn⟩ : ∃ n, n = l.length := ⟨_, rfl⟩
  rw [← hn] at hl ⊢
  have HN := Lib.hid hn; have HR := Lib.hid hr; have HX := Lib.hid h64; clear hn hr h64
  obtain ⟨m, hm⟩ : ∃ m, m = l.map Int.toNat := ⟨_, rfl⟩
  rw [← hm]
  have HM := Lib.hid hm; clear hm
  go_enter Try.func20, Try.ntmps20
  go_wp2_with (fail)
  go_loopw [4, 5, 6, 7] (fun s c i _ wr => ∃ k : Nat, k ≤ n ∧ i = .int .i64 k ∧ c = .int .i64 (cntR m k) ∧ (∃ f, s = .float .f64 f ∧ SumR m k f) ∧ St w0 wr F) (fun _ _ i _ _ => n - (intOf i).toNat)
  case atStart => exact ⟨0, Nat.zero_le _, rfl, rfl, ⟨0, rfl, rfl⟩, H⟩
  case round =>
    obtain ⟨k, hk, rfl, rfl, ⟨f, rfl, hs⟩, H1⟩ := hrel
    have hc := cntR_le m k
    by_cases hlt : k < n
    · obtain ⟨x, hx⟩ : ∃ x, l[k]? = some x := ⟨_, List.getElem?_eq_getElem (by rw [← HN.out]; exact hlt)⟩
      obtain ⟨hx0, hx1⟩ := HX.out x (List.mem_of_getElem? hx)
      have hxd : m.getD k 0 = x.toNat := by rw [HM.out, List.getD_eq_getElem?_getD, List.getElem?_map, hx]; rfl
      obtain ⟨b, o, hA, c0⟩ := HR.out _ H1 k x hx
      subst hA
      have he := exp_fin x hx0 hx1
      have ha := and2047 (x / 4503599627370496) (by omega) (by omega)
      cases hf : fin x.toNat
      · have e1 : SumR m (k + 1) f := by rw [SumR, hxd, hf]; exact hs
        have e2 : cntR m (k + 1) = cntR m k := by rw [cntR, hxd, hf]; rfl
        rw [hf] at he
        have E1 := Lib.hid e1; have E2 := Lib.hid e2; clear e1 e2 hx hxd hf hs
        go_wp2_with (fail)
        go_roundw
        case rel => exact ⟨k + 1, by omega, by go_num, by rw [E2.out], ⟨f, rfl, E1.out⟩, H1⟩
        case measure => simp [intOf]; omega
      · have e1 : ∀ t, FR .add f x.toNat t → SumR m (k + 1) t := fun t ht => by rw [SumR, hxd, hf]; exact ⟨f, hs, ht⟩
        have e2 : cntR m (k + 1) = cntR m k + 1 := by rw [cntR, hxd, hf]; rfl
        rw [hf] at he
        have E1 := Lib.hid e1; have E2 := Lib.hid e2; clear e1 e2 hx hxd hf hs
        go_wp2_with (fail)
        go_roundw
        case rel => exact ⟨k + 1, by omega, by go_num, by rw [E2.out]; go_num, ⟨_, rfl, E1.out _ (fbits_FR _ _ _ _)⟩, H1.drewN _⟩
        case measure => simp [intOf]; omega
    · have hkn : k = n := by omega
      subst hkn
      have HS := Lib.hid hs; clear hs
      go_wp2_with (fail)
      go_ret2
      exact ⟨f, _, HS.out, fbits_FR _ _ _ _, rfl, H1.drewN _⟩
end Go.Proofs.Ytdofeehnclobmaa

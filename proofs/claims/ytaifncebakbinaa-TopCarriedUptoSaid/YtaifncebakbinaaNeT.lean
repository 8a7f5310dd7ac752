/- Layer 21: checksums, seals. -/
import Derived.Test.YtaifncebakbinaaNeS
namespace Go.Proofs.Ytaifncebakbinaa
open Go.RowKit

theorem rnd_eq (n w : Int) (h0 : 0 ≤ n) (h1 : n ≤ 65535) (hw0 : 0 ≤ w) (hw : w ≤ 65535) : (n + w) % 65536 + (n + w) / 65536 = rnd n w := by
  unfold rnd; split <;> omega
theorem xor_all (n : Int) (h0 : 0 ≤ n) (h1 : n ≤ 65535) : bits .xor .i64 n 65535 = 65535 - n := by
  obtain ⟨k, rfl⟩ := Int.eq_ofNat_of_zero_le h0
  rw [bits_xor_i64, show ((k : Int) % 18446744073709551616).toNat = k by omega, show ((65535 : Int) % 18446744073709551616).toNat = 2 ^ 16 - 1 by decide]
  have e : k ^^^ (2 ^ 16 - 1) = 2 ^ 16 - (k + 1) := by
    apply Nat.eq_of_testBit_eq
    intro i
    rw [Nat.testBit_xor, Nat.testBit_two_pow_sub_one, Nat.testBit_two_pow_sub_succ (by omega)]
    by_cases hi : i < 16
    · simp [hi]
    · have : k.testBit i = false := Nat.testBit_lt_two_pow (Nat.lt_of_lt_of_le (show k < 2 ^ 16 by omega) (Nat.pow_le_pow_right (by decide) (by omega)))
      simp [hi, this]
  rw [e, IntKind.wrap_i64]; omega
theorem or_word (y z : UInt8) : bits .or .i64 ((y.toNat : Int) * 256) (z.toNat : Int) = (y.toNat : Int) * 256 + z.toNat := by
  have h1 := y.toNat_lt
  have h2 := z.toNat_lt
  exact i64_or_join _ 8 z.toNat (by decide) (by omega) (by omega) (by omega) (by omega)
theorem getD_get (s : ByteArray) (i : Nat) (h : i < s.size) : (bl s).getD i 0 = s[i] := by
  rw [List.getD_eq_getElem?_getD, List.getElem?_eq_getElem (by rw [bl_length]; exact h)]; rfl
set_option maxHeartbeats 1000000 in
theorem sum_ok (s : ByteArray) (hs : s.size ≤ 1099511627776) (w : World) :
    Calls Try.prog 40 #[.string s] w fun r w' => r = .returned (.int .i64 (sumB s)) ∧ w' = w := by
  go_enter Try.func40, Try.ntmps40
  go_wp2_with (fail)
  go_loop [3, 4, 5] (fun n i _ => ∃ k : Nat, k ≤ s.size + 1 ∧ k % 2 = 0 ∧ i = .int .i64 k ∧ n = .int .i64 (csum (bl s) (min k s.size))) (fun _ i _ => s.size + 1 - (intOf i).toNat)
  case atStart => exact ⟨0, Nat.zero_le _, rfl, rfl, by rw [Nat.zero_min]; rfl⟩
  case round =>
    obtain ⟨k, hk, hk2, rfl, rfl⟩ := hrel
    by_cases hlt : k < s.size
    · rw [Nat.min_eq_left (Nat.le_of_lt hlt)]
      obtain ⟨c1, c2⟩ := csum_range (bl s) k
      obtain ⟨y, hy⟩ : ∃ y, s[k] = y := ⟨_, rfl⟩
      have hyl := y.toNat_lt
      by_cases hlt2 : k + 1 < s.size
      · obtain ⟨z, hz⟩ : ∃ z, s[k + 1] = z := ⟨_, rfl⟩
        have hzl := z.toNat_lt
        have hor := or_word y z
        have hsum := csum_two (bl s) k hk2
        rw [getD_get s k hlt, getD_get s (k + 1) hlt2, hy, hz] at hsum
        have hmin : min (k + 2) s.size = k + 2 := Nat.min_eq_left (by omega)
        have hr := rnd_eq (csum (bl s) k) ((y.toNat : Int) * 256 + z.toNat) c1 c2 (by omega) (by omega)
        rw [← hsum] at hr
        have HM := Lib.hid hmin; have HR := Lib.hid hr; have HK := Lib.hid hk2; clear hsum hmin hr hk2
        generalize csum (bl s) k = q at *
        have hand := i64_and_mask (q + ((y.toNat : Int) * 256 + z.toNat)) 16 (by decide)
        rw [show ((2 ^ 16 - 1 : Nat) : Int) = 65535 from rfl, show (2 : Int) ^ 16 = 65536 from rfl] at hand
        go_wp2_with (fail)
        go_round
        case rel => exact ⟨k + 2, by omega, by have := HK.out; omega, by go_num, by rw [HM.out, ← HR.out]⟩
        case measure => simp [intOf]; omega
      · have hk1 : k + 1 = s.size := by omega
        have hsum : csum (bl s) (k + 1) = rnd (csum (bl s) k) ((y.toNat : Int) * 256) := by
          rw [csum, getD_get s k hlt, hy]; unfold wgt; rw [if_pos hk2]
        have hmin : min (k + 2) s.size = k + 1 := by omega
        have hr := rnd_eq (csum (bl s) k) ((y.toNat : Int) * 256) c1 c2 (by omega) (by omega)
        rw [← hsum] at hr
        have HM := Lib.hid hmin; have HR := Lib.hid hr; have HK := Lib.hid hk2; have HK1 := Lib.hid hk1; clear hsum hmin hr hk2 hk1
        generalize csum (bl s) k = q at *
        have hand := i64_and_mask (q + (y.toNat : Int) * 256) 16 (by decide)
        rw [show ((2 ^ 16 - 1 : Nat) : Int) = 65535 from rfl, show (2 : Int) ^ 16 = 65536 from rfl] at hand
        go_wp2_with (fail)
        go_round
        case rel => exact ⟨k + 2, by omega, by have := HK.out; omega, by go_num, by rw [HM.out, ← HR.out]⟩
        case measure => simp [intOf]; omega
    · rw [Nat.min_eq_right (by omega)]
      obtain ⟨c1, c2⟩ := csum_range (bl s) s.size
      have hx := xor_all _ c1 c2
      have HX := Lib.hid hx; clear hx
      go_wp2_with (fail)
      go_ret
      exact ⟨by rw [HX.out]; rfl, rfl⟩
/-- two bytes as a string -/
theorem two_bytes {w0 w : World} {F : List Assn} (q : Int) (h0 : 0 ≤ q) (h1 : q ≤ 65535) (H : St w0 w F) :
    (convert 32 9 (.slice (some ⟨w.heap.size, 0, none⟩) 2 2)).run Try.prog (w.alloc (.cells #[.int .u8 (q / 256), .int .u8 (q % 256)] 5)) = .ok (.string (mkb (be q 2))) (w.alloc (.cells #[.int .u8 (q / 256), .int .u8 (q % 256)] 5)) := by
  have hbe : be q 2 = [byt (q / 256), byt q] := by
    simp only [be]; rw [show (2 : Int) ^ (8 * 1) = 256 from rfl, show (2 : Int) ^ (8 * 0) = 1 from rfl, Int.ediv_one]
  have hv : [.int .u8 (q / 256), .int .u8 (q % 256)] = bv [byt (q / 256), byt q] := by
    simp only [bv, List.map_cons, List.map_nil, vb, byt_toNat]
    rw [show q / 256 % 256 = q / 256 by omega]
  have H2 : St w0 (w.alloc (.cells #[.int .u8 (q / 256), .int .u8 (q % 256)] 5)) (Row 5 1 (some ⟨w.heap.size, 0, none⟩) 2 2 (bv [byt (q / 256), byt q]) :: F) := by
    rw [← hv]
    exact H.newRow #[.int .u8 (q / 256), .int .u8 (q % 256)] 5 1 2 rfl (by decide)
  rw [hbe]
  exact H2.toStr (P := Try.prog) (src := 32) (dst := 9) Try.underlying32 Try.underlying5 Try.underlying9
theorem be2_size (q : Int) : (mkb (be q 2)).size ≤ 2 := by rw [mkb_size, be_length]; exact Nat.le_refl _
theorem seal_ok (s : ByteArray) (hs : s.size ≤ 1099511627776) {w0 w : World} {F : List Assn} (H : St w0 w F) :
    Calls Try.prog 9 #[.string s] w fun r w' => r = .returned (.string (sealB s)) ∧ St w0 w' F := by
  obtain ⟨h0, h1⟩ := sumB_range s
  have e : sealB s = s ++ mkb (be (sumB s) 2) := by rw [sealB, ← mkb_append, mkb_bl]
  rw [e]
  have hz := be2_size (sumB s)
  have hq := sum_ok s hs w
  have hcv := two_bytes (sumB s) h0 h1 H
  generalize mkb (be (sumB s) 2) = t at *
  generalize sumB s = q at *
  have HQ := Lib.hid hq; clear hq e
  go_enter Try.func9, Try.ntmps9
  go_wp2_with (go_at_call 40; refine HQ.out.mono ?_; rintro e w1 ⟨rfl, rfl⟩)
  go_ret
  exact ⟨rfl, (H.alloc _ _).tail⟩
theorem ret_sb {a b : ByteArray} (h : a = b) (x : Bool) : Ending.returned (.tuple #[.string a, .bool x]) = .returned (.tuple #[.string b, .bool x]) := by rw [h]
theorem open_ok (s : ByteArray) (hs : s.size ≤ 1099511627776) {w0 w : World} {F : List Assn} (H : St w0 w F) :
    Calls Try.prog 8 #[.string s] w fun r w' => r = .returned (.tuple #[.string (openB s).1, .bool (openB s).2]) ∧ St w0 w' F := by
  by_cases h2 : s.size < 2
  · have e : openB s = (ByteArray.empty, false) := if_pos h2
    rw [e]
    have hd : decide ((s.size : Int) < 2) = true := decide_eq_true (by omega)
    have E := Lib.hid e; clear e
    go_enter Try.func8, Try.ntmps8
    go_wp2_with (fail)
    go_ret2
    exact ⟨rfl, H⟩
  · have hd : decide ((s.size : Int) < 2) = false := decide_eq_false (by omega)
    have hsl : ((s.size : Int) - 2).toNat = s.size - 2 := by omega
    obtain ⟨t, ht⟩ : ∃ t, t = s.extract 0 (s.size - 2) := ⟨_, rfl⟩
    have hts : t.size ≤ 1099511627776 := by rw [ht, ByteArray.size_extract]; omega
    by_cases hse : sealB t = s
    · have e : openB s = (t, true) := by unfold openB; rw [if_neg h2, ← ht, if_pos hse]
      rw [e]
      have hq := seal_ok t hts H
      rw [hse] at hq
      have HQ := Lib.hid hq; have E := Lib.hid e; have HT := Lib.hid ht; have HSE := Lib.hid hse; clear hq e ht hse
      go_enter Try.func8, Try.ntmps8
      go_wp2_with (fail)
      rw [← HT.out]
      refine HQ.out.mono ?_
      rintro e w1 ⟨rfl, H1⟩
      go_wp2_with (fail)
      go_ret2
      exact ⟨ret_sb HT.out.symm true, H1⟩
    · have e : openB s = (ByteArray.empty, false) := by unfold openB; rw [if_neg h2, ← ht, if_neg hse]
      rw [e]
      have hq := seal_ok t hts H
      obtain ⟨u, hu⟩ : ∃ u, u = sealB t := ⟨_, rfl⟩
      rw [← hu] at hq hse
      have hne' : (u.toList == s.toList) = false := by
        rw [beq_eq_false_iff_ne, ByteArray.toList_eq, ByteArray.toList_eq]
        intro h
        exact hse (bl_inj h)
      have HQ := Lib.hid hq; have E := Lib.hid e; have HT := Lib.hid ht; have HSE := Lib.hid hse; have HU := Lib.hid hu; clear hq e ht hse hu
      go_enter Try.func8, Try.ntmps8
      go_wp2_with (fail)
      rw [← HT.out]
      refine HQ.out.mono ?_
      rintro e w1 ⟨rfl, H1⟩
      go_wp2_with (fail)
      go_ret2
      exact ⟨rfl, H1⟩
end Go.Proofs.Ytaifncebakbinaa

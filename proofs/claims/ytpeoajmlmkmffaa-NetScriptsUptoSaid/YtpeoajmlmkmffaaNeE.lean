/- Layer 21: the document's turned bit. -/
import Derived.Test.YtpeoajmlmkmffaaNeD
namespace Go.Proofs.Ytpeoajmlmkmffaa
open Go.RowKit

theorem infoU8 : (Try.prog.info? 5).map (fun i => (i.zero, i.size, i.bytes)) = some (some (.int .u8 0), 1, 1) := by kernel_rfl
def zb (y : UInt8) (m : Nat) : UInt8 := UInt8.ofNat ((y.toNat ^^^ 2 ^ m) % 256)
theorem turn_get (l : List UInt8) (K i : Nat) (y : UInt8) (h : l[i]? = some y) : (turnL l K)[i]? = some (if K / 8 = i then zb y (K % 8) else y) := by
  have hi := (List.getElem?_eq_some_iff.1 h).1
  unfold turnL
  rw [List.getElem?_set]
  by_cases e : K / 8 = i
  · rw [if_pos e, if_pos (by omega), if_pos e]
    subst e
    rw [List.getD_eq_getElem?_getD, h]; rfl
  · rw [if_neg e, if_neg e, h]
theorem turnL_length (l : List UInt8) (K : Nat) : (turnL l K).length = l.length := List.length_set ..
def tb (y : UInt8) (K i k : Nat) : UInt8 := if K / 8 = i ∧ K % 8 < k then zb y (K % 8) else y
theorem tb_zero (y : UInt8) (K i : Nat) : tb y K i 0 = y := if_neg (by omega)
theorem tb_eight (y : UInt8) (K i : Nat) : tb y K i 8 = if K / 8 = i then zb y (K % 8) else y := by
  unfold tb
  by_cases h : K / 8 = i
  · rw [if_pos h, if_pos (by omega)]
  · rw [if_neg h, if_neg (by omega)]
set_option maxHeartbeats 1000000 in
theorem refturn_ok (s : ByteArray) (bit : Int) (hb : 0 ≤ bit) (hb2 : bit ≤ 9223372036854775807) (hs : s.size ≤ 1099511627776) {w0 w : World} {F : List Assn} (H : St w0 w F) :
    Calls Try.prog 13 #[.string s, .int .i64 bit] w fun r w' => r = .returned (.string (turnB s bit)) ∧ St w0 w' F := by
  obtain ⟨i0, hi, hz0, hz1, hz2⟩ := info_parts infoU8
  by_cases h0 : s.size = 0
  · have e : turnB s bit = s := if_pos h0
    rw [e]; clear e
    obtain rfl : s = ByteArray.empty := by
      obtain ⟨d⟩ := s
      have : d = #[] := Array.size_eq_zero_iff.1 h0
      subst this; rfl
    go_enter Try.func13, Try.ntmps13
    go_wp2_with (fail)
    go_ret
    exact ⟨rfl, H⟩
  · obtain ⟨K, hK⟩ : ∃ K : Nat, bit % (8 * (s.size : Int)) = (K : Int) := ⟨(bit % (8 * s.size)).toNat, by have := Int.emod_nonneg bit (b := 8 * (s.size : Int)) (by omega); omega⟩
    have hlt := Int.emod_lt_of_pos bit (b := 8 * (s.size : Int)) (by omega)
    rw [hK] at hlt
    have e : turnB s bit = mkb (turnL (bl s) K) := by unfold turnB; rw [if_neg h0, hK]; rfl
    rw [e]
    obtain ⟨T, hT⟩ : ∃ T, T = turnL (bl s) K := ⟨_, rfl⟩
    have hTl : T.length = s.size := by rw [hT, turnL_length, bl_length]
    rw [← hT]
    have hne : s.toList.isEmpty = false := by rw [toList_isEmpty]; exact decide_eq_false h0
    have HT := Lib.hid hT; have HTL := Lib.hid hTl; clear e hT hTl
    go_enter Try.func13, Try.ntmps13
    go_wp2_with (fail)
    go_loopw [5, 6, 7, 8] (fun v i _ _ wr => ∃ k : Nat, k ≤ s.size ∧ i = .int .i64 k ∧ ∃ A c, v = .slice A k c ∧ St w0 wr (Row 5 1 A k c (bv (T.take k)) :: F)) (fun _ i _ _ _ => s.size - (intOf i).toNat)
    case atStart => exact ⟨0, Nat.zero_le _, rfl, none, 0, rfl, H.nilRow _ _⟩
    case round =>
      obtain ⟨i, hik, rfl, A, c, rfl, H1⟩ := hrel
      by_cases hlt2 : i < s.size
      · obtain ⟨y, hy⟩ : ∃ y, (bl s)[i]? = some y := ⟨_, List.getElem?_eq_getElem (by rw [bl_length]; exact hlt2)⟩
        have hyv : s[i] = y := by
          obtain ⟨h1, h2⟩ := List.getElem?_eq_some_iff.1 hy
          rw [← h2]; rfl
        have ht : T[i]? = some (if K / 8 = i then zb y (K % 8) else y) := by rw [HT.out]; exact turn_get _ _ _ _ hy
        have HY := Lib.hid hyv; have HTI := Lib.hid ht; clear ht hy
        go_wp2_with (fail)
        obtain ⟨wo, hwo⟩ : ∃ wo, wo = wr := ⟨_, rfl⟩
        subst hwo
        go_loop [7, 8] (fun v j => ∃ k : Nat, k ≤ 8 ∧ j = .int .i64 k ∧ v = .int .u8 ((tb y K i k).toNat : Int)) (fun _ j => 8 - (intOf j).toNat)
        case atStart => exact ⟨0, by decide, rfl, by rw [tb_zero]⟩
        case round =>
          obtain ⟨k, hk, rfl, rfl⟩ := hrel
          by_cases hk8 : k < 8
          · by_cases he : 8 * i + k = K
            · have hb1 : ((8 * (i : Int) + (k : Int)) == (K : Int)) = true := by rw [beq_iff_eq]; omega
              have ht1 : tb y K i k = y := by unfold tb; rw [if_neg (by omega)]
              have ht2 : tb y K i (k + 1) = zb y k := by unfold tb; rw [if_pos (by omega), show K % 8 = k by omega]
              have hx := xor_u8 y.toNat k (by have := y.toNat_lt; omega) hk8
              have HT2 := Lib.hid ht2; have HX := Lib.hid hx; have HE := Lib.hid he; clear ht2 hx he
              rw [ht1]
              clear ht1
              go_wp2_with (fail)
              go_round
              case rel => exact ⟨k + 1, by omega, by go_num, by rw [HT2.out]; exact congrArg _ HX.out⟩
              case measure => simp [intOf]; omega
            · have hb1 : ((8 * (i : Int) + (k : Int)) == (K : Int)) = false := by rw [beq_eq_false_iff_ne]; omega
              have ht2 : tb y K i (k + 1) = tb y K i k := by
                unfold tb
                by_cases h1 : K / 8 = i ∧ K % 8 < k
                · rw [if_pos h1, if_pos (by omega)]
                · rw [if_neg h1, if_neg (by omega)]
              have HT2 := Lib.hid ht2; have HE := Lib.hid he; clear ht2 he
              go_wp2_with (fail)
              go_round
              case rel => exact ⟨k + 1, by omega, by go_num, by rw [HT2.out]⟩
              case measure => simp [intOf]; omega
          · obtain rfl : 8 = k := by omega
            have hsn : T.take (i + 1) = T.take i ++ [tb y K i 8] := by rw [List.take_add_one, HTI.out, tb_eight]; rfl
            have hbv : bv (T.take (i + 1)) = bv (T.take i) ++ [vb (tb y K i 8)] := by rw [hsn, bv_append]; rfl
            have HBV := Lib.hid hbv; clear hsn hbv
            generalize tb y K i 8 = z at *
            go_wp2_with (at_builtin; refine wpList_append_st (by rfl) _ _ _ (by rfl) 5 i0 (.int .u8 0) 1 1 Try.underlying47 hi hz0 hz1 hz2 rfl (by decide) A i c (bv (T.take i)) (H1.more _) (by rfl) ⟨wo.heap.size, 0, none⟩ 1 1 [vb z] (by rfl) rfl (World.news_of_block (heap_alloc_new _ _)) (fun u hu => by simp [vb] at hu; subst hu; rfl) (by unfold maxLen; omega) (by omega) ?_; intro A4 c4 w4 H4)
            go_roundw
            case rel => exact ⟨i + 1, by omega, by go_num, A4, c4, ⟨rfl, rfl, rfl⟩, by rw [HBV.out]; exact H4⟩
            case measure => simp [intOf]; omega
      · obtain rfl : i = s.size := by omega
        rw [List.take_of_length_le (by rw [HTL.out]; exact Nat.le_refl _)] at H1
        have hcv2 := H1.toStr (P := Try.prog) (src := 47) (dst := 9) Try.underlying47 Try.underlying5 Try.underlying9
        go_wp2_with (fail)
        go_ret
        exact ⟨rfl, H1.tail⟩
end Go.Proofs.Ytpeoajmlmkmffaa

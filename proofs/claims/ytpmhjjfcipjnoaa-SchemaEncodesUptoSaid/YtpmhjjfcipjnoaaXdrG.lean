/- The document's layer 1 (the reference): the bytes of numbers and texts. -/
import Derived.Test.YtpmhjjfcipjnoaaProg
import Derived.Test.YtpmhjjfcipjnoaaXdrP
import Derived.Test.YtpmhjjfcipjnoaaBits
import Derived.Test.YtpmhjjfcipjnoaaXdrR
import Derived.Test.YtpmhjjfcipjnoaaXdrW
namespace Go.Proofs.Ytpmhjjfcipjnoaa
open Go.RowKit

theorem conv4 {P : Program} (src dst e : TypeId) (hs : P.underlying src = some (.slice e)) (he : P.underlying e = some (.int .u8)) (hd : P.underlying dst = some .string) (W : World) (x0 x1 x2 x3 : Int) :
    (convert src dst (.slice (some ⟨W.heap.size, 0, none⟩) 4 4)).run P (W.alloc (.cells #[.int .u8 x0, .int .u8 x1, .int .u8 x2, .int .u8 x3] e)) = .ok (.string (strOfNums [x0, x1, x2, x3])) (W.alloc (.cells #[.int .u8 x0, .int .u8 x1, .int .u8 x2, .int .u8 x3] e)) := by
  refine run_convert_bytes_arg _ src e hs he W.heap.size 0 4 4 [x0, x1, x2, x3] rfl (fun i hi => ?_) dst hd
  rw [World.cell?_alloc_new]
  match i, hi with
  | 0, _ => rfl
  | 1, _ => rfl
  | 2, _ => rfl
  | 3, _ => rfl
theorem byte_of (m n : Int) (h : m % 256 = n % 256) : UInt8.ofNat m.toNat = byt n ∨ m < 0 := by
  by_cases h0 : m < 0
  · exact .inr h0
  · left
    unfold byt
    apply UInt8.toNat_inj.1
    rw [UInt8.toNat_ofNat', UInt8.toNat_ofNat']
    omega
theorem ref_bytes (n : Int) : strOfNums [(IntKind.u64.wrap ((IntKind.u64.wrap n).tdiv 16777216)).tmod 256 % 256, (IntKind.u64.wrap ((IntKind.u64.wrap n).tdiv 65536)).tmod 256 % 256,
    (IntKind.u64.wrap ((IntKind.u64.wrap n).tdiv 256)).tmod 256 % 256, (IntKind.u64.wrap n).tmod 256 % 256] = mkb (be n 4) := by
  have hu : 0 ≤ n % 18446744073709551616 := Int.emod_nonneg _ (by decide)
  have key : ∀ d : Int, 0 < d → 0 ≤ IntKind.u64.wrap ((IntKind.u64.wrap n).tdiv d) ∧ IntKind.u64.wrap ((IntKind.u64.wrap n).tdiv d) = (n % 18446744073709551616) / d := by
    intro d hd
    rw [IntKind.wrap_u64, IntKind.wrap_u64, Int.tdiv_eq_ediv_of_nonneg hu]
    have h1 : 0 ≤ n % 18446744073709551616 / d := Int.ediv_nonneg hu (Int.le_of_lt hd)
    have h2 : n % 18446744073709551616 / d ≤ n % 18446744073709551616 := Int.ediv_le_self _ hu
    omega
  obtain ⟨p1, q1⟩ := key 16777216 (by decide)
  obtain ⟨p2, q2⟩ := key 65536 (by decide)
  obtain ⟨p3, q3⟩ := key 256 (by decide)
  have p4 : 0 ≤ IntKind.u64.wrap n := by rw [IntKind.wrap_u64]; exact hu
  have q4 : IntKind.u64.wrap n = n % 18446744073709551616 := IntKind.wrap_u64 n
  rw [Int.tmod_eq_emod_of_nonneg p1, Int.tmod_eq_emod_of_nonneg p2, Int.tmod_eq_emod_of_nonneg p3, Int.tmod_eq_emod_of_nonneg p4, q1, q2, q3, q4]
  simp only [strOfNums, mkb, be, List.map_cons, List.map_nil]
  rw [(byte_of _ (n / 2 ^ (8 * 3)) (by omega)).resolve_right (by omega), (byte_of _ (n / 2 ^ (8 * 2)) (by omega)).resolve_right (by omega),
    (byte_of _ (n / 2 ^ (8 * 1)) (by omega)).resolve_right (by omega), (byte_of _ (n / 2 ^ (8 * 0)) (by omega)).resolve_right (by omega)]
set_option maxRecDepth 100000 in
set_option maxHeartbeats 400000 in
theorem refuint_ok (n : Int) {w0 w : World} {F : List Assn} (H : St w0 w F) :
    Calls Try.prog 58 #[.int .i64 n] w fun r w' => r = .returned (.string (mkb (be n 4))) ∧ St w0 w' F := by
  have hcv := conv4 (P := Try.prog) 66 9 5 Try.underlying66 Try.underlying5 Try.underlying9
  go_enter Try.func58, Try.ntmps58
  go_wp2
  go_ret
  exact ⟨by rw [← ref_bytes]; rfl, H.more _⟩
theorem be8 (n : Int) : be (wrap64 ((n % 18446744073709551616) / 4294967296)) 4 ++ be n 4 = be n 8 := by
  have key : ∀ m k : Int, m % 256 = k % 256 → byt m = byt k := fun m k h => by unfold byt; rw [h]
  simp only [be, List.cons_append, List.nil_append]
  rw [key (wrap64 (n % 18446744073709551616 / 4294967296) / 2 ^ (8 * 3)) (n / 2 ^ (8 * 7)) (by unfold wrap64; omega), key (wrap64 (n % 18446744073709551616 / 4294967296) / 2 ^ (8 * 2)) (n / 2 ^ (8 * 6)) (by unfold wrap64; omega),
    key (wrap64 (n % 18446744073709551616 / 4294967296) / 2 ^ (8 * 1)) (n / 2 ^ (8 * 5)) (by unfold wrap64; omega), key (wrap64 (n % 18446744073709551616 / 4294967296) / 2 ^ (8 * 0)) (n / 2 ^ (8 * 4)) (by unfold wrap64; omega)]
set_option maxRecDepth 100000 in
set_option maxHeartbeats 400000 in
theorem refhyper_ok (n : Int) {w0 w : World} {F : List Assn} (H : St w0 w F) :
    Calls Try.prog 60 #[.int .i64 n] w fun r w' => r = .returned (.string (mkb (be n 8))) ∧ St w0 w' F := by
  go_enter Try.func60, Try.ntmps60
  go_wp2_with (fail)
  refine (refuint_ok _ H).mono ?_
  rintro x w1 ⟨rfl, H1⟩
  go_wp2_with (fail)
  refine (refuint_ok _ H1).mono ?_
  rintro x w2 ⟨rfl, H2⟩
  go_wp2
  go_ret
  have e : IntKind.u64.wrap ((IntKind.u64.wrap n).tdiv 4294967296) = (n % 18446744073709551616) / 4294967296 := by
    rw [IntKind.wrap_u64, IntKind.wrap_u64, Int.tdiv_eq_ediv_of_nonneg (Int.emod_nonneg _ (by decide))]; omega
  refine ⟨?_, H2⟩
  rw [← be8, ← mkb_append, ← e]
  rfl
set_option maxRecDepth 100000 in
set_option maxHeartbeats 800000 in
theorem reffixed_ok (s : ByteArray) (hs : s.size ≤ 1099511627776) {w0 w : World} {F : List Assn} (H : St w0 w F) :
    Calls Try.prog 63 #[.string s] w fun r w' => r = .returned (.string (mkb (fixed (bl s)))) ∧ St w0 w' F := by
  obtain ⟨i0, hi, hz0, hz1, hz2⟩ := info_parts infoU8
  have hcv := fun (W : World) (x : ByteArray) => Lib.run_convert_string_bytes (P := Try.prog) W 9 66 5 x Try.underlying9 Try.underlying66 Try.underlying5
  have H1 := H.bytes 5 s (by unfold maxLen; omega)
  have HF : Hid (fixed (bl s) = bl s ++ zeros (padn s.size)) := by show _ = _; rw [fixed, bl_length]
  have hp : padn s.size ≤ 3 ∧ (s.size + padn s.size) % 4 = 0 ∧ ∀ j, j < padn s.size → (s.size + j) % 4 ≠ 0 := by unfold padn; refine ⟨by omega, by omega, fun j hj => by omega⟩
  generalize padn s.size = p at *
  obtain ⟨hp3, hp4, hp5⟩ := hp
  have H4 := Lib.hid hp4; have H5 := Lib.hid hp5; clear hp4 hp5
  go_enter Try.func63, Try.ntmps63
  go_wp2
  rw [strCells_bv] at H1
  generalize Lib.bytesWorld w 5 s = w1 at *
  clear hcv
  go_loopw [3] (fun v wr => ∃ j A c, j ≤ p ∧ v = .slice A (s.size + j) c ∧ St w0 wr (Row 5 1 A (s.size + j) c (bv (bl s ++ zeros j)) :: F)) (fun v _ => match v with | .slice _ n _ => s.size + p - n | _ => 0)
  case atStart => exact ⟨0, _, _, Nat.zero_le _, rfl, by simpa [zeros] using H1⟩
  case round =>
    obtain ⟨j, A, c, hj, rfl, H2⟩ := hrel
    have hz : bl s ++ zeros (j + 1) = (bl s ++ zeros j) ++ [0] := by rw [zeros, List.replicate_succ', List.append_assoc]; rfl
    have HZ := Lib.hid hz; clear hz
    by_cases hlt : j < p
    · have ht : ((((s.size + j : Nat) : Int) % 4) != 0) = true := by have := H5.out j hlt; simp; omega
      go_wp2_with (at_builtin; refine wpList_append_st (by rfl) _ _ _ (by rfl) 5 i0 (.int .u8 0) 1 1 Try.underlying66 hi hz0 hz1 hz2 rfl (by decide) A (s.size + j) c _ (H2.more _) (by rfl) ⟨wr.heap.size, 0, none⟩ 1 1 _ (by rfl) rfl (World.news_of_block (heap_alloc_new _ _)) (fun u hu => by simp at hu; subst hu; rfl) (by unfold maxLen; omega) (by omega) ?_; intro A5 c5 w5 H5')
      go_roundw
      case rel => exact ⟨j + 1, A5, c5, by omega, by rw [Nat.add_assoc], by rw [HZ.out, bv_append, ← Nat.add_assoc]; exact H5'⟩
      case measure => simp; omega
    · obtain rfl : j = p := by omega
      have ht : ((((s.size + j : Nat) : Int) % 4) != 0) = false := by have := H4.out; simp; omega
      have hcv := H2.toStr (P := Try.prog) (src := 66) (dst := 9) Try.underlying66 Try.underlying5 Try.underlying9
      go_wp2
      go_ret
      rw [HF.out]
      exact ⟨rfl, H2.tail⟩
set_option maxRecDepth 100000 in
set_option maxHeartbeats 400000 in
theorem refopaq_ok (s : ByteArray) (hs : s.size ≤ 1099511627776) {w0 w : World} {F : List Assn} (H : St w0 w F) :
    Calls Try.prog 62 #[.string s] w fun r w' => r = .returned (.string (mkb (opaq (bl s)))) ∧ St w0 w' F := by
  have e : mkb (opaq (bl s)) = mkb (be s.size 4) ++ mkb (fixed (bl s)) := by rw [mkb_append, opaq, bl_length]
  rw [e]; clear e
  have z1 : (mkb (be s.size 4)).size ≤ 4 := by rw [mkb_size, be_length]; exact Nat.le_refl _
  have z2 : (mkb (fixed (bl s))).size ≤ 1099511627780 := by rw [mkb_size, fixed, List.length_append, bl_length, zeros, List.length_replicate]; unfold padn; omega
  go_enter Try.func62, Try.ntmps62
  go_wp2_with (first | (go_at_call 58; refine (refuint_ok _ H).mono ?_; rintro x w1 ⟨rfl, H1⟩) | (go_at_call 63; refine (reffixed_ok s hs H1).mono ?_; rintro x w2 ⟨rfl, H2⟩))
  go_ret
  exact ⟨rfl, H2⟩
end Go.Proofs.Ytpmhjjfcipjnoaa

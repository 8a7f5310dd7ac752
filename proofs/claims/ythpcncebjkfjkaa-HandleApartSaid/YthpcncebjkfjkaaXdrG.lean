/- The document's layer 1 (the reference): the bytes of numbers and texts. -/
import Derived.Test.YthpcncebjkfjkaaProg
import Derived.Test.YthpcncebjkfjkaaXdrP
import Derived.Test.YthpcncebjkfjkaaBits
import Derived.Test.YthpcncebjkfjkaaXdrR
import Derived.Test.YthpcncebjkfjkaaXdrW
namespace Go.Proofs.Ythpcncebjkfjkaa
open Go.RowKit

theorem conv4 {P : Program} (src dst e : TypeId) (hs : P.underlying src = some (.slice e)) (he : P.underlying e = some (.int .u8)) (hd : P.underlying dst = some .string) (W : World) (x0 x1 x2 x3 : Int) :
    (convert src dst (.slice (some ⟨W.heap.size, 0, none⟩) 4 4)).run P (W.alloc (.cells #[.int .u8 x0, .int .u8 x1, .int .u8 x2, .int .u8 x3] e)) = .ok (.string (strOfNums [x0, x1, x2, x3])) (W.alloc (.cells #[.int .u8 x0, .int .u8 x1, .int .u8 x2, .int .u8 x3] e)) := by
  refine run_convert_bytes_arg _ src e hs he W.heap.size 0 4 4 [x0, x1, x2, x3] rfl (fun i hi => ?_) dst hd
  rw [World.cell?_alloc_new]
  match i, hi with
  | 0, _ => rfl
  | 1, _ => rfl
  | 2, _ => rfl
  | 3, _ => rfl
theorem byte_of (m n : Int) (h : m % 256 = n % 256) : UInt8.ofNat m.toNat = byt n ∨ m < 0 := by
  by_cases h0 : m < 0
  · exact .inr h0
  · left
    unfold byt
    apply UInt8.toNat_inj.1
    rw [UInt8.toNat_ofNat', UInt8.toNat_ofNat']
    omega
theorem ref_bytes (n : Int) : strOfNums [(IntKind.u64.wrap ((IntKind.u64.wrap n).tdiv 16777216)).tmod 256 % 256, (IntKind.u64.wrap ((IntKind.u64.wrap n).tdiv 65536)).tmod 256 % 256,
    (IntKind.u64.wrap ((IntKind.u64.wrap n).tdiv 256)).tmod 256 % 256, (IntKind.u64.wrap n).tmod 256 % 256] = mkb (be n 4) := by
  have hu : 0 ≤ n % 18446744073709551616 := Int.emod_nonneg _ (by decide)
  have key : ∀ d : Int, 0 < d → 0 ≤ IntKind.u64.wrap ((IntKind.u64.wrap n).tdiv d) ∧ IntKind.u64.wrap ((IntKind.u64.wrap n).tdiv d) = (n % 18446744073709551616) / d := by
    intro d hd
    rw [IntKind.wrap_u64, IntKind.wrap_u64, Int.tdiv_eq_ediv_of_nonneg hu]
    have h1 : 0 ≤ n % 18446744073709551616 / d := Int.ediv_nonneg hu (Int.le_of_lt hd)
    have h2 : n % 18446744073709551616 / d ≤ n % 18446744073709551616 := Int.ediv_le_self _ hu
    omega
  obtain ⟨p1, q1⟩ := key 16777216 (by decide)
  obtain ⟨p2, q2⟩ := key 65536 (by decide)
  obtain ⟨p3, q3⟩ := key 256 (by decide)
  have p4 : 0 ≤ IntKind.u64.wrap n := by rw [IntKind.wrap_u64]; exact hu
  have q4 : IntKind.u64.wrap n = n % 18446744073709551616 := IntKind.wrap_u64 n
  rw [Int.tmod_eq_emod_of_nonneg p1, Int.tmod_eq_emod_of_nonneg p2, Int.tmod_eq_emod_of_nonneg p3, Int.tmod_eq_emod_of_nonneg p4, q1, q2, q3, q4]
  simp only [strOfNums, mkb, be, List.map_cons, List.map_nil]
  rw [(byte_of _ (n / 2 ^ (8 * 3)) (by omega)).resolve_right (by omega), (byte_of _ (n / 2 ^ (8 * 2)) (by omega)).resolve_right (by omega),
    (byte_of _ (n / 2 ^ (8 * 1)) (by omega)).resolve_right (by omega), (byte_of _ (n / 2 ^ (8 * 0)) (by omega)).resolve_right (by omega)]
set_option maxHeartbeats 400000 in
theorem refuint_ok (n : Int) {w0 w : World} {F : List Assn} (H : St w0 w F) :
    Calls Try.prog 24 #[.int .i64 n] w fun r w' => r = .returned (.string (mkb (be n 4))) ∧ St w0 w' F := by
  have hcv := conv4 (P := Try.prog) 33 9 5 Try.underlying33 Try.underlying5 Try.underlying9
  go_enter Try.func24, Try.ntmps24
  go_wp2
  go_ret
  exact ⟨by rw [← ref_bytes]; rfl, H.more _⟩
theorem be8 (n : Int) : be (wrap64 ((n % 18446744073709551616) / 4294967296)) 4 ++ be n 4 = be n 8 := by
  have key : ∀ m k : Int, m % 256 = k % 256 → byt m = byt k := fun m k h => by unfold byt; rw [h]
  simp only [be, List.cons_append, List.nil_append]
  rw [key (wrap64 (n % 18446744073709551616 / 4294967296) / 2 ^ (8 * 3)) (n / 2 ^ (8 * 7)) (by unfold wrap64; omega), key (wrap64 (n % 18446744073709551616 / 4294967296) / 2 ^ (8 * 2)) (n / 2 ^ (8 * 6)) (by unfold wrap64; omega),
    key (wrap64 (n % 18446744073709551616 / 4294967296) / 2 ^ (8 * 1)) (n / 2 ^ (8 * 5)) (by unfold wrap64; omega), key (wrap64 (n % 18446744073709551616 / 4294967296) / 2 ^ (8 * 0)) (n / 2 ^ (8 * 4)) (by unfold wrap64; omega)]
set_option maxHeartbeats 400000 in
theorem refhyper_ok (n : Int) {w0 w : World} {F : List Assn} (H : St w0 w F) :
    Calls Try.prog 15 #[.int .i64 n] w fun r w' => r = .returned (.string (mkb (be n 8))) ∧ St w0 w' F := by
  go_enter Try.func15, Try.ntmps15
  go_wp2_with (fail)
  refine (refuint_ok _ H).mono ?_
  rintro x w1 ⟨rfl, H1⟩
  go_wp2_with (fail)
  refine (refuint_ok _ H1).mono ?_
  rintro x w2 ⟨rfl, H2⟩
  go_wp2
  go_ret
  have e : IntKind.u64.wrap ((IntKind.u64.wrap n).tdiv 4294967296) = (n % 18446744073709551616) / 4294967296 := by
    rw [IntKind.wrap_u64, IntKind.wrap_u64, Int.tdiv_eq_ediv_of_nonneg (Int.emod_nonneg _ (by decide))]; omega
  refine ⟨?_, H2⟩
  rw [← be8, ← mkb_append, ← e]
  rfl
end Go.Proofs.Ythpcncebjkfjkaa

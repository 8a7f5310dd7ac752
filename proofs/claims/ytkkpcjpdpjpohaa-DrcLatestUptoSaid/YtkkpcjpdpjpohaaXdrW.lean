/- Layer 1's writer: what each of its functions does. -/
import Derived.Test.YtkkpcjpdpjpohaaProg
import Derived.Test.YtkkpcjpdpjpohaaXdrP
import Derived.Test.YtkkpcjpdpjpohaaBits
import Derived.Test.YtkkpcjpdpjpohaaXdrR
import Derived.Deep.RegionLaw
import Derived.Deep.DrawnRows
namespace Go.Proofs.Ytkkpcjpdpjpohaa
open Go.RowKit

theorem infoU8 : (Try.prog.info? 5).map (fun i => (i.zero, i.size, i.bytes)) = some (some (.int .u8 0), 1, 1) := by kernel_rfl

/-- a writer is the first field of what 'mk' lays -/
structure Mk (mk : Value → Array Value) : Prop where
  get : ∀ v, (mk v)[0]? = some v
  set : ∀ v u, (mk v).setIfInBounds 0 u = mk u
/-- a writer in block b, that has put the bytes l -/
def Wr (b : Nat) (mk : Value → Array Value) (T : TypeId) (l : List UInt8) : Assn :=
  exA fun p : Option Addr × Nat => star (Pt b (mk (.slice p.1 l.length p.2)) T) (Row 5 1 p.1 l.length p.2 (bv l))
theorem St.openWr {w0 w : World} {b : Nat} {mk : Value → Array Value} {T : TypeId} {l : List UInt8} {F : List Assn} (H : St w0 w (Wr b mk T l :: F)) :
    ∃ A c, St w0 w (Pt b (mk (.slice A l.length c)) T :: Row 5 1 A l.length c (bv l) :: F) := by
  obtain ⟨p, H⟩ := H.unex
  exact ⟨p.1, p.2, H.unstar⟩
theorem St.shutWr {w0 w : World} {b : Nat} {mk : Value → Array Value} {T : TypeId} {l : List UInt8} {A : Option Addr} {n c : Nat} {F : List Assn} (hn : n = l.length) (H : St w0 w (Pt b (mk (.slice A n c)) T :: Row 5 1 A n c (bv l) :: F)) :
    St w0 w (Wr b mk T l :: F) := by
  subst hn
  exact St.ex (A, c) H.star

set_option maxHeartbeats 800000 in
theorem number_ok (b : Nat) (mk : Value → Array Value) (hmk : Mk mk) (T : TypeId) (l : List UInt8) (n : Int) (k : Nat) (hk : k ≤ 8) (hl : l.length ≤ 1099511627776) {w0 w : World} {F : List Assn}
    (H : St w0 w (Wr b mk T l :: F)) :
    Calls Try.prog 74 #[.pointer (some ⟨b, 0, none⟩), .int .i64 n, .int .i64 k] w fun r w' => r = .returned (.tuple #[]) ∧ St w0 w' (Wr b mk T (l ++ be n k) :: F) := by
  obtain ⟨i0, hi, hz0, hz1, hz2⟩ := info_parts infoU8
  obtain ⟨A, c, H⟩ := H.openWr
  go_enter Try.func74, Try.ntmps74
  go_wp2
  go_loopw [6] (fun i wr => ∃ j : Nat, j ≤ k ∧ i = .int .i64 ((j : Int) - 1) ∧ ∃ l' A' c', l'.length ≤ 1099511627784 - j ∧ l' ++ be n j = l ++ be n k ∧ St w0 wr (Pt b (mk (.slice A' l'.length c')) T :: Row 5 1 A' l'.length c' (bv l') :: F)) (fun i _ => (intOf i + 1).toNat)
  case atStart => exact ⟨k, Nat.le_refl _, rfl, l, A, c, by omega, rfl, H⟩
  case round =>
    obtain ⟨j, hj, rfl, l', A', c', hl', hlb, H1⟩ := hrel
    cases j with
    | zero =>
      go_wp2
      go_end0
      refine ⟨rfl, ?_⟩
      rw [← hlb, be, List.append_nil]
      exact H1.shutWr rfl
    | succ j =>
      have h0 : (0 : Int) ≤ (j : Int) := by omega
      have e1 : (((j + 1 : Nat) : Int) - 1) = (j : Int) := by omega
      rw [e1]
      have hj8 : (j : Int) ≤ 7 := by omega
      have w8 : IntKind.i64.wrap (8 * (j : Int)) = 8 * (j : Int) := IntWalk.i64_in _ (by omega)
      have b8 : (0 : Int) ≤ 8 * (j : Int) := by omega
      have c8 : (8 * (j : Int)) < 64 := by omega
      have c1 := H1.cell 0 (hmk.get _)
      have hbl := H1.lt
      have hbn : b ≠ wr.heap.size := by omega
      have E2 := Lib.hid hlb; have Hmk := Lib.hid hmk; clear hlb e1 hmk
      go_wp2
      go_region_law ((refine step_append_st (by rfl) _ _ _ (by rfl) 5 i0 (.int .u8 0) 1 1 Try.underlying70 hi hz0 hz1 hz2 rfl (by decide) A' l'.length c' (bv l') ((H1.drew.more _).r2) (by rfl) ⟨wr.heap.size, 0, none⟩ 1 1 _ (by rfl) rfl (World.news_of_block (heap_alloc_new _ _)) (fun u hu => by simp at hu; subst hu; rfl) (by unfold maxLen; omega) (by omega) ?_; intro A2 c2 w2 H2; have cc := H2.r2.cell 0 (Hmk.out.get _); have ff := H2.r2.frozen 0))
      all_goals go_wp2
      all_goals go_roundw
      all_goals try (case measure => simp [intOf])
      all_goals
        have H3 := H2.r2.set 0 (.slice A2 (l'.length + 1) c2)
        rw [Hmk.out.set] at H3
        refine ⟨j, by omega, by go_num, l' ++ [byt (n / 2 ^ (8 * j))], A2, c2, by simp; omega, by rw [← E2.out, be, List.append_assoc]; rfl, ?_⟩
        have e2 : bv (l' ++ [byt (n / 2 ^ (8 * j))]) = bv l' ++ [Value.int .u8 (IntKind.u8.wrap (n / 2 ^ (8 * (j : Int)).toNat))] := by
          rw [bv_append, u8_byt, show (8 * (j : Int)).toNat = 8 * j by omega]; rfl
        rw [e2, List.length_append]
        exact H3

theorem wuint_ok (b : Nat) (mk : Value → Array Value) (hmk : Mk mk) (T : TypeId) (l : List UInt8) (n : Int) (hl : l.length ≤ 1099511627776) {w0 w : World} {F : List Assn} (H : St w0 w (Wr b mk T l :: F)) :
    Calls Try.prog 59 #[.pointer (some ⟨b, 0, none⟩), .int .i64 n] w fun r w' => r = .returned (.tuple #[]) ∧ St w0 w' (Wr b mk T (l ++ be n 4) :: F) := by
  go_enter Try.func59, Try.ntmps59
  go_wp2_with (go_at_call 74; refine (number_ok b mk hmk T l n 4 (by decide) hl H).mono ?_; rintro x w1 ⟨rfl, H1⟩)
  go_end0
  exact ⟨rfl, H1⟩
theorem whyper_ok (b : Nat) (mk : Value → Array Value) (hmk : Mk mk) (T : TypeId) (l : List UInt8) (n : Int) (hl : l.length ≤ 1099511627776) {w0 w : World} {F : List Assn} (H : St w0 w (Wr b mk T l :: F)) :
    Calls Try.prog 60 #[.pointer (some ⟨b, 0, none⟩), .int .i64 n] w fun r w' => r = .returned (.tuple #[]) ∧ St w0 w' (Wr b mk T (l ++ be n 8) :: F) := by
  go_enter Try.func60, Try.ntmps60
  go_wp2_with (go_at_call 74; refine (number_ok b mk hmk T l n 8 (by decide) hl H).mono ?_; rintro x w1 ⟨rfl, H1⟩)
  go_end0
  exact ⟨rfl, H1⟩
theorem wuint_nil (n : Int) (w : World) : Calls Try.prog 59 #[.pointer none, .int .i64 n] w fun r w' => r = .returned (.tuple #[]) ∧ w = w' := by
  go_enter Try.func59, Try.ntmps59
  go_wp2
  go_end0
  exact ⟨rfl, rfl⟩
theorem whyper_nil (n : Int) (w : World) : Calls Try.prog 60 #[.pointer none, .int .i64 n] w fun r w' => r = .returned (.tuple #[]) ∧ w = w' := by
  go_enter Try.func60, Try.ntmps60
  go_wp2
  go_end0
  exact ⟨rfl, rfl⟩
theorem strCells_bv (s : ByteArray) : Lib.strCells s = bv (bl s) := rfl
theorem bytes_ok (b : Nat) (mk : Value → Array Value) (hmk : Mk mk) (T : TypeId) (l : List UInt8) {w0 w : World} {F : List Assn} (H : St w0 w (Wr b mk T l :: F)) :
    Calls Try.prog 35 #[.pointer (some ⟨b, 0, none⟩)] w fun r w' => r = .returned (.string (mkb l)) ∧ w = w' := by
  obtain ⟨A, c, H⟩ := H.openWr
  have c0 := H.cell 0 (hmk.get _)
  go_enter Try.func35, Try.ntmps35
  have hcv := H.r2.toStr (P := Try.prog) (src := 70) (dst := 9) Try.underlying70 Try.underlying5 Try.underlying9
  go_wp2
  go_ret
  exact ⟨rfl, rfl⟩
theorem bytes_nil (w : World) : Calls Try.prog 35 #[.pointer none] w fun r w' => r = .returned (.string ByteArray.empty) ∧ w = w' := by
  go_enter Try.func35, Try.ntmps35
  go_wp2
  go_ret
  exact ⟨rfl, rfl⟩
set_option maxHeartbeats 1600000 in
theorem wfixed_ok (b : Nat) (mk : Value → Array Value) (hmk : Mk mk) (T : TypeId) (l : List UInt8) (s : ByteArray) (hl : l.length ≤ 1099511627776) (hs : s.size ≤ 1099511627776) {w0 w : World} {F : List Assn}
    (H : St w0 w (Wr b mk T l :: F)) :
    Calls Try.prog 63 #[.pointer (some ⟨b, 0, none⟩), .string s] w fun r w' => r = .returned (.tuple #[]) ∧ St w0 w' (Wr b mk T (l ++ fixed (bl s)) :: F) := by
  obtain ⟨i0, hi, hz0, hz1, hz2⟩ := info_parts infoU8
  obtain ⟨A, c, H⟩ := H.openWr
  have hp : padn s.size ≤ 3 := by unfold padn; omega
  have c0 := H.cell 0 (hmk.get _)
  have f0 := H.frozen 0
  have Hmk := Lib.hid hmk; clear hmk
  go_enter Try.func63, Try.ntmps63
  go_wp2_with (first | (at_builtin; refine wpList_append_str (by rfl) _ _ _ _ (by rfl) 5 i0 Try.underlying70 Try.underlying9 hi hz0 hz1 hz2 A l.length c (bv l) H.r2 (by rfl) s (by rfl) (by unfold maxLen; omega) (by omega) ?_; intro A2 c2 w2 H2; have cc := H2.r2.cell 0 (Hmk.out.get _); have ff := H2.r2.frozen 0; clear c0 f0) | (go_at_call 71; refine (pad_ok _ _ (by omega) (by omega)).mono ?_; rintro x w1 ⟨rfl, rfl⟩))
  have H3 := H2.r2.set 0 (.slice A2 (l.length + s.size) c2)
  rw [Hmk.out.set, strCells_bv, ← bv_append] at H3
  have hl3 : l.length + s.size = (l ++ bl s).length := by rw [List.length_append, bl_length]
  rw [hl3] at H3 ⊢
  have hl4 : (l ++ bl s).length ≤ 2199023255552 := by omega
  have HF : Hid (l ++ fixed (bl s) = (l ++ bl s) ++ zeros (padn s.size)) := by show _ = _; rw [fixed, bl_length, List.append_assoc]
  generalize l ++ bl s = m at *
  generalize w2.setCell ⟨b, 0, none⟩ (.slice A2 m.length c2) = w3 at *
  clear cc ff H2 hl3
  generalize padn s.size = p at *
  go_loopw [18] (fun i wr => ∃ j : Nat, j ≤ p ∧ i = .int .i64 j ∧ ∃ A' c', St w0 wr (Pt b (mk (.slice A' (m ++ zeros j).length c')) T :: Row 5 1 A' (m ++ zeros j).length c' (bv (m ++ zeros j)) :: F)) (fun i _ => p - (intOf i).toNat)
  case atStart => exact ⟨0, Nat.zero_le _, rfl, A2, c2, by simpa [zeros] using H3⟩
  case round =>
    obtain ⟨j, hj, rfl, A', c', H4⟩ := hrel
    have hl5 : (m ++ zeros j).length ≤ 2199023255560 := by rw [List.length_append, zeros, List.length_replicate]; omega
    have hz : m ++ zeros (j + 1) = (m ++ zeros j) ++ [0] := by rw [zeros, List.replicate_succ', List.append_assoc]; rfl
    have HZ := Lib.hid hz; clear hz
    have HM : Hid (m ++ zeros p = m ++ zeros p) := rfl
    by_cases hlt : j < p
    · generalize m ++ zeros j = q at *
      have c4 := H4.cell 0 (Hmk.out.get _)
      have hbl := H4.lt
      have hbn : b ≠ wr.heap.size := by omega
      go_wp2_with (at_builtin; refine wpList_append_st (by rfl) _ _ _ (by rfl) 5 i0 (.int .u8 0) 1 1 Try.underlying70 hi hz0 hz1 hz2 rfl (by decide) A' q.length c' (bv q) ((H4.more _).r2) (by rfl) ⟨wr.heap.size, 0, none⟩ 1 1 _ (by rfl) rfl (World.news_of_block (heap_alloc_new _ _)) (fun u hu => by simp at hu; subst hu; rfl) (by unfold maxLen; omega) (by omega) ?_; intro A5 c5 w5 H5; have cc5 := H5.r2.cell 0 (Hmk.out.get _); have ff5 := H5.r2.frozen 0; clear c4)
      have H6 := H5.r2.set 0 (.slice A5 (q.length + 1) c5)
      rw [Hmk.out.set] at H6
      go_roundw
      case rel => exact ⟨j + 1, by omega, by go_num, A5, c5, by rw [HZ.out, bv_append, List.length_append]; exact H6⟩
      case measure => simp [intOf]; omega
    · go_wp2
      go_end0
      obtain rfl : j = p := by omega
      rw [HF.out]
      exact ⟨rfl, H4.shutWr rfl⟩
theorem wfixed_nil (s : ByteArray) (w : World) : Calls Try.prog 63 #[.pointer none, .string s] w fun r w' => r = .returned (.tuple #[]) ∧ w = w' := by
  go_enter Try.func63, Try.ntmps63
  go_wp2

  refine bodyPost_ret (results_none rfl _ _ _) rfl ?_
  exact ⟨rfl, rfl⟩
theorem be_append_len (l : List UInt8) (n : Int) (k : Nat) : (l ++ be n k).length = l.length + k := by rw [List.length_append, be_length]
theorem wopaque_ok (b : Nat) (mk : Value → Array Value) (hmk : Mk mk) (T : TypeId) (l : List UInt8) (s : ByteArray) (hl : l.length ≤ 549755813888) (hs : s.size ≤ 1099511627776) {w0 w : World} {F : List Assn}
    (H : St w0 w (Wr b mk T l :: F)) :
    Calls Try.prog 62 #[.pointer (some ⟨b, 0, none⟩), .string s] w fun r w' => r = .returned (.tuple #[]) ∧ St w0 w' (Wr b mk T (l ++ opaq (bl s)) :: F) := by
  have e : l ++ opaq (bl s) = (l ++ be s.size 4) ++ fixed (bl s) := by rw [opaq, bl_length, List.append_assoc]
  have E := Lib.hid e; clear e
  go_enter Try.func62, Try.ntmps62
  go_wp2_with (first | (go_at_call 59; refine (wuint_ok b mk hmk T l _ (by omega) H).mono ?_; rintro x w1 ⟨rfl, H1⟩) | (go_at_call 63; refine (wfixed_ok b mk hmk T _ s (by rw [be_append_len]; omega) hs H1).mono ?_; rintro x w2 ⟨rfl, H2⟩))
  go_end0
  rw [E.out]
  exact ⟨rfl, H2⟩
theorem wopaque_nil (s : ByteArray) (w : World) : Calls Try.prog 62 #[.pointer none, .string s] w fun r w' => r = .returned (.tuple #[]) ∧ w = w' := by
  go_enter Try.func62, Try.ntmps62
  go_wp2_with (first | (go_at_call 59; refine (wuint_nil _ _).mono ?_; rintro x w1 ⟨rfl, rfl⟩) | (go_at_call 63; refine (wfixed_nil _ _).mono ?_; rintro x w2 ⟨rfl, rfl⟩))
  go_end0
  exact ⟨rfl, rfl⟩
end Go.Proofs.Ytkkpcjpdpjpohaa

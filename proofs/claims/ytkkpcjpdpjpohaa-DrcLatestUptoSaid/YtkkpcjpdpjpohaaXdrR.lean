/- Layer 1's reader: what each of its functions does. -/
import Derived.Test.YtkkpcjpdpjpohaaProg
import Derived.Test.YtkkpcjpdpjpohaaXdrP
import Derived.Test.YtkkpcjpdpjpohaaBits
import Derived.Deep.QuietTactic
import Derived.BigQuiet
namespace Go.Proofs.Ytkkpcjpdpjpohaa
open Go.RowKit

theorem bl_take_snoc (s : ByteArray) (k : Nat) (h : k < s.size) : (bl s).take (k + 1) = (bl s).take k ++ [s[k]] := by
  rw [bl, List.take_succ_eq_append_getElem (by simpa using h)]; rfl
theorem num_snoc (l : List UInt8) (b : UInt8) : num (l ++ [b]) = wrap64 (num l * 256) + (b.toNat : Int) := by
  simp [num, List.foldl_append]
theorem num_step (x : Int) (b : UInt8) : bits .or .i64 (wrap64 (x * 256)) (wrap64 (b.toNat : Int)) = wrap64 (x * 256) + (b.toNat : Int) := by
  have hb := b.toNat_lt
  rw [show wrap64 (b.toNat : Int) = ((b.toNat : Nat) : Int) by unfold wrap64; omega]
  exact i64_or_join _ 8 b.toNat (by decide) (by omega) (by unfold wrap64; omega) (by unfold wrap64; omega) (by unfold wrap64; omega)

set_option maxHeartbeats 400000 in
theorem xnum_ok (s : ByteArray) (w : World) (hs : s.size ≤ 1099511627776) :
    Calls Try.prog 69 #[.string s] w fun r w' => r = .returned (.int .i64 (num (bl s))) ∧ w = w' := by
  go_enter Try.func69, Try.ntmps69
  go_wp2
  go_loop [3, 4, 7] (fun n u i => ∃ k : Nat, k ≤ s.size ∧ i = .int .i64 k ∧ n = .int .i64 (num ((bl s).take k))) (fun _ _ i => s.size - (intOf i).toNat)
  case atStart => exact ⟨0, Nat.zero_le _, rfl, rfl⟩
  case round =>
    obtain ⟨k, hk, rfl, rfl⟩ := hrel
    by_cases hlt : k < s.size
    · go_wp2
      go_round
      case rel => exact ⟨k + 1, by omega, by go_num, by rw [bl_take_snoc s k hlt, num_snoc, num_step]⟩
      case measure => simp [intOf]; omega
    · go_wp2
      go_ret
      exact ⟨by rw [List.take_of_length_le (by rw [bl_length]; omega)]; rfl, rfl⟩

theorem padn_bits (n : Int) (h : 0 ≤ n) : bits .and .i64 (-n) 3 = (padn n.toNat : Int) := by
  have := i64_and_mask (-n) 2 (by decide)
  rw [show ((2 ^ 2 - 1 : Nat) : Int) = 3 from rfl] at this
  rw [this, padn]; omega
theorem pad_ok (n : Int) (w : World) (h : 0 ≤ n) (h2 : n ≤ 9223372036854775807) :
    Calls Try.prog 71 #[.int .i64 n] w fun r w' => r = .returned (.int .i64 (padn n.toNat)) ∧ w = w' := by
  go_enter Try.func71, Try.ntmps71
  go_wp2
  go_ret
  exact ⟨by rw [padn_bits n h]; rfl, rfl⟩

/-- a reader lies in block b -/
def Rdr (b : Nat) (r : RS) : Assn := Pt b #[.string r.s, .int .i64 r.e] 107

theorem open_ok (s : ByteArray) {w0 w : World} {F : List Assn} (H : St w0 w F) :
    Calls Try.prog 25 #[.string s] w fun e w' => ∃ b, e = .returned (.pointer (some ⟨b, 0, none⟩)) ∧ St w0 w' (Rdr b ⟨s, 0⟩ :: F) := by
  go_enter Try.func25, Try.ntmps25
  go_wp2
  go_ret
  exact ⟨_, rfl, H.alloc _ _⟩

set_option maxHeartbeats 400000 in
theorem wrong_ok (b : Nat) (r : RS) (e : Int) {w0 w : World} {F : List Assn} (H : St w0 w (Rdr b r :: F)) :
    Calls Try.prog 70 #[.pointer (some ⟨b, 0, none⟩), .int .i64 e] w fun x w' => x = .returned (.tuple #[]) ∧ St w0 w' (Rdr b (r.wrong e) :: F) := by
  obtain ⟨s, q⟩ := r
  have c0 := St.cell H 0 rfl
  have c1 := St.cell H 1 rfl
  have f0 := St.frozen H 0
  have f1 := St.frozen H 1
  by_cases he : q = 0
  · subst he
    go_enter Try.func70, Try.ntmps70
    go_wp2
    go_end0
    exact ⟨rfl, (St.set H 1 (.int .i64 e)).set 0 (.string ByteArray.empty)⟩
  · have hq : (q == 0) = false := by simpa using he
    go_enter Try.func70, Try.ntmps70
    go_wp2
    go_end0
    refine ⟨rfl, ?_⟩
    have h := St.set H 0 (.string ByteArray.empty)
    rw [show RS.wrong ⟨s, q⟩ e = ⟨ByteArray.empty, q⟩ by simp [RS.wrong, he]]
    exact h

set_option maxHeartbeats 400000 in
theorem take_ok (b : Nat) (r : RS) (n : Int) (hn0 : r.e = 0 → 0 ≤ n) (hs : r.s.size ≤ 1099511627776) {w0 w : World} {F : List Assn} (H : St w0 w (Rdr b r :: F)) :
    Calls Try.prog 68 #[.pointer (some ⟨b, 0, none⟩), .int .i64 n] w fun x w' => x = .returned (.tuple #[.string (r.take n).1.1, .bool (r.take n).1.2]) ∧ St w0 w' (Rdr b (r.take n).2 :: F) := by
  obtain ⟨s, q⟩ := r
  have c0 := St.cell H 0 rfl
  have c1 := St.cell H 1 rfl
  have f0 := St.frozen H 0
  have f1 := St.frozen H 1
  by_cases he : q = 0
  · subst he
    have hn : 0 ≤ n := hn0 rfl
    by_cases hle : n ≤ s.size
    · have hr : RS.take ⟨s, 0⟩ n = ((s.extract 0 n.toNat, true), ⟨s.extract n.toNat s.size, 0⟩) := by simp [RS.take, hle]
      rw [hr]; clear hr
      go_enter Try.func68, Try.ntmps68
      go_wp2
      go_ret2
      exact ⟨rfl, St.set H 0 _⟩
    · have hr : RS.take ⟨s, 0⟩ n = ((ByteArray.empty, false), ⟨ByteArray.empty, 5⟩) := by simp [RS.take, hle]
      rw [hr]; clear hr
      go_enter Try.func68, Try.ntmps68
      go_wp2_with (go_at_call 70; refine (wrong_ok b _ _ H).mono ?_; rintro x w1 ⟨rfl, H1⟩)
      go_ret2
      exact ⟨rfl, H1⟩
  · have hq : (q != 0) = true := by simpa using he
    have hr : RS.take ⟨s, q⟩ n = ((ByteArray.empty, false), ⟨s, q⟩) := by simp [RS.take, he]
    rw [hr]; clear hr
    go_enter Try.func68, Try.ntmps68
    go_wp2
    go_ret2
    exact ⟨rfl, H⟩
theorem take_nil (n : Int) (w : World) :
    Calls Try.prog 68 #[.pointer none, .int .i64 n] w fun x w' => x = .returned (.tuple #[.string ByteArray.empty, .bool false]) ∧ w = w' := by
  go_enter Try.func68, Try.ntmps68
  go_wp2
  go_ret2
  exact ⟨rfl, rfl⟩

theorem extract_le (s : ByteArray) (a b : Nat) : (s.extract a b).size ≤ s.size := by
  rw [ByteArray.size_extract]; omega
theorem RS.take_le (r : RS) (n : Int) : (r.take n).1.1.size ≤ r.s.size := by
  unfold RS.take
  split
  · split
    · exact extract_le ..
    · exact Nat.zero_le _
  · exact Nat.zero_le _
theorem RS.take_rest_le (r : RS) (n : Int) : (r.take n).2.s.size ≤ r.s.size := by
  unfold RS.take
  split
  · split
    · exact extract_le ..
    · exact Nat.zero_le _
  · exact Nat.le_refl _

/-- a number of so many bytes -/
def RS.nat (r : RS) (k : Int) : Int × RS := (num (bl (r.take k).1.1), (r.take k).2)
theorem RS.nat_le (r : RS) (k : Int) : (r.nat k).2.s.size ≤ r.s.size := r.take_rest_le k
theorem uint_ok (b : Nat) (r : RS) (hs : r.s.size ≤ 1099511627776) {w0 w : World} {F : List Assn} (H : St w0 w (Rdr b r :: F)) :
    Calls Try.prog 38 #[.pointer (some ⟨b, 0, none⟩)] w fun x w' => x = .returned (.int .i64 (r.nat 4).1) ∧ St w0 w' (Rdr b (r.nat 4).2 :: F) := by
  have hl := r.take_le 4
  go_enter Try.func38, Try.ntmps38
  go_wp2_with (first | (go_at_call 68; refine (take_ok b _ _ (fun _ => by omega) hs H).mono ?_; rintro x w1 ⟨rfl, H1⟩) | (go_at_call 69; refine (xnum_ok _ _ (by omega)).mono ?_; rintro x w2 ⟨rfl, rfl⟩))
  go_ret
  exact ⟨rfl, H1⟩
theorem hyper_ok (b : Nat) (r : RS) (hs : r.s.size ≤ 1099511627776) {w0 w : World} {F : List Assn} (H : St w0 w (Rdr b r :: F)) :
    Calls Try.prog 39 #[.pointer (some ⟨b, 0, none⟩)] w fun x w' => x = .returned (.int .i64 (r.nat 8).1) ∧ St w0 w' (Rdr b (r.nat 8).2 :: F) := by
  have hl := r.take_le 8
  go_enter Try.func39, Try.ntmps39
  go_wp2_with (first | (go_at_call 68; refine (take_ok b _ _ (fun _ => by omega) hs H).mono ?_; rintro x w1 ⟨rfl, H1⟩) | (go_at_call 69; refine (xnum_ok _ _ (by omega)).mono ?_; rintro x w2 ⟨rfl, rfl⟩))
  go_ret
  exact ⟨rfl, H1⟩
theorem uint_nil (w : World) :
    Calls Try.prog 38 #[.pointer none] w fun x w' => x = .returned (.int .i64 0) ∧ w = w' := by
  go_enter Try.func38, Try.ntmps38
  go_wp2_with (first | (go_at_call 68; refine (take_nil _ _).mono ?_; rintro x w1 ⟨rfl, rfl⟩) | (go_at_call 69; refine (xnum_ok _ _ (by simp)).mono ?_; rintro x w2 ⟨rfl, rfl⟩))
  go_ret
  exact ⟨rfl, rfl⟩
theorem hyper_nil (w : World) :
    Calls Try.prog 39 #[.pointer none] w fun x w' => x = .returned (.int .i64 0) ∧ w = w' := by
  go_enter Try.func39, Try.ntmps39
  go_wp2_with (first | (go_at_call 68; refine (take_nil _ _).mono ?_; rintro x w1 ⟨rfl, rfl⟩) | (go_at_call 69; refine (xnum_ok _ _ (by simp)).mono ?_; rintro x w2 ⟨rfl, rfl⟩))
  go_ret
  exact ⟨rfl, rfl⟩

/-- a truth value -/
def RS.bool (r : RS) : Bool × RS := if (r.nat 4).1 > 1 then (false, (r.nat 4).2.wrong 4) else ((r.nat 4).1 == 1, (r.nat 4).2)
set_option maxHeartbeats 400000 in
theorem bool_ok (b : Nat) (r : RS) (hs : r.s.size ≤ 1099511627776) {w0 w : World} {F : List Assn} (H : St w0 w (Rdr b r :: F)) :
    Calls Try.prog 41 #[.pointer (some ⟨b, 0, none⟩)] w fun x w' => x = .returned (.bool r.bool.1) ∧ St w0 w' (Rdr b r.bool.2 :: F) := by
  have hl := r.take_le 4
  by_cases h1 : (r.nat 4).1 > 1
  · have hr : r.bool = (false, (r.nat 4).2.wrong 4) := by simp [RS.bool, h1]
    have hx : ((r.nat 4).1 == 1) = false := by simp; omega
    rw [hr]; clear hr
    generalize hq : r.nat 4 = q at *
    have Hq := Lib.hid hq; clear hq
    go_enter Try.func41, Try.ntmps41
    go_wp2_with (first | (go_at_call 38; refine (uint_ok b _ hs H).mono ?_; rw [Hq.out]; rintro x w1 ⟨rfl, H1⟩) | (go_at_call 70; refine (wrong_ok b _ _ H1).mono ?_; rintro x w2 ⟨rfl, H2⟩))
    go_ret
    exact ⟨rfl, H2⟩
  · have hr : r.bool = ((r.nat 4).1 == 1, (r.nat 4).2) := by simp [RS.bool, h1]
    rw [hr]; clear hr
    generalize hq : r.nat 4 = q at *
    have Hq := Lib.hid hq; clear hq
    go_enter Try.func41, Try.ntmps41
    go_wp2_with (first | (go_at_call 38; refine (uint_ok b _ hs H).mono ?_; rw [Hq.out]; rintro x w1 ⟨rfl, H1⟩))
    go_ret
    exact ⟨rfl, H1⟩
/-- so many bytes, and noughts -/
def RS.fixed (r : RS) (n : Int) : ByteArray × RS :=
  if n < 0 then (ByteArray.empty, r)
  else if r.e = 0 then
    if n ≤ r.s.size then
      if n + padn n.toNat ≤ r.s.size then
        if ∀ x ∈ bl ((r.s.extract 0 (n.toNat + padn n.toNat)).extract n.toNat (n.toNat + padn n.toNat)), x = 0 then ((r.s.extract 0 (n.toNat + padn n.toNat)).extract 0 n.toNat, ⟨r.s.extract (n.toNat + padn n.toNat) r.s.size, 0⟩)
        else (ByteArray.empty, ⟨ByteArray.empty, 4⟩)
      else (ByteArray.empty, ⟨ByteArray.empty, 5⟩)
    else (ByteArray.empty, ⟨ByteArray.empty, 5⟩)
  else (ByteArray.empty, r)
set_option maxHeartbeats 800000 in
theorem fixed_a (b : Nat) (r : RS) (n : Int) (hs : r.s.size ≤ 1099511627776) (hn : 0 ≤ n) (he : r.e = 0) (hle : n ≤ r.s.size) (hle2 : n + padn n.toNat ≤ r.s.size) {w0 w : World} {F : List Assn} (H : St w0 w (Rdr b r :: F)) :
    Calls Try.prog 44 #[.pointer (some ⟨b, 0, none⟩), .int .i64 n] w fun x w' => x = .returned (.string (r.fixed n).1) ∧ St w0 w' (Rdr b (r.fixed n).2 :: F) := by
  obtain ⟨s, e⟩ := r
  subst he
  dsimp only at hs hle hle2
  have c0 := St.cell H 0 rfl
  have c1 := St.cell H 1 rfl
  have hp : padn n.toNat ≤ 3 := by unfold padn; omega
  obtain ⟨p, hpp⟩ : ∃ p, p = padn n.toNat := ⟨_, rfl⟩
  rw [← hpp] at hp hle2
  obtain ⟨k, rfl⟩ := Int.eq_ofNat_of_zero_le hn
  have ht : RS.take ⟨s, 0⟩ ((k : Int) + p) = ((s.extract 0 (k + p), true), ⟨s.extract (k + p) s.size, 0⟩) := by
    have : ((k : Int) + p).toNat = k + p := by omega
    simp [RS.take, hle2, this]
  have hsz : ((s.extract 0 (k + p))).size = k + p := by rw [ByteArray.size_extract]; omega
  have Ht := Lib.hid ht; clear ht
  have Hz := Lib.hid hsz; clear hsz
  have Hp := Lib.hid hpp; clear hpp
  have hmin : min (k + p) s.size = k + p := by omega
  have hcv := fun (W : World) (x : ByteArray) => Lib.run_convert_string_bytes (P := Try.prog) W 9 70 5 x Try.underlying9 Try.underlying70 Try.underlying5
  go_enter Try.func44, Try.ntmps44
  go_wp2_with (first | (go_at_call 71; refine (pad_ok _ _ (by omega) (by omega)).mono ?_; rw [← Hp.out]; rintro x w1 ⟨rfl, rfl⟩) | (go_at_call 68; refine (take_ok b _ _ (by omega) (by omega) H).mono ?_; rw [Ht.out]; rintro x w1 ⟨rfl, H1⟩))
  generalize hX : (s.extract 0 (k + p)).extract k (k + p) = X
  have hXs : X.size = p := by rw [← hX, ByteArray.size_extract, Hz.out]; omega
  have H2 := H1.bytes 5 X (by unfold maxLen; omega)
  generalize Lib.bytesWorld w1 5 X = W2 at *
  have HX := Lib.hid hX; have HXs := Lib.hid hXs; clear hX hXs
  go_loop [8, 47] (fun u i => ∃ j : Nat, j ≤ p ∧ i = .int .i64 j ∧ ∀ q, q < j → (bl X)[q]? = some 0) (fun _ i => p - (intOf i).toNat)
  case atStart => exact ⟨0, Nat.zero_le _, rfl, fun q hq => by omega⟩
  case round =>
    obtain ⟨j, hj, rfl, hz⟩ := hrel
    have HZ := Lib.hid hz; clear hz
    by_cases hlt : j < p
    · obtain ⟨y, hb⟩ : ∃ y, (bl X)[j]? = some y := ⟨_, List.getElem?_eq_getElem (by rw [bl_length, HXs.out]; exact hlt)⟩
      have hc : W2.cell? ⟨w1.heap.size, j, none⟩ = some (.int .u8 (y.toNat : Int)) := by
        have := H2.row_cell j (u := .int .u8 (y.toNat : Int)) (by rw [Lib.strCells, List.getElem?_map, show X.data.toList[j]? = some y from hb]; rfl)
        simpa using this
      have HB := Lib.hid hb; clear hb
      by_cases hy : y = 0
      · subst hy
        go_wp2
        go_round
        case rel => exact ⟨j + 1, by omega, by go_num, fun q hq => by
          rcases Nat.lt_or_ge q j with h | h
          · exact HZ.out q h
          · obtain rfl : q = j := by omega
            exact HB.out⟩
        case measure => simp [intOf]; omega
      · have hy' : ((y.toNat : Int) != 0) = true := by
          simp; intro h; exact hy (UInt8.toNat_inj.1 (by simpa using h))
        go_wp2_with (go_at_call 70; refine (wrong_ok b _ _ H2.r2).mono ?_; rintro x w3 ⟨rfl, H3⟩)
        go_ret
        have hr : RS.fixed ⟨s, 0⟩ (k : Int) = (ByteArray.empty, ⟨ByteArray.empty, 4⟩) := by
          have hall : ¬ ∀ x ∈ bl X, x = 0 := fun h => hy (h y (List.mem_of_getElem? HB.out))
          unfold RS.fixed
          simp only
          rw [if_neg (by omega), if_pos trivial, if_pos hle, ← Hp.out, if_pos hle2]
          simp only [Int.toNat_natCast, HX.out]
          rw [if_neg hall]
        rw [hr]
        exact ⟨rfl, H3.r2.tail⟩
    · go_wp2
      go_ret
      have hr : RS.fixed ⟨s, 0⟩ (k : Int) = ((s.extract 0 (k + p)).extract 0 k, ⟨s.extract (k + p) s.size, 0⟩) := by
        have hall : ∀ x ∈ bl X, x = 0 := fun x hx => by
          obtain ⟨q, hq, rfl⟩ := List.getElem_of_mem hx
          have := HZ.out q (by rw [bl_length, HXs.out] at hq; omega)
          rw [List.getElem?_eq_getElem hq] at this
          injection this
        unfold RS.fixed
        simp only
        rw [if_neg (by omega), if_pos trivial, if_pos hle, ← Hp.out, if_pos hle2]
        simp only [Int.toNat_natCast, HX.out]
        rw [if_pos hall]
      rw [hr]
      exact ⟨rfl, H2.tail⟩
set_option maxHeartbeats 400000 in
theorem fixed_b (b : Nat) (r : RS) (n : Int) (hs : r.s.size ≤ 1099511627776) (hn : 0 ≤ n) (he : r.e = 0) (hle : n ≤ r.s.size) (hle2 : ¬ n + padn n.toNat ≤ r.s.size) {w0 w : World} {F : List Assn} (H : St w0 w (Rdr b r :: F)) :
    Calls Try.prog 44 #[.pointer (some ⟨b, 0, none⟩), .int .i64 n] w fun x w' => x = .returned (.string (r.fixed n).1) ∧ St w0 w' (Rdr b (r.fixed n).2 :: F) := by
  obtain ⟨s, e⟩ := r
  subst he
  dsimp only at hs hle hle2
  have c0 := St.cell H 0 rfl
  have c1 := St.cell H 1 rfl
  have hr : RS.fixed ⟨s, 0⟩ n = (ByteArray.empty, ⟨ByteArray.empty, 5⟩) := by
    unfold RS.fixed
    simp only
    rw [if_neg (by omega), if_pos trivial, if_pos hle, if_neg hle2]
  have hp : padn n.toNat ≤ 3 := by unfold padn; omega
  obtain ⟨p, hpp⟩ : ∃ p, p = padn n.toNat := ⟨_, rfl⟩
  rw [← hpp] at hp hle2
  have ht : RS.take ⟨s, 0⟩ (n + p) = ((ByteArray.empty, false), ⟨ByteArray.empty, 5⟩) := by simp [RS.take, hle2]
  have Ht := Lib.hid ht; clear ht
  have Hp := Lib.hid hpp; clear hpp
  rw [hr]; clear hr
  go_enter Try.func44, Try.ntmps44
  go_wp2_with (first | (go_at_call 71; refine (pad_ok _ _ (by omega) (by omega)).mono ?_; rw [← Hp.out]; rintro x w1 ⟨rfl, rfl⟩) | (go_at_call 68; refine (take_ok b _ _ (by omega) (by omega) H).mono ?_; rw [Ht.out]; rintro x w1 ⟨rfl, H1⟩))
  go_ret
  exact ⟨rfl, H1⟩
theorem RS.take_err (r : RS) (n : Int) (he : r.e ≠ 0) : r.take n = ((ByteArray.empty, false), r) := by simp [RS.take, he]
set_option maxHeartbeats 400000 in
theorem fixed_c (b : Nat) (r : RS) (n : Int) (hs : r.s.size ≤ 1099511627776) (hn : 0 ≤ n) (h63 : n ≤ 9223372036854775807) (he : r.e = 0) (hle : ¬ n ≤ r.s.size) {w0 w : World} {F : List Assn} (H : St w0 w (Rdr b r :: F)) :
    Calls Try.prog 44 #[.pointer (some ⟨b, 0, none⟩), .int .i64 n] w fun x w' => x = .returned (.string (r.fixed n).1) ∧ St w0 w' (Rdr b (r.fixed n).2 :: F) := by
  obtain ⟨s, e⟩ := r
  subst he
  dsimp only at hs hle
  have c0 := St.cell H 0 rfl
  have c1 := St.cell H 1 rfl
  have hr : RS.fixed ⟨s, 0⟩ n = (ByteArray.empty, ⟨ByteArray.empty, 5⟩) := by
    unfold RS.fixed
    simp only
    rw [if_neg (by omega), if_pos trivial, if_neg hle]
  have ht := fun m => RS.take_err ⟨ByteArray.empty, 5⟩ m (by simp)
  have Ht := Lib.hid ht; clear ht
  rw [hr]; clear hr
  go_enter Try.func44, Try.ntmps44
  go_wp2_with (first | (go_at_call 71; refine (pad_ok _ _ (by omega) (by omega)).mono ?_; rintro x w1 ⟨rfl, rfl⟩) | (go_at_call 70; refine (wrong_ok b _ _ H).mono ?_; rintro x w3 ⟨rfl, H3⟩) | (go_at_call 68; refine (take_ok b ⟨ByteArray.empty, 5⟩ _ (fun h => by simp at h) (by simp) H3).mono ?_; rw [Ht.out]; rintro x w1 ⟨rfl, H1⟩))
  go_ret
  exact ⟨rfl, H1⟩
set_option maxHeartbeats 400000 in
theorem fixed_d (b : Nat) (r : RS) (n : Int) (hs : r.s.size ≤ 1099511627776) (hn : 0 ≤ n) (h63 : n ≤ 9223372036854775807) (he : r.e ≠ 0) {w0 w : World} {F : List Assn} (H : St w0 w (Rdr b r :: F)) :
    Calls Try.prog 44 #[.pointer (some ⟨b, 0, none⟩), .int .i64 n] w fun x w' => x = .returned (.string (r.fixed n).1) ∧ St w0 w' (Rdr b (r.fixed n).2 :: F) := by
  have hr : RS.fixed r n = (ByteArray.empty, r) := by
    unfold RS.fixed
    rw [if_neg (by omega), if_neg he]
  have ht := fun m => RS.take_err r m he
  have Ht := Lib.hid ht; clear ht
  rw [hr]; clear hr
  obtain ⟨s, e⟩ := r
  dsimp only at hs he
  have c0 := St.cell H 0 rfl
  have c1 := St.cell H 1 rfl
  have hq : (e == 0) = false := by simpa using he
  go_enter Try.func44, Try.ntmps44
  go_wp2_with (first | (go_at_call 71; refine (pad_ok _ _ (by omega) (by omega)).mono ?_; rintro x w1 ⟨rfl, rfl⟩) | (go_at_call 68; refine (take_ok b _ _ (fun h => absurd h he) hs H).mono ?_; rw [Ht.out]; rintro x w1 ⟨rfl, H1⟩))
  go_ret
  exact ⟨rfl, H1⟩
theorem fixed_e (b : Nat) (r : RS) (n : Int) (hn : n < 0) {w0 w : World} {F : List Assn} (H : St w0 w (Rdr b r :: F)) :
    Calls Try.prog 44 #[.pointer (some ⟨b, 0, none⟩), .int .i64 n] w fun x w' => x = .returned (.string (r.fixed n).1) ∧ St w0 w' (Rdr b (r.fixed n).2 :: F) := by
  have hr : RS.fixed r n = (ByteArray.empty, r) := by
    unfold RS.fixed
    rw [if_pos hn]
  rw [hr]; clear hr
  go_enter Try.func44, Try.ntmps44
  go_wp2
  go_ret
  exact ⟨rfl, H⟩
theorem fixed_ok (b : Nat) (r : RS) (n : Int) (hs : r.s.size ≤ 1099511627776) (h63 : n ≤ 9223372036854775807) {w0 w : World} {F : List Assn} (H : St w0 w (Rdr b r :: F)) :
    Calls Try.prog 44 #[.pointer (some ⟨b, 0, none⟩), .int .i64 n] w fun x w' => x = .returned (.string (r.fixed n).1) ∧ St w0 w' (Rdr b (r.fixed n).2 :: F) := by
  by_cases hn : n < 0
  · exact fixed_e b r n hn H
  by_cases he : r.e = 0
  · by_cases hle : n ≤ r.s.size
    · by_cases hle2 : n + padn n.toNat ≤ r.s.size
      · exact fixed_a b r n hs (by omega) he hle hle2 H
      · exact fixed_b b r n hs (by omega) he hle hle2 H
    · exact fixed_c b r n hs (by omega) h63 he hle H
  · exact fixed_d b r n hs (by omega) h63 he H
set_option maxHeartbeats 400000 in
theorem fixed_nil (n : Int) (h63 : n ≤ 9223372036854775807) (w : World) :
    Calls Try.prog 44 #[.pointer none, .int .i64 n] w fun x w' => x = .returned (.string ByteArray.empty) ∧ w = w' := by
  by_cases hn : n < 0
  · go_enter Try.func44, Try.ntmps44
    go_wp2
    go_ret
    exact ⟨rfl, rfl⟩
  · have hn0 : 0 ≤ n := by omega
    go_enter Try.func44, Try.ntmps44
    go_wp2_with (first | (go_at_call 71; refine (pad_ok _ _ (by omega) (by omega)).mono ?_; rintro x w1 ⟨rfl, rfl⟩) | (go_at_call 68; refine (take_nil _ _).mono ?_; rintro x w1 ⟨rfl, rfl⟩))
    go_ret
    exact ⟨rfl, rfl⟩

/-- a length, so many bytes, and noughts; no more than 'most' -/
def RS.opqe (r : RS) (most : Int) : ByteArray × RS :=
  if (r.nat 4).1 > max most 0 then (ByteArray.empty, (r.nat 4).2.wrong 2) else (r.nat 4).2.fixed (r.nat 4).1
theorem num_le4 (l : List UInt8) (hl : l.length ≤ 4) : 0 ≤ num l ∧ num l ≤ 4294967295 := by
  have key : ∀ (k : Nat) (l : List UInt8), l.length = k → k ≤ 4 → 0 ≤ num l ∧ num l < 256 ^ k := by
    intro k
    induction k with
    | zero => intro l h _; obtain rfl := List.eq_nil_of_length_eq_zero h; simp [num]
    | succ k ih =>
      intro l h hk
      have hne : l ≠ [] := by intro e; subst e; simp at h
      obtain ⟨a, b, rfl⟩ : ∃ a b, l = a ++ [b] := ⟨l.dropLast, l.getLast hne, (List.dropLast_concat_getLast hne).symm⟩
      obtain ⟨h1, h2⟩ := ih a (by simp at h; omega) (by omega)
      have hb := b.toNat_lt
      have hp : (256 : Int) ^ k ≤ 256 ^ 3 := by
        rw [show (256 : Int) ^ k = ((256 ^ k : Nat) : Int) by simp, show (256 : Int) ^ 3 = ((256 ^ 3 : Nat) : Int) by rfl]
        exact Int.ofNat_le.2 (Nat.pow_le_pow_right (by decide) (by omega))
      rw [num_snoc]
      have hw : wrap64 (num a * 256) = num a * 256 := by unfold wrap64; omega
      rw [hw, Int.pow_succ]
      omega
  obtain ⟨h1, h2⟩ := key l.length l rfl hl
  have hp : (256 : Int) ^ l.length ≤ 256 ^ 4 := by
    rw [show (256 : Int) ^ l.length = ((256 ^ l.length : Nat) : Int) by simp, show (256 : Int) ^ 4 = ((256 ^ 4 : Nat) : Int) by rfl]
    exact Int.ofNat_le.2 (Nat.pow_le_pow_right (by decide) hl)
  omega
theorem RS.take_size (r : RS) (k : Nat) : (r.take k).1.1.size ≤ k := by
  unfold RS.take
  split
  · split
    · simp only [Int.toNat_natCast, ByteArray.size_extract]; omega
    · exact Nat.zero_le _
  · exact Nat.zero_le _
theorem RS.nat4 (r : RS) : 0 ≤ (r.nat 4).1 ∧ (r.nat 4).1 ≤ 4294967295 := num_le4 _ (by rw [bl_length]; exact r.take_size 4)
set_option maxHeartbeats 400000 in
theorem opaque_ok (b : Nat) (r : RS) (most : Int) (hs : r.s.size ≤ 1099511627776) {w0 w : World} {F : List Assn} (H : St w0 w (Rdr b r :: F)) :
    Calls Try.prog 43 #[.pointer (some ⟨b, 0, none⟩), .int .i64 most] w fun x w' => x = .returned (.string (r.opqe most).1) ∧ St w0 w' (Rdr b (r.opqe most).2 :: F) := by
  have hl := r.nat_le 4
  obtain ⟨n0, n1⟩ := r.nat4
  by_cases h1 : (r.nat 4).1 > max most 0
  · have hr : r.opqe most = (ByteArray.empty, (r.nat 4).2.wrong 2) := by simp only [RS.opqe, if_pos h1]
    rw [hr]; clear hr
    generalize hq : r.nat 4 = q at *
    have Hq := Lib.hid hq; clear hq
    go_enter Try.func43, Try.ntmps43
    go_wp2_with (first | (go_at_call 38; refine (uint_ok b _ hs H).mono ?_; rw [Hq.out]; rintro x w1 ⟨rfl, H1⟩) | (go_at_call 70; refine (wrong_ok b _ _ H1).mono ?_; rintro x w2 ⟨rfl, H2⟩))
    all_goals go_ret
    all_goals exact ⟨rfl, H2⟩
  · have hr : r.opqe most = (r.nat 4).2.fixed (r.nat 4).1 := by simp only [RS.opqe, if_neg h1]
    rw [hr]; clear hr
    generalize hq : r.nat 4 = q at *
    have Hq := Lib.hid hq; clear hq
    go_enter Try.func43, Try.ntmps43
    go_wp2_with (first | (go_at_call 38; refine (uint_ok b _ hs H).mono ?_; rw [Hq.out]; rintro x w1 ⟨rfl, H1⟩) | (go_at_call 44; refine (fixed_ok b _ _ (by omega) (by omega) H1).mono ?_; rintro x w2 ⟨rfl, H2⟩))
    all_goals go_ret
    all_goals exact ⟨rfl, H2⟩
/-- what went wrong first, or whether all was taken -/
def RS.fin (r : RS) : Int := if r.e = 0 then (if r.s.size = 0 then 0 else 6) else r.e
theorem toList_isEmpty (s : ByteArray) : s.toList.isEmpty = decide (s.size = 0) := by
  rw [ByteArray.toList_eq, ← bl_length, bl]
  cases s.data.toList <;> simp
set_option maxHeartbeats 400000 in
theorem end_ok (b : Nat) (r : RS) {w0 w : World} {F : List Assn} (H : St w0 w (Rdr b r :: F)) :
    Calls Try.prog 28 #[.pointer (some ⟨b, 0, none⟩)] w fun x w' => x = .returned (.int .i64 r.fin) ∧ w = w' := by
  obtain ⟨s, e⟩ := r
  have c0 := St.cell H 0 rfl
  have c1 := St.cell H 1 rfl
  by_cases he : e = 0
  · subst he
    by_cases h0 : s.size = 0
    · have h1 : s.toList.isEmpty = true := by rw [toList_isEmpty]; simpa using h0
      have hr : RS.fin ⟨s, 0⟩ = 0 := by simp [RS.fin, h0]
      rw [hr]; clear hr h0
      go_enter Try.func28, Try.ntmps28
      go_wp2
      go_ret
      exact ⟨rfl, rfl⟩
    · have h1 : s.toList.isEmpty = false := by rw [toList_isEmpty]; simpa using h0
      have hr : RS.fin ⟨s, 0⟩ = 6 := by simp [RS.fin, h0]
      rw [hr]; clear hr h0
      go_enter Try.func28, Try.ntmps28
      go_wp2
      go_ret
      exact ⟨rfl, rfl⟩
  · have hq : (e == 0) = false := by simpa using he
    have hr : RS.fin ⟨s, e⟩ = e := by simp [RS.fin, he]
    rw [hr]
    go_enter Try.func28, Try.ntmps28
    go_wp2
    go_ret
    exact ⟨rfl, rfl⟩
theorem RS.wrong_le (r : RS) (e : Int) : (r.wrong e).s.size ≤ r.s.size := Nat.zero_le _
theorem RS.bool_le (r : RS) : r.bool.2.s.size ≤ r.s.size := by
  unfold RS.bool
  split
  · exact Nat.zero_le _
  · exact r.nat_le 4
theorem RS.fixed_le (r : RS) (n : Int) : (r.fixed n).2.s.size ≤ r.s.size := by
  unfold RS.fixed
  repeat' split
  all_goals first | exact Nat.le_refl _ | exact Nat.zero_le _ | exact extract_le ..
theorem RS.opqe_le (r : RS) (n : Int) : (r.opqe n).2.s.size ≤ r.s.size := by
  unfold RS.opqe
  split
  · exact Nat.zero_le _
  · exact Nat.le_trans (RS.fixed_le _ _) (r.nat_le 4)
theorem end_nil (w : World) :
    Calls Try.prog 28 #[.pointer none] w fun x w' => x = .returned (.int .i64 1) ∧ w = w' := by
  go_enter Try.func28, Try.ntmps28
  go_wp2
  go_ret
  exact ⟨rfl, rfl⟩
set_option maxHeartbeats 400000 in
theorem opaque_nil (n : Int) (w : World) :
    Calls Try.prog 43 #[.pointer none, .int .i64 n] w fun x w' => x = .returned (.string ByteArray.empty) ∧ w = w' := by
  go_enter Try.func43, Try.ntmps43
  go_wp2_with (first | (go_at_call 38; refine (uint_nil _).mono ?_; rintro x w1 ⟨rfl, rfl⟩) | (go_at_call 44; refine (fixed_nil _ (by omega) _).mono ?_; rintro x w2 ⟨rfl, rfl⟩))
  all_goals go_ret
  all_goals exact ⟨rfl, rfl⟩
end Go.Proofs.Ytkkpcjpdpjpohaa

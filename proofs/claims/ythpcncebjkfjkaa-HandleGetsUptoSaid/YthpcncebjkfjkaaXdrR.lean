/- Layer 1's reader: what each of its functions does. -/
import Derived.Test.YthpcncebjkfjkaaProg
import Derived.Test.YthpcncebjkfjkaaXdrP
import Derived.Test.YthpcncebjkfjkaaBits
import Derived.Deep.QuietTactic
import Derived.BigQuiet
namespace Go.Proofs.Ythpcncebjkfjkaa
open Go.RowKit

theorem bl_take_snoc (s : ByteArray) (k : Nat) (h : k < s.size) : (bl s).take (k + 1) = (bl s).take k ++ [s[k]] := by
  rw [bl, List.take_succ_eq_append_getElem (by simpa using h)]; rfl
theorem num_snoc (l : List UInt8) (b : UInt8) : num (l ++ [b]) = wrap64 (num l * 256) + (b.toNat : Int) := by
  simp [num, List.foldl_append]
theorem num_step (x : Int) (b : UInt8) : bits .or .i64 (wrap64 (x * 256)) (wrap64 (b.toNat : Int)) = wrap64 (x * 256) + (b.toNat : Int) := by
  have hb := b.toNat_lt
  rw [show wrap64 (b.toNat : Int) = ((b.toNat : Nat) : Int) by unfold wrap64; omega]
  exact i64_or_join _ 8 b.toNat (by decide) (by omega) (by unfold wrap64; omega) (by unfold wrap64; omega) (by unfold wrap64; omega)

set_option maxHeartbeats 400000 in
theorem xnum_ok (s : ByteArray) (w : World) (hs : s.size ≤ 1099511627776) :
    Calls Try.prog 27 #[.string s] w fun r w' => r = .returned (.int .i64 (num (bl s))) ∧ w = w' := by
  go_enter Try.func27, Try.ntmps27
  go_wp2
  go_loop [3, 4, 7] (fun n u i => ∃ k : Nat, k ≤ s.size ∧ i = .int .i64 k ∧ n = .int .i64 (num ((bl s).take k))) (fun _ _ i => s.size - (intOf i).toNat)
  case atStart => exact ⟨0, Nat.zero_le _, rfl, rfl⟩
  case round =>
    obtain ⟨k, hk, rfl, rfl⟩ := hrel
    by_cases hlt : k < s.size
    · go_wp2
      go_round
      case rel => exact ⟨k + 1, by omega, by go_num, by rw [bl_take_snoc s k hlt, num_snoc, num_step]⟩
      case measure => simp [intOf]; omega
    · go_wp2
      go_ret
      exact ⟨by rw [List.take_of_length_le (by rw [bl_length]; omega)]; rfl, rfl⟩

theorem padn_bits (n : Int) (h : 0 ≤ n) : bits .and .i64 (-n) 3 = (padn n.toNat : Int) := by
  have := i64_and_mask (-n) 2 (by decide)
  rw [show ((2 ^ 2 - 1 : Nat) : Int) = 3 from rfl] at this
  rw [this, padn]; omega
theorem pad_ok (n : Int) (w : World) (h : 0 ≤ n) (h2 : n ≤ 9223372036854775807) :
    Calls Try.prog 31 #[.int .i64 n] w fun r w' => r = .returned (.int .i64 (padn n.toNat)) ∧ w = w' := by
  go_enter Try.func31, Try.ntmps31
  go_wp2
  go_ret
  exact ⟨by rw [padn_bits n h]; rfl, rfl⟩

/-- a reader lies in block b -/
def Rdr (b : Nat) (r : RS) : Assn := Pt b #[.string r.s, .int .i64 r.e] 54

theorem open_ok (s : ByteArray) {w0 w : World} {F : List Assn} (H : St w0 w F) :
    Calls Try.prog 17 #[.string s] w fun e w' => ∃ b, e = .returned (.pointer (some ⟨b, 0, none⟩)) ∧ St w0 w' (Rdr b ⟨s, 0⟩ :: F) := by
  go_enter Try.func17, Try.ntmps17
  go_wp2
  go_ret
  exact ⟨_, rfl, H.alloc _ _⟩

set_option maxHeartbeats 400000 in
theorem wrong_ok (b : Nat) (r : RS) (e : Int) {w0 w : World} {F : List Assn} (H : St w0 w (Rdr b r :: F)) :
    Calls Try.prog 34 #[.pointer (some ⟨b, 0, none⟩), .int .i64 e] w fun x w' => x = .returned (.tuple #[]) ∧ St w0 w' (Rdr b (r.wrong e) :: F) := by
  obtain ⟨s, q⟩ := r
  have c0 := St.cell H 0 rfl
  have c1 := St.cell H 1 rfl
  have f0 := St.frozen H 0
  have f1 := St.frozen H 1
  by_cases he : q = 0
  · subst he
    go_enter Try.func34, Try.ntmps34
    go_wp2
    go_end0
    exact ⟨rfl, (St.set H 1 (.int .i64 e)).set 0 (.string ByteArray.empty)⟩
  · have hq : (q == 0) = false := by simpa using he
    go_enter Try.func34, Try.ntmps34
    go_wp2
    go_end0
    refine ⟨rfl, ?_⟩
    have h := St.set H 0 (.string ByteArray.empty)
    rw [show RS.wrong ⟨s, q⟩ e = ⟨ByteArray.empty, q⟩ by simp [RS.wrong, he]]
    exact h

set_option maxHeartbeats 400000 in
theorem take_ok (b : Nat) (r : RS) (n : Int) (hn0 : r.e = 0 → 0 ≤ n) (hs : r.s.size ≤ 1099511627776) {w0 w : World} {F : List Assn} (H : St w0 w (Rdr b r :: F)) :
    Calls Try.prog 26 #[.pointer (some ⟨b, 0, none⟩), .int .i64 n] w fun x w' => x = .returned (.tuple #[.string (r.take n).1.1, .bool (r.take n).1.2]) ∧ St w0 w' (Rdr b (r.take n).2 :: F) := by
  obtain ⟨s, q⟩ := r
  have c0 := St.cell H 0 rfl
  have c1 := St.cell H 1 rfl
  have f0 := St.frozen H 0
  have f1 := St.frozen H 1
  by_cases he : q = 0
  · subst he
    have hn : 0 ≤ n := hn0 rfl
    by_cases hle : n ≤ s.size
    · have hr : RS.take ⟨s, 0⟩ n = ((s.extract 0 n.toNat, true), ⟨s.extract n.toNat s.size, 0⟩) := by simp [RS.take, hle]
      rw [hr]; clear hr
      go_enter Try.func26, Try.ntmps26
      go_wp2
      go_ret2
      exact ⟨rfl, St.set H 0 _⟩
    · have hr : RS.take ⟨s, 0⟩ n = ((ByteArray.empty, false), ⟨ByteArray.empty, 5⟩) := by simp [RS.take, hle]
      rw [hr]; clear hr
      go_enter Try.func26, Try.ntmps26
      go_wp2_with (go_at_call 34; refine (wrong_ok b _ _ H).mono ?_; rintro x w1 ⟨rfl, H1⟩)
      go_ret2
      exact ⟨rfl, H1⟩
  · have hq : (q != 0) = true := by simpa using he
    have hr : RS.take ⟨s, q⟩ n = ((ByteArray.empty, false), ⟨s, q⟩) := by simp [RS.take, he]
    rw [hr]; clear hr
    go_enter Try.func26, Try.ntmps26
    go_wp2
    go_ret2
    exact ⟨rfl, H⟩
theorem take_nil (n : Int) (w : World) :
    Calls Try.prog 26 #[.pointer none, .int .i64 n] w fun x w' => x = .returned (.tuple #[.string ByteArray.empty, .bool false]) ∧ w = w' := by
  go_enter Try.func26, Try.ntmps26
  go_wp2
  go_ret2
  exact ⟨rfl, rfl⟩

theorem extract_le (s : ByteArray) (a b : Nat) : (s.extract a b).size ≤ s.size := by
  rw [ByteArray.size_extract]; omega
theorem RS.take_le (r : RS) (n : Int) : (r.take n).1.1.size ≤ r.s.size := by
  unfold RS.take
  split
  · split
    · exact extract_le ..
    · exact Nat.zero_le _
  · exact Nat.zero_le _
theorem RS.take_rest_le (r : RS) (n : Int) : (r.take n).2.s.size ≤ r.s.size := by
  unfold RS.take
  split
  · split
    · exact extract_le ..
    · exact Nat.zero_le _
  · exact Nat.le_refl _

/-- a number of so many bytes -/
def RS.nat (r : RS) (k : Int) : Int × RS := (num (bl (r.take k).1.1), (r.take k).2)
theorem RS.nat_le (r : RS) (k : Int) : (r.nat k).2.s.size ≤ r.s.size := r.take_rest_le k
theorem hyper_ok (b : Nat) (r : RS) (hs : r.s.size ≤ 1099511627776) {w0 w : World} {F : List Assn} (H : St w0 w (Rdr b r :: F)) :
    Calls Try.prog 18 #[.pointer (some ⟨b, 0, none⟩)] w fun x w' => x = .returned (.int .i64 (r.nat 8).1) ∧ St w0 w' (Rdr b (r.nat 8).2 :: F) := by
  have hl := r.take_le 8
  go_enter Try.func18, Try.ntmps18
  go_wp2_with (first | (go_at_call 26; refine (take_ok b _ _ (fun _ => by omega) hs H).mono ?_; rintro x w1 ⟨rfl, H1⟩) | (go_at_call 27; refine (xnum_ok _ _ (by omega)).mono ?_; rintro x w2 ⟨rfl, rfl⟩))
  go_ret
  exact ⟨rfl, H1⟩
theorem hyper_nil (w : World) :
    Calls Try.prog 18 #[.pointer none] w fun x w' => x = .returned (.int .i64 0) ∧ w = w' := by
  go_enter Try.func18, Try.ntmps18
  go_wp2_with (first | (go_at_call 26; refine (take_nil _ _).mono ?_; rintro x w1 ⟨rfl, rfl⟩) | (go_at_call 27; refine (xnum_ok _ _ (by simp)).mono ?_; rintro x w2 ⟨rfl, rfl⟩))
  go_ret
  exact ⟨rfl, rfl⟩

/-- a truth value -/
def RS.bool (r : RS) : Bool × RS := if (r.nat 4).1 > 1 then (false, (r.nat 4).2.wrong 4) else ((r.nat 4).1 == 1, (r.nat 4).2)
/-- so many bytes, and noughts -/
def RS.fixed (r : RS) (n : Int) : ByteArray × RS :=
  if n < 0 then (ByteArray.empty, r)
  else if r.e = 0 then
    if n ≤ r.s.size then
      if n + padn n.toNat ≤ r.s.size then
        if ∀ x ∈ bl ((r.s.extract 0 (n.toNat + padn n.toNat)).extract n.toNat (n.toNat + padn n.toNat)), x = 0 then ((r.s.extract 0 (n.toNat + padn n.toNat)).extract 0 n.toNat, ⟨r.s.extract (n.toNat + padn n.toNat) r.s.size, 0⟩)
        else (ByteArray.empty, ⟨ByteArray.empty, 4⟩)
      else (ByteArray.empty, ⟨ByteArray.empty, 5⟩)
    else (ByteArray.empty, ⟨ByteArray.empty, 5⟩)
  else (ByteArray.empty, r)
theorem RS.take_err (r : RS) (n : Int) (he : r.e ≠ 0) : r.take n = ((ByteArray.empty, false), r) := by simp [RS.take, he]
/-- a length, so many bytes, and noughts; no more than 'most' -/
def RS.opqe (r : RS) (most : Int) : ByteArray × RS :=
  if (r.nat 4).1 > max most 0 then (ByteArray.empty, (r.nat 4).2.wrong 2) else (r.nat 4).2.fixed (r.nat 4).1
theorem num_le4 (l : List UInt8) (hl : l.length ≤ 4) : 0 ≤ num l ∧ num l ≤ 4294967295 := by
  have key : ∀ (k : Nat) (l : List UInt8), l.length = k → k ≤ 4 → 0 ≤ num l ∧ num l < 256 ^ k := by
    intro k
    induction k with
    | zero => intro l h _; obtain rfl := List.eq_nil_of_length_eq_zero h; simp [num]
    | succ k ih =>
      intro l h hk
      have hne : l ≠ [] := by intro e; subst e; simp at h
      obtain ⟨a, b, rfl⟩ : ∃ a b, l = a ++ [b] := ⟨l.dropLast, l.getLast hne, (List.dropLast_concat_getLast hne).symm⟩
      obtain ⟨h1, h2⟩ := ih a (by simp at h; omega) (by omega)
      have hb := b.toNat_lt
      have hp : (256 : Int) ^ k ≤ 256 ^ 3 := by
        rw [show (256 : Int) ^ k = ((256 ^ k : Nat) : Int) by simp, show (256 : Int) ^ 3 = ((256 ^ 3 : Nat) : Int) by rfl]
        exact Int.ofNat_le.2 (Nat.pow_le_pow_right (by decide) (by omega))
      rw [num_snoc]
      have hw : wrap64 (num a * 256) = num a * 256 := by unfold wrap64; omega
      rw [hw, Int.pow_succ]
      omega
  obtain ⟨h1, h2⟩ := key l.length l rfl hl
  have hp : (256 : Int) ^ l.length ≤ 256 ^ 4 := by
    rw [show (256 : Int) ^ l.length = ((256 ^ l.length : Nat) : Int) by simp, show (256 : Int) ^ 4 = ((256 ^ 4 : Nat) : Int) by rfl]
    exact Int.ofNat_le.2 (Nat.pow_le_pow_right (by decide) hl)
  omega
theorem RS.take_size (r : RS) (k : Nat) : (r.take k).1.1.size ≤ k := by
  unfold RS.take
  split
  · split
    · simp only [Int.toNat_natCast, ByteArray.size_extract]; omega
    · exact Nat.zero_le _
  · exact Nat.zero_le _
theorem RS.nat4 (r : RS) : 0 ≤ (r.nat 4).1 ∧ (r.nat 4).1 ≤ 4294967295 := num_le4 _ (by rw [bl_length]; exact r.take_size 4)
/-- what went wrong first, or whether all was taken -/
def RS.fin (r : RS) : Int := if r.e = 0 then (if r.s.size = 0 then 0 else 6) else r.e
theorem toList_isEmpty (s : ByteArray) : s.toList.isEmpty = decide (s.size = 0) := by
  rw [ByteArray.toList_eq, ← bl_length, bl]
  cases s.data.toList <;> simp
set_option maxHeartbeats 400000 in
theorem end_ok (b : Nat) (r : RS) {w0 w : World} {F : List Assn} (H : St w0 w (Rdr b r :: F)) :
    Calls Try.prog 19 #[.pointer (some ⟨b, 0, none⟩)] w fun x w' => x = .returned (.int .i64 r.fin) ∧ w = w' := by
  obtain ⟨s, e⟩ := r
  have c0 := St.cell H 0 rfl
  have c1 := St.cell H 1 rfl
  by_cases he : e = 0
  · subst he
    by_cases h0 : s.size = 0
    · have h1 : s.toList.isEmpty = true := by rw [toList_isEmpty]; simpa using h0
      have hr : RS.fin ⟨s, 0⟩ = 0 := by simp [RS.fin, h0]
      rw [hr]; clear hr h0
      go_enter Try.func19, Try.ntmps19
      go_wp2
      go_ret
      exact ⟨rfl, rfl⟩
    · have h1 : s.toList.isEmpty = false := by rw [toList_isEmpty]; simpa using h0
      have hr : RS.fin ⟨s, 0⟩ = 6 := by simp [RS.fin, h0]
      rw [hr]; clear hr h0
      go_enter Try.func19, Try.ntmps19
      go_wp2
      go_ret
      exact ⟨rfl, rfl⟩
  · have hq : (e == 0) = false := by simpa using he
    have hr : RS.fin ⟨s, e⟩ = e := by simp [RS.fin, he]
    rw [hr]
    go_enter Try.func19, Try.ntmps19
    go_wp2
    go_ret
    exact ⟨rfl, rfl⟩
theorem RS.wrong_le (r : RS) (e : Int) : (r.wrong e).s.size ≤ r.s.size := Nat.zero_le _
theorem RS.bool_le (r : RS) : r.bool.2.s.size ≤ r.s.size := by
  unfold RS.bool
  split
  · exact Nat.zero_le _
  · exact r.nat_le 4
theorem RS.fixed_le (r : RS) (n : Int) : (r.fixed n).2.s.size ≤ r.s.size := by
  unfold RS.fixed
  repeat' split
  all_goals first | exact Nat.le_refl _ | exact Nat.zero_le _ | exact extract_le ..
theorem RS.opqe_le (r : RS) (n : Int) : (r.opqe n).2.s.size ≤ r.s.size := by
  unfold RS.opqe
  split
  · exact Nat.zero_le _
  · exact Nat.le_trans (RS.fixed_le _ _) (r.nat_le 4)
theorem end_nil (w : World) :
    Calls Try.prog 19 #[.pointer none] w fun x w' => x = .returned (.int .i64 1) ∧ w = w' := by
  go_enter Try.func19, Try.ntmps19
  go_wp2
  go_ret
  exact ⟨rfl, rfl⟩
end Go.Proofs.Ythpcncebjkfjkaa

/- The document's layer 1 (the reference): what each of its functions does. -/
import Derived.Test.YthpcncebjkfjkaaProg
import Derived.Test.YthpcncebjkfjkaaXdrP
import Derived.Test.YthpcncebjkfjkaaBits
import Derived.Test.YthpcncebjkfjkaaXdrR
import Derived.Deep.QuietTactic
import Derived.BigQuiet
import Derived.Lib.Strings
namespace Go.Proofs.Ythpcncebjkfjkaa
open Go.RowKit

def unum (l : List UInt8) : Int := l.foldl (fun n b => (256 * n + (b.toNat : Int)) % 18446744073709551616) 0
theorem unum_snoc (l : List UInt8) (b : UInt8) : unum (l ++ [b]) = (256 * unum l + (b.toNat : Int)) % 18446744073709551616 := by
  simp [unum, List.foldl_append]
theorem list_snoc_ind {α : Type} {p : List α → Prop} (h0 : p []) (hs : ∀ l a, p l → p (l ++ [a])) (l : List α) : p l := by
  have : ∀ n (l : List α), l.length = n → p l := by
    intro n
    induction n with
    | zero => intro l h; obtain rfl := List.eq_nil_of_length_eq_zero h; exact h0
    | succ n ih =>
      intro l h
      have hne : l ≠ [] := by intro e; subst e; simp at h
      rw [← List.dropLast_concat_getLast hne]
      exact hs _ _ (ih _ (by simp [h]))
  exact this _ l rfl
theorem unum_range (l : List UInt8) : 0 ≤ unum l ∧ unum l < 18446744073709551616 := by
  refine list_snoc_ind (p := fun l => 0 ≤ unum l ∧ unum l < 18446744073709551616) (by simp [unum]) (fun l a _ => ?_) l
  rw [unum_snoc]; omega
theorem num_unum (l : List UInt8) : wrap64 (unum l) = num l := by
  refine list_snoc_ind (p := fun l => wrap64 (unum l) = num l) (by simp [unum, num, wrap64]) (fun l a ih => ?_) l
  have ha := a.toNat_lt
  rw [unum_snoc, num_snoc, ← ih]
  unfold wrap64
  omega
theorem u64_step (x : Int) (b : UInt8) : IntKind.u64.wrap (IntKind.u64.wrap (256 * x) + IntKind.u64.wrap (b.toNat : Int)) = (256 * x + (b.toNat : Int)) % 18446744073709551616 := by
  rw [IntKind.wrap_u64, IntKind.wrap_u64, IntKind.wrap_u64]; omega
/-- a call that only computes, in a region that draws its order -/
theorem quiet_here {P : Program} {f : FuncId} {args : Array Value} {w : World} {n : Nat} {v : Value}
    (h : Calls P f args (w.drewN n) fun e w' => e = .returned v ∧ w.drewN n = w') : Calls P f args (w.drewN n) fun e w' => e = .returned v ∧ ∃ m, w' = w.drewN m :=
  h.mono fun _ _ ⟨he, hm⟩ => ⟨he, n, hm.symm⟩

set_option maxHeartbeats 400000 in
theorem value_ok (s : ByteArray) (w : World) (hs : s.size ≤ 1099511627776) :
    Calls Try.prog 30 #[.string s] w fun r w' => r = .returned (.int .u64 (unum (bl s))) ∧ w = w' := by
  go_enter Try.func30, Try.ntmps30
  go_wp2
  go_loop [3, 4] (fun n i => ∃ k : Nat, k ≤ s.size ∧ i = .int .i64 k ∧ n = .int .u64 (unum ((bl s).take k))) (fun _ i => s.size - (intOf i).toNat)
  case atStart => exact ⟨0, Nat.zero_le _, rfl, rfl⟩
  case round =>
    obtain ⟨k, hk, rfl, rfl⟩ := hrel
    obtain ⟨u0, u1⟩ := unum_range ((bl s).take k)
    by_cases hlt : k < s.size
    · have hst := bl_take_snoc s k hlt
      have hun := unum_snoc ((bl s).take k) s[k]
      have HST := Lib.hid hst; have HUN := Lib.hid hun; clear hst hun
      go_wp2
      go_round
      case rel => exact ⟨k + 1, by omega, by go_num, by rw [HST.out, HUN.out, u64_step]⟩
      case measure => simp [intOf]; omega
    · go_wp2
      go_ret
      exact ⟨by rw [List.take_of_length_le (by rw [bl_length]; omega)]; rfl, rfl⟩

/-- .. and one that only draws -/
theorem quiet_drew {P : Program} {f : FuncId} {args : Array Value} {w : World} {n : Nat} {v : Value}
    (h : Calls P f args (w.drewN n) fun e w' => e = .returned v ∧ ∃ m, w' = (w.drewN n).drewN m) : Calls P f args (w.drewN n) fun e w' => e = .returned v ∧ ∃ m, w' = w.drewN m :=
  h.mono fun _ _ ⟨he, m, hm⟩ => ⟨he, n + m, by rw [hm, World.drewN_drewN]⟩
/-- the reference's reader of S in block b -/
def Rfr (b : Nat) (S : ByteArray) (r : RS) : Assn :=
  exA fun i : Nat => andA (Pt b #[.string S, .int .i64 i, .int .i64 r.e] 45) (i ≤ S.size ∧ r.s = S.extract i S.size)
theorem St.openRf {w0 w : World} {b : Nat} {S : ByteArray} {r : RS} {F : List Assn} (H : St w0 w (Rfr b S r :: F)) :
    ∃ i : Nat, St w0 w (Pt b #[.string S, .int .i64 i, .int .i64 r.e] 45 :: F) ∧ i ≤ S.size ∧ r.s = S.extract i S.size := by
  obtain ⟨i, H⟩ := H.unex
  exact ⟨i, H.unand⟩
theorem St.shutRf {w0 w : World} {b i : Nat} {S s : ByteArray} {e : Int} {F : List Assn} (H : St w0 w (Pt b #[.string S, .int .i64 i, .int .i64 e] 45 :: F)) (hi : i ≤ S.size) (hs : s = S.extract i S.size) :
    St w0 w (Rfr b S ⟨s, e⟩ :: F) := St.ex i (H.and ⟨hi, hs⟩)

theorem refleft_ok (b i : Nat) (S : ByteArray) (e : Int) (hS : S.size ≤ 1099511627776) (hi : i ≤ S.size) {w0 w : World} {F : List Assn} (H : St w0 w (Pt b #[.string S, .int .i64 i, .int .i64 e] 45 :: F)) :
    Calls Try.prog 28 #[.pointer (some ⟨b, 0, none⟩)] w fun r w' => r = .returned (.int .i64 ((S.size : Int) - i)) ∧ ∃ n, w' = w.drewN n := by
  have c0 := H.cell 0 rfl
  have c1 := H.cell 1 rfl
  go_enter Try.func28, Try.ntmps28
  go_wp2_with fail
  go_quiet (fail)
  go_wp2
  go_ret
  exact ⟨rfl, _, rfl⟩
set_option maxHeartbeats 400000 in
theorem refwrong_ok (b : Nat) (S : ByteArray) (r : RS) (e : Int) {w0 w : World} {F : List Assn} (H : St w0 w (Rfr b S r :: F)) :
    Calls Try.prog 29 #[.pointer (some ⟨b, 0, none⟩), .int .i64 e] w fun x w' => x = .returned (.tuple #[]) ∧ St w0 w' (Rfr b S (r.wrong e) :: F) := by
  obtain ⟨i, H, hi, hs⟩ := H.openRf
  have hx : ByteArray.empty = S.extract S.size S.size := by rw [ByteArray.extract_eq_empty_iff.2]; omega
  have HX := Lib.hid hx; clear hx
  have c0 := H.cell 0 rfl
  have c1 := H.cell 1 rfl
  have c2 := H.cell 2 rfl
  have f1 := H.frozen 1
  have f2 := H.frozen 2
  obtain ⟨s, q⟩ := r
  dsimp only at *
  have HS := Lib.hid hs; clear hs
  by_cases he : q = 0
  · subst he
    go_enter Try.func29, Try.ntmps29
    go_wp2
    go_end0
    exact ⟨rfl, ((H.set 2 (.int .i64 e)).set 1 (.int .i64 S.size)).shutRf (Nat.le_refl _) HX.out⟩
  · have hq : (q == 0) = false := by simpa using he
    go_enter Try.func29, Try.ntmps29
    go_wp2
    go_end0
    refine ⟨rfl, ?_⟩
    have h := (H.set 1 (.int .i64 S.size)).shutRf (Nat.le_refl _) HX.out
    rw [show RS.wrong ⟨s, q⟩ e = ⟨ByteArray.empty, q⟩ by simp [RS.wrong, he]]
    exact h
theorem extract_extract (S : ByteArray) (i a b : Nat) : (S.extract i S.size).extract a b = S.extract (i + a) (min (i + b) S.size) := by
  rw [ByteArray.extract_extract]

set_option maxHeartbeats 800000 in
theorem refnumber_ok (b : Nat) (S : ByteArray) (r : RS) (k : Nat) (hk : k ≤ 8) (hS : S.size ≤ 1099511627776) {w0 w : World} {F : List Assn} (H : St w0 w (Rfr b S r :: F)) :
    Calls Try.prog 20 #[.pointer (some ⟨b, 0, none⟩), .int .i64 k] w fun x w' => x = .returned (.int .i64 (r.nat k).1) ∧ St w0 w' (Rfr b S (r.nat k).2 :: F) := by
  have HR := H
  obtain ⟨i, H, hi, hs⟩ := H.openRf
  have c2 := H.cell 2 rfl
  obtain ⟨s, q⟩ := r
  dsimp only at *
  have hsz : s.size = S.size - i := by rw [hs, ByteArray.size_extract]; omega
  by_cases he : q = 0
  · subst he
    by_cases hle : i + k ≤ S.size
    · have hr : RS.nat ⟨s, 0⟩ k = (num (bl (s.extract 0 k)), ⟨s.extract k s.size, 0⟩) := by
        have : (k : Int) ≤ s.size := by omega
        simp [RS.nat, RS.take, this]
      have hx : s.extract 0 k = S.extract i (i + k) := by rw [hs, ByteArray.extract_extract]; congr 1 <;> omega
      have hy : s.extract k s.size = S.extract (i + k) S.size := by rw [hsz, hs, ByteArray.extract_extract]; congr 1; omega
      rw [hr, hx, hy]; clear hr hx hy
      have hge : ¬ (S.size : Int) - i < k := by omega
      have hX : ∀ x y, (S.extract x y).size ≤ 1099511627776 := fun x y => by rw [ByteArray.size_extract]; omega
      have HX := Lib.hid hX; clear hX
      have hun := num_unum (bl (S.extract i (i + k)))
      have HU := Lib.hid hun; clear hun
      have HS := Lib.hid hs; clear hs hsz
      have c0 := H.cell 0 rfl
      have c1 := H.cell 1 rfl
      have f1 := H.frozen 1
      have hik : (i : Int) + k ≤ 1099511627776 := by omega
      have hik2 : i + k ≤ S.size := hle
      go_enter Try.func20, Try.ntmps20
      go_wp2_with (first | (go_at_call 28; refine (refleft_ok b i S 0 hS hi H).mono ?_; rintro x w1 ⟨rfl, nn, rfl⟩))
      have H3 := (H.drewN nn).set 1 (.int .i64 ((i : Int) + k))
      generalize (w.drewN nn).setCell ⟨b, 1, none⟩ (.int .i64 ((i : Int) + k)) = w3 at *
      clear c0 c1 c2 f1
      have c0 := H3.cell 0 rfl
      have c1 := H3.cell 1 rfl
      have hwi : IntKind.i64.wrap (i : Int) = i := IntWalk.i64_in _ (by omega)
      have hi0 : (0 : Int) ≤ (i : Int) := by omega
      have hi1 : (i : Int) ≤ (i : Int) + k := by omega
      have hi2 : (i : Int) + k ≤ (S.size : Int) := by omega
      have hit : ((i : Int) + k).toNat = i + k := by omega
      go_quiet ((go_at_call 30; exact quiet_here (value_ok _ _ (HX.out _ _))))
      go_wp2
      go_ret
      exact ⟨by rw [← HU.out]; rfl, (H3.drewN nq).shutRf hle rfl⟩
    · have hr : RS.nat ⟨s, 0⟩ k = (0, RS.wrong ⟨s, 0⟩ 5) := by
        have : ¬ (k : Int) ≤ s.size := by omega
        simp [RS.nat, RS.take, this, RS.wrong, num, bl]
      rw [hr]; clear hr
      have hlt : (S.size : Int) - i < k := by omega
      have HS := Lib.hid hs; clear hs hsz
      go_enter Try.func20, Try.ntmps20
      go_wp2_with (first | (go_at_call 28; refine (refleft_ok b i S 0 hS hi H).mono ?_; rintro x w1 ⟨rfl, nn, rfl⟩) | (go_at_call 29; refine (refwrong_ok b S _ _ (HR.drewN nn)).mono ?_; rintro x w2 ⟨rfl, H2⟩))
      go_ret
      exact ⟨rfl, H2⟩
  · have hq : (q != 0) = true := by simpa using he
    have hr : RS.nat ⟨s, q⟩ k = (0, ⟨s, q⟩) := by simp [RS.nat, RS.take, he, num, bl]
    rw [hr]; clear hr
    have HS := Lib.hid hs; clear hs hsz
    go_enter Try.func20, Try.ntmps20
    go_wp2
    go_ret
    exact ⟨rfl, HR⟩
theorem refnum4_ok (b : Nat) (S : ByteArray) (r : RS) (hS : S.size ≤ 1099511627776) {w0 w : World} {F : List Assn} (H : St w0 w (Rfr b S r :: F)) :
    Calls Try.prog 20 #[.pointer (some ⟨b, 0, none⟩), .int .i64 4] w fun x w' => x = .returned (.int .i64 (r.nat 4).1) ∧ St w0 w' (Rfr b S (r.nat 4).2 :: F) := refnumber_ok b S r 4 (by decide) hS H
theorem refnum8_ok (b : Nat) (S : ByteArray) (r : RS) (hS : S.size ≤ 1099511627776) {w0 w : World} {F : List Assn} (H : St w0 w (Rfr b S r :: F)) :
    Calls Try.prog 20 #[.pointer (some ⟨b, 0, none⟩), .int .i64 8] w fun x w' => x = .returned (.int .i64 (r.nat 8).1) ∧ St w0 w' (Rfr b S (r.nat 8).2 :: F) := refnumber_ok b S r 8 (by decide) hS H
theorem RS.nat4_bool (r : RS) : r.bool = if (r.nat 4).1 > 1 then (false, (r.nat 4).2.wrong 4) else ((r.nat 4).1 == 1, (r.nat 4).2) := rfl
theorem bl_get (S : ByteArray) (j : Nat) (h : j < S.size) : (bl S)[j]? = some S[j] := by
  rw [bl, Array.getElem?_toList, Array.getElem?_eq_getElem (by exact h)]; rfl
theorem bl_extract (S : ByteArray) (a b : Nat) : bl (S.extract a b) = ((bl S).drop a).take (b - a) := Lib.extract_data S a b
theorem fixed_parts (S s : ByteArray) (i k p : Nat) (hs : s = S.extract i S.size) (hp : p = padn k) (hk : i + k + p ≤ S.size) :
    ((∀ q, k ≤ q → q < k + p → (bl S)[i + q]? = some 0) → RS.fixed ⟨s, 0⟩ k = (S.extract i (i + k), ⟨S.extract (i + (k + p)) S.size, 0⟩)) ∧
    ((¬ ∀ q, k ≤ q → q < k + p → (bl S)[i + q]? = some 0) → RS.fixed ⟨s, 0⟩ k = (ByteArray.empty, ⟨ByteArray.empty, 4⟩)) := by
  have hsz : s.size = S.size - i := by rw [hs, ByteArray.size_extract]; omega
  have e1 : (s.extract 0 (k + p)).extract k (k + p) = S.extract (i + k) (i + k + p) := by
    rw [hs, ByteArray.extract_extract, ByteArray.extract_extract]; congr 1 <;> omega
  have e2 : (s.extract 0 (k + p)).extract 0 k = S.extract i (i + k) := by
    rw [hs, ByteArray.extract_extract, ByteArray.extract_extract]; congr 1 <;> omega
  have e3 : s.extract (k + p) s.size = S.extract (i + (k + p)) S.size := by
    rw [hsz, hs, ByteArray.extract_extract]; congr 1; omega
  unfold RS.fixed
  simp only [Int.toNat_natCast]
  rw [if_neg (by omega), if_pos trivial, if_pos (by omega), ← hp, if_pos (by omega), e1, e2, e3]
  have hall : (∀ x ∈ bl (S.extract (i + k) (i + k + p)), x = 0) ↔ (∀ q, k ≤ q → q < k + p → (bl S)[i + q]? = some 0) := by
    rw [bl_extract]
    constructor
    · intro h q h1 h2
      have hlt : i + q < (bl S).length := by rw [bl_length]; omega
      rw [List.getElem?_eq_getElem hlt]
      congr 1
      refine h _ (List.mem_iff_getElem?.2 ⟨q - k, ?_⟩)
      rw [List.getElem?_take, if_pos (by omega), List.getElem?_drop, show i + k + (q - k) = i + q by omega, List.getElem?_eq_getElem hlt]
    · intro h x hx
      obtain ⟨j, hj⟩ := List.mem_iff_getElem?.1 hx
      rw [List.getElem?_take] at hj
      split at hj
      · rename_i hjl
        rw [List.getElem?_drop] at hj
        have := h (k + j) (by omega) (by omega)
        rw [show i + (k + j) = i + k + j by omega, hj] at this
        injection this
      · cases hj
  exact ⟨fun hq => by rw [if_pos (hall.2 hq)], fun hq => by rw [if_neg (fun h => hq (hall.1 h))]⟩
end Go.Proofs.Ythpcncebjkfjkaa

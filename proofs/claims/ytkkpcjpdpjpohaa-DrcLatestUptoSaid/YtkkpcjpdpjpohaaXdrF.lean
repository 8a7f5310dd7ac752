/- The document's layer 1 (the reference): what each of its functions does. -/
import Derived.Test.YtkkpcjpdpjpohaaProg
import Derived.Test.YtkkpcjpdpjpohaaXdrP
import Derived.Test.YtkkpcjpdpjpohaaBits
import Derived.Test.YtkkpcjpdpjpohaaXdrR
import Derived.Deep.QuietTactic
import Derived.BigQuiet
import Derived.Lib.Strings
namespace Go.Proofs.Ytkkpcjpdpjpohaa
open Go.RowKit

def unum (l : List UInt8) : Int := l.foldl (fun n b => (256 * n + (b.toNat : Int)) % 18446744073709551616) 0
theorem unum_snoc (l : List UInt8) (b : UInt8) : unum (l ++ [b]) = (256 * unum l + (b.toNat : Int)) % 18446744073709551616 := by
  simp [unum, List.foldl_append]
theorem list_snoc_ind {α : Type} {p : List α → Prop} (h0 : p []) (hs : ∀ l a, p l → p (l ++ [a])) (l : List α) : p l := by
  have : ∀ n (l : List α), l.length = n → p l := by
    intro n
    induction n with
    | zero => intro l h; obtain rfl := List.eq_nil_of_length_eq_zero h; exact h0
    | succ n ih =>
      intro l h
      have hne : l ≠ [] := by intro e; subst e; simp at h
      rw [← List.dropLast_concat_getLast hne]
      exact hs _ _ (ih _ (by simp [h]))
  exact this _ l rfl
theorem unum_range (l : List UInt8) : 0 ≤ unum l ∧ unum l < 18446744073709551616 := by
  refine list_snoc_ind (p := fun l => 0 ≤ unum l ∧ unum l < 18446744073709551616) (by simp [unum]) (fun l a _ => ?_) l
  rw [unum_snoc]; omega
theorem num_unum (l : List UInt8) : wrap64 (unum l) = num l := by
  refine list_snoc_ind (p := fun l => wrap64 (unum l) = num l) (by simp [unum, num, wrap64]) (fun l a ih => ?_) l
  have ha := a.toNat_lt
  rw [unum_snoc, num_snoc, ← ih]
  unfold wrap64
  omega
theorem u64_step (x : Int) (b : UInt8) : IntKind.u64.wrap (IntKind.u64.wrap (256 * x) + IntKind.u64.wrap (b.toNat : Int)) = (256 * x + (b.toNat : Int)) % 18446744073709551616 := by
  rw [IntKind.wrap_u64, IntKind.wrap_u64, IntKind.wrap_u64]; omega
/-- a call that only computes, in a region that draws its order -/
theorem quiet_here {P : Program} {f : FuncId} {args : Array Value} {w : World} {n : Nat} {v : Value}
    (h : Calls P f args (w.drewN n) fun e w' => e = .returned v ∧ w.drewN n = w') : Calls P f args (w.drewN n) fun e w' => e = .returned v ∧ ∃ m, w' = w.drewN m :=
  h.mono fun _ _ ⟨he, hm⟩ => ⟨he, n, hm.symm⟩

set_option maxHeartbeats 400000 in
theorem value_ok (s : ByteArray) (w : World) (hs : s.size ≤ 1099511627776) :
    Calls Try.prog 73 #[.string s] w fun r w' => r = .returned (.int .u64 (unum (bl s))) ∧ w = w' := by
  go_enter Try.func73, Try.ntmps73
  go_wp2
  go_loop [3, 4] (fun n i => ∃ k : Nat, k ≤ s.size ∧ i = .int .i64 k ∧ n = .int .u64 (unum ((bl s).take k))) (fun _ i => s.size - (intOf i).toNat)
  case atStart => exact ⟨0, Nat.zero_le _, rfl, rfl⟩
  case round =>
    obtain ⟨k, hk, rfl, rfl⟩ := hrel
    obtain ⟨u0, u1⟩ := unum_range ((bl s).take k)
    by_cases hlt : k < s.size
    · have hst := bl_take_snoc s k hlt
      have hun := unum_snoc ((bl s).take k) s[k]
      have HST := Lib.hid hst; have HUN := Lib.hid hun; clear hst hun
      go_wp2
      go_round
      case rel => exact ⟨k + 1, by omega, by go_num, by rw [HST.out, HUN.out, u64_step]⟩
      case measure => simp [intOf]; omega
    · go_wp2
      go_ret
      exact ⟨by rw [List.take_of_length_le (by rw [bl_length]; omega)]; rfl, rfl⟩

/-- .. and one that only draws -/
theorem quiet_drew {P : Program} {f : FuncId} {args : Array Value} {w : World} {n : Nat} {v : Value}
    (h : Calls P f args (w.drewN n) fun e w' => e = .returned v ∧ ∃ m, w' = (w.drewN n).drewN m) : Calls P f args (w.drewN n) fun e w' => e = .returned v ∧ ∃ m, w' = w.drewN m :=
  h.mono fun _ _ ⟨he, m, hm⟩ => ⟨he, n + m, by rw [hm, World.drewN_drewN]⟩
/-- the reference's reader of S in block b -/
def Rfr (b : Nat) (S : ByteArray) (r : RS) : Assn :=
  exA fun i : Nat => andA (Pt b #[.string S, .int .i64 i, .int .i64 r.e] 92) (i ≤ S.size ∧ r.s = S.extract i S.size)
theorem St.openRf {w0 w : World} {b : Nat} {S : ByteArray} {r : RS} {F : List Assn} (H : St w0 w (Rfr b S r :: F)) :
    ∃ i : Nat, St w0 w (Pt b #[.string S, .int .i64 i, .int .i64 r.e] 92 :: F) ∧ i ≤ S.size ∧ r.s = S.extract i S.size := by
  obtain ⟨i, H⟩ := H.unex
  exact ⟨i, H.unand⟩
theorem St.shutRf {w0 w : World} {b i : Nat} {S s : ByteArray} {e : Int} {F : List Assn} (H : St w0 w (Pt b #[.string S, .int .i64 i, .int .i64 e] 92 :: F)) (hi : i ≤ S.size) (hs : s = S.extract i S.size) :
    St w0 w (Rfr b S ⟨s, e⟩ :: F) := St.ex i (H.and ⟨hi, hs⟩)

theorem refleft_ok (b i : Nat) (S : ByteArray) (e : Int) (hS : S.size ≤ 1099511627776) (hi : i ≤ S.size) {w0 w : World} {F : List Assn} (H : St w0 w (Pt b #[.string S, .int .i64 i, .int .i64 e] 92 :: F)) :
    Calls Try.prog 56 #[.pointer (some ⟨b, 0, none⟩)] w fun r w' => r = .returned (.int .i64 ((S.size : Int) - i)) ∧ ∃ n, w' = w.drewN n := by
  have c0 := H.cell 0 rfl
  have c1 := H.cell 1 rfl
  go_enter Try.func56, Try.ntmps56
  go_wp2_with fail
  go_quiet (fail)
  go_wp2
  go_ret
  exact ⟨rfl, _, rfl⟩
set_option maxHeartbeats 400000 in
theorem refwrong_ok (b : Nat) (S : ByteArray) (r : RS) (e : Int) {w0 w : World} {F : List Assn} (H : St w0 w (Rfr b S r :: F)) :
    Calls Try.prog 55 #[.pointer (some ⟨b, 0, none⟩), .int .i64 e] w fun x w' => x = .returned (.tuple #[]) ∧ St w0 w' (Rfr b S (r.wrong e) :: F) := by
  obtain ⟨i, H, hi, hs⟩ := H.openRf
  have hx : ByteArray.empty = S.extract S.size S.size := by rw [ByteArray.extract_eq_empty_iff.2]; omega
  have HX := Lib.hid hx; clear hx
  have c0 := H.cell 0 rfl
  have c1 := H.cell 1 rfl
  have c2 := H.cell 2 rfl
  have f1 := H.frozen 1
  have f2 := H.frozen 2
  obtain ⟨s, q⟩ := r
  dsimp only at *
  have HS := Lib.hid hs; clear hs
  by_cases he : q = 0
  · subst he
    go_enter Try.func55, Try.ntmps55
    go_wp2
    go_end0
    exact ⟨rfl, ((H.set 2 (.int .i64 e)).set 1 (.int .i64 S.size)).shutRf (Nat.le_refl _) HX.out⟩
  · have hq : (q == 0) = false := by simpa using he
    go_enter Try.func55, Try.ntmps55
    go_wp2
    go_end0
    refine ⟨rfl, ?_⟩
    have h := (H.set 1 (.int .i64 S.size)).shutRf (Nat.le_refl _) HX.out
    rw [show RS.wrong ⟨s, q⟩ e = ⟨ByteArray.empty, q⟩ by simp [RS.wrong, he]]
    exact h
theorem extract_extract (S : ByteArray) (i a b : Nat) : (S.extract i S.size).extract a b = S.extract (i + a) (min (i + b) S.size) := by
  rw [ByteArray.extract_extract]

set_option maxHeartbeats 800000 in
theorem refnumber_ok (b : Nat) (S : ByteArray) (r : RS) (k : Nat) (hk : k ≤ 8) (hS : S.size ≤ 1099511627776) {w0 w : World} {F : List Assn} (H : St w0 w (Rfr b S r :: F)) :
    Calls Try.prog 48 #[.pointer (some ⟨b, 0, none⟩), .int .i64 k] w fun x w' => x = .returned (.int .i64 (r.nat k).1) ∧ St w0 w' (Rfr b S (r.nat k).2 :: F) := by
  have HR := H
  obtain ⟨i, H, hi, hs⟩ := H.openRf
  have c2 := H.cell 2 rfl
  obtain ⟨s, q⟩ := r
  dsimp only at *
  have hsz : s.size = S.size - i := by rw [hs, ByteArray.size_extract]; omega
  by_cases he : q = 0
  · subst he
    by_cases hle : i + k ≤ S.size
    · have hr : RS.nat ⟨s, 0⟩ k = (num (bl (s.extract 0 k)), ⟨s.extract k s.size, 0⟩) := by
        have : (k : Int) ≤ s.size := by omega
        simp [RS.nat, RS.take, this]
      have hx : s.extract 0 k = S.extract i (i + k) := by rw [hs, ByteArray.extract_extract]; congr 1 <;> omega
      have hy : s.extract k s.size = S.extract (i + k) S.size := by rw [hsz, hs, ByteArray.extract_extract]; congr 1; omega
      rw [hr, hx, hy]; clear hr hx hy
      have hge : ¬ (S.size : Int) - i < k := by omega
      have hX : ∀ x y, (S.extract x y).size ≤ 1099511627776 := fun x y => by rw [ByteArray.size_extract]; omega
      have HX := Lib.hid hX; clear hX
      have hun := num_unum (bl (S.extract i (i + k)))
      have HU := Lib.hid hun; clear hun
      have HS := Lib.hid hs; clear hs hsz
      have c0 := H.cell 0 rfl
      have c1 := H.cell 1 rfl
      have f1 := H.frozen 1
      have hik : (i : Int) + k ≤ 1099511627776 := by omega
      have hik2 : i + k ≤ S.size := hle
      go_enter Try.func48, Try.ntmps48
      go_wp2_with (first | (go_at_call 56; refine (refleft_ok b i S 0 hS hi H).mono ?_; rintro x w1 ⟨rfl, nn, rfl⟩))
      have H3 := (H.drewN nn).set 1 (.int .i64 ((i : Int) + k))
      generalize (w.drewN nn).setCell ⟨b, 1, none⟩ (.int .i64 ((i : Int) + k)) = w3 at *
      clear c0 c1 c2 f1
      have c0 := H3.cell 0 rfl
      have c1 := H3.cell 1 rfl
      have hwi : IntKind.i64.wrap (i : Int) = i := IntWalk.i64_in _ (by omega)
      have hi0 : (0 : Int) ≤ (i : Int) := by omega
      have hi1 : (i : Int) ≤ (i : Int) + k := by omega
      have hi2 : (i : Int) + k ≤ (S.size : Int) := by omega
      have hit : ((i : Int) + k).toNat = i + k := by omega
      go_quiet ((go_at_call 73; exact quiet_here (value_ok _ _ (HX.out _ _))))
      go_wp2
      go_ret
      exact ⟨by rw [← HU.out]; rfl, (H3.drewN nq).shutRf hle rfl⟩
    · have hr : RS.nat ⟨s, 0⟩ k = (0, RS.wrong ⟨s, 0⟩ 5) := by
        have : ¬ (k : Int) ≤ s.size := by omega
        simp [RS.nat, RS.take, this, RS.wrong, num, bl]
      rw [hr]; clear hr
      have hlt : (S.size : Int) - i < k := by omega
      have HS := Lib.hid hs; clear hs hsz
      go_enter Try.func48, Try.ntmps48
      go_wp2_with (first | (go_at_call 56; refine (refleft_ok b i S 0 hS hi H).mono ?_; rintro x w1 ⟨rfl, nn, rfl⟩) | (go_at_call 55; refine (refwrong_ok b S _ _ (HR.drewN nn)).mono ?_; rintro x w2 ⟨rfl, H2⟩))
      go_ret
      exact ⟨rfl, H2⟩
  · have hq : (q != 0) = true := by simpa using he
    have hr : RS.nat ⟨s, q⟩ k = (0, ⟨s, q⟩) := by simp [RS.nat, RS.take, he, num, bl]
    rw [hr]; clear hr
    have HS := Lib.hid hs; clear hs hsz
    go_enter Try.func48, Try.ntmps48
    go_wp2
    go_ret
    exact ⟨rfl, HR⟩
theorem refnum4_ok (b : Nat) (S : ByteArray) (r : RS) (hS : S.size ≤ 1099511627776) {w0 w : World} {F : List Assn} (H : St w0 w (Rfr b S r :: F)) :
    Calls Try.prog 48 #[.pointer (some ⟨b, 0, none⟩), .int .i64 4] w fun x w' => x = .returned (.int .i64 (r.nat 4).1) ∧ St w0 w' (Rfr b S (r.nat 4).2 :: F) := refnumber_ok b S r 4 (by decide) hS H
theorem refnum8_ok (b : Nat) (S : ByteArray) (r : RS) (hS : S.size ≤ 1099511627776) {w0 w : World} {F : List Assn} (H : St w0 w (Rfr b S r :: F)) :
    Calls Try.prog 48 #[.pointer (some ⟨b, 0, none⟩), .int .i64 8] w fun x w' => x = .returned (.int .i64 (r.nat 8).1) ∧ St w0 w' (Rfr b S (r.nat 8).2 :: F) := refnumber_ok b S r 8 (by decide) hS H
theorem RS.nat4_bool (r : RS) : r.bool = if (r.nat 4).1 > 1 then (false, (r.nat 4).2.wrong 4) else ((r.nat 4).1 == 1, (r.nat 4).2) := rfl
set_option maxHeartbeats 400000 in
theorem refbool_ok (b : Nat) (S : ByteArray) (r : RS) (hS : S.size ≤ 1099511627776) {w0 w : World} {F : List Assn} (H : St w0 w (Rfr b S r :: F)) :
    Calls Try.prog 50 #[.pointer (some ⟨b, 0, none⟩)] w fun x w' => x = .returned (.bool r.bool.1) ∧ St w0 w' (Rfr b S r.bool.2 :: F) := by
  by_cases h1 : (r.nat 4).1 > 1
  · have hr : r.bool = (false, (r.nat 4).2.wrong 4) := by simp [RS.bool, h1]
    have hx : ((r.nat 4).1 == 1) = false := by simp; omega
    rw [hr]; clear hr
    have Hn := refnumber_ok b S r 4 (by decide) hS H
    rw [show ((4 : Nat) : Int) = 4 from rfl] at Hn
    generalize r.nat 4 = q at *
    have HN := Lib.hid Hn; clear Hn
    go_enter Try.func50, Try.ntmps50
    go_wp2_with (first | (go_at_call 48; refine (Calls.mono HN.out ?_); rintro x w1 ⟨rfl, H1⟩) | (go_at_call 55; refine (refwrong_ok b S _ _ H1).mono ?_; rintro x w2 ⟨rfl, H2⟩))
    go_ret
    exact ⟨rfl, H2⟩
  · have hr : r.bool = ((r.nat 4).1 == 1, (r.nat 4).2) := by simp [RS.bool, h1]
    rw [hr]; clear hr
    have Hn := refnumber_ok b S r 4 (by decide) hS H
    rw [show ((4 : Nat) : Int) = 4 from rfl] at Hn
    generalize r.nat 4 = q at *
    have HN := Lib.hid Hn; clear Hn
    go_enter Try.func50, Try.ntmps50
    go_wp2_with (first | (go_at_call 48; refine (Calls.mono HN.out ?_); rintro x w1 ⟨rfl, H1⟩))
    go_ret
    exact ⟨rfl, H1⟩
theorem refend_ok (b : Nat) (S : ByteArray) (r : RS) (hS : S.size ≤ 1099511627776) {w0 w : World} {F : List Assn} (H : St w0 w (Rfr b S r :: F)) :
    Calls Try.prog 33 #[.pointer (some ⟨b, 0, none⟩)] w fun x w' => x = .returned (.int .i64 r.fin) ∧ ∃ n, w' = w.drewN n := by
  obtain ⟨i, H, hi, hs⟩ := H.openRf
  have c2 := H.cell 2 rfl
  obtain ⟨s, q⟩ := r
  dsimp only at *
  have hsz : s.size = S.size - i := by rw [hs, ByteArray.size_extract]; omega
  have HS := Lib.hid hs; clear hs
  by_cases he : q = 0
  · subst he
    by_cases h0 : i < S.size
    · have hr : RS.fin ⟨s, 0⟩ = 6 := by unfold RS.fin; rw [if_pos rfl, if_neg (by dsimp only; omega)]
      rw [hr]; clear hr hsz
      have h0' : (0 : Int) < (S.size : Int) - i := by omega
      go_enter Try.func33, Try.ntmps33
      go_wp2_with (first | (go_at_call 56; refine (refleft_ok b i S 0 hS hi H).mono ?_; rintro x w1 ⟨rfl, nn, rfl⟩))
      go_ret
      exact ⟨rfl, nn, rfl⟩
    · have hr : RS.fin ⟨s, 0⟩ = 0 := by unfold RS.fin; rw [if_pos rfl, if_pos (by dsimp only; omega)]
      rw [hr]; clear hr hsz
      have h0' : ¬ (0 : Int) < (S.size : Int) - i := by omega
      go_enter Try.func33, Try.ntmps33
      go_wp2_with (first | (go_at_call 56; refine (refleft_ok b i S 0 hS hi H).mono ?_; rintro x w1 ⟨rfl, nn, rfl⟩; have c3 := (H.drewN nn).cell 2 rfl))
      go_ret
      exact ⟨rfl, nn, rfl⟩
  · have hq : (q == 0) = false := by simpa using he
    have hr : RS.fin ⟨s, q⟩ = q := by simp [RS.fin, he]
    rw [hr]; clear hr hsz
    go_enter Try.func33, Try.ntmps33
    go_wp2
    go_ret
    exact ⟨rfl, 0, rfl⟩
theorem bl_get (S : ByteArray) (j : Nat) (h : j < S.size) : (bl S)[j]? = some S[j] := by
  rw [bl, Array.getElem?_toList, Array.getElem?_eq_getElem (by exact h)]; rfl
theorem bl_extract (S : ByteArray) (a b : Nat) : bl (S.extract a b) = ((bl S).drop a).take (b - a) := Lib.extract_data S a b
theorem fixed_parts (S s : ByteArray) (i k p : Nat) (hs : s = S.extract i S.size) (hp : p = padn k) (hk : i + k + p ≤ S.size) :
    ((∀ q, k ≤ q → q < k + p → (bl S)[i + q]? = some 0) → RS.fixed ⟨s, 0⟩ k = (S.extract i (i + k), ⟨S.extract (i + (k + p)) S.size, 0⟩)) ∧
    ((¬ ∀ q, k ≤ q → q < k + p → (bl S)[i + q]? = some 0) → RS.fixed ⟨s, 0⟩ k = (ByteArray.empty, ⟨ByteArray.empty, 4⟩)) := by
  have hsz : s.size = S.size - i := by rw [hs, ByteArray.size_extract]; omega
  have e1 : (s.extract 0 (k + p)).extract k (k + p) = S.extract (i + k) (i + k + p) := by
    rw [hs, ByteArray.extract_extract, ByteArray.extract_extract]; congr 1 <;> omega
  have e2 : (s.extract 0 (k + p)).extract 0 k = S.extract i (i + k) := by
    rw [hs, ByteArray.extract_extract, ByteArray.extract_extract]; congr 1 <;> omega
  have e3 : s.extract (k + p) s.size = S.extract (i + (k + p)) S.size := by
    rw [hsz, hs, ByteArray.extract_extract]; congr 1; omega
  unfold RS.fixed
  simp only [Int.toNat_natCast]
  rw [if_neg (by omega), if_pos trivial, if_pos (by omega), ← hp, if_pos (by omega), e1, e2, e3]
  have hall : (∀ x ∈ bl (S.extract (i + k) (i + k + p)), x = 0) ↔ (∀ q, k ≤ q → q < k + p → (bl S)[i + q]? = some 0) := by
    rw [bl_extract]
    constructor
    · intro h q h1 h2
      have hlt : i + q < (bl S).length := by rw [bl_length]; omega
      rw [List.getElem?_eq_getElem hlt]
      congr 1
      refine h _ (List.mem_iff_getElem?.2 ⟨q - k, ?_⟩)
      rw [List.getElem?_take, if_pos (by omega), List.getElem?_drop, show i + k + (q - k) = i + q by omega, List.getElem?_eq_getElem hlt]
    · intro h x hx
      obtain ⟨j, hj⟩ := List.mem_iff_getElem?.1 hx
      rw [List.getElem?_take] at hj
      split at hj
      · rename_i hjl
        rw [List.getElem?_drop] at hj
        have := h (k + j) (by omega) (by omega)
        rw [show i + (k + j) = i + k + j by omega, hj] at this
        injection this
      · cases hj
  exact ⟨fun hq => by rw [if_pos (hall.2 hq)], fun hq => by rw [if_neg (fun h => hq (hall.1 h))]⟩
set_option maxRecDepth 100000 in
set_option maxHeartbeats 1600000 in
theorem reftext_a (b i : Nat) (S : ByteArray) (s : ByteArray) (k : Nat) (hS : S.size ≤ 1099511627776) (hi : i ≤ S.size) (hs : s = S.extract i S.size) (hk : i + k + padn k ≤ S.size) {w0 w : World} {F : List Assn}
    (H : St w0 w (Pt b #[.string S, .int .i64 i, .int .i64 0] 92 :: F)) :
    Calls Try.prog 53 #[.pointer (some ⟨b, 0, none⟩), .int .i64 k] w fun x w' => x = .returned (.string (RS.fixed ⟨s, 0⟩ k).1) ∧ St w0 w' (Rfr b S (RS.fixed ⟨s, 0⟩ k).2 :: F) := by
  have c2 := H.cell 2 rfl
  have hp : padn k ≤ 3 ∧ (k + padn k) % 4 = 0 ∧ ∀ j, j < padn k → (k + j) % 4 ≠ 0 := by unfold padn; refine ⟨by omega, by omega, fun j hj => by omega⟩
  obtain ⟨p, hpp⟩ : ∃ p, p = padn k := ⟨_, rfl⟩
  rw [← hpp] at hp hk
  obtain ⟨hp3, hp4, hp5⟩ := hp
  have hlt : ¬ (S.size : Int) - i < k := by omega
  have HP := Lib.hid hpp; have HS := Lib.hid hs; have H4 := Lib.hid hp4; have H5 := Lib.hid hp5; clear hpp hs hp4 hp5
  go_enter Try.func53, Try.ntmps53
  go_wp2_with (first | (go_at_call 56; refine (refleft_ok b i S 0 hS hi H).mono ?_; rintro x w1 ⟨rfl, nn, rfl⟩; have H1 := H.drewN nn))
  generalize w.drewN nn = w1 at *
  go_loop [5] (fun f => ∃ m : Nat, f = .int .i64 m ∧ k ≤ m ∧ m ≤ k + p) (fun f => k + p - (intOf f).toNat)
  case atStart => exact ⟨k, rfl, Nat.le_refl _, by omega⟩
  case round =>
    obtain ⟨m, rfl, hm1, hm2⟩ := hrel
    by_cases hm : m < k + p
    · have ht : (((m : Int) % 4) != 0) = true := by
        have := H5.out (m - k) (by omega)
        rw [show k + (m - k) = m by omega] at this
        simp; omega
      go_wp2
      go_round
      case rel => exact ⟨m + 1, by go_num, by omega, by omega⟩
      case measure => simp [intOf]; omega
    · obtain rfl : m = k + p := by omega
      have ht : ((((k + p : Nat) : Int) % 4) != 0) = false := by have := H4.out; simp; omega
      have hge : ¬ (S.size : Int) - i < (k + p : Nat) := by omega
      go_wp2_with (first | (go_at_call 56; refine (refleft_ok b i S 0 hS hi H1).mono ?_; rintro x w1 ⟨rfl, nm, rfl⟩; have H2 := H1.drewN nm))
      generalize w1.drewN nm = w2 at *
      clear c2
      have c0 := H2.cell 0 rfl
      have c1 := H2.cell 1 rfl
      have hwi : IntKind.i64.wrap ((i : Int) + k) = (i : Int) + k := IntWalk.i64_in _ (by omega)
      have hi0 : (0 : Int) ≤ (i : Int) := by omega
      have hi1 : (i : Int) ≤ (i : Int) + k := by omega
      have hi2 : (i : Int) + k ≤ (S.size : Int) := by omega
      have hit : ((i : Int) + k).toNat = i + k := by omega
      go_quiet (fail)
      clear hwi hi0 hi1 hi2
      have H3 := H2.drewN nq
      go_wp2
      generalize w2.drewN nq = w3 at *
      clear c0 c1
      go_loopw [7] (fun f wr => ∃ m : Nat, f = .int .i64 m ∧ k ≤ m ∧ m ≤ k + p ∧ (∀ q, k ≤ q → q < m → (bl S)[i + q]? = some 0) ∧ St w0 wr (Pt b #[.string S, .int .i64 i, .int .i64 0] 92 :: F)) (fun f _ => k + p - (intOf f).toNat)
      case atStart => exact ⟨k, rfl, Nat.le_refl _, by omega, fun q h1 h2 => by omega, H3⟩
      case round =>
        obtain ⟨m, rfl, hm1, hm2, hz, H6⟩ := hrel
        have HZ := Lib.hid hz; clear hz
        by_cases hm : m < k + p
        · have c0 := H6.cell 0 rfl
          have c1 := H6.cell 1 rfl
          have hwi : IntKind.i64.wrap ((i : Int) + m) = (i : Int) + m := IntWalk.i64_in _ (by omega)
          have hi0 : (0 : Int) ≤ (i : Int) + m := by omega
          have hi2 : (i : Int) + m < (S.size : Int) := by omega
          have hit2 : ((i : Int) + m).toNat = i + m := by omega
          go_wp2
          go_quiet (fail)
          have H7 := H6.drewN nq
          generalize wr.drewN nq = w7 at *
          clear c0 c1
          have hb := bl_get S (i + m) (by omega)
          have HB := Lib.hid hb; clear hb
          by_cases hy : S[i + m]'(by omega) = 0
          · have hy1 : (((S[i + m]'(by omega)).toNat : Int) != 0) = false := by rw [hy]; rfl
            have HY := Lib.hid hy; clear hy
            go_wp2
            go_roundw
            case rel => exact ⟨m + 1, by go_num, by omega, by omega, fun q h1 h2 => by
              rcases Nat.lt_or_ge q m with h | h
              · exact HZ.out q h1 h
              · obtain rfl : q = m := by omega
                rw [HB.out, HY.out], H7⟩
            case measure => simp [intOf]; omega
          · have hy1 : (((S[i + m]'(by omega)).toNat : Int) != 0) = true := by
              simp; intro h; exact hy (UInt8.toNat_inj.1 (by simpa using h))
            have HY := Lib.hid hy; clear hy
            have H8 := H7.shutRf (s := s) hi HS.out
            go_wp2_with (go_at_call 55; refine (refwrong_ok b S _ _ H8).mono ?_; rintro x w8 ⟨rfl, H9⟩)
            go_ret
            rw [(fixed_parts S s i k p HS.out HP.out (by omega)).2 (fun h => HY.out (by
              have h1 := h m hm1 hm
              rw [HB.out] at h1
              injection h1))]
            exact ⟨rfl, H9⟩
        · obtain rfl : m = k + p := by omega
          have c1 := H6.cell 1 rfl
          have f1 := H6.frozen 1
          have hik : (i : Int) + ((k : Int) + p) ≤ 1099511627776 := by omega
          go_wp2
          go_ret
          rw [(fixed_parts S s i k p HS.out HP.out (by omega)).1 HZ.out]
          exact ⟨rfl, (H6.set 1 (.int .i64 ((i : Int) + ((k : Int) + p)))).shutRf (i := i + (k + p)) (by omega) rfl⟩
set_option maxRecDepth 100000 in
set_option maxHeartbeats 1600000 in
theorem reftext_b (b i : Nat) (S : ByteArray) (s : ByteArray) (k : Nat) (hS : S.size ≤ 1099511627776) (hi : i ≤ S.size) (hs : s = S.extract i S.size) (hk1 : i + k ≤ S.size) (hk : ¬ i + k + padn k ≤ S.size) {w0 w : World} {F : List Assn}
    (H : St w0 w (Pt b #[.string S, .int .i64 i, .int .i64 0] 92 :: F)) :
    Calls Try.prog 53 #[.pointer (some ⟨b, 0, none⟩), .int .i64 k] w fun x w' => x = .returned (.string (RS.fixed ⟨s, 0⟩ k).1) ∧ St w0 w' (Rfr b S (RS.fixed ⟨s, 0⟩ k).2 :: F) := by
  have c2 := H.cell 2 rfl
  have hsz : s.size = S.size - i := by rw [hs, ByteArray.size_extract]; omega
  have hr : RS.fixed ⟨s, 0⟩ k = (ByteArray.empty, RS.wrong ⟨s, 0⟩ 5) := by
    unfold RS.fixed
    simp only [Int.toNat_natCast]
    rw [if_neg (by omega), if_pos trivial, if_pos (by omega), if_neg (by omega)]
    rfl
  rw [hr]; clear hr hsz
  have hp : padn k ≤ 3 ∧ (k + padn k) % 4 = 0 ∧ ∀ j, j < padn k → (k + j) % 4 ≠ 0 := by unfold padn; refine ⟨by omega, by omega, fun j hj => by omega⟩
  obtain ⟨p, hpp⟩ : ∃ p, p = padn k := ⟨_, rfl⟩
  rw [← hpp] at hp hk
  obtain ⟨hp3, hp4, hp5⟩ := hp
  have hlt : ¬ (S.size : Int) - i < k := by omega
  have HP := Lib.hid hpp; have HS := Lib.hid hs; have H4 := Lib.hid hp4; have H5 := Lib.hid hp5; clear hpp hs hp4 hp5
  go_enter Try.func53, Try.ntmps53
  go_wp2_with (first | (go_at_call 56; refine (refleft_ok b i S 0 hS hi H).mono ?_; rintro x w1 ⟨rfl, nn, rfl⟩; have H1 := H.drewN nn))
  generalize w.drewN nn = w1 at *
  go_loop [5] (fun f => ∃ m : Nat, f = .int .i64 m ∧ k ≤ m ∧ m ≤ k + p) (fun f => k + p - (intOf f).toNat)
  case atStart => exact ⟨k, rfl, Nat.le_refl _, by omega⟩
  case round =>
    obtain ⟨m, rfl, hm1, hm2⟩ := hrel
    by_cases hm : m < k + p
    · have ht : (((m : Int) % 4) != 0) = true := by
        have := H5.out (m - k) (by omega)
        rw [show k + (m - k) = m by omega] at this
        simp; omega
      go_wp2
      go_round
      case rel => exact ⟨m + 1, by go_num, by omega, by omega⟩
      case measure => simp [intOf]; omega
    · obtain rfl : m = k + p := by omega
      have ht : ((((k + p : Nat) : Int) % 4) != 0) = false := by have := H4.out; simp; omega
      have hge : (S.size : Int) - i < (k + p : Nat) := by omega
      have H2 := fun nm => (H1.drewN nm).shutRf (s := s) hi HS.out
      have HH := Lib.hid H2; clear H2
      go_wp2_with (first | (go_at_call 56; refine (refleft_ok b i S 0 hS hi H1).mono ?_; rintro x w1 ⟨rfl, nm, rfl⟩) | (go_at_call 55; refine (refwrong_ok b S _ _ (HH.out nm)).mono ?_; rintro x w8 ⟨rfl, H9⟩))
      go_ret
      exact ⟨rfl, H9⟩
set_option maxHeartbeats 400000 in
theorem reftext_c (b i : Nat) (S : ByteArray) (s : ByteArray) (n : Int) (hS : S.size ≤ 1099511627776) (hi : i ≤ S.size) (hs : s = S.extract i S.size) (hn : 0 ≤ n) (hk1 : ¬ i + n ≤ S.size) {w0 w : World} {F : List Assn}
    (H : St w0 w (Pt b #[.string S, .int .i64 i, .int .i64 0] 92 :: F)) :
    Calls Try.prog 53 #[.pointer (some ⟨b, 0, none⟩), .int .i64 n] w fun x w' => x = .returned (.string (RS.fixed ⟨s, 0⟩ n).1) ∧ St w0 w' (Rfr b S (RS.fixed ⟨s, 0⟩ n).2 :: F) := by
  have c2 := H.cell 2 rfl
  have hsz : s.size = S.size - i := by rw [hs, ByteArray.size_extract]; omega
  have hr : RS.fixed ⟨s, 0⟩ n = (ByteArray.empty, RS.wrong ⟨s, 0⟩ 5) := by
    unfold RS.fixed
    simp only
    rw [if_neg (by omega), if_pos trivial, if_neg (by omega)]
    rfl
  rw [hr]; clear hr hsz
  have hlt : (S.size : Int) - i < n := by omega
  have H2 := fun nm => (H.drewN nm).shutRf (s := s) hi hs
  have HH := Lib.hid H2; clear H2 hs
  go_enter Try.func53, Try.ntmps53
  go_wp2_with (first | (go_at_call 56; refine (refleft_ok b i S 0 hS hi H).mono ?_; rintro x w1 ⟨rfl, nm, rfl⟩) | (go_at_call 55; refine (refwrong_ok b S _ _ (HH.out nm)).mono ?_; rintro x w8 ⟨rfl, H9⟩))
  go_ret
  exact ⟨rfl, H9⟩
set_option maxHeartbeats 400000 in
theorem reftext_d (b : Nat) (S : ByteArray) (r : RS) (n : Int) (h : r.e ≠ 0 ∨ n < 0) {w0 w : World} {F : List Assn} (H : St w0 w (Rfr b S r :: F)) :
    Calls Try.prog 53 #[.pointer (some ⟨b, 0, none⟩), .int .i64 n] w fun x w' => x = .returned (.string (r.fixed n).1) ∧ St w0 w' (Rfr b S (r.fixed n).2 :: F) := by
  have hr : r.fixed n = (ByteArray.empty, r) := by
    unfold RS.fixed
    by_cases hn : n < 0
    · rw [if_pos hn]
    · rw [if_neg hn, if_neg (h.resolve_right hn)]
  rw [hr]; clear hr
  have HR := H
  obtain ⟨i, H, hi, hs⟩ := H.openRf
  have c2 := H.cell 2 rfl
  obtain ⟨s, q⟩ := r
  dsimp only at *
  clear hs
  by_cases he : q = 0
  · subst he
    have hn : n < 0 := h.resolve_left (by simp)
    clear h
    go_enter Try.func53, Try.ntmps53
    go_wp2
    go_ret
    exact ⟨rfl, HR⟩
  · have hq : (q != 0) = true := by simpa using he
    clear h
    go_enter Try.func53, Try.ntmps53
    go_wp2
    go_ret
    exact ⟨rfl, HR⟩
theorem reftext_ok (b : Nat) (S : ByteArray) (r : RS) (n : Int) (hS : S.size ≤ 1099511627776) {w0 w : World} {F : List Assn} (H : St w0 w (Rfr b S r :: F)) :
    Calls Try.prog 53 #[.pointer (some ⟨b, 0, none⟩), .int .i64 n] w fun x w' => x = .returned (.string (r.fixed n).1) ∧ St w0 w' (Rfr b S (r.fixed n).2 :: F) := by
  by_cases h : r.e ≠ 0 ∨ n < 0
  · exact reftext_d b S r n h H
  obtain ⟨i, H, hi, hs⟩ := H.openRf
  obtain ⟨s, q⟩ := r
  obtain rfl : q = 0 := Decidable.byContradiction fun e => h (.inl e)
  have hn : 0 ≤ n := by have := fun e => h (.inr e); omega
  by_cases h1 : i + n ≤ S.size
  · obtain ⟨k, rfl⟩ := Int.eq_ofNat_of_zero_le hn
    by_cases h2 : i + k + padn k ≤ S.size
    · exact reftext_a b i S s k hS hi hs h2 H
    · exact reftext_b b i S s k hS hi hs (by omega) h2 H
  · exact reftext_c b i S s n hS hi hs hn h1 H
set_option maxHeartbeats 400000 in
theorem refopaque_ok (b : Nat) (S : ByteArray) (r : RS) (most : Int) (hS : S.size ≤ 1099511627776) {w0 w : World} {F : List Assn} (H : St w0 w (Rfr b S r :: F)) :
    Calls Try.prog 52 #[.pointer (some ⟨b, 0, none⟩), .int .i64 most] w fun x w' => x = .returned (.string (r.opqe most).1) ∧ St w0 w' (Rfr b S (r.opqe most).2 :: F) := by
  have Hn := refnumber_ok b S r 4 (by decide) hS H
  rw [show ((4 : Nat) : Int) = 4 from rfl] at Hn
  obtain ⟨n0, n1⟩ := r.nat4
  by_cases h1 : (r.nat 4).1 > max most 0
  · have hr : r.opqe most = (ByteArray.empty, (r.nat 4).2.wrong 2) := by simp only [RS.opqe, if_pos h1]
    rw [hr]; clear hr
    generalize r.nat 4 = q at *
    have HN := Lib.hid Hn; clear Hn
    by_cases hm : most < 0
    all_goals
      go_enter Try.func52, Try.ntmps52
      go_wp2_with (first | (go_at_call 48; refine (Calls.mono HN.out ?_); rintro x w1 ⟨rfl, H1⟩) | (go_at_call 55; refine (refwrong_ok b S _ _ H1).mono ?_; rintro x w2 ⟨rfl, H2⟩))
      go_ret
      exact ⟨rfl, H2⟩
  · have hr : r.opqe most = (r.nat 4).2.fixed (r.nat 4).1 := by simp only [RS.opqe, if_neg h1]
    rw [hr]; clear hr
    generalize r.nat 4 = q at *
    have HN := Lib.hid Hn; clear Hn
    by_cases hm : most < 0
    all_goals
      go_enter Try.func52, Try.ntmps52
      go_wp2_with (first | (go_at_call 48; refine (Calls.mono HN.out ?_); rintro x w1 ⟨rfl, H1⟩) | (go_at_call 53; refine (reftext_ok b S _ _ hS H1).mono ?_; rintro x w2 ⟨rfl, H2⟩))
      go_ret
      exact ⟨rfl, H2⟩
end Go.Proofs.Ytkkpcjpdpjpohaa

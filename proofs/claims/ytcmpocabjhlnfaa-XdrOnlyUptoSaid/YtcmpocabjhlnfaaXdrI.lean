/- Layer 1's statements: lists of things. -/
import Derived.Test.YtcmpocabjhlnfaaXdrS
import Derived.Test.YtcmpocabjhlnfaaLift
namespace Go.Proofs.Ytcmpocabjhlnfaa
open Go.RowKit

structure Item where
  kind : Int
  n : Int
  text : ByteArray
def Item.cells (x : Item) : List Value := [.int .i64 x.kind, .int .i64 x.n, .string x.text]
def Item.ok (x : Item) : Prop := (-9223372036854775808 ≤ x.kind ∧ x.kind ≤ 9223372036854775807) ∧ (-9223372036854775808 ≤ x.n ∧ x.n ≤ 9223372036854775807)
def Item.kinds : List SK := [.int .i64, .int .i64, .str]
theorem Item.of_row : ∀ row : List Value, RowS Item.kinds row → ∃ x : Item, row = x.cells ∧ x.ok := by
  intro row h
  have hl := RowS_length h
  match row, hl, h with
  | [v0, v1, v2], _, h =>
    obtain ⟨⟨x0, rfl, h0⟩, ⟨x1, rfl, h1⟩, ⟨x2, rfl, _⟩, _⟩ := h
    exact ⟨⟨x0, x1, x2⟩, rfl, ⟨wf_i64 h0, wf_i64 h1⟩⟩

theorem kind_ok (k : Int) (h : -9223372036854775808 ≤ k ∧ k ≤ 9223372036854775807) (w : World) :
    Calls Try.prog 15 #[.int .i64 k] w fun r w' => r = .returned (.int .i64 (k % 5)) ∧ w = w' := by
  have e : (wrap64 (k.tmod 5 + 5)).tmod 5 = k % 5 := by
    have h1 := Int.lt_tmod_of_pos k (b := 5) (by decide)
    have h2 := Int.tmod_lt_of_pos k (b := 5) (by decide)
    have hw : wrap64 (k.tmod 5 + 5) = k.tmod 5 + 5 := by unfold wrap64; omega
    rw [hw, Int.tmod_eq_emod_of_nonneg (a := k.tmod 5 + 5) (by omega)]
    rcases Int.le_total 0 k with h0 | h0
    · rw [Int.tmod_eq_emod_of_nonneg h0]; omega
    · have := Int.tmod_eq_emod_of_nonneg (a := -k) (b := 5) (by omega)
      rw [Int.neg_tmod] at this
      omega
  have E := Lib.hid e; clear e h
  go_enter Try.func15, Try.ntmps15
  go_wp2
  go_ret
  exact ⟨by rw [← E.out]; rfl, rfl⟩
/-- the bytes of a thing -/
def Item.out (x : Item) : List UInt8 :=
  if x.kind % 5 = 0 then be x.n 4 else if x.kind % 5 = 1 then be x.n 8 else if x.kind % 5 = 2 then be (if x.n % 2 = 0 then 1 else 0) 4 else if x.kind % 5 = 3 then opaq (bl x.text) else fixed (bl x.text)
def outs (l : List Item) : List UInt8 := l.flatMap Item.out
theorem fixed_len (l : List UInt8) : (fixed l).length % 4 = 0 ∧ l.length ≤ (fixed l).length ∧ (fixed l).length ≤ l.length + 3 := by
  rw [fixed, List.length_append, zeros, List.length_replicate]; unfold padn; omega
theorem opaq_len (l : List UInt8) : (opaq l).length = 4 + (fixed l).length := by rw [opaq, List.length_append, be_length]
theorem Item.out_len (x : Item) : x.out.length % 4 = 0 ∧ x.out.length ≤ 4 * wts x.cells := by
  have h := fixed_len (bl x.text)
  rw [bl_length] at h
  have hw : wts x.cells = x.text.size + 3 := by simp only [Item.cells, wts, wt]; omega
  rw [hw]
  unfold Item.out
  split
  · rw [be_length]; omega
  · split
    · rw [be_length]; omega
    · split
      · rw [be_length]; omega
      · split
        · rw [opaq_len]; omega
        · omega
theorem outs_len (l : List Item) : (outs l).length % 4 = 0 ∧ (outs l).length ≤ 4 * sumW (l.map Item.cells) := by
  induction l with
  | nil => simp [outs, sumW]
  | cons x l ih =>
    have h := x.out_len
    have e : outs (x :: l) = x.out ++ outs l := rfl
    rw [e, List.length_append, List.map_cons, sumW]
    omega
theorem outs_take (l : List Item) (k : Nat) (x : Item) (hx : l[k]? = some x) : outs (l.take (k + 1)) = outs (l.take k) ++ x.out := by
  unfold outs
  rw [List.take_add_one, hx, List.flatMap_append]; simp
theorem sumW_take (l : List Item) (k : Nat) : sumW ((l.take k).map Item.cells) ≤ sumW (l.map Item.cells) := by
  induction l generalizing k with
  | nil => simp
  | cons x l ih =>
    cases k with
    | zero => simp [sumW]
    | succ k => have := ih k; simp only [List.take_succ_cons, List.map_cons, sumW]; omega
theorem outs_take_len (l : List Item) (k : Nat) (h : sumW (l.map Item.cells) ≤ 1048576) : (outs (l.take k)).length ≤ 4194304 := by
  have h1 := (outs_len (l.take k)).2
  have h2 := sumW_take l k
  omega
theorem text_le (l : List Item) (x : Item) (hx : x ∈ l) (h : sumW (l.map Item.cells) ≤ 1048576) : x.text.size ≤ 1048576 := by
  have h1 : wts x.cells ≤ sumW (l.map Item.cells) := sumW_mem (List.mem_map.2 ⟨x, hx, rfl⟩)
  simp only [Item.cells, wts, wt] at h1
  omega
theorem tmod2 (n : Int) : (n.tmod 2 == 0) = decide (n % 2 = 0) := by
  rw [Bool.eq_iff_iff]
  simp only [beq_iff_eq, decide_eq_true_iff]
  constructor
  · intro h; exact Int.emod_eq_zero_of_dvd (Int.dvd_of_tmod_eq_zero h)
  · intro h; exact Int.tmod_eq_zero_of_dvd (Int.dvd_of_emod_eq_zero h)
end Go.Proofs.Ytcmpocabjhlnfaa

/- Layer 6: what the operations on floats give, whatever the tape answers for a NaN's bits; and the small functions. -/
import Derived.Test.YtdofeehnclobmaaSL
import Derived.Test.YtdofeehnclobmaaFOrd
import Derived.WalkLawsBesides
import Derived.Laws.FloatArith
import Derived.Laws.Externs
import Derived.KernelRfl
import Derived.Test.YtdofeehnclobmaaProg
namespace Go.Proofs.Ytdofeehnclobmaa
open Go.RowKit

@[go_sem] theorem call_frombits (n : Int) (w : World) : (callFunc 15 #[.int .u64 n]).run Try.prog w = .ok (.value (.float .f64 n.toNat)) w := by
  rw [run_callFunc_extern Try.func15 (by kernel_rfl) (by kernel_rfl) (by kernel_rfl) (e := Extern.MathFloatBits.float64frombits) (by kernel_rfl)]; rfl
@[go_sem] theorem call_bits (b : Nat) (w : World) : (callFunc 24 #[.float .f64 b]).run Try.prog w = .ok (.value (.int .u64 b)) w := by
  rw [run_callFunc_extern Try.func24 (by kernel_rfl) (by kernel_rfl) (by kernel_rfl) (e := Extern.MathFloatBits.float64bits) (by kernel_rfl)]; rfl

/-! ### the operations, with their draws -/
def fcnt (op : BinOp) (x y : Nat) : Nat := if (floatBits op .f64 x y).isSome then 0 else 1
def fbits (op : BinOp) (x y : Nat) (w : World) : Nat := match floatBits op .f64 x y with
  | some r => r
  | none => (Question.nanBits .f64 x y).cut (w.tape w.drawn (Question.nanBits .f64 x y))
def arith (op : BinOp) : Prop := op = .add ∨ op = .sub ∨ op = .mul ∨ op = .quo
theorem run_farith {P : Program} (w : World) (op : BinOp) (ha : arith op) (t : TypeId) (x y : Nat) :
    (binOp op t (.float .f64 x) (.float .f64 y)).run P w = .ok (.float .f64 (fbits op x y w)) (w.drewN (fcnt op x y)) := by
  cases h : floatBits op .f64 x y with
  | some r => rw [run_float_arith w op t .f64 x y r h]; simp only [fbits, fcnt, h]; rfl
  | none =>
    unfold floatBits at h
    rcases ha with rfl | rfl | rfl | rfl <;> simp only at h <;> simp [binOp, Op.floatArith, h, fbits, fcnt, floatBits, Question.forced, World.drew_is_drewN]
@[go_sem] theorem run_fadd {P : Program} (w : World) (t : TypeId) (x y : Nat) : (binOp .add t (.float .f64 x) (.float .f64 y)).run P w = .ok (.float .f64 (fbits .add x y w)) (w.drewN (fcnt .add x y)) := run_farith w .add (.inl rfl) t x y
@[go_sem] theorem run_fsub {P : Program} (w : World) (t : TypeId) (x y : Nat) : (binOp .sub t (.float .f64 x) (.float .f64 y)).run P w = .ok (.float .f64 (fbits .sub x y w)) (w.drewN (fcnt .sub x y)) := run_farith w .sub (.inr (.inl rfl)) t x y
@[go_sem] theorem run_fmul {P : Program} (w : World) (t : TypeId) (x y : Nat) : (binOp .mul t (.float .f64 x) (.float .f64 y)).run P w = .ok (.float .f64 (fbits .mul x y w)) (w.drewN (fcnt .mul x y)) := run_farith w .mul (.inr (.inr (.inl rfl))) t x y
@[go_sem] theorem run_fquo {P : Program} (w : World) (t : TypeId) (x y : Nat) : (binOp .quo t (.float .f64 x) (.float .f64 y)).run P w = .ok (.float .f64 (fbits .quo x y w)) (w.drewN (fcnt .quo x y)) := run_farith w .quo (.inr (.inr (.inr rfl))) t x y

/-- what an operation may give -/
def FR (op : BinOp) (x y r : Nat) : Prop := r < 2 ^ 64 ∧ (floatBits op .f64 x y = some r ∨ (floatBits op .f64 x y = none ∧ nanb r = true))
theorem nan_cut (q : Nat) (t : Nat) (hq : q = (t % 2) * 2 ^ 63 + 0x7ff0000000000000 + 1 + (t / 2) % (2 ^ 52 - 1)) : nanb q = true ∧ q < 2 ^ 64 := by
  have h1 : t % 2 < 2 := Nat.mod_lt _ (by decide)
  have h2 : (t / 2) % (2 ^ 52 - 1) < 2 ^ 52 - 1 := Nat.mod_lt _ (by decide)
  have hs : Ieee.double.signWeight = 2 ^ 63 := rfl
  have hb : Ieee.double.binade = 2 ^ 52 := rfl
  have hi : Ieee.double.infRung = 0x7ff0000000000000 := rfl
  refine ⟨?_, by omega⟩
  have hr : q % 2 ^ 63 = 0x7ff0000000000000 + 1 + (t / 2) % (2 ^ 52 - 1) := by omega
  unfold nanb Ieee.Format.read
  simp only [hs, hb, hi, hr]
  rw [if_neg (by omega), if_neg (by omega), if_neg (by omega)]
  rfl
theorem fbits_FR (op : BinOp) (x y : Nat) (w : World) : FR op x y (fbits op x y w) := by
  unfold FR fbits
  cases h : floatBits op .f64 x y with
  | some r =>
    have := floatBits_wf h
    exact ⟨by simpa [Lit.wf] using this, .inl rfl⟩
  | none =>
    obtain ⟨h1, h2⟩ := nan_cut _ (w.tape w.drawn (Question.nanBits .f64 x y)) rfl
    exact ⟨h2, .inr ⟨rfl, h1⟩⟩
theorem nanb_iff (b : Nat) : nanb b = true ↔ ∃ s t, Ieee.double.read b = .nan s t := by
  unfold nanb Ieee.Datum.isNaN
  cases Ieee.double.read b <;> simp
/-- any operation on a NaN is none -/
theorem floatBits_nan (op : BinOp) (x y : Nat) (h : nanb x = true ∨ nanb y = true) : floatBits op .f64 x y = none := by
  simp only [nanb_iff] at h
  unfold floatBits
  split <;> simp only [FloatKind.format, Ieee.Format.add, Ieee.Format.sub, Ieee.Format.mul, Ieee.Format.div]
  all_goals
    rcases h with ⟨s, t, h⟩ | ⟨s, t, h⟩ <;> rw [h] <;> first | rfl | skip
    all_goals (cases Ieee.double.read x <;> rfl)
theorem nanb_order (x : Nat) : (Ieee.double.order x x == some .eq) = !nanb x := by
  unfold nanb Ieee.Format.order
  cases Ieee.double.read x with
  | number s m e => simp [Ieee.Datum.order, Ieee.Datum.isNaN]
  | infinity s => cases s <;> rfl
  | nan s t => rfl
theorem order_nan (x y : Nat) (h : nanb x = true ∨ nanb y = true) : Ieee.double.order x y = none := by
  simp only [nanb_iff] at h
  unfold Ieee.Format.order
  rcases h with ⟨s, t, h⟩ | ⟨s, t, h⟩ <;> rw [h]
  · rfl
  · cases Ieee.double.read x <;> rfl

/-- one number, any NaN being as any other -/
def Eqv (a b : Nat) : Prop := (nanb a = true ∧ nanb b = true) ∨ a = b
theorem Eqv.rfl' (a : Nat) : Eqv a a := .inr rfl
theorem FR.eqv {op : BinOp} {x y x' y' r r' : Nat} (h : FR op x y r) (h' : FR op x' y' r') (ex : Eqv x x') (ey : Eqv y y') : Eqv r r' := by
  have hn : ∀ {x y r}, FR op x y r → floatBits op .f64 x y = none → nanb r = true := fun h e => by
    rcases h.2 with h1 | h1
    · rw [e] at h1; cases h1
    · exact h1.2
  rcases ex with ⟨a, b⟩ | rfl
  · exact .inl ⟨hn h (floatBits_nan _ _ _ (.inl a)), hn h' (floatBits_nan _ _ _ (.inl b))⟩
  rcases ey with ⟨a, b⟩ | rfl
  · exact .inl ⟨hn h (floatBits_nan _ _ _ (.inr a)), hn h' (floatBits_nan _ _ _ (.inr b))⟩
  rcases h.2 with h1 | ⟨h0, h1⟩
  · rcases h'.2 with h2 | ⟨h0', h2⟩
    · rw [h1] at h2; injection h2 with h2; exact .inr h2
    · rw [h1] at h0'; cases h0'
  · exact .inl ⟨h1, hn h' h0⟩
theorem FR.fix {op : BinOp} {x y r s : Nat} (h : FR op x y r) (e : floatBits op .f64 x y = some s) : r = s := by
  rcases h.2 with h1 | ⟨h1, _⟩ <;> rw [e] at h1
  · injection h1 with h1; exact h1.symm
  · cases h1
abbrev fl (n : Int) : Nat := floatOfInt .f64 n
abbrev f1 : Nat := 4607182418800017408
/-- the benefit, step by step -/
def Ben (live size age : Int) (r : Nat) : Prop := ∃ u a b c, FR .quo (fl live) (fl size) u ∧ FR .sub f1 u a ∧ FR .mul a (fl age) b ∧ FR .add f1 u c ∧ FR .quo b c r
theorem Ben.eqv {l s a : Int} {r r' : Nat} (h : Ben l s a r) (h' : Ben l s a r') : Eqv r r' := by
  obtain ⟨u, p, q, c, h1, h2, h3, h4, h5⟩ := h
  obtain ⟨u', p', q', c', k1, k2, k3, k4, k5⟩ := h'
  have e1 := h1.eqv k1 (.rfl' _) (.rfl' _)
  exact h5.eqv k5 ((h3.eqv k3 (h2.eqv k2 (.rfl' _) e1) (.rfl' _))) (h4.eqv k4 (.rfl' _) e1)
def same (a b : Nat) : Bool := (nanb a && nanb b) || a == b
theorem same_of (a b : Nat) (h : Eqv a b) : same a b = true := by
  rcases h with ⟨h1, h2⟩ | rfl
  · simp [same, h1, h2]
  · simp [same]

theorem same_ok (a b : Nat) (w : World) :
    Calls Try.prog 11 #[.float .f64 a, .float .f64 b] w fun r w' => r = .returned (.bool (same a b)) ∧ w' = w := by
  have ha : (FloatKind.f64.format.order a a != some .eq) = nanb a := by rw [bne, show FloatKind.f64.format.order a a = Ieee.double.order a a from rfl, nanb_order]; simp
  have hb : (FloatKind.f64.format.order b b != some .eq) = nanb b := by rw [bne, show FloatKind.f64.format.order b b = Ieee.double.order b b from rfl, nanb_order]; simp
  have hi : ((a : Int) == (b : Int)) = (a == b) := by rw [Bool.eq_iff_iff]; simp; omega
  have hr : same a b = ((nanb a && nanb b) || a == b) := rfl
  cases hna : nanb a <;> cases hnb : nanb b <;> rw [hna] at ha hr <;> rw [hnb] at hb hr <;> clear hna hnb
  all_goals
    have HR := Lib.hid hr; clear hr
    go_enter Try.func11, Try.ntmps11
    go_wp2_with (fail)
    go_ret
    rw [HR.out]
    exact ⟨rfl, rfl⟩
theorem ratio_ok (a b : Int) (w : World) :
    Calls Try.prog 12 #[.int .i64 a, .int .i64 b] w fun r w' => ∃ x, FR .quo (fl a) (fl b) x ∧ r = .returned (.float .f64 x) ∧ ∃ n, w' = w.drewN n := by
  go_enter Try.func12, Try.ntmps12
  go_wp2_with (fail)
  go_ret
  exact ⟨_, fbits_FR _ _ _ _, rfl, _, rfl⟩
theorem refben_ok (l s a : Int) (w : World) :
    Calls Try.prog 14 #[.int .i64 l, .int .i64 s, .int .i64 a] w fun r w' => ∃ x, Ben l s a x ∧ r = .returned (.float .f64 x) ∧ ∃ n, w' = w.drewN n := by
  go_enter Try.func14, Try.ntmps14
  go_wp2_with (fail)
  go_ret
  exact ⟨_, ⟨_, _, _, _, fbits_FR _ _ _ _, fbits_FR _ _ _ _, fbits_FR _ _ _ _, fbits_FR _ _ _ _, fbits_FR _ _ _ _⟩, rfl, _, rfl⟩
end Go.Proofs.Ytdofeehnclobmaa

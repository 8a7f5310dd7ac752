/- Layer 9: numbers taken from the front; what a taker throws, and how it is caught. -/
import Derived.Test.YthdmklmihhallaaAtR
import Derived.Defers
import Derived.Recover
import Derived.WalkLawsBesides
namespace Go.Proofs.Ythdmklmihhallaa
open Go.RowKit

abbrev thrown : Value := .iface 73 (.agg #[])
theorem next_ok (b bs o n c : Nat) (x most : Int) (hn : n + 1 ≤ c) (hc : c ≤ 9223372036854775807) (h0 : 0 ≤ most → 0 ≤ x ∧ x ≤ most) {w0 w : World} {F : List Assn} (H : St w0 w (Pt b #[.slice (some ⟨bs, o, none⟩) (n + 1) c] 75 :: F)) (hx : w.cell? ⟨bs, o, none⟩ = some (.int .i64 x)) :
    Calls Try.prog 25 #[.pointer (some ⟨b, 0, none⟩), .int .i64 most] w fun r w' => r = .returned (.int .i64 x) ∧ ∃ A, (0 < n → A = some ⟨bs, o + 1, none⟩) ∧ St w0 w' (Pt b #[.slice A n (c - 1)] 75 :: F) := by
  have p0 := H.cell 0 rfl
  have f0 := H.frozen 0
  have hn0 : (((n : Int) + 1) == 0) = false := by rw [beq_eq_false_iff_ne]; omega
  by_cases hm : 0 ≤ most
  · obtain ⟨h1, h2⟩ := h0 hm
    have h1' : decide (x < 0) = false := decide_eq_false (by omega)
    have h2' : decide (most < x) = false := decide_eq_false (by omega)
    clear h0
    by_cases hc1 : c = 1
    · subst hc1
      have hn0 : n = 0 := by omega
      subst hn0
      have H2 := H.set 0 (.slice (some ⟨bs, o, none⟩) 0 0)
      have p0' := H2.cell 0 rfl
      go_enter Try.func25, Try.ntmps25
      go_wp2_with (fail)
      go_ret
      first
        | exact ⟨rfl, _, (fun h => by cases h), H2⟩
        | exact ⟨rfl, _, H2⟩
    · have hc1' : ¬ c = 1 := hc1
      have H2 := H.set 0 (.slice (some ⟨bs, o + 1, none⟩) n (c - 1))
      have p0' := H2.cell 0 rfl
      go_enter Try.func25, Try.ntmps25
      go_wp2_with (fail)
      go_ret
      first
        | exact ⟨rfl, _, (fun _ => rfl), H2⟩
        | exact ⟨rfl, _, H2⟩
  · have hm' : decide (0 ≤ most) = false := decide_eq_false hm
    clear h0
    by_cases hc1 : c = 1
    · subst hc1
      have hn0 : n = 0 := by omega
      subst hn0
      have H2 := H.set 0 (.slice (some ⟨bs, o, none⟩) 0 0)
      have p0' := H2.cell 0 rfl
      go_enter Try.func25, Try.ntmps25
      go_wp2_with (fail)
      go_ret
      first
        | exact ⟨rfl, _, (fun h => by cases h), H2⟩
        | exact ⟨rfl, _, H2⟩
    · have hc1' : ¬ c = 1 := hc1
      have H2 := H.set 0 (.slice (some ⟨bs, o + 1, none⟩) n (c - 1))
      have p0' := H2.cell 0 rfl
      go_enter Try.func25, Try.ntmps25
      go_wp2_with (fail)
      go_ret
      first
        | exact ⟨rfl, _, (fun _ => rfl), H2⟩
        | exact ⟨rfl, _, H2⟩
theorem next_bad (b : Nat) (A : Option Addr) (n c : Nat) (most : Int) {w0 w : World} {F : List Assn} (H : St w0 w (Pt b #[.slice A n c] 75 :: F)) (hnc : n ≤ 9223372036854775807) (hbad : n = 0 ∨ (0 ≤ most ∧ ∃ bs o x, A = some ⟨bs, o, none⟩ ∧ w.cell? ⟨bs, o, none⟩ = some (.int .i64 x) ∧ (x < 0 ∨ most < x))) :
    Calls Try.prog 25 #[.pointer (some ⟨b, 0, none⟩), .int .i64 most] w fun r w' => r = .panicked [{ v := thrown, recovered := false }] ∧ w = w' := by
  have p0 := H.cell 0 rfl
  by_cases hn : n = 0
  · subst hn
    clear hbad
    go_enter Try.func25, Try.ntmps25
    go_wp2_with (fail)
    exact ⟨rfl, rfl, rfl⟩
  · have hbad2 := hbad.resolve_left hn
    clear hbad
    obtain ⟨hm, bs, o, x, rfl, hx, hor⟩ := hbad2
    have hn1 : (1 : Int) ≤ n := by omega
    have hn0 : ((n : Int) == 0) = false := by rw [beq_eq_false_iff_ne]; omega
    by_cases h1 : x < 0
    · clear hor
      go_enter Try.func25, Try.ntmps25
      go_wp2_with (fail)
      exact ⟨rfl, rfl, rfl⟩
    · have h1' : decide (x < 0) = false := decide_eq_false h1
      have h2 : most < x := by omega
      clear hor
      go_enter Try.func25, Try.ntmps25
      go_wp2_with (fail)
      exact ⟨rfl, rfl, rfl⟩
/-- a Set in memory -/
def setC (h : List Bool) (v : List Int) (m : List Int) (t : List Int) : Array Value := ((h.map fun x => Value.bool x) ++ ivs v ++ ivs m ++ ivs t).toArray
abbrev zeroSet : Array Value := #[.bool false, .bool false, .bool false, .bool false, .int .i64 0, .int .i64 0, .int .i64 0, .int .i64 0, .int .i64 0, .int .i64 0, .int .i64 0, .int .i64 0, .int .i64 0, .int .i64 0]
theorem wpS_go {P : Program} {c : Code} {Q : Exit → Act → List Frame → World → Prop} {a : Act} {cs : List Frame} {w : World} (h : ∀ K : Exit → Act → World → Prop, Shut (∀ e a' w', Q e a' cs w' → K e a' w') → c.wp P K a w) : c.wpS P Q a cs w := wpS_of_wp (h _ (fun _ _ _ h => h))
theorem catch_ok (b1 b2 b3 : Nat) (c1 : Array Value) (v2 v3 : Value) (hcs : c1.size = 14) (older : List PanicEntry) {w0 w : World} {F : List Assn} (H : St w0 w (Pt b1 c1 49 :: Pt b2 #[v2] 23 :: Pt b3 #[v3] 4 :: F)) :
    CallsD Try.prog 24 #[.pointer (some ⟨b1, 0, none⟩), .pointer (some ⟨b2, 0, none⟩), .pointer (some ⟨b3, 0, none⟩)] (.panicking ({ v := thrown, recovered := false } :: older)) w fun e u' w' => e = .returned (.tuple #[]) ∧ u' = .panicking ({ v := thrown, recovered := true } :: older) ∧ St w0 w' (Pt b1 zeroSet 49 :: Pt b2 #[.slice none 0 0] 23 :: Pt b3 #[.bool false] 4 :: F) := by
  refine callsD_of_wpS Try.func24 rfl fun c₀ cs hu => ?_
  apply wpS_seq
  apply wpS_region
  simp [wpOpsS, go_sem, recoverD, hu, Try.ntmps24, Exit.thenS]
  refine wpS_go fun K hK => ?_
  rw [show (#[Value.pointer (some ⟨b1, 0, none⟩), .pointer (some ⟨b2, 0, none⟩), .pointer (some ⟨b3, 0, none⟩)] ++ ((Array.replicate 15 undef).setIfInBounds 3 thrown).setIfInBounds 0 thrown : Array Value) = #[Value.pointer (some ⟨b1, 0, none⟩), .pointer (some ⟨b2, 0, none⟩), .pointer (some ⟨b3, 0, none⟩), thrown, undef, undef, thrown, undef, undef, undef, undef, undef, undef, undef, undef, undef, undef, undef] from rfl]
  have HU := Lib.hid hu; clear hu
  have hta : ∀ w, (Instr.typeAssert thrown 20 73 true).run Try.prog w = .ok (.tuple #[.agg #[], .bool true]) w := fun _ => by kernel_rfl
  have H1 := H.more (.cells #[] 73)
  go_wp2_with (with_reducible refine hold_store (ty := 49) ?_)
  unfold Hold
  with_reducible refine wpList_store_st (ty := 49) H1 zeroSet ?_ ?_ ?_ ?_ ?_ ?_ ?_
  rfl
  rfl
  rfl
  (rw [hcs]; rfl)
  kernel_rfl
  rfl
  intro w2 H2
  have p2 := H2.r2.cell 0 rfl
  have f2 := H2.r2.frozen 0
  have p3 := H2.r3.cell 0 rfl
  have f3 := H2.r3.frozen 0
  have H3 := (H2.r2.set 0 (.slice none 0 0)).r3.set 0 (.bool false)
  have hne : b2 ≠ b3 := (H2.r2.r3.r2).ne
  go_wp2_with (fail)
  refine hK _ _ _ ?_
  cases c₀
  simp_all [bodyPostS, results, Try.results24]
  exact H3.ord 3 [2, 1, 0]
theorem catch_idle (b1 b2 b3 : Nat) (w : World) :
    CallsD Try.prog 24 #[.pointer (some ⟨b1, 0, none⟩), .pointer (some ⟨b2, 0, none⟩), .pointer (some ⟨b3, 0, none⟩)] .returning w fun e u' w' => e = .returned (.tuple #[]) ∧ u' = .returning ∧ w' = w := by
  refine callsD_of_wpS Try.func24 rfl fun c₀ cs hu => ?_
  apply wpS_seq
  apply wpS_region
  simp [wpOpsS, go_sem, recoverD, hu, Try.ntmps24, Exit.thenS]
  refine wpS_go fun K hK => ?_
  rw [show (#[Value.pointer (some ⟨b1, 0, none⟩), .pointer (some ⟨b2, 0, none⟩), .pointer (some ⟨b3, 0, none⟩)] ++ ((Array.replicate 15 undef).setIfInBounds 3 Value.nilIface).setIfInBounds 0 Value.nilIface : Array Value) = #[Value.pointer (some ⟨b1, 0, none⟩), .pointer (some ⟨b2, 0, none⟩), .pointer (some ⟨b3, 0, none⟩), Value.nilIface, undef, undef, Value.nilIface, undef, undef, undef, undef, undef, undef, undef, undef, undef, undef, undef] from rfl]
  have HU := Lib.hid hu; clear hu
  go_wp2_with (fail)
  refine hK _ _ _ ?_
  cases c₀
  simp_all [bodyPostS, results, Try.results24]
  exact HU.out
end Go.Proofs.Ythdmklmihhallaa

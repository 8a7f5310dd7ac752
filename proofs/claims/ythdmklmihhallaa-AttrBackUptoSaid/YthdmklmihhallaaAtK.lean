/- Layer 9: the Set of numbers. -/
import Derived.Test.YthdmklmihhallaaAtJ
import Derived.OwnWalk
import Derived.Shelf.Abstract
namespace Go.Proofs.Ythdmklmihhallaa
open Go.RowKit

def optTake : List Int → Option (Bool × Int × List Int)
  | [] => none
  | x :: r => if x = 0 then some (false, 0, r) else if x = 1 then (match r with | [] => none | y :: r => some (true, y, r)) else none
def momTake : List Int → Option (Int × Int × Int × List Int)
  | [] => none
  | m :: r => if m = 0 ∨ m = 1 then some (m, 0, 0, r) else if m = 2 then (match r with | x :: y :: r => some (2, x, y, r) | _ => none) else none
def SS.zero : SS := ⟨List.replicate 4 false, List.replicate 10 0⟩
theorem SS.zero_ok : SS.zero.ok := ⟨rfl, rfl⟩
theorem SS.zero_cells : SS.zero.cells.toArray = zeroSet := rfl
def gO (l : List Int) : Nat → Option (SS × List Int)
  | 0 => some (SS.zero, l)
  | k + 1 => match gO l k with
    | none => none
    | some (s, r) => match optTake r with
      | none => none
      | some (b, x, r') => some (⟨s.h.set k b, if b then s.l.set k x else s.l⟩, r')
def gM (l : List Int) : Nat → Option (SS × List Int)
  | 0 => gO l 4
  | k + 1 => match gM l k with
    | none => none
    | some (s, r) => match momTake r with
      | none => none
      | some (m, x, y, r') => some (⟨s.h, if m = 2 then ((s.l.set (4 + k) m).set (6 + 2 * k) x).set (7 + 2 * k) y else s.l.set (4 + k) m⟩, r')
theorem gO_next {l : List Int} {k : Nat} {s : SS} {r : List Int} (h : gO l k = some (s, r)) : gO l (k + 1) = match optTake r with | none => none | some (b, x, r') => some (⟨s.h.set k b, if b then s.l.set k x else s.l⟩, r') := by rw [gO, h]
theorem gM_next {l : List Int} {k : Nat} {s : SS} {r : List Int} (h : gM l k = some (s, r)) : gM l (k + 1) = match momTake r with | none => none | some (m, x, y, r') => some (⟨s.h, if m = 2 then ((s.l.set (4 + k) m).set (6 + 2 * k) x).set (7 + 2 * k) y else s.l.set (4 + k) m⟩, r') := by rw [gM, h]
theorem gO_none {l : List Int} {k : Nat} (h : gO l k = none) : ∀ n, gO l (k + n) = none
  | 0 => h
  | n + 1 => by rw [← Nat.add_assoc, gO, gO_none h n]
theorem gM_none {l : List Int} {k : Nat} (h : gM l k = none) : ∀ n, gM l (k + n) = none
  | 0 => h
  | n + 1 => by rw [← Nat.add_assoc, gM, gM_none h n]
theorem gO_fail {l : List Int} {k : Nat} (hk : k ≤ 4) (h : gO l k = none) : gM l 2 = none := by
  have h1 := gO_none h (4 - k)
  rw [show k + (4 - k) = 4 by omega] at h1
  exact gM_none (k := 0) h1 2
theorem gM_fail {l : List Int} {k : Nat} (hk : k ≤ 2) (h : gM l k = none) : gM l 2 = none := by
  have h1 := gM_none h (2 - k)
  rwa [show k + (2 - k) = 2 by omega] at h1
theorem run_loadVar_cell {P : Program} {ty : TypeId} {d : TypeDesc} (hu : P.underlying ty = some d) (hd : (match d with | .struct _ | .array _ _ => true | _ => false) = false) (w : World) (a : Addr) (v : Value) (h : w.cell? a = some v) : (loadVar ty a).run P w = .ok v w := by
  simp [loadVar, Sem.run_bind, run_isAgg_plain hu hd, h, go_sem]
theorem results_cells3 {P : Program} {fn : Func} {p t u : Tmp} {ty ty2 ty3 : TypeId} (h : fn.results = #[.cell p ty, .cell t ty2, .cell u ty3]) (tmps : Array Value) (w : World) (g g2 g3 : Nat) (T : TypeId) (cs : Array Value) (fr : Nat × Nat) (d d2 d3 : TypeDesc) (v2 v3 : Value)
    (hp : tmps.getD p undef = .pointer (some ⟨g, 0, none⟩)) (ht : tmps.getD t undef = .pointer (some ⟨g2, 0, none⟩)) (hu' : tmps.getD u undef = .pointer (some ⟨g3, 0, none⟩)) (hg : w.heap[g]? = some (.cells cs T fr))
    (hu : P.underlying ty = some d) (hd : (match d with | .struct _ | .array _ _ => true | _ => false) = true) (hi : (P.info? ty).map (·.size) = some cs.size)
    (hu2 : P.underlying ty2 = some d2) (hd2 : (match d2 with | .struct _ | .array _ _ => true | _ => false) = false) (h2 : w.cell? ⟨g2, 0, none⟩ = some v2)
    (hu3 : P.underlying ty3 = some d3) (hd3 : (match d3 with | .struct _ | .array _ _ => true | _ => false) = false) (h3 : w.cell? ⟨g3, 0, none⟩ = some v3) :
    (results fn tmps).run P w = .ok (.tuple #[.agg cs, v2, v3]) w := by
  have hp' : tmps[p]?.getD undef = .pointer (some ⟨g, 0, none⟩) := by simpa using hp
  have ht' : tmps[t]?.getD undef = .pointer (some ⟨g2, 0, none⟩) := by simpa using ht
  have hu'' : tmps[u]?.getD undef = .pointer (some ⟨g3, 0, none⟩) := by simpa using hu'
  simp [results, h, hp', ht', hu'', asAddr, run_loadVar_row w g T ty cs fr d hg hu hd hi, run_loadVar_cell hu2 hd2 w _ v2 h2, run_loadVar_cell hu3 hd3 w _ v3 h3]
theorem region_quiet {P : Program} {id : Nat} {ops : Array Oper} {dr : Bool} {Q : Exit → Act → World → Prop} {a : Act} {w : World} (h : (Code.region id ops dr).wp P (fun e a w => (∀ c, e ≠ .panic c) ∧ Q e a w) a w) : (Code.region id ops dr).wp P Q a w := Code.wp_mono (fun _ _ _ h => h.2) h
/-- how GetSet ends -/
def GotSet (w : World) (o : Option (SS × List Int)) (e : Ending) (w' : World) : Prop :=
  match o with
  | none => e = .returned (.tuple #[.agg zeroSet, .slice none 0 0, .bool false]) ∧ St w w' []
  | some (s, r) => ∃ A c, e = .returned (.tuple #[.agg s.cells.toArray, .slice A r.length c, .bool true]) ∧ St w w' [Row 3 1 A r.length c (ivs r)]
/-- what is to come of the numbers -/
structure Src0 (w : World) (A0 : Option Addr) (bs os : Nat) (l : List Int) : Prop where
  form : 0 < l.length → A0 = some ⟨bs, os, none⟩
  cell : ∀ j x, l[j]? = some x → w.cell? ⟨bs, os + j, none⟩ = some (.int .i64 x)
theorem Src0.of {w : World} {A0 : Option Addr} {l : List Int} (h : Rd w A0 l) : ∃ bs os, Src0 w A0 bs os l := by
  by_cases h0 : 0 < l.length
  · obtain ⟨bs, os, hA, _⟩ := h 0 l[0] (List.getElem?_eq_getElem h0)
    refine ⟨bs, os, fun _ => hA, fun j x hx => ?_⟩
    obtain ⟨b, o, h1, h2⟩ := h j x hx
    rw [hA] at h1; injection h1 with h1; injection h1 with h1 h1'
    subst h1 h1'; exact h2
  · exact ⟨0, 0, fun h => absurd h h0, fun j x hx => absurd (List.getElem?_eq_some_iff.1 hx).1 (by omega)⟩
theorem Src0.at {w w' : World} {A0 : Option Addr} {bs os : Nat} {l : List Int} (h : Src0 w A0 bs os l) {F : List Assn} (H : St w w' F) {j : Nat} {x : Int} (hx : l[j]? = some x) : w'.cell? ⟨bs, os + j, none⟩ = some (.int .i64 x) := by
  have h1 := h.cell j x hx
  rw [H.old (a := ⟨bs, os + j, none⟩) (World.block_lt_of_cell? w _ h1)]; exact h1
abbrev toCatch (b2 b3 b4 : Nat) : List Deferred := [{ target := .fn (.func 24) #[.pointer (some ⟨b2, 0, none⟩), .pointer (some ⟨b3, 0, none⟩), .pointer (some ⟨b4, 0, none⟩)], args := #[] }]
theorem caught {tmps : Array Value} {b2 b3 b4 : Nat} (h2 : tmps.getD 2 undef = .pointer (some ⟨b2, 0, none⟩)) (h3 : tmps.getD 3 undef = .pointer (some ⟨b3, 0, none⟩)) (h4 : tmps.getD 4 undef = .pointer (some ⟨b4, 0, none⟩)) {w w' : World} {s : SS} (ok : s.ok) {v2 v3 : Value} {F : List Assn} (H : St w w' (Pt b2 s.cells.toArray 49 :: Pt b3 #[v2] 23 :: Pt b4 #[v3] 4 :: F)) (hF : ∀ w'', St w w'' F → St w w'' []) {o : Option (SS × List Int)} (ho : o = none) :
    Leaves Try.prog Try.f17 tmps (GotSet w o) (toCatch b2 b3 b4) (.panicking [{ v := thrown, recovered := false }]) w' := by
  subst ho
  refine leaves_cons (by simp) rfl ?_
  refine (catch_ok b2 b3 b4 s.cells.toArray v2 v3 (by rw [List.size_toArray, SS.length ok]) [] H).mono ?_
  rintro e u w'' ⟨rfl, rfl, H2⟩
  refine ⟨_, results_cells3 rfl tmps w'' b2 b3 b4 49 zeroSet (0, 0) _ _ _ _ _ h2 h3 h4 H2.block Try.underlying49 rfl (by kernel_rfl) Try.underlying23 rfl (H2.r2.cell 0 rfl) Try.underlying4 rfl (H2.r3.cell 0 rfl), ?_⟩
  exact ⟨rfl, hF _ H2.tail.tail.tail⟩
theorem leftok {tmps : Array Value} {b2 b3 b4 : Nat} (h2 : tmps.getD 2 undef = .pointer (some ⟨b2, 0, none⟩)) (h3 : tmps.getD 3 undef = .pointer (some ⟨b3, 0, none⟩)) (h4 : tmps.getD 4 undef = .pointer (some ⟨b4, 0, none⟩)) {w w' : World} {s : SS} (ok : s.ok) {r : List Int} {A : Option Addr} {n c : Nat} (hn : n = r.length) (H : St w w' [Pt b2 s.cells.toArray 49, Pt b3 #[.slice A n c] 23, Pt b4 #[.bool true] 4, Row 3 1 A n c (ivs r)]) {o : Option (SS × List Int)} (ho : o = some (s, r)) :
    Leaves Try.prog Try.f17 tmps (GotSet w o) (toCatch b2 b3 b4) .returning w' := by
  subst ho hn
  refine leaves_cons (by simp) rfl ?_
  refine (catch_idle b2 b3 b4 w').mono ?_
  rintro e u w'' ⟨rfl, rfl, hw⟩
  subst hw
  refine ⟨_, results_cells3 rfl tmps w'' b2 b3 b4 49 s.cells.toArray (0, 0) _ _ _ _ _ h2 h3 h4 H.block Try.underlying49 rfl (by rw [List.size_toArray, SS.length ok]; kernel_rfl) Try.underlying23 rfl (H.r2.cell 0 rfl) Try.underlying4 rfl (H.r3.cell 0 rfl), ?_⟩
  exact ⟨_, _, rfl, H.tail.tail.tail⟩
theorem optTake_bad {x : Int} (h : x < 0 ∨ 1 < x) (r : List Int) : optTake (x :: r) = none := by
  rw [optTake.eq_def]; dsimp only; rw [if_neg (by omega), if_neg (by omega)]
theorem momTake_bad {x : Int} (h : x < 0 ∨ 2 < x) (r : List Int) : momTake (x :: r) = none := by
  rw [momTake.eq_def]; dsimp only; rw [if_neg (by omega), if_neg (by omega)]
end Go.Proofs.Ythdmklmihhallaa

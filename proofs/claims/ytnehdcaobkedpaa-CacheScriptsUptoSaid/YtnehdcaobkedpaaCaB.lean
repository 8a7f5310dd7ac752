/- Layer 20: a cache, what it knows of files, names and pieces. -/
import Derived.Test.YtnehdcaobkedpaaCaA
import Derived.Deep.QuietTactic
import Derived.Deep.RegionHeld3
import Derived.Deep.DeepCutAuto
import Derived.WalkLawsBesides
import Derived.WalkSpells
namespace Go.Proofs.Ytnehdcaobkedpaa.Ca
open Go.Proofs.Ytnehdcaobkedpaa
open Go.RowKit
open Go.Maps (Keyed)
open Classical

def inI (x : Int) : Prop := -9223372036854775808 ≤ x ∧ x ≤ 9223372036854775807
/-- an Attr of which the size, the number and the moment are told -/
abbrev attrC (size id s n : Int) : Array Value := #[.int .i64 0, .int .i64 0, .int .i64 0, .int .i64 0, .int .i64 0, .int .i64 size, .int .i64 0, .int .i64 0, .int .i64 0, .int .i64 0, .int .i64 id, .int .i64 0, .int .i64 0, .int .i64 s, .int .i64 n, .int .i64 0, .int .i64 0]
abbrev fileC (size id s n now : Int) : Array Value := #[.int .i64 0, .int .i64 0, .int .i64 0, .int .i64 0, .int .i64 0, .int .i64 size, .int .i64 0, .int .i64 0, .int .i64 0, .int .i64 0, .int .i64 id, .int .i64 0, .int .i64 0, .int .i64 s, .int .i64 n, .int .i64 0, .int .i64 0, .int .i64 now]
structure FV where
  size : Int
  id : Int
  s : Int
  n : Int
  now : Int
def FV.val (f : FV) : Value := .agg (fileC f.size f.id f.s f.n f.now)
abbrev FM := ByteArray → Option FV
abbrev NM := ByteArray → ByteArray → Option (ByteArray × Int)
abbrev PM := ByteArray → Int → Option ByteArray
def unS : Value → Option ByteArray | .string h => some h | _ => none
def un2 : Value → Option (ByteArray × ByteArray) | .agg cs => (match cs.toList with | [.string d, .string s] => some (d, s) | _ => none) | _ => none
def un2i : Value → Option (ByteArray × Int) | .agg cs => (match cs.toList with | [.string d, .int .i64 k] => some (d, k) | _ => none) | _ => none
theorem unS_eq {v : Value} {h : ByteArray} (e : unS v = some h) : v = .string h := by unfold unS at e; split at e <;> cases e; rfl
theorem un2_eq {v : Value} {q : ByteArray × ByteArray} (e : un2 v = some q) : v = .agg #[.string q.1, .string q.2] := by
  unfold un2 at e
  split at e
  · rename_i cs
    split at e
    · rename_i d s h
      cases e
      have : cs = #[.string d, .string s] := by rw [← Array.toArray_toList (xs := cs), h]
      rw [this]
    · cases e
  · cases e
theorem un2i_eq {v : Value} {q : ByteArray × Int} (e : un2i v = some q) : v = .agg #[.string q.1, .int .i64 q.2] := by
  unfold un2i at e
  split at e
  · rename_i cs
    split at e
    · rename_i d s h
      cases e
      have : cs = #[.string d, .int .i64 s] := by rw [← Array.toArray_toList (xs := cs), h]
      rw [this]
    · cases e
  · cases e
def valN (x : ByteArray × Int) : Value := .agg #[.string x.1, .int .i64 x.2]
def valP (x : ByteArray) : Value := .agg #[.string x]
def shF (v : Value) : Prop := ∃ f : FV, v = f.val
def shN (v : Value) : Prop := ∃ x, v = valN x
def shP (v : Value) : Prop := ∃ x, v = valP x
def liftF (m : FM) (v : Value) : Option Value := (unS v).bind fun h => (m h).map FV.val
def liftN (m : NM) (v : Value) : Option Value := (un2 v).bind fun q => (m q.1 q.2).map valN
def liftP (m : PM) (v : Value) : Option Value := (un2i v).bind fun q => (m q.1 q.2).map valP
def FM.set (m : FM) (h : ByteArray) (v : FV) : FM := fun x => if x = h then some v else m x
def NM.set (m : NM) (d s : ByteArray) (v : ByteArray × Int) : NM := fun x y => if x = d ∧ y = s then some v else m x y
def NM.del (m : NM) (d s : ByteArray) : NM := fun x y => if x = d ∧ y = s then none else m x y
def PM.set (m : PM) (h : ByteArray) (k : Int) (v : ByteArray) : PM := fun x y => if x = h ∧ y = k then some v else m x y
theorem liftF_at (m : FM) (h : ByteArray) : liftF m (.string h) = (m h).map FV.val := rfl
theorem liftN_at (m : NM) (d s : ByteArray) : liftN m (.agg #[.string d, .string s]) = (m d s).map valN := rfl
theorem liftP_at (m : PM) (h : ByteArray) (k : Int) : liftP m (.agg #[.string h, .int .i64 k]) = (m h k).map valP := rfl
theorem liftF_set (m : FM) (h : ByteArray) (v : FV) : mset (liftF m) (.string h) v.val = liftF (m.set h v) := by
  funext x
  unfold mset
  split
  · rename_i e; subst e; rw [liftF_at]; unfold FM.set; rw [if_pos rfl]; rfl
  · rename_i e
    unfold liftF
    cases hx : unS x with
    | none => rfl
    | some y =>
      have := unS_eq hx
      subst this
      simp only [Option.bind_some]
      unfold FM.set
      rw [if_neg (fun q => e (by rw [q]))]
theorem liftN_set (m : NM) (d s : ByteArray) (v : ByteArray × Int) : mset (liftN m) (.agg #[.string d, .string s]) (valN v) = liftN (m.set d s v) := by
  funext x
  unfold mset
  split
  · rename_i e; subst e; rw [liftN_at]; unfold NM.set; rw [if_pos ⟨rfl, rfl⟩]; rfl
  · rename_i e
    unfold liftN
    cases hx : un2 x with
    | none => rfl
    | some y =>
      have := un2_eq hx
      subst this
      simp only [Option.bind_some]
      unfold NM.set
      rw [if_neg (fun q => e (by rw [q.1, q.2]))]
theorem liftN_del (m : NM) (d s : ByteArray) : mdel (liftN m) (.agg #[.string d, .string s]) = liftN (m.del d s) := by
  funext x
  unfold mdel
  split
  · rename_i e; subst e; rw [liftN_at]; unfold NM.del; rw [if_pos ⟨rfl, rfl⟩]; rfl
  · rename_i e
    unfold liftN
    cases hx : un2 x with
    | none => rfl
    | some y =>
      have := un2_eq hx
      subst this
      simp only [Option.bind_some]
      unfold NM.del
      rw [if_neg (fun q => e (by rw [q.1, q.2]))]
theorem liftP_set (m : PM) (h : ByteArray) (k : Int) (v : ByteArray) : mset (liftP m) (.agg #[.string h, .int .i64 k]) (valP v) = liftP (m.set h k v) := by
  funext x
  unfold mset
  split
  · rename_i e; subst e; rw [liftP_at]; unfold PM.set; rw [if_pos ⟨rfl, rfl⟩]; rfl
  · rename_i e
    unfold liftP
    cases hx : un2i x with
    | none => rfl
    | some y =>
      have := un2i_eq hx
      subst this
      simp only [Option.bind_some]
      unfold PM.set
      rw [if_neg (fun q => e (by rw [q.1, q.2]))]
theorem liftF_nil : (fun _ => none) = liftF (fun _ => none) := by funext x; unfold liftF; cases unS x <;> rfl
theorem liftN_nil : (fun _ => none) = liftN (fun _ _ => none) := by funext x; unfold liftN; cases un2 x <;> rfl
theorem liftP_nil : (fun _ => none) = liftP (fun _ _ => none) := by funext x; unfold liftP; cases un2i x <;> rfl
/-- a cache: at most 'n' entries a map -/
structure CS where
  b : Nat
  bf : Nat
  bn : Nat
  bp : Nat
  age : Int
  nf : Nat
  nn : Nat
  np : Nat
  fm : FM
  nm : NM
  pm : PM
abbrev CS.pt (c : CS) : Assn := Pt c.b #[.int .i64 c.age, .map (some c.bf), .map (some c.bn), .map (some c.bp)] 72
abbrev CS.fs (c : CS) : Assn := Mp Try.prog 9 shF c.bf c.nf (liftF c.fm)
abbrev CS.ns (c : CS) : Assn := Mp Try.prog 85 shN c.bn c.nn (liftN c.nm)
abbrev CS.ps (c : CS) : Assn := Mp Try.prog 80 shP c.bp c.np (liftP c.pm)
abbrev CS.own (c : CS) (F : List Assn) : List Assn := c.pt :: c.fs :: c.ns :: c.ps :: F

theorem alloc_size (w : World) (o : Obj) : (w.alloc o).heap.size = w.heap.size + 1 := by simp
theorem new_ok (age : Int) {w0 w : World} {F : List Assn} (H : St w0 w F) :
    Calls Try.prog 8 #[.int .i64 age] w fun r w' => ∃ b bf bn bp, r = .returned (.pointer (some ⟨b, 0, none⟩)) ∧ St w0 w' (CS.own ⟨b, bf, bn, bp, max age 0, 0, 0, 0, fun _ => none, fun _ _ => none, fun _ _ => none⟩ F) := by
  have hmm := @run_makeMap Try.prog
  have H1 := H.mp_made (P := Try.prog) (k := 9) (sh := shF)
  rw [liftF_nil] at H1
  have H2 := H1.mp_made (P := Try.prog) (k := 85) (sh := shN)
  rw [liftN_nil] at H2
  have H3 := H2.mp_made (P := Try.prog) (k := 80) (sh := shP)
  rw [liftP_nil] at H3
  have H4 := (H3.alloc #[.int .i64 (max age 0), .map (some w.heap.size), .map (some (w.heap.size + 1)), .map (some (w.heap.size + 1 + 1))] 72)
  simp only [alloc_size] at H4
  replace H4 := H4.ord 4 [0, 3, 2, 1]
  go_enter Try.func8, Try.ntmps8
  rcases Int.lt_or_le age 0 with h | h
  · rw [Int.max_eq_right (by omega)] at H4 ⊢
    go_wp2_with (fail)
    go_ret
    exact ⟨w.heap.size + 1 + 1 + 1, w.heap.size, w.heap.size + 1, w.heap.size + 1 + 1, rfl, H4⟩
  · rw [Int.max_eq_left h] at H4 ⊢
    go_wp2_with (fail)
    go_ret
    exact ⟨w.heap.size + 1 + 1 + 1, w.heap.size, w.heap.size + 1, w.heap.size + 1 + 1, rfl, H4⟩
theorem fresh_ok (s now age : Int) (hs : inI s) (hn : inI now) (ha : 0 ≤ age) (ha2 : inI age) (w : World) :
    Calls Try.prog 25 #[.int .i64 s, .int .i64 now, .int .i64 age] w fun r w' => r = .returned (.bool (decide (s ≤ now) && decide (now - s < age))) ∧ w' = w := by
  unfold inI at *
  go_enter Try.func25, Try.ntmps25
  by_cases h : s ≤ now
  · go_wp2_with (fail)
    go_ret
    refine ⟨?_, rfl⟩
    show Ending.returned (.bool (decide (IntKind.u64.wrap (IntKind.u64.wrap now - IntKind.u64.wrap s) < age))) = _
    have e : IntKind.u64.wrap (IntKind.u64.wrap now - IntKind.u64.wrap s) = now - s := by
      simp only [IntKind.wrap, IntKind.bits, IntKind.signed]
      simp
      omega
    rw [e, decide_eq_true h, Bool.true_and]
  · go_wp2_with (fail)
    go_ret
    refine ⟨?_, rfl⟩
    rw [decide_eq_false (by omega), Bool.false_and]; rfl
theorem bind_ok (c : CS) (d s h : ByteArray) (now : Int) (hd : d.size ≤ maxLen) (hs : s.size ≤ maxLen) (hn : c.nn < maxLen) {w0 w : World} {F : List Assn} (H : St w0 w (c.own F)) :
    Calls Try.prog 12 #[.pointer (some ⟨c.b, 0, none⟩), .string d, .string s, .string h, .int .i64 now] w fun r w' => r = .returned (.tuple #[]) ∧ St w0 w' (CS.own { c with nn := c.nn + 1, nm := c.nm.set d s (h, now) } F) := by
  obtain ⟨kl, hkl⟩ := key_n d s hd hs
  have p2 := H.cell 2 (v := .map (some c.bn)) rfl
  have H1 := H.ord 3 [2, 0, 1]
  go_enter Try.func12, Try.ntmps12
  go_wp2_with (at_mapUpdate; refine wpList_mapUpdate_st _ _ rfl _ _ _ 69 rfl 85 83 law_n Try.underlying69 _ _ _ _ rfl H1 hn (.agg #[.string d, .string s]) (valN (h, now)) rfl rfl kl hkl ⟨_, rfl⟩ ?_; intro w1 H2; rw [liftN_set] at H2)
  go_end0
  exact ⟨rfl, H2.ord 3 [1, 2, 0]⟩
theorem bind_nil (d s h : ByteArray) (now : Int) (w : World) : Calls Try.prog 12 #[.pointer none, .string d, .string s, .string h, .int .i64 now] w fun r w' => r = .returned (.tuple #[]) ∧ w' = w := by
  go_enter Try.func12, Try.ntmps12
  go_wp2_with (fail)
  go_end0
  exact ⟨rfl, rfl⟩
theorem loose_ok (c : CS) (d s : ByteArray) (hd : d.size ≤ maxLen) (hs : s.size ≤ maxLen) {w0 w : World} {F : List Assn} (H : St w0 w (c.own F)) :
    Calls Try.prog 15 #[.pointer (some ⟨c.b, 0, none⟩), .string d, .string s] w fun r w' => r = .returned (.tuple #[]) ∧ St w0 w' (CS.own { c with nm := c.nm.del d s } F) := by
  obtain ⟨kl, hkl⟩ := key_n d s hd hs
  have p2 := H.cell 2 (v := .map (some c.bn)) rfl
  have H1 := H.ord 3 [2, 0, 1]
  go_enter Try.func15, Try.ntmps15
  go_wp2_with (at_delete; refine wpList_delete_st _ _ rfl _ _ 69 85 rfl 83 law_n Try.underlying69 _ _ _ _ rfl H1 (.agg #[.string d, .string s]) rfl kl hkl ?_; intro w1 H2; rw [liftN_del] at H2)
  go_end0
  exact ⟨rfl, H2.ord 3 [1, 2, 0]⟩
theorem loose_nil (d s : ByteArray) (w : World) : Calls Try.prog 15 #[.pointer none, .string d, .string s] w fun r w' => r = .returned (.tuple #[]) ∧ w' = w := by
  go_enter Try.func15, Try.ntmps15
  go_wp2_with (fail)
  go_end0
  exact ⟨rfl, rfl⟩
theorem hold_ok (c : CS) (h : ByteArray) (k : Int) (x : ByteArray) (hh : h.size ≤ maxLen) (hk : inI k) (hn : c.np < maxLen) {w0 w : World} {F : List Assn} (H : St w0 w (c.own F)) :
    Calls Try.prog 10 #[.pointer (some ⟨c.b, 0, none⟩), .string h, .int .i64 k, .string x] w fun r w' => r = .returned (.tuple #[]) ∧ St w0 w' (CS.own { c with np := c.np + 1, pm := c.pm.set h k x } F) := by
  obtain ⟨kl, hkl⟩ := key_p h k hh hk
  have p2 := H.cell 3 (v := .map (some c.bp)) rfl
  have H1 := H.ord 4 [3, 0, 1, 2]
  go_enter Try.func10, Try.ntmps10
  go_wp2_with (at_mapUpdate; refine wpList_mapUpdate_st _ _ rfl _ _ _ 70 rfl 80 78 law_p Try.underlying70 _ _ _ _ rfl H1 hn (.agg #[.string h, .int .i64 k]) (valP x) rfl rfl kl hkl ⟨_, rfl⟩ ?_; intro w1 H2; rw [liftP_set] at H2)
  go_end0
  exact ⟨rfl, H2.ord 4 [1, 2, 3, 0]⟩
theorem hold_nil (h : ByteArray) (k : Int) (x : ByteArray) (w : World) : Calls Try.prog 10 #[.pointer none, .string h, .int .i64 k, .string x] w fun r w' => r = .returned (.tuple #[]) ∧ w' = w := by
  go_enter Try.func10, Try.ntmps10
  go_wp2_with (fail)
  go_end0
  exact ⟨rfl, rfl⟩
theorem zero_text (w : World) : (zeroValue 78).run Try.prog w = .ok (.agg #[.string ByteArray.empty]) w := by kernel_rfl
theorem zero_bound (w : World) : (zeroValue 83).run Try.prog w = .ok (.agg #[.string ByteArray.empty, .int .i64 0]) w := by kernel_rfl
theorem zero_file (w : World) : (zeroValue 75).run Try.prog w = .ok (.agg (fileC 0 0 0 0 0)) w := by kernel_rfl
theorem piece_ok (c : CS) (h : ByteArray) (k : Int) (hh : h.size ≤ maxLen) (hk : inI k) {w0 w : World} {F : List Assn} (H : St w0 w (c.own F)) :
    Calls Try.prog 11 #[.pointer (some ⟨c.b, 0, none⟩), .string h, .int .i64 k] w fun r w' => r = .returned (.tuple #[.string ((c.pm h k).getD ByteArray.empty), .bool (c.pm h k).isSome]) ∧ St w0 w' (c.own F) := by
  obtain ⟨kl, hkl⟩ := key_p h k hh hk
  have p2 := H.cell 3 (v := .map (some c.bp)) rfl
  have hl := (H.ord 4 [3, 0, 1, 2]).mp_look true law_p Try.underlying70 (zero_text w) hkl
  rw [liftP_at] at hl
  cases hm : c.pm h k with
  | none =>
    rw [hm] at hl
    dsimp only [Option.map, lookV, valP] at hl
    go_enter Try.func11, Try.ntmps11
    go_wp2_with (fail)
    go_ret2
    exact ⟨rfl, H.more _⟩
  | some x =>
    rw [hm] at hl
    dsimp only [Option.map, lookV, valP] at hl
    go_enter Try.func11, Try.ntmps11
    go_wp2_with (fail)
    go_ret2
    exact ⟨rfl, H.more _⟩
theorem piece_nil (h : ByteArray) (k : Int) (w : World) : Calls Try.prog 11 #[.pointer none, .string h, .int .i64 k] w fun r w' => r = .returned (.tuple #[.string ByteArray.empty, .bool false]) ∧ w' = w := by
  go_enter Try.func11, Try.ntmps11
  go_wp2_with (fail)
  go_ret2
  exact ⟨rfl, rfl⟩
def freshB (age now : Int) (m : Int) : Bool := decide (m ≤ now) && decide (now - m < age)
/-- what a name leads to now -/
def CS.nameOf (c : CS) (d s : ByteArray) (now : Int) : ByteArray × Bool := match c.nm d s with | some x => if freshB c.age now x.2 = true then (x.1, true) else (ByteArray.empty, false) | none => (ByteArray.empty, false)
end Go.Proofs.Ytnehdcaobkedpaa.Ca

/- Layer 2: the parser as a whole. -/
import Derived.Test.YtkkpcjpdpjpohaaSmC
import Derived.Defers
import Derived.Recover
import Derived.WalkLawsBesides
import Derived.OwnWalk
import Derived.Shelf.Abstract
import Derived.Test.YtkkpcjpdpjpohaaRgn
namespace Go.Proofs.Ytkkpcjpdpjpohaa
open Go.RowKit

theorem parser_ok (s : ByteArray) (hs : s.size ≤ 1099511627776) (k : Nat) : FormOK s k ∧ ArmsOK s k := by
  induction k using Nat.strongRecOn with
  | _ k ih => exact ⟨form_step s hs k ih, arms_step s hs k ih⟩
theorem wpS_go {P : Program} {c : Code} {Q : Exit → Act → List Frame → World → Prop} {a : Act} {cs : List Frame} {w : World} (h : ∀ K : Exit → Act → World → Prop, Shut (∀ e a' w', Q e a' cs w' → K e a' w') → c.wp P K a w) : c.wpS P Q a cs w := wpS_of_wp (h _ (fun _ _ _ h => h))
theorem slots18 (p x : Value) : (#[p] ++ ((Array.replicate 18 undef).setIfInBounds 4 x).setIfInBounds 1 x : Array Value) = #[p, undef, x, undef, undef, x, undef, undef, undef, undef, undef, undef, undef, undef, undef, undef, undef, undef, undef] := by
  apply Array.ext'
  rw [Array.toList_append, Array.toList_setIfInBounds, Array.toList_setIfInBounds, Array.toList_replicate]
  rfl
set_option maxRecDepth 100000 in
set_option maxHeartbeats 8000000 in
theorem catch_ok (be : Nat) (ve : Value) (n : Int) (older : List PanicEntry) {w0 w : World} {F : List Assn} (H : St w0 w (Pt be #[ve] 65 :: F)) :
    CallsD Try.prog 26 #[.pointer (some ⟨be, 0, none⟩)] (.panicking ({ v := threw n, recovered := false } :: older)) w fun e u' w' => e = .returned (.tuple #[]) ∧ u' = .panicking ({ v := threw n, recovered := true } :: older) ∧ St w0 w' (Pt be #[.int .i64 n] 65 :: F) := by
  refine callsD_of_wpS Try.func26 rfl fun c₀ cs hu => ?_
  apply wpS_seq
  apply wpS_region
  simp [wpOpsS, go_sem, recoverD, hu, Try.ntmps26, Exit.thenS]
  refine wpS_go fun K hK => ?_
  rw [slots18]
  have HU := Lib.hid hu; clear hu
  have hta : ∀ w, (Instr.typeAssert (threw n) 20 108 true).run Try.prog w = .ok (.tuple #[.int .i64 n, .bool true]) w := fun _ => by kernel_rfl
  have p3 := H.cell 0 rfl
  have f3 := H.frozen 0
  have H3 := H.set 0 (.int .i64 n)
  go_wp2_with (fail)
  refine hK _ _ _ ?_
  cases c₀
  simp_all [bodyPostS, results, Try.results26]
set_option maxRecDepth 100000 in
set_option maxHeartbeats 8000000 in
theorem catch_idle (be : Nat) (w : World) :
    CallsD Try.prog 26 #[.pointer (some ⟨be, 0, none⟩)] .returning w fun e u' w' => e = .returned (.tuple #[]) ∧ u' = .returning ∧ w' = w := by
  refine callsD_of_wpS Try.func26 rfl fun c₀ cs hu => ?_
  apply wpS_seq
  apply wpS_region
  simp [wpOpsS, go_sem, recoverD, hu, Try.ntmps26, Exit.thenS]
  refine wpS_go fun K hK => ?_
  rw [slots18]
  have HU := Lib.hid hu; clear hu
  go_wp2_with (fail)
  refine hK _ _ _ ?_
  cases c₀
  simp_all [bodyPostS, results, Try.results26]
  exact HU.out

theorem run_loadVar_cell {P : Program} {ty : TypeId} {d : TypeDesc} (hu : P.underlying ty = some d) (hd : (match d with | .struct _ | .array _ _ => true | _ => false) = false) (w : World) (a : Addr) (v : Value) (h : w.cell? a = some v) : (loadVar ty a).run P w = .ok v w := by
  simp [loadVar, Sem.run_bind, run_isAgg_plain hu hd, h, go_sem]
theorem results_tc {P : Program} {fn : Func} {p t : Tmp} {ty : TypeId} (h : fn.results = #[.tmp p, .cell t ty]) (tmps : Array Value) (w : World) (g : Nat) (d : TypeDesc) (v : Value)
    (ht : tmps.getD t undef = .pointer (some ⟨g, 0, none⟩)) (hu : P.underlying ty = some d) (hd : (match d with | .struct _ | .array _ _ => true | _ => false) = false) (hv : w.cell? ⟨g, 0, none⟩ = some v) :
    (results fn tmps).run P w = .ok (.tuple #[tmps.getD p undef, v]) w := by
  have ht' : tmps[t]?.getD undef = .pointer (some ⟨g, 0, none⟩) := by simpa using ht
  simp [results, h, ht', asAddr, run_loadVar_cell hu hd w _ v hv]
/-- how 'parse' ends -/
def ParseE (w0 : World) (F : List Assn) (o : Option Tr) (x : Ending) (w' : World) : Prop := match o with
  | none => x = .returned (.tuple #[.slice none 0 0, .int .i64 1]) ∧ St w0 w' F
  | some t => ∃ A c vs L, x = .returned (.tuple #[.slice A t.len c, .int .i64 0]) ∧ Hd t vs L ∧ St w0 w' (Row 112 3 A t.len c vs :: (L ++ F))
abbrev toCatch (be : Nat) : List Deferred := [{ target := .fn (.func 26) #[], args := #[.pointer (some ⟨be, 0, none⟩)] }]
theorem pleft {tmps : Array Value} {be : Nat} {sl : Value} {e : Int} (h2 : tmps.getD 2 undef = sl) (h3 : tmps.getD 3 undef = .pointer (some ⟨be, 0, none⟩)) {w0 w' : World} {F G : List Assn} (H : St w0 w' (Pt be #[.int .i64 e] 65 :: G)) {o : Option Tr} (ho : ∀ w'', St w0 w'' G → ParseE w0 F o (.returned (.tuple #[sl, .int .i64 e])) w'') :
    Leaves Try.prog Try.f24 tmps (ParseE w0 F o) (toCatch be) .returning w' := by
  refine leaves_cons (by simp) rfl ?_
  refine (catch_idle be w').mono ?_
  rintro x u w'' ⟨rfl, rfl, hw⟩
  subst hw
  refine ⟨_, results_tc rfl tmps w'' be _ _ h3 Try.underlying65 rfl (H.cell 0 rfl), ?_⟩
  rw [h2]
  exact ho _ H.tail
theorem pcaught {tmps : Array Value} {be : Nat} {ve : Value} {e : Int} (h2 : tmps.getD 2 undef = .slice none 0 0) (h3 : tmps.getD 3 undef = .pointer (some ⟨be, 0, none⟩)) {w0 w' : World} {F : List Assn} (H : St w0 w' (Pt be #[ve] 65 :: F)) {o : Option Tr} (ho : ∀ w'', St w0 w'' F → ParseE w0 F o (.returned (.tuple #[.slice none 0 0, .int .i64 e])) w'') :
    Leaves Try.prog Try.f24 tmps (ParseE w0 F o) (toCatch be) (.panicking [{ v := threw e, recovered := false }]) w' := by
  refine leaves_cons (by simp) rfl ?_
  refine (catch_ok be ve e [] H).mono ?_
  rintro x u w'' ⟨rfl, rfl, H2⟩
  refine ⟨_, results_tc rfl tmps w'' be _ _ h3 Try.underlying65 rfl (H2.cell 0 rfl), ?_⟩
  rw [h2]
  exact ho _ H2.tail
set_option maxRecDepth 100000 in
set_option maxHeartbeats 8000000 in
theorem parse_ok (s : ByteArray) (hs : s.size ≤ 1099511627776) {w0 w : World} {F : List Assn} (H0 : St w0 w F) :
    Calls Try.prog 24 #[.string s] w (ParseE w0 F (parseF s)) := by
  have hmf : ∀ (fn : Fn) (first cap : Array Value) (w : World), (Instr.makeFunc fn first cap).run Try.prog w = .ok (.func fn first cap) w := fun _ _ _ _ => rfl
  have H1 := H0.alloc #[.int .i64 0] 65
  obtain ⟨be, hbe⟩ : ∃ b, b = w.heap.size := ⟨_, rfl⟩
  go_enter_defers Try.func24, Try.ntmps24
  go_upto_region 1 with (fail)
  rw [← hbe] at H1 ⊢
  generalize w.alloc (.cells #[.int .i64 0] 65) = w1 at *
  clear hbe H0
  by_cases h1 : 1000 < s.size
  · have h1' : decide ((s.size : Int) > 1000) = true := decide_eq_true (by omega)
    have h1'' : (s.size : Int) > 1000 := by omega
    have hp : parseF s = none := if_pos h1
    have HP := Lib.hid hp; clear hp h1
    have p3 := H1.cell 0 rfl
    have f3 := H1.frozen 0
    have H3 := H1.set 0 (.int .i64 1)
    go_wp2_with (fail)
    show Leaves Try.prog Try.f24 _ (ParseE w0 F (parseF s)) (toCatch be) .returning _
    rw [HP.out]
    exact pleft rfl rfl H3 (fun w'' K => ⟨rfl, K⟩)
  have h1' : ¬ (s.size : Int) > 1000 := by omega
  have hp : parseF s = (pr s (s.size + 1) false 0 0 []).bind fun r => if r.2 < s.size then none else some r.1 := if_neg h1
  have HP := Lib.hid hp; clear hp h1
  have H2 := H1.alloc #[.string s, .int .i64 0] 104
  obtain ⟨bp, hbp⟩ : ∃ b, b = w1.heap.size := ⟨_, rfl⟩
  go_upto_region 5 with (fail)
  rw [← hbp] at H2 ⊢
  generalize w1.alloc (.cells #[.string s, .int .i64 0] 104) = w2 at *
  clear hbp H1
  have hfm := (parser_ok s hs (s.size + 1)).1 bp 0 0 w0 w2 _ (by omega) (by omega) (by omega) H2
  rw [if_neg (by omega)] at hfm
  obtain ⟨o, ho⟩ : ∃ o, o = pr s (s.size + 1) false 0 0 [] := ⟨_, rfl⟩
  rw [← ho] at hfm HP
  go_wp2_with (fail)
  refine hfm.mono ?_
  clear hfm
  intro x w3 hx
  cases o with
  | none =>
    obtain ⟨rfl, at2, H3⟩ := hx
    show Leaves Try.prog Try.f24 _ (ParseE w0 F (parseF s)) (toCatch be) (.panicking [{ v := threw 1, recovered := false }]) _
    rw [HP.out]
    exact pcaught rfl rfl H3.tail (fun w'' K => ⟨rfl, K⟩)
  | some r =>
    obtain ⟨A, c, vs, L, rfl, HH, H3⟩ := hx
    obtain ⟨t, e⟩ := r
    dsimp only at HH H3 ⊢
    have HH := Lib.hid HH
    have c1 := H3.cell 1 rfl
    have H4 := H3.tail.perm (L' := Pt be #[.int .i64 0] 65 :: Row 112 3 A t.len c vs :: (L ++ F)) ((List.Perm.cons _ List.perm_middle).trans (List.Perm.swap ..))
    have p3 := H4.cell 0 rfl
    have f3 := H4.frozen 0
    by_cases h2 : e < s.size
    · have h2' : (e : Int) < s.size := by omega
      have hno : parseF s = none := by rw [HP.out, Option.bind_some, if_pos h2]
      have HNO := Lib.hid hno; clear hno h2 ho HP
      have H5 := H4.set 0 (.int .i64 1)
      go_wp2_with (fail)
      show Leaves Try.prog Try.f24 _ (ParseE w0 F (parseF s)) (toCatch be) .returning _
      rw [HNO.out]
      exact pleft rfl rfl H5 (fun w'' K => ⟨rfl, St.drop (L := L) K.tail⟩)
    · have h2' : ¬ (e : Int) < s.size := by omega
      have hno : parseF s = some t := by rw [HP.out, Option.bind_some, if_neg h2]
      have HNO := Lib.hid hno; clear hno h2 ho HP
      have H5 := H4.set 0 (.int .i64 0)
      go_wp2_with (fail)
      show Leaves Try.prog Try.f24 _ (ParseE w0 F (parseF s)) (toCatch be) .returning _
      rw [HNO.out]
      exact pleft rfl rfl H5 (fun w'' K => ⟨A, c, vs, L, rfl, HH.out, K⟩)
end Go.Proofs.Ytkkpcjpdpjpohaa

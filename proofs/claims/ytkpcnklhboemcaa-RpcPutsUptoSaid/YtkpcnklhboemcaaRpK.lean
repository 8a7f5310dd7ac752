/- Layer 3: any bytes as a call. -/
import Derived.Test.YtkpcnklhboemcaaRpJ
import Derived.Defers
import Derived.Recover
import Derived.WalkLawsBesides
import Derived.OwnWalk
import Derived.Shelf.Abstract
namespace Go.Proofs.Ytkpcnklhboemcaa
open Go.RowKit

def Cal.zero : Cal := ⟨0, 0, 0, 0, false, 0, ⟨#[]⟩, 0, 0, [], ⟨#[]⟩⟩
abbrev zcall : Array Value := callC 0 0 0 0 false 0 ⟨#[]⟩ 0 0 none 0 0 ⟨#[]⟩
def Cal.get (s : ByteArray) : Cal × ByteArray × Int :=
  if 65536 < s.size then (Cal.zero, ⟨#[]⟩, 2) else if s.size < 8 then (Cal.zero, ⟨#[]⟩, 5) else
  let x := (⟨s, 0⟩ : RS).nat 4
  let k := x.2.nat 4
  if k.1 ≠ 0 then (Cal.zero, ⟨#[]⟩, 4) else match fillC x.1 k.2 with
    | .inl t => (Cal.zero, (Rep.put ⟨x.1, t.1, t.2.1, t.2.2, ⟨#[]⟩⟩).1, 62)
    | .inr c => ({ c.1 with args := s.extract (s.size - c.2.s.size) s.size }, ⟨#[]⟩, 0)
theorem run_loadVar_cell {P : Program} {ty : TypeId} {d : TypeDesc} (hu : P.underlying ty = some d) (hd : (match d with | .struct _ | .array _ _ => true | _ => false) = false) (w : World) (a : Addr) (v : Value) (h : w.cell? a = some v) : (loadVar ty a).run P w = .ok v w := by
  simp [loadVar, Sem.run_bind, run_isAgg_plain hu hd, h, go_sem]
theorem results_cells3 {P : Program} {fn : Func} {p t u : Tmp} {ty ty2 ty3 : TypeId} (h : fn.results = #[.cell p ty, .cell t ty2, .cell u ty3]) (tmps : Array Value) (w : World) (g g2 g3 : Nat) (T : TypeId) (cs : Array Value) (fr : Nat × Nat) (d d2 d3 : TypeDesc) (v2 v3 : Value)
    (hp : tmps.getD p undef = .pointer (some ⟨g, 0, none⟩)) (ht : tmps.getD t undef = .pointer (some ⟨g2, 0, none⟩)) (hu' : tmps.getD u undef = .pointer (some ⟨g3, 0, none⟩)) (hg : w.heap[g]? = some (.cells cs T fr))
    (hu : P.underlying ty = some d) (hd : (match d with | .struct _ | .array _ _ => true | _ => false) = true) (hi : (P.info? ty).map (·.size) = some cs.size)
    (hu2 : P.underlying ty2 = some d2) (hd2 : (match d2 with | .struct _ | .array _ _ => true | _ => false) = false) (h2 : w.cell? ⟨g2, 0, none⟩ = some v2)
    (hu3 : P.underlying ty3 = some d3) (hd3 : (match d3 with | .struct _ | .array _ _ => true | _ => false) = false) (h3 : w.cell? ⟨g3, 0, none⟩ = some v3) :
    (results fn tmps).run P w = .ok (.tuple #[.agg cs, v2, v3]) w := by
  have hp' : tmps[p]?.getD undef = .pointer (some ⟨g, 0, none⟩) := by simpa using hp
  have ht' : tmps[t]?.getD undef = .pointer (some ⟨g2, 0, none⟩) := by simpa using ht
  have hu'' : tmps[u]?.getD undef = .pointer (some ⟨g3, 0, none⟩) := by simpa using hu'
  simp [results, h, hp', ht', hu'', asAddr, run_loadVar_row w g T ty cs fr d hg hu hd hi, run_loadVar_cell hu2 hd2 w _ v2 h2, run_loadVar_cell hu3 hd3 w _ v3 h3]
theorem slots20 (p q r x : Value) : (#[p, q, r] ++ ((Array.replicate 20 undef).setIfInBounds 3 x).setIfInBounds 0 x : Array Value) = #[p, q, r, x, undef, undef, x, undef, undef, undef, undef, undef, undef, undef, undef, undef, undef, undef, undef, undef, undef, undef, undef] := by
  apply Array.ext'
  rw [Array.toList_append, Array.toList_setIfInBounds, Array.toList_setIfInBounds, Array.toList_replicate]
  rfl
theorem wpS_go {P : Program} {c : Code} {Q : Exit → Act → List Frame → World → Prop} {a : Act} {cs : List Frame} {w : World} (h : ∀ K : Exit → Act → World → Prop, Shut (∀ e a' w', Q e a' cs w' → K e a' w') → c.wp P K a w) : c.wpS P Q a cs w := wpS_of_wp (h _ (fun _ _ _ h => h))
set_option maxRecDepth 100000 in
set_option maxHeartbeats 8000000 in
theorem ccatch_ok (bc be br : Nat) (cs : Array Value) (ve vr : Value) (hcs : cs.size = 11) (xid v l h : Int) (older : List PanicEntry) {w0 w : World} {F : List Assn} (H : St w0 w (Pt bc cs 30 :: Pt be #[ve] 35 :: Pt br #[vr] 9 :: F)) :
    CallsD Try.prog 30 #[.pointer (some ⟨bc, 0, none⟩), .pointer (some ⟨be, 0, none⟩), .pointer (some ⟨br, 0, none⟩)] (.panicking ({ v := thrown xid v l h, recovered := false } :: older)) w fun e u' w' => e = .returned (.tuple #[]) ∧ u' = .panicking ({ v := thrown xid v l h, recovered := true } :: older) ∧ St w0 w' (Pt bc zcall 30 :: Pt be #[.int .i64 62] 35 :: Pt br #[.string (Rep.put ⟨xid, v, l, h, ⟨#[]⟩⟩).1] 9 :: F) := by
  refine callsD_of_wpS Try.func30 rfl fun c₀ cs hu => ?_
  apply wpS_seq
  apply wpS_region
  simp [wpOpsS, go_sem, recoverD, hu, Try.ntmps30, Exit.thenS]
  refine wpS_go fun K hK => ?_
  rw [slots20]
  have HU := Lib.hid hu; clear hu
  have hta : ∀ w, (Instr.typeAssert (thrown xid v l h) 20 72 true).run Try.prog w = .ok (.tuple #[.agg #[.int .i64 xid, .int .i64 v, .int .i64 l, .int .i64 h, .string ⟨#[]⟩], .bool true]) w := fun _ => by kernel_rfl
  have H1 := (H.alloc #[.int .i64 xid, .int .i64 v, .int .i64 l, .int .i64 h, .string ⟨#[]⟩] 72)
  obtain ⟨b4, hb4⟩ : ∃ b, b = w.heap.size := ⟨_, rfl⟩
  go_wp2_with (with_reducible refine hold_store (ty := 30) ?_)
  unfold Hold
  rw [← hb4] at H1 ⊢
  generalize w.alloc (.cells #[.int .i64 xid, .int .i64 v, .int .i64 l, .int .i64 h, .string ⟨#[]⟩] 72) = w1 at *
  clear H hb4
  with_reducible refine wpList_store_st (ty := 30) (H1.r2) (zcall) ?_ ?_ ?_ ?_ ?_ ?_ ?_
  rfl
  rfl
  rfl
  (rw [hcs]; rfl)
  kernel_rfl
  rfl
  intro w2 H2
  have p3 := H2.r3.cell 0 rfl
  have f3 := H2.r3.frozen 0
  have H3 := (H2.r3.set 0 (.int .i64 62)).r3
  go_upto_region 6 with (fail)
  generalize w2.setCell ⟨be, 0, none⟩ (.int .i64 62) = w3 at *
  clear H2 p3 f3 H1
  have c0 := H3.cell 0 rfl
  have c1 := H3.cell 1 rfl
  have c2 := H3.cell 2 rfl
  have c3 := H3.cell 3 rfl
  have c4 := H3.cell 4 rfl
  go_wp2_with (fail)
  refine (putreply_ok ⟨xid, v, l, h, ⟨#[]⟩⟩ (Nat.zero_le _) H3).mono ?_
  rintro e w4 ⟨rfl, H4⟩
  have p5 := H4.r4.cell 0 rfl
  have f5 := H4.r4.frozen 0
  have H5 := (H4.r4.set 0 (.string (Rep.put ⟨xid, v, l, h, ⟨#[]⟩⟩).1))
  dsimp only
  go_wp2_with (fail)
  refine hK _ _ _ ?_
  cases c₀
  simp_all [bodyPostS, results, Try.results30]
  exact (H5.r2.tail).ord 3 [2, 1, 0]
set_option maxRecDepth 100000 in
set_option maxHeartbeats 8000000 in
theorem ccatch_idle (bc be br : Nat) (w : World) :
    CallsD Try.prog 30 #[.pointer (some ⟨bc, 0, none⟩), .pointer (some ⟨be, 0, none⟩), .pointer (some ⟨br, 0, none⟩)] .returning w fun e u' w' => e = .returned (.tuple #[]) ∧ u' = .returning ∧ w' = w := by
  refine callsD_of_wpS Try.func30 rfl fun c₀ cs hu => ?_
  apply wpS_seq
  apply wpS_region
  simp [wpOpsS, go_sem, recoverD, hu, Try.ntmps30, Exit.thenS]
  refine wpS_go fun K hK => ?_
  rw [slots20]
  have HU := Lib.hid hu; clear hu
  go_wp2_with (fail)
  refine hK _ _ _ ?_
  cases c₀
  simp_all [bodyPostS, results, Try.results30]
  exact HU.out

/-- how it ends -/
def GotC (w0 : World) (F : List Assn) (o : Cal × ByteArray × Int) (x : Ending) (w' : World) : Prop :=
  ∃ A d, x = .returned (.tuple #[.agg (o.1.cells A d), .string o.2.1, .int .i64 o.2.2]) ∧ St w0 w' (Row 3 1 A o.1.groups.length d (ivs o.1.groups) :: F)
abbrev toCatch (bc br be : Nat) : List Deferred := [{ target := .fn (.func 30) #[.pointer (some ⟨bc, 0, none⟩), .pointer (some ⟨be, 0, none⟩), .pointer (some ⟨br, 0, none⟩)], args := #[] }]
theorem cleft0 {tmps : Array Value} {bc br be : Nat} (h2 : tmps.getD 2 undef = .pointer (some ⟨bc, 0, none⟩)) (h3 : tmps.getD 3 undef = .pointer (some ⟨br, 0, none⟩)) (h4 : tmps.getD 4 undef = .pointer (some ⟨be, 0, none⟩)) {w0 w' : World} {c : Cal} {A : Option Addr} {d : Nat} {t : ByteArray} {e : Int} {F : List Assn} (H : St w0 w' (Pt bc (c.cells A d) 30 :: Pt br #[.string t] 9 :: Pt be #[.int .i64 e] 35 :: Row 3 1 A c.groups.length d (ivs c.groups) :: F)) {o : Cal × ByteArray × Int} (ho : o = (c, t, e)) :
    Leaves Try.prog Try.f14 tmps (GotC w0 F o) [] .returning w' := by
  subst ho
  refine ⟨_, results_cells3 rfl tmps w' bc br be 30 (c.cells A d) (0, 0) _ _ _ _ _ h2 h3 h4 H.block Try.underlying30 rfl (by kernel_rfl) Try.underlying9 rfl (H.r2.cell 0 rfl) Try.underlying35 rfl (H.r3.cell 0 rfl), ?_⟩
  exact ⟨A, d, rfl, H.tail.tail.tail⟩
theorem cleft {tmps : Array Value} {bc br be : Nat} (h2 : tmps.getD 2 undef = .pointer (some ⟨bc, 0, none⟩)) (h3 : tmps.getD 3 undef = .pointer (some ⟨br, 0, none⟩)) (h4 : tmps.getD 4 undef = .pointer (some ⟨be, 0, none⟩)) {w0 w' : World} {c : Cal} {A : Option Addr} {d : Nat} {t : ByteArray} {e : Int} {F : List Assn} (H : St w0 w' (Pt bc (c.cells A d) 30 :: Pt br #[.string t] 9 :: Pt be #[.int .i64 e] 35 :: Row 3 1 A c.groups.length d (ivs c.groups) :: F)) {o : Cal × ByteArray × Int} (ho : o = (c, t, e)) :
    Leaves Try.prog Try.f14 tmps (GotC w0 F o) (toCatch bc br be) .returning w' := by
  refine leaves_cons (by simp) rfl ?_
  refine (ccatch_idle bc be br w').mono ?_
  rintro x u w'' ⟨rfl, rfl, hw⟩
  subst hw
  exact cleft0 h2 h3 h4 H ho
theorem ccaught {tmps : Array Value} {bc br be : Nat} (h2 : tmps.getD 2 undef = .pointer (some ⟨bc, 0, none⟩)) (h3 : tmps.getD 3 undef = .pointer (some ⟨br, 0, none⟩)) (h4 : tmps.getD 4 undef = .pointer (some ⟨be, 0, none⟩)) {w0 w' : World} {cs : Array Value} (hcs : cs.size = 11) {ve vr : Value} {xid v l h : Int} {F : List Assn} (H : St w0 w' (Pt bc cs 30 :: Pt be #[ve] 35 :: Pt br #[vr] 9 :: F)) {o : Cal × ByteArray × Int} (ho : o = (Cal.zero, (Rep.put ⟨xid, v, l, h, ⟨#[]⟩⟩).1, 62)) :
    Leaves Try.prog Try.f14 tmps (GotC w0 F o) (toCatch bc br be) (.panicking [{ v := thrown xid v l h, recovered := false }]) w' := by
  refine leaves_cons (by simp) rfl ?_
  refine (ccatch_ok bc be br cs ve vr hcs xid v l h [] H).mono ?_
  rintro e u w'' ⟨rfl, rfl, H2⟩
  exact cleft0 (c := Cal.zero) (A := none) (d := 0) h2 h3 h4 ((H2.nilRow 3 1).ord 4 [1, 3, 2, 0]) ho
theorem fillC_le {x : Int} {r : RS} {c : Cal × RS} (h : fillC x r = .inr c) : c.2.s.size ≤ r.s.size := by
  unfold fillC at h
  dsimp only at h
  split at h
  · cases h
  split at h
  · cases h
  split at h
  · cases h
  split at h
  · cases h
  split at h
  · cases h
  split at h
  · cases h
  injection h with h
  subst h
  dsimp only
  exact Nat.le_trans (RS.opqe_le _ 400) (Nat.le_trans (RS.nat_le _ 4) (Nat.le_trans (RS.opqe_le _ 400) (Nat.le_trans (RS.nat_le _ 4) (Nat.le_trans (RS.nat_le _ 4) (Nat.le_trans (RS.nat_le _ 4) (Nat.le_trans (RS.nat_le _ 4) (RS.nat_le _ 4)))))))
set_option maxRecDepth 100000 in
set_option maxHeartbeats 16000000 in
theorem getcall_ok (s : ByteArray) (hs : s.size ≤ 1099511627776) {w0 w : World} {F : List Assn} (H0 : St w0 w F) :
    Calls Try.prog 14 #[.string s] w (GotC w0 F (Cal.get s)) := by
  have hmf : ∀ (fn : Fn) (first cap : Array Value) (w : World), (Instr.makeFunc fn first cap).run Try.prog w = .ok (.func fn first cap) w := fun _ _ _ _ => rfl
  have H1 := ((H0.alloc zcall 30).alloc #[.string ⟨#[]⟩] 9).alloc #[.int .i64 0] 35
  simp only [World.size_alloc] at H1
  obtain ⟨bc, hbc⟩ : ∃ b, b = w.heap.size := ⟨_, rfl⟩
  obtain ⟨br, hbr⟩ : ∃ b, b = w.heap.size + 1 := ⟨_, rfl⟩
  obtain ⟨be, hbe⟩ : ∃ b, b = w.heap.size + 1 + 1 := ⟨_, rfl⟩
  go_enter_defers Try.func14, Try.ntmps14
  go_upto_region 1 with (fail)
  rw [← hbe] at H1 ⊢
  rw [← hbr] at H1 ⊢
  rw [← hbc] at H1 ⊢
  generalize ((w.alloc (.cells zcall 30)).alloc (.cells #[.string ⟨#[]⟩] 9)).alloc (.cells #[.int .i64 0] 35) = w1 at *
  clear hbc hbr hbe H0
  go_wp2_with (fail)
  refine (open_ok s H1).mono ?_
  rintro x w3 ⟨rb, rfl, H'⟩
  have H := H'.ord 4 [0, 3, 2, 1]
  dsimp only [List.filterMap, List.drop, List.append_nil] at H
  clear H1 H'
  go_wp2_with (fail)
  obtain ⟨x, hx⟩ : ∃ zz, zz = RS.nat (⟨s, 0⟩) 4 := ⟨_, rfl⟩
  have hc := uint_ok rb (⟨s, 0⟩) (by first | omega | (dsimp only; omega)) H
  have lx : x.2.s.size ≤ s.size := by rw [hx]; exact Nat.le_trans (RS.nat_le _ 4) (by first | omega | exact Nat.le_refl _)
  have ex : x.2.e ≠ 6 := by rw [hx]; exact RS.nat_e6 _ 4 (by first | assumption | (dsimp only; decide))
  rw [← hx] at hc
  have Ex := Lib.hid hx; clear hx
  refine hc.mono ?_
  rintro x w1 ⟨rfl, H'⟩
  clear hc H
  have H := H'
  clear H'
  go_wp2_with (fail)
  obtain ⟨k, hk⟩ : ∃ zz, zz = RS.nat (x.2) 4 := ⟨_, rfl⟩
  have hc := uint_ok rb (x.2) (by first | omega | (dsimp only; omega)) H
  have lk : k.2.s.size ≤ s.size := by rw [hk]; exact Nat.le_trans (RS.nat_le _ 4) (by first | omega | exact Nat.le_refl _)
  have ek : k.2.e ≠ 6 := by rw [hk]; exact RS.nat_e6 _ 4 (by first | assumption | (dsimp only; decide))
  rw [← hk] at hc
  have Ek := Lib.hid hk; clear hk
  refine hc.mono ?_
  rintro x w1 ⟨rfl, H'⟩
  clear hc H
  have H := H'
  clear H'
  by_cases h1 : 65536 < s.size
  · have h1' : decide (65536 < (s.size : Int)) = true := decide_eq_true (by omega)
    go_wp2_with (with_reducible refine hold_store (ty := 30) ?_)
    unfold Hold
    with_reducible refine wpList_store_st (ty := 30) (H.r2) (zcall) ?_ ?_ ?_ ?_ ?_ ?_ ?_
    rfl
    rfl
    rfl
    rfl
    kernel_rfl
    rfl
    intro w2 H2
    have p3 := H2.r3.cell 0 rfl
    have f3 := H2.r3.frozen 0
    have H3 := (H2.r3.set 0 (.string ⟨#[]⟩))
    have p4 := H3.r4.cell 0 rfl
    have f4 := H3.r4.frozen 0
    have H4 := (H3.r4.set 0 (.int .i64 2))
    go_wp2_with (fail)
    show Leaves Try.prog Try.f14 _ (GotC w0 F (Cal.get s)) [] .returning _
    exact cleft0 (c := Cal.zero) (A := none) (d := 0) rfl rfl rfl (((H4.r4.tail).nilRow 3 1).ord 4 [3, 2, 1, 0]) (by unfold Cal.get; rw [if_pos h1])
  have h1' : decide (65536 < (s.size : Int)) = false := decide_eq_false (by omega)
  by_cases h2 : s.size < 8
  · have h2' : decide ((s.size : Int) < 8) = true := decide_eq_true (by omega)
    go_wp2_with (with_reducible refine hold_store (ty := 30) ?_)
    unfold Hold
    with_reducible refine wpList_store_st (ty := 30) (H.r2) (zcall) ?_ ?_ ?_ ?_ ?_ ?_ ?_
    rfl
    rfl
    rfl
    rfl
    kernel_rfl
    rfl
    intro w2 H2
    have p3 := H2.r3.cell 0 rfl
    have f3 := H2.r3.frozen 0
    have H3 := (H2.r3.set 0 (.string ⟨#[]⟩))
    have p4 := H3.r4.cell 0 rfl
    have f4 := H3.r4.frozen 0
    have H4 := (H3.r4.set 0 (.int .i64 5))
    go_wp2_with (fail)
    show Leaves Try.prog Try.f14 _ (GotC w0 F (Cal.get s)) [] .returning _
    exact cleft0 (c := Cal.zero) (A := none) (d := 0) rfl rfl rfl (((H4.r4.tail).nilRow 3 1).ord 4 [3, 2, 1, 0]) (by unfold Cal.get; rw [if_neg h1, if_pos h2])
  have h2' : decide ((s.size : Int) < 8) = false := decide_eq_false (by omega)
  by_cases h3 : k.1 = 0
  rotate_left 1
  · have h3' : (k.1 != 0) = true := bne_iff_ne.2 h3
    go_wp2_with (with_reducible refine hold_store (ty := 30) ?_)
    unfold Hold
    with_reducible refine wpList_store_st (ty := 30) (H.r2) (zcall) ?_ ?_ ?_ ?_ ?_ ?_ ?_
    rfl
    rfl
    rfl
    rfl
    kernel_rfl
    rfl
    intro w2 H2
    have p3 := H2.r3.cell 0 rfl
    have f3 := H2.r3.frozen 0
    have H3 := (H2.r3.set 0 (.string ⟨#[]⟩))
    have p4 := H3.r4.cell 0 rfl
    have f4 := H3.r4.frozen 0
    have H4 := (H3.r4.set 0 (.int .i64 4))
    go_wp2_with (fail)
    show Leaves Try.prog Try.f14 _ (GotC w0 F (Cal.get s)) [] .returning _
    exact cleft0 (c := Cal.zero) (A := none) (d := 0) rfl rfl rfl (((H4.r4.tail).nilRow 3 1).ord 4 [3, 2, 1, 0]) (by unfold Cal.get; rw [if_neg h1, if_neg h2]; dsimp only; rw [← Ex.out, ← Ek.out, if_pos h3])
  have h3' : (k.1 != 0) = false := by rw [h3]; rfl
  have hG : Cal.get s = match fillC x.1 k.2 with
    | .inl t => (Cal.zero, (Rep.put ⟨x.1, t.1, t.2.1, t.2.2, ⟨#[]⟩⟩).1, 62)
    | .inr c => ({ c.1 with args := s.extract (s.size - c.2.s.size) s.size }, ⟨#[]⟩, 0) := by
    unfold Cal.get
    rw [if_neg h1, if_neg h2]
    dsimp only
    rw [← Ex.out, ← Ek.out, if_neg (fun h => h h3)]
  have HG := Lib.hid hG
  clear hG h1 h2 h3
  have p0 := H.r2.cell 0 rfl
  have f0 := H.r2.frozen 0
  go_upto_region 11 with (fail)
  have H' := (H.r2.set 0 (.int .i64 x.1))
  generalize w1.setCell ⟨bc, 0, none⟩ (.int .i64 x.1) = w1 at *
  clear H p0 f0
  have H := H'.r2
  clear H' h1' h2' h3'
  have hfl := fill_ok bc rb x.1 k.2 (by omega) (by assumption) H.r2
  obtain ⟨o, ho⟩ : ∃ o, o = fillC x.1 k.2 := ⟨_, rfl⟩
  rw [← ho] at hfl HG
  have HO := Lib.hid ho; clear ho
  go_wp2_with (fail)
  refine hfl.mono ?_
  clear hfl
  intro e w2 hce
  cases o with
  | inl t =>
    obtain ⟨rfl, cs, r', hcs, H'⟩ := hce
    refine ccaught (cs := cs) rfl rfl rfl hcs ((H'.r2.tail).ord 3 [0, 2, 1]) HG.out
  | inr c =>
    obtain ⟨rfl, A, d, H'⟩ := hce
    obtain ⟨c, r'⟩ := c
    have hrl := Nat.le_trans (fillC_le HO.out.symm) lk
    obtain ⟨xid, prog, vers, proc, unix, stamp, mach, uid, gid, groups, args⟩ := c
    dsimp only [Cal.cells] at H' hrl
    obtain ⟨n, hn⟩ : ∃ n, groups.length = n := ⟨_, rfl⟩
    rw [hn] at H'
    have HN := Lib.hid hn; clear hn
    have hit : ((s.size : Int) - r'.s.size).toNat = s.size - r'.s.size := by omega
    have hi0 : (0 : Int) ≤ (s.size : Int) - r'.s.size := by omega
    have hi1 : (s.size : Int) - r'.s.size ≤ s.size := by omega
    clear HO H
    go_wp2_with (fail)
    refine (left_ok rb _ H'.r3).mono ?_
    rintro x w1 ⟨rfl, rfl⟩
    have p10 := H'.cell 10 rfl
    have f10 := H'.frozen 10
    go_upto_region 13 with (fail)
    have H := (H'.set 10 (.string (s.extract (s.size - r'.s.size) s.size)))
    generalize w2.setCell ⟨bc, 10, none⟩ (.string (s.extract (s.size - r'.s.size) s.size)) = w1 at *
    clear H' p10 f10 hit hi0 hi1
    have p0 := H.cell 0 rfl
    have p1 := H.cell 1 rfl
    have p2 := H.cell 2 rfl
    have p3 := H.cell 3 rfl
    have p4 := H.cell 4 rfl
    have p5 := H.cell 5 rfl
    have p6 := H.cell 6 rfl
    have p7 := H.cell 7 rfl
    have p8 := H.cell 8 rfl
    have p9 := H.cell 9 rfl
    have p10 := H.cell 10 rfl
    go_wp2_with (with_reducible refine hold_store (ty := 30) ?_)
    unfold Hold
    with_reducible refine wpList_store_st (ty := 30) (H) (callC xid prog vers proc unix stamp mach uid gid A n d (s.extract (s.size - r'.s.size) s.size)) ?_ ?_ ?_ ?_ ?_ ?_ ?_
    rfl
    rfl
    rfl
    rfl
    kernel_rfl
    rfl
    intro w2 H2
    clear p0 p1 p2 p3 p4 p5 p6 p7 p8 p9 p10
    have p3 := H2.r4.cell 0 rfl
    have f3 := H2.r4.frozen 0
    have H3 := (H2.r4.set 0 (.string ⟨#[]⟩))
    have p4 := H3.r5.cell 0 rfl
    have f4 := H3.r5.frozen 0
    have H4 := (H3.r5.set 0 (.int .i64 0))
    go_wp2_with (fail)
    show Leaves Try.prog Try.f14 _ (GotC w0 F (Cal.get s)) (toCatch bc br be) .returning _
    have H5 := (H4.ord 5 [2, 1, 0, 3, 4])
    dsimp only [List.filterMap, List.drop, List.append_nil] at H5
    rw [← HN.out] at H5
    exact cleft (c := ⟨xid, prog, vers, proc, unix, stamp, mach, uid, gid, groups, s.extract (s.size - r'.s.size) s.size⟩) (A := A) (d := d) rfl rfl rfl (H5.r5.tail.r4.r4.r4.r4) HG.out
end Go.Proofs.Ytkpcnklhboemcaa

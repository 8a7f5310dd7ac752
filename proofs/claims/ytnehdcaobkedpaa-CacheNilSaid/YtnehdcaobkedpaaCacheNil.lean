/- CacheNil: no cache knows nothing, and nothing is done to it: of every input. -/
import Derived.Test.YtnehdcaobkedpaaCaG
import Derived.Test.YtnehdcaobkedpaaLiftC
namespace Go.Proofs.Ytnehdcaobkedpaa.CacheNil
open Go.RowKit Go.ChangeShapes Go.WideShapes Go.ChangeAt Go.Proofs.Ytnehdcaobkedpaa
open Go.ChangeMaps (open_string shut_string)

structure Act where
  what : Int
  now : Int
  size : Int
  s : Int
  k : Int
  handle : ByteArray
  name : ByteArray
  data : ByteArray
def Act.cells (x : Act) : List Value := [.int .i64 x.what, .int .i64 x.now, .int .i64 x.size, .int .i64 x.s, .int .i64 x.k, .string x.handle, .string x.name, .string x.data]
def Act.ok (x : Act) : Prop := (-9223372036854775808 ≤ x.what ∧ x.what ≤ 9223372036854775807) ∧ (-9223372036854775808 ≤ x.now ∧ x.now ≤ 9223372036854775807) ∧ (-9223372036854775808 ≤ x.size ∧ x.size ≤ 9223372036854775807) ∧ (-9223372036854775808 ≤ x.s ∧ x.s ≤ 9223372036854775807) ∧ (-9223372036854775808 ≤ x.k ∧ x.k ≤ 9223372036854775807)
def Act.kinds : List SK := [.int .i64, .int .i64, .int .i64, .int .i64, .int .i64, .str, .str, .str]
theorem Act.of_row : ∀ row : List Value, RowS Act.kinds row → ∃ x : Act, row = x.cells ∧ x.ok := by
  intro row h
  have hl := RowS_length h
  match row, hl, h with
  | [v0, v1, v2, v3, v4, v5, v6, v7], _, h =>
    obtain ⟨⟨x0, rfl, h0⟩, ⟨x1, rfl, h1⟩, ⟨x2, rfl, h2⟩, ⟨x3, rfl, h3⟩, ⟨x4, rfl, h4⟩, ⟨x5, rfl, _⟩, ⟨x6, rfl, _⟩, ⟨x7, rfl, _⟩, _⟩ := h
    exact ⟨⟨x0, x1, x2, x3, x4, x5, x6, x7⟩, rfl, ⟨wf_i64 h0, wf_i64 h1, wf_i64 h2, wf_i64 h3, wf_i64 h4⟩⟩

theorem okWide_struct {P : Program} {w : World} {r : Reach} {base : Nat} {t : TypeId} {v : Value} {fs : Array Field} (ht : P.underlying t = some (.struct fs)) (h : Value.okWide P w r base t v) : ∃ cs, v = .agg cs ∧ cs.size = P.cellsOf t := by
  simp only [Value.okWide, ht] at h
  obtain ⟨cs, h1, h2, _⟩ := h
  exact ⟨cs, h1, h2⟩
/-- no cache answers -/
theorem attr_nil (h : ByteArray) (now : Int) {w0 w : World} {F : List Assn} (H : St w0 w F) :
    Calls Try.prog 14 #[.pointer none, .string h, .int .i64 now] w fun r w' => r = .returned (.tuple #[.agg (attrC 0 0 0 0), .bool false]) ∧ St w0 w' F := by
  have HZ := H.alloc (attrC 0 0 0 0) 30
  go_enter Try.func14, Try.ntmps14
  go_wp2_with (with_reducible refine hold_store ?_)
  unfold Hold
  with_reducible refine wpList_store_st (ty := 30) (HZ) (attrC 0 0 0 0) ?_ ?_ ?_ ?_ ?_ ?_ ?_
  rfl
  rfl
  rfl
  rfl
  kernel_rfl
  rfl
  intro w4 H4
  go_wp2_with (fail)
  refine bodyPost_ret (results_cell1 rfl _ _ w.heap.size 30 (attrC 0 0 0 0) (0, 0) _ rfl H4.block Try.underlying30 rfl (by kernel_rfl)) rfl ?_
  exact ⟨rfl, H4.tail⟩
set_option maxRecDepth 100000 in
set_option maxHeartbeats 4000000 in
theorem walk (w : World) (a : Act) (_ha : a.ok) :
    Calls Try.prog 6 #[.agg a.cells.toArray] w fun r w' => r = .returned (.bool true) ∧ Below w.heap.size w w' := by
  obtain ⟨what, now, size, s, k, handle, name, data⟩ := a
  have H0 := (St.init w).alloc #[.int .i64 what, .int .i64 now, .int .i64 size, .int .i64 s, .int .i64 k, .string handle, .string name, .string data] 46
  show Calls Try.prog 6 #[.agg #[.int .i64 what, .int .i64 now, .int .i64 size, .int .i64 s, .int .i64 k, .string handle, .string name, .string data]] w _
  go_enter Try.func6, Try.ntmps6
  go_wp2_with (fail)
  refine (speaks_ok H0).mono ?_
  rintro e w1 ⟨rfl, H1⟩
  clear H0
  generalize w.heap.size = bx at *
  have q1 := H1.cell 1 (v := .int .i64 now) rfl
  have q4 := H1.cell 4 (v := .int .i64 k) rfl
  have q5 := H1.cell 5 (v := .string handle) rfl
  have q6 := H1.cell 6 (v := .string name) rfl
  have q7 := H1.cell 7 (v := .string data) rfl
  go_wp2_with (fail)
  refine (bind_nil handle name data now w1).mono ?_
  rintro e w2 ⟨rfl, rfl⟩
  go_wp2_with (fail)
  refine (hold_nil handle k data w2).mono ?_
  rintro e w3 ⟨rfl, rfl⟩
  go_wp2_with (fail)
  refine (loose_nil handle name w3).mono ?_
  rintro e w4 ⟨rfl, rfl⟩
  go_wp2_with (fail)
  refine (forget_nil handle H1).mono ?_
  rintro e w5 ⟨rfl, H2⟩
  clear q1 q4 q5 q6 q7 H1
  have q1 := H2.cell 1 (v := .int .i64 now) rfl
  have q5 := H2.cell 5 (v := .string handle) rfl
  go_wp2_with (fail)
  refine (attr_nil handle now H2).mono ?_
  rintro e w6 ⟨rfl, H3⟩
  clear q1 q5 H2
  have HZ := H3.alloc (attrC 0 0 0 0) 30
  go_wp2_with (with_reducible refine hold_store ?_)
  unfold Hold
  with_reducible refine wpList_store_st (ty := 30) (HZ) (attrC 0 0 0 0) ?_ ?_ ?_ ?_ ?_ ?_ ?_
  rfl
  rfl
  rfl
  rfl
  kernel_rfl
  rfl
  intro w7 H4
  clear HZ H3
  generalize w6.heap.size = by_ at *
  have q1 := H4.r2.cell 1 (v := .int .i64 now) rfl
  have q4 := H4.r2.cell 4 (v := .int .i64 k) rfl
  have q5 := H4.r2.cell 5 (v := .string handle) rfl
  have q6 := H4.r2.cell 6 (v := .string name) rfl
  go_wp2_with (fail)
  refine (name_nil handle name now w7).mono ?_
  rintro e w8 ⟨rfl, rfl⟩
  go_wp2_with (fail)
  refine (piece_nil handle k w8).mono ?_
  rintro e w9 ⟨rfl, rfl⟩
  go_wp2_with (with_reducible refine hold_load ?_)
  unfold Hold
  (with_reducible refine wpList_load_st (ty := 30) H4 ?_ ?_ Try.underlying30 ?_ ?_ ?_)
  rfl
  rfl
  rfl
  kernel_rfl
  have hgd : Try.prog.eqGuardType Try.prog.depth 30 = false := by kernel_rfl
  go_wp2_with (fail)
  refine (learn_nil handle 0 0 0 0 now H4).mono ?_
  rintro e w10 ⟨rfl, H5⟩
  go_wp2_with (fail)
  go_ret
  exact ⟨rfl, H5.below⟩
theorem own : ownKnob Try.prog.godebug = none := by kernel_rfl
theorem laidOut : laidOutB Try.prog = true := by kernel_rfl
theorem readable : ∀ t ∈ Try.f6.params.toList, Try.prog.readableRec t = true ∧ t < Try.prog.types.size := by
  intro t ht
  rw [Try.params6] at ht
  simp only [List.mem_cons, List.not_mem_nil, or_false] at ht
  subst ht
  exact ⟨by kernel_rfl, of_decide_eq_true (by kernel_rfl)⟩
theorem contract (H : Type) (enc : TypeId × Value → H) (W : World) (base : Nat) (args : Array Value) (ds gs : List (DataW H)) (before : List MemPlace)
    (hval : ∀ (j : Nat) t v, Try.f6.params[j]? = some t → args[j]? = some v → Value.okWide Try.prog W .any base t v)
    (hW : DataW.Whole enc Try.prog Try.f6.params.toList Rows.cacheNilSpec.vars false W args.toList ds gs before) :
    Calls Try.prog 6 args W fun e W' => ∃ v, e = .returned v ∧ Rows.cacheNilSpec.post enc Try.prog Try.f6 false true false false W args v W' := by
  have hW' := hW
  obtain ⟨p, q, hA0, hV, rfl, _, _⟩ := hW
  have hA : DataW.TrodAll enc Try.prog W 0 (fun _ => true) true Try.f6.params.toList args.toList ds p := hA0
  rw [Try.params6] at hA hval
  obtain ⟨v0, vs0, d0, ds0, p0, q0, hargs, rfl, rfl, h0, r0⟩ := trodAll_cons hA
  obtain ⟨rfl, rfl, rfl⟩ := trodAll_nil r0
  obtain rfl : args = #[v0] := by cases args; simp_all
  obtain ⟨rfl, rfl⟩ := trodVars_none hV
  clear hA0
  obtain ⟨cs0, hv0, hsz0⟩ := okWide_struct Try.underlying46 (hval 0 46 v0 rfl rfl)
  subst hv0
  obtain ⟨l0⟩ := cs0
  obtain ⟨fuel0, hf0⟩ := h0
  obtain ⟨hrow0, hbulk0⟩ := trod_flat 8 46 Act.kinds (by kernel_rfl) _ _ _ hf0
  simp only [Value.cells] at hrow0 hbulk0
  obtain ⟨a, hx0, hok0⟩ := Act.of_row _ hrow0
  try dsimp only at hx0
  subst hx0
  refine (walk W a hok0).mono fun e W' ⟨he, hb⟩ => ?_
  exact ⟨_, he, law_post (tb := 4) laidOut readable rfl Try.underlying4 rfl hW' rfl rfl rfl hb⟩
set_option maxRecDepth 100000 in
theorem lifted (os : Os) (started : os.Started) (H : Type) (enc : TypeId × Value → H) :
    ReturnsInHanded {} Try.checked os 6 .any (Rows.cacheNilSpec.pre6 enc Try.prog Try.f6 Rows.cacheNilRow.domain false) (Rows.cacheNilSpec.post enc Try.prog Try.f6 false true false false) := by
  refine returnsInHanded_of_change (C := Try.checked) (s := Rows.cacheNilSpec) own started (by kernel_rfl) Try.func6
    (ChangeSpec.witness6 (enc := enc) (C := Try.checked) false ⟨#[], #[.agg #[.int .i64 0, .int .i64 0, .int .i64 0, .int .i64 0, .int .i64 0, .string .empty, .string .empty, .string .empty]], []⟩ 8 (by kernel_rfl) (by kernel_rfl) (by kernel_rfl) (by kernel_rfl)) ?_
  intro W base args ds gs before hval hW _ _
  exact contract H enc W base args ds gs before hval hW
theorem proved : Rows.CacheNilSaid :=
  OpenClaim.holds_of_wide 6 Try.f6 rfl rfl rfl rfl rfl rfl rfl ⟨rfl, rfl, rfl, rfl, rfl⟩ rfl rfl rfl rfl rfl (by kernel_rfl) Try.func6 (by kernel_rfl)
    (of_decide_eq_true (by kernel_rfl)) (by unfold Func.isWrapper; first | (rw [if_pos (by decide +kernel)]; kernel_rfl) | (rw [if_neg (by decide +kernel)]; exact ⟨rfl, rfl⟩))
    (fun os started H enc _ => lifted os started H enc)
#print axioms proved

end Go.Proofs.Ytnehdcaobkedpaa.CacheNil

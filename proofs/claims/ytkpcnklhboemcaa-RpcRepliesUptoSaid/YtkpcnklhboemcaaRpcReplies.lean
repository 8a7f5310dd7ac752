/- RpcReplies: the bytes of every reply, and back; and any bytes as a reply: of texts of bulk at most 1048576. -/
import Derived.Test.YtkpcnklhboemcaaRpM
import Derived.Test.YtkpcnklhboemcaaRpN
import Derived.Test.YtkpcnklhboemcaaRpF
import Derived.Test.YtkpcnklhboemcaaLift
namespace Go.Proofs.Ytkpcnklhboemcaa.RpcReplies
open Go.RowKit Go.ChangeShapes Go.WideShapes Go.ChangeAt Go.Proofs.Ytkpcnklhboemcaa
open Go.ChangeMaps (open_string shut_string)

theorem rep_eq2 (a0 a1 a2 a3 : Int) (a4 : ByteArray) (w : World) : (Op.equalIn 10000 54 (.agg #[.int .i64 a0, .int .i64 a1, .int .i64 a2, .int .i64 a3, .string a4]) (.agg #[.int .i64 a0, .int .i64 a1, .int .i64 a2, .int .i64 a3, .string a4])).run Try.prog w = .ok true w := by
  rw [run_equalIn_agg w 9999 54 _ _ (by kernel_rfl) (by kernel_rfl)]
  have hf : (Try.prog.fieldsOf 54).toList = (match Try.prog.underlying 54 with | some (.struct fs) => fs.toList | _ => []) := by kernel_rfl
  rw [hf, Try.underlying54]
  have hi := Try.underlying3
  have hb := Try.underlying9
  simp [go_sem, hi, hb]
theorem same_rep (a0 a1 a2 a3 : Int) (a4 : ByteArray) (w : World) : (Op.equalIn 10000 49 (.agg #[.int .i64 a0, .int .i64 a1, .int .i64 a2, .int .i64 a3, .string a4]) (.agg #[.int .i64 a0, .int .i64 a1, .int .i64 a2, .int .i64 a3, .string a4])).run Try.prog w = .ok true w := by
  rw [rep_eq]; simp
theorem get_shape (s : ByteArray) : (65536 < s.size → Rep.get s = (Rep.zero, 2)) ∧ (¬ 65536 < s.size → (Rep.get s).2 = 0 ∨ (Rep.get s).2 = 4) := by
  unfold Rep.get
  refine ⟨fun h => by rw [if_pos h], fun h => ?_⟩
  rw [if_neg h]
  split
  · exact .inr rfl
  · split
    · exact .inl rfl
    · exact .inr rfl
set_option maxRecDepth 100000 in
set_option maxHeartbeats 16000000 in
theorem walk (w : World) (n0 : Int) (h0 : -9223372036854775808 ≤ n0 ∧ n0 ≤ 9223372036854775807) (n1 : Int) (h1 : -9223372036854775808 ≤ n1 ∧ n1 ≤ 9223372036854775807) (n2 : Int) (h2 : -9223372036854775808 ≤ n2 ∧ n2 ≤ 9223372036854775807) (n3 : Int) (h3 : -9223372036854775808 ≤ n3 ∧ n3 ≤ 9223372036854775807)
    (body : ByteArray) (hb : body.size ≤ 1048576) (s : ByteArray) (hs : s.size ≤ 1048576) :
    Calls Try.prog 7 #[.agg #[.int .i64 n0, .int .i64 n1, .int .i64 n2, .int .i64 n3], .string body, .string s] w fun r w' => r = .returned (.bool true) ∧ Below w.heap.size w w' := by
  have H0 := (St.init w).alloc #[.int .i64 n0, .int .i64 n1, .int .i64 n2, .int .i64 n3] 22
  obtain ⟨p, hp⟩ : ∃ p, p = Rep.put ⟨n0, n1, n2, n3, body⟩ := ⟨_, rfl⟩
  obtain ⟨X, e⟩ := p
  obtain ⟨g, hge⟩ : ∃ g, g = Rep.get s := ⟨_, rfl⟩
  have hsh := get_shape s
  rw [← hge] at hsh
  obtain ⟨⟨g0, g1, g2, g3, g4⟩, ge⟩ := g
  dsimp only at hsh
  have HP := Lib.hid hp; have HSH := Lib.hid hsh
  have HGE := Lib.hid hge.symm
  clear hp h0 h1 h2 h3 hsh hge
  go_enter Try.func7, Try.ntmps7
  go_wp2_with (fail)
  refine (speaks_ok H0).mono ?_
  rintro x w1 ⟨rfl, H1⟩
  clear H0
  generalize w.heap.size = b3 at H1 ⊢
  have p0 := H1.cell 0 rfl
  have p1 := H1.cell 1 rfl
  have p2 := H1.cell 2 rfl
  have p3 := H1.cell 3 rfl
  go_wp2_with (fail)
  refine (putreply_ok ⟨n0, n1, n2, n3, body⟩ (by dsimp only; omega) H1).mono ?_
  rw [← HP.out]
  rintro x w2 ⟨rfl, H2⟩
  clear H1 p0 p1 p2 p3
  have p0 := H2.cell 0 rfl
  have p1 := H2.cell 1 rfl
  have p2 := H2.cell 2 rfl
  have p3 := H2.cell 3 rfl
  dsimp only
  go_wp2_with (fail)
  refine (refput_ok ⟨n0, n1, n2, n3, body⟩ (by dsimp only; omega) H2).mono ?_
  rw [← HP.out]
  rintro x w3 ⟨rfl, H3⟩
  clear H2 p0 p1 p2 p3
  have p0 := H3.cell 0 rfl
  have p1 := H3.cell 1 rfl
  have p2 := H3.cell 2 rfl
  have p3 := H3.cell 3 rfl
  dsimp only
  have hx : (X.toList == X.toList) = true := by simp
  by_cases he : e = 0
  · have he' : (e == 0) = true := beq_iff_eq.2 he
    have hput : (⟨n0, n1, n2, n3, body⟩ : Rep).put = (X, 0) := by rw [← HP.out, he]
    have hgr : Rep.get X = (⟨n0, n1, n2, n3, body⟩, 0) := get_hit (cand_of_put hput).1 |>.trans (by rw [(cand_of_put hput).2])
    have HGR := Lib.hid hgr
    clear hput hgr he
    go_wp2_with (fail)
    refine (getreply_ok X H3).mono ?_
    rw [HGR.out]
    rintro x w4 ⟨rfl, H4⟩
    clear H3 p0 p1 p2 p3
    dsimp only [Rep.cells]
    have H4' := H4.alloc #[.int .i64 n0, .int .i64 n1, .int .i64 n2, .int .i64 n3, .string body] 49
    go_upto_region 9 with (fail)
    generalize w4.alloc (.cells #[.int .i64 n0, .int .i64 n1, .int .i64 n2, .int .i64 n3, .string body] 49) = w5 at *
    generalize w4.heap.size = b11 at *
    clear H4
    have p0 := H4'.r2.cell 0 rfl
    have p1 := H4'.r2.cell 1 rfl
    have p2 := H4'.r2.cell 2 rfl
    have p3 := H4'.r2.cell 3 rfl
    have r0 := H4'.cell 0 rfl
    have r1 := H4'.cell 1 rfl
    have r2 := H4'.cell 2 rfl
    have r3 := H4'.cell 3 rfl
    have r4 := H4'.cell 4 rfl
    have hq : ∀ w, (binOp .neq 49 (.agg #[.int .i64 n0, .int .i64 n1, .int .i64 n2, .int .i64 n3, .string body]) (.agg #[.int .i64 n0, .int .i64 n1, .int .i64 n2, .int .i64 n3, .string body])).run Try.prog w = .ok (.bool false) w := fun w => by
      rw [run_neq_struct, same_rep]; rfl
    go_wp2_with (fail)
    clear p0 p1 p2 p3 r0 r1 r2 r3 r4 hq
    go_wp2_with (fail)
    refine (getreply_ok s H4').mono ?_
    rw [HGE.out]
    rintro x w5 ⟨rfl, H5⟩
    dsimp only [Rep.cells]
    have H6 := H5.alloc #[.int .i64 g0, .int .i64 g1, .int .i64 g2, .int .i64 g3, .string g4] 49
    go_wp2_with (fail)
    generalize w5.alloc (.cells #[.int .i64 g0, .int .i64 g1, .int .i64 g2, .int .i64 g3, .string g4] 49) = w6 at *
    generalize w5.heap.size = b13 at *
    clear H5
    refine (refget_ok s (by omega) H6).mono ?_
    rw [HGE.out]
    rintro x w7 ⟨rfl, H7⟩
    dsimp only [Rep.cells]
    have H8 := H7.alloc #[.int .i64 g0, .int .i64 g1, .int .i64 g2, .int .i64 g3, .string g4] 54
    by_cases hl : 65536 < s.size
    · have hl' : decide (65536 < (s.size : Int)) = true := decide_eq_true (by omega)
      have hz := HSH.out.1 hl
      unfold Rep.zero at hz
      injection hz with hz hz2
      injection hz with z0 z1 z2 z3 z4
      subst hz2 z0 z1 z2 z3 z4
      have q0 := H8.r2.cell 0 rfl
      have q1 := H8.r2.cell 1 rfl
      have q2 := H8.r2.cell 2 rfl
      have q3 := H8.r2.cell 3 rfl
      have q4 := H8.r2.cell 4 rfl
      have hq : ∀ w, (binOp .eql 49 (.agg #[.int .i64 0, .int .i64 0, .int .i64 0, .int .i64 0, .string ByteArray.empty]) (.agg #[.int .i64 0, .int .i64 0, .int .i64 0, .int .i64 0, .string ⟨#[]⟩])).run Try.prog w = .ok (.bool true) w := fun w => by
        rw [run_eql_struct]; show (Result.andThen ((Op.equalIn 10000 49 _ _).run Try.prog w) _) = _; rw [show ByteArray.empty = (⟨#[]⟩ : ByteArray) from rfl, same_rep]; rfl
      clear hl
      go_wp2_with (fail)
      go_ret
      exact ⟨rfl, H8.below⟩
    · have hl' : decide (65536 < (s.size : Int)) = false := decide_eq_false (by omega)
      rcases HSH.out.2 hl with rfl | rfl
      · have q0 := H8.r2.cell 0 rfl
        have q1 := H8.r2.cell 1 rfl
        have q2 := H8.r2.cell 2 rfl
        have q3 := H8.r2.cell 3 rfl
        have q4 := H8.r2.cell 4 rfl
        have r0 := H8.cell 0 rfl
        have r1 := H8.cell 1 rfl
        have r2 := H8.cell 2 rfl
        have r3 := H8.cell 3 rfl
        have r4 := H8.cell 4 rfl
        have hq : ∀ w, (binOp .eql 54 (.agg #[.int .i64 g0, .int .i64 g1, .int .i64 g2, .int .i64 g3, .string g4]) (.agg #[.int .i64 g0, .int .i64 g1, .int .i64 g2, .int .i64 g3, .string g4])).run Try.prog w = .ok (.bool true) w := fun w => by
          rw [run_eql_struct, rep_eq2]; rfl
        clear hl
        go_wp2_with (fail)
        go_ret
        exact ⟨rfl, H8.below⟩
      · have q0 := H8.r2.cell 0 rfl
        have q1 := H8.r2.cell 1 rfl
        have q2 := H8.r2.cell 2 rfl
        have q3 := H8.r2.cell 3 rfl
        have q4 := H8.r2.cell 4 rfl
        have r0 := H8.cell 0 rfl
        have r1 := H8.cell 1 rfl
        have r2 := H8.cell 2 rfl
        have r3 := H8.cell 3 rfl
        have r4 := H8.cell 4 rfl
        have hq : ∀ w, (binOp .eql 54 (.agg #[.int .i64 g0, .int .i64 g1, .int .i64 g2, .int .i64 g3, .string g4]) (.agg #[.int .i64 g0, .int .i64 g1, .int .i64 g2, .int .i64 g3, .string g4])).run Try.prog w = .ok (.bool true) w := fun w => by
          rw [run_eql_struct, rep_eq2]; rfl
        clear hl
        go_wp2_with (fail)
        go_ret
        exact ⟨rfl, H8.below⟩
  · have he' : (e == 0) = false := beq_eq_false_iff_ne.2 he
    clear he p0 p1 p2 p3
    go_wp2_with (fail)
    refine (getreply_ok s H3).mono ?_
    rw [HGE.out]
    rintro x w5 ⟨rfl, H5⟩
    dsimp only [Rep.cells]
    have H6 := H5.alloc #[.int .i64 g0, .int .i64 g1, .int .i64 g2, .int .i64 g3, .string g4] 49
    go_wp2_with (fail)
    generalize w5.alloc (.cells #[.int .i64 g0, .int .i64 g1, .int .i64 g2, .int .i64 g3, .string g4] 49) = w6 at *
    generalize w5.heap.size = b13 at *
    clear H5
    refine (refget_ok s (by omega) H6).mono ?_
    rw [HGE.out]
    rintro x w7 ⟨rfl, H7⟩
    dsimp only [Rep.cells]
    have H8 := H7.alloc #[.int .i64 g0, .int .i64 g1, .int .i64 g2, .int .i64 g3, .string g4] 54
    by_cases hl : 65536 < s.size
    · have hl' : decide (65536 < (s.size : Int)) = true := decide_eq_true (by omega)
      have hz := HSH.out.1 hl
      unfold Rep.zero at hz
      injection hz with hz hz2
      injection hz with z0 z1 z2 z3 z4
      subst hz2 z0 z1 z2 z3 z4
      have q0 := H8.r2.cell 0 rfl
      have q1 := H8.r2.cell 1 rfl
      have q2 := H8.r2.cell 2 rfl
      have q3 := H8.r2.cell 3 rfl
      have q4 := H8.r2.cell 4 rfl
      have hq : ∀ w, (binOp .eql 49 (.agg #[.int .i64 0, .int .i64 0, .int .i64 0, .int .i64 0, .string ByteArray.empty]) (.agg #[.int .i64 0, .int .i64 0, .int .i64 0, .int .i64 0, .string ⟨#[]⟩])).run Try.prog w = .ok (.bool true) w := fun w => by
        rw [run_eql_struct]; show (Result.andThen ((Op.equalIn 10000 49 _ _).run Try.prog w) _) = _; rw [show ByteArray.empty = (⟨#[]⟩ : ByteArray) from rfl, same_rep]; rfl
      clear hl
      go_wp2_with (fail)
      go_ret
      exact ⟨rfl, H8.below⟩
    · have hl' : decide (65536 < (s.size : Int)) = false := decide_eq_false (by omega)
      rcases HSH.out.2 hl with rfl | rfl
      · have q0 := H8.r2.cell 0 rfl
        have q1 := H8.r2.cell 1 rfl
        have q2 := H8.r2.cell 2 rfl
        have q3 := H8.r2.cell 3 rfl
        have q4 := H8.r2.cell 4 rfl
        have r0 := H8.cell 0 rfl
        have r1 := H8.cell 1 rfl
        have r2 := H8.cell 2 rfl
        have r3 := H8.cell 3 rfl
        have r4 := H8.cell 4 rfl
        have hq : ∀ w, (binOp .eql 54 (.agg #[.int .i64 g0, .int .i64 g1, .int .i64 g2, .int .i64 g3, .string g4]) (.agg #[.int .i64 g0, .int .i64 g1, .int .i64 g2, .int .i64 g3, .string g4])).run Try.prog w = .ok (.bool true) w := fun w => by
          rw [run_eql_struct, rep_eq2]; rfl
        clear hl
        go_wp2_with (fail)
        go_ret
        exact ⟨rfl, H8.below⟩
      · have q0 := H8.r2.cell 0 rfl
        have q1 := H8.r2.cell 1 rfl
        have q2 := H8.r2.cell 2 rfl
        have q3 := H8.r2.cell 3 rfl
        have q4 := H8.r2.cell 4 rfl
        have r0 := H8.cell 0 rfl
        have r1 := H8.cell 1 rfl
        have r2 := H8.cell 2 rfl
        have r3 := H8.cell 3 rfl
        have r4 := H8.cell 4 rfl
        have hq : ∀ w, (binOp .eql 54 (.agg #[.int .i64 g0, .int .i64 g1, .int .i64 g2, .int .i64 g3, .string g4]) (.agg #[.int .i64 g0, .int .i64 g1, .int .i64 g2, .int .i64 g3, .string g4])).run Try.prog w = .ok (.bool true) w := fun w => by
          rw [run_eql_struct, rep_eq2]; rfl
        clear hl
        go_wp2_with (fail)
        go_ret
        exact ⟨rfl, H8.below⟩
theorem own : ownKnob Try.prog.godebug = none := by kernel_rfl
theorem laidOut : laidOutB Try.prog = true := by kernel_rfl
theorem readable : ∀ t ∈ Try.f7.params.toList, Try.prog.readableRec t = true ∧ t < Try.prog.types.size := by
  intro t ht
  rw [Try.params7] at ht
  simp only [List.mem_cons, List.not_mem_nil, or_false] at ht
  rcases ht with rfl | rfl | rfl
  all_goals exact ⟨by kernel_rfl, of_decide_eq_true (by kernel_rfl)⟩
theorem contract (H : Type) (enc : TypeId × Value → H) (W : World) (base : Nat) (args : Array Value) (ds gs : List (DataW H)) (before : List MemPlace)
    (hval : ∀ (j : Nat) t v, Try.f7.params[j]? = some t → args[j]? = some v → Value.okWide Try.prog W .any base t v)
    (hW : DataW.Whole enc Try.prog Try.f7.params.toList Rows.rpcRepliesSpec.vars false W args.toList ds gs before) (hk : Rows.uptoSmall H (ds ++ gs) = true) :
    Calls Try.prog 7 args W fun e W' => ∃ v, e = .returned v ∧ Rows.rpcRepliesSpec.post enc Try.prog Try.f7 false true false false W args v W' := by
  have hW' := hW
  obtain ⟨p, q, hA0, hV, rfl, _, _⟩ := hW
  have hA : DataW.TrodAll enc Try.prog W 0 (fun _ => true) true Try.f7.params.toList args.toList ds p := hA0
  rw [Try.params7] at hA hval
  obtain ⟨v0, vs0, d0, ds0, p0, q0, hargs, rfl, rfl, h0, r0⟩ := trodAll_cons hA
  obtain ⟨v1, vs1, d1, ds1, p1, q1, rfl, rfl, rfl, h1, r1⟩ := trodAll_cons r0
  obtain ⟨v2, vs2, d2, ds2, p2, q2, rfl, rfl, rfl, h2, r2⟩ := trodAll_cons r1
  obtain ⟨rfl, rfl, rfl⟩ := trodAll_nil r2
  obtain rfl : args = #[v0, v1, v2] := by cases args; simp_all
  obtain ⟨rfl, rfl⟩ := trodVars_none hV
  clear hA0
  have hk2 : Rows.uptoBulkAll _ ≤ 1048576 := of_decide_eq_true hk
  rw [List.append_nil] at hk2
  obtain ⟨cs0, hv0, hsz0⟩ := okWide_array Try.underlying22 (hval 0 22 v0 rfl rfl)
  subst hv0
  rw [show Try.prog.cellsOf 22 = 4 by kernel_rfl] at hsz0
  obtain ⟨l0⟩ := cs0
  obtain ⟨fuel0, hf0⟩ := h0
  obtain ⟨hrow0, hbulk0⟩ := trod_flat 8 22 [.int .i64, .int .i64, .int .i64, .int .i64] (by kernel_rfl) _ _ _ hf0
  simp only [Value.cells] at hrow0 hbulk0
  match l0, hsz0, hrow0, hbulk0, hval, hf0, hW', hk2 with
  | [c0_0, c0_1, c0_2, c0_3], _, hrow0, hbulk0, hval, hf0, hW', hk2 =>
  obtain ⟨⟨n0, rfl, wn0⟩, ⟨n1, rfl, wn1⟩, ⟨n2, rfl, wn2⟩, ⟨n3, rfl, wn3⟩, _⟩ := hrow0
  obtain ⟨body, rfl, rfl, rfl, wbody⟩ := open_string Try.underlying9 (hval 1 9 v1 rfl rfl) h1
  obtain ⟨s, rfl, rfl, rfl, ws⟩ := open_string Try.underlying9 (hval 2 9 v2 rfl rfl) h2
  refine (walk W n0 (wf_i64 wn0) n1 (wf_i64 wn1) n2 (wf_i64 wn2) n3 (wf_i64 wn3) body (by
    have hz : (body.data.toList).length = body.size := bl_length body
    simp only [Rows.uptoBulkAll, Rows.uptoBulk] at hk2
    omega) s (by
    have hz : (s.data.toList).length = s.size := bl_length s
    simp only [Rows.uptoBulkAll, Rows.uptoBulk] at hk2
    omega)).mono fun e W' ⟨he, hb⟩ => ?_
  exact ⟨_, he, law_post (tb := 4) laidOut readable rfl Try.underlying4 rfl hW' rfl rfl rfl hb⟩
set_option maxRecDepth 100000 in
theorem lifted (os : Os) (started : os.Started) (H : Type) (enc : TypeId × Value → H) (F : Stop.Interp) :
    ReturnsInHanded {} Try.checked os 7 .any ((Rows.OpenSpec.upto Rows.rpcRepliesSpec).pre6 enc Try.prog Try.f7 Rows.rpcRepliesUptoRow.domain false) (((Rows.OpenSpec.upto Rows.rpcRepliesSpec).at F).post enc Try.prog Try.f7 false true false false) := by
  refine returnsInHanded_of_cond (C := Try.checked) (s := Rows.OpenSpec.upto Rows.rpcRepliesSpec) (k := Rows.uptoSmall) rfl own started (by kernel_rfl) Try.func7
    (OpenSpec.witness (enc := enc) (C := Try.checked) (s := Rows.OpenSpec.upto Rows.rpcRepliesSpec) (k := Rows.uptoSmall) rfl false ⟨#[], #[.agg #[.int .i64 0, .int .i64 0, .int .i64 0, .int .i64 0], .string .empty, .string .empty], []⟩ 8 (by kernel_rfl) (by kernel_rfl) (by kernel_rfl)
      (x := ([.agg [.lit (.int .i64 0), .lit (.int .i64 0), .lit (.int .i64 0), .lit (.int .i64 0)], .lit (.string []), .lit (.string [])], [], [])) (by kernel_rfl) rfl (by kernel_rfl)) ?_
  intro W base args ds gs before hval hW _ hk _
  exact contract H enc W base args ds gs before hval hW hk
theorem proved : Rows.RpcRepliesUptoSaid :=
  OpenClaim.holds_of_cond 7 Try.f7 rfl rfl rfl rfl rfl rfl rfl ⟨rfl, rfl, rfl, rfl, rfl⟩ rfl rfl rfl rfl rfl (by kernel_rfl) Try.func7 (by kernel_rfl)
    (of_decide_eq_true (by kernel_rfl)) (by unfold Func.isWrapper; first | (rw [if_pos (by decide +kernel)]; kernel_rfl) | (rw [if_neg (by decide +kernel)]; exact ⟨rfl, rfl⟩))
    (fun os started H enc _ F => lifted os started H enc F)
#print axioms proved

end Go.Proofs.Ytkpcnklhboemcaa.RpcReplies

/- RpcCut: a call that is cut short, ahead of its arguments, is no call; what is cut off in fours behind that leaves one with shorter arguments: of arguments of bulk at most 1048576. -/
import Derived.Test.YtkpcnklhboemcaaRpM
import Derived.Test.YtkpcnklhboemcaaLift
namespace Go.Proofs.Ytkpcnklhboemcaa.RpcCut
open Go.RowKit Go.ChangeShapes Go.WideShapes Go.ChangeAt Go.Proofs.Ytkpcnklhboemcaa
open Go.ChangeMaps (open_string shut_string)

set_option maxRecDepth 100000 in
set_option maxHeartbeats 8000000 in
theorem walk (w : World) (n0 : Int) (h0 : -9223372036854775808 ≤ n0 ∧ n0 ≤ 9223372036854775807) (n1 : Int) (h1 : -9223372036854775808 ≤ n1 ∧ n1 ≤ 9223372036854775807) (n2 : Int) (h2 : -9223372036854775808 ≤ n2 ∧ n2 ≤ 9223372036854775807) (n3 : Int) (h3 : -9223372036854775808 ≤ n3 ∧ n3 ≤ 9223372036854775807)
    (args : ByteArray) (ha : args.size ≤ 1048576) (cut : Int) (hcut : -9223372036854775808 ≤ cut ∧ cut ≤ 9223372036854775807) :
    Calls Try.prog 6 #[.agg #[.int .i64 n0, .int .i64 n1, .int .i64 n2, .int .i64 n3], .string args, .int .i64 cut] w fun r w' => r = .returned (.bool true) ∧ Below w.heap.size w w' := by
  have H0 := (St.init w).alloc #[.int .i64 n0, .int .i64 n1, .int .i64 n2, .int .i64 n3] 22
  obtain ⟨p, hp⟩ : ∃ p, p = Cal.put (bare n0 n1 n2 n3 args) := ⟨_, rfl⟩
  obtain ⟨S, e⟩ := p
  have hpc := fun w' => bare_put n0 n1 n2 n3 args (by omega) w'
  rw [← hp] at hpc
  dsimp only at hpc
  have HPC := Lib.hid hpc; have HP := Lib.hid hp; clear hpc hp h0 h1 h2 h3
  go_enter Try.func6, Try.ntmps6
  go_wp2_with (fail)
  refine (speaks_ok H0).mono ?_
  rintro x w1 ⟨rfl, H1⟩
  clear H0
  have p0 := H1.cell 0 rfl
  have p1 := H1.cell 1 rfl
  have p2 := H1.cell 2 rfl
  have p3 := H1.cell 3 rfl
  go_wp2_with (fail)
  refine (HPC.out w1).mono ?_
  rintro x w2 ⟨rfl, K⟩
  have H2 := H1.frame K
  rw [List.nil_append] at H2
  clear H1 K p0 p1 p2 p3
  by_cases he : e = 0
  rotate_left 1
  · have he' : (e != 0) = true := bne_iff_ne.2 he
    go_wp2_with (fail)
    go_ret
    exact ⟨rfl, H2.below⟩
  have he' : (e != 0) = false := by rw [he]; rfl
  have hput : (bare n0 n1 n2 n3 args).put = (S, 0) := by rw [← HP.out, he]
  have hsz : S.size = 40 + args.size := (get_cut hput rfl 0 (Nat.zero_le _)).2.2
  have HPUT := Lib.hid hput; clear hput he
  by_cases hv : 0 ≤ cut ∧ cut ≤ S.size
  · obtain ⟨q, rfl⟩ : ∃ q : Nat, cut = (q : Int) := ⟨cut.toNat, by omega⟩
    have hq : q ≤ S.size := by omega
    have a1 : decide ((q : Int) < 0) = false := decide_eq_false (by omega)
    have a2 : decide ((S.size : Int) < q) = false := decide_eq_false (by omega)
    have hi1 : (q : Int) ≤ S.size := by omega
    have hi2 : (q : Int).toNat = q := by omega
    have hge := getcall_ok (S.extract 0 q) (by have := extract_le S 0 q; omega) H2
    obtain ⟨g1, g2, _⟩ := get_cut HPUT.out rfl q hq
    by_cases h40 : 40 ≤ q
    · have b1 : decide (40 ≤ (q : Int)) = true := decide_eq_true (by omega)
      by_cases h4 : q % 4 = 0
      · have b2 : ((q : Int) % 4 == 0) = true := by simp; omega
        rw [g1 h40 h4] at hge
        clear g1 g2 hv
        have hi3 : (q : Int) - 40 ≤ args.size := by omega
        have hi4 : (0 : Int) ≤ (q : Int) - 40 := by omega
        have hi5 : ((q : Int) - 40).toNat = q - 40 := by omega
        have hsm : ((args.extract 0 (q - 40)).toList == (args.extract 0 (q - 40)).toList) = true := by simp
        go_wp2_with (fail)
        refine hge.mono ?_
        clear hge
        rintro x w3 ⟨A, d, rfl, H2⟩
        dsimp only [Cal.cells]
        have H3 := H2.tail.alloc (callC n0 n1 n2 n3 false 0 ⟨#[]⟩ 0 0 A 0 d (args.extract 0 (q - 40))) 30
        go_wp2_with (fail)
        have c8 := H3.cell 10 rfl
        go_quiet (fail)
        have H4 := H3.drewN nq
        go_wp2_with (fail)
        go_ret
        exact ⟨rfl, H4.below⟩
      · have b2 : ((q : Int) % 4 == 0) = false := by simp; omega
        obtain ⟨g3, g4⟩ := g2 (.inr h4)
        clear g1 g2 hv
        obtain ⟨⟨gc, gt, gf⟩, hgg⟩ : ∃ g, g = Cal.get (S.extract 0 q) := ⟨_, rfl⟩
        rw [← hgg] at hge g3 g4
        dsimp only at g3 g4
        subst g4
        have f1 : (gf != 0) = true := bne_iff_ne.2 g3
        clear hgg g3
        go_wp2_with (fail)
        refine hge.mono ?_
        clear hge
        rintro x w3 ⟨A, d, rfl, H2⟩
        dsimp only [Cal.cells, Cal.zero]
        have H3 := H2.tail.alloc (callC 0 0 0 0 false 0 ⟨#[]⟩ 0 0 A 0 d ⟨#[]⟩) 30
        go_wp2_with (fail)
        go_ret
        exact ⟨rfl, H3.below⟩
    · have b1 : decide (40 ≤ (q : Int)) = false := decide_eq_false (by omega)
      obtain ⟨g3, g4⟩ := g2 (.inl (by omega))
      clear g1 g2 hv
      obtain ⟨⟨gc, gt, gf⟩, hgg⟩ : ∃ g, g = Cal.get (S.extract 0 q) := ⟨_, rfl⟩
      rw [← hgg] at hge g3 g4
      dsimp only at g3 g4
      subst g4
      have f1 : (gf != 0) = true := bne_iff_ne.2 g3
      clear hgg g3
      go_wp2_with (fail)
      refine hge.mono ?_
      clear hge
      rintro x w3 ⟨A, d, rfl, H2⟩
      dsimp only [Cal.cells, Cal.zero]
      have H3 := H2.tail.alloc (callC 0 0 0 0 false 0 ⟨#[]⟩ 0 0 A 0 d ⟨#[]⟩) 30
      go_wp2_with (fail)
      go_ret
      exact ⟨rfl, H3.below⟩
  · have hge := getcall_ok (S.extract 0 3) (by have := extract_le S 0 3; omega) H2
    obtain ⟨_, g2, _⟩ := get_cut HPUT.out rfl 3 (by omega)
    obtain ⟨g3, g4⟩ := g2 (.inl (by decide))
    have hi1 : (3 : Int) ≤ S.size := by omega
    clear g2
    by_cases h0 : cut < 0
    · have a1 : decide (cut < 0) = true := decide_eq_true h0
      clear hv
      obtain ⟨⟨gc, gt, gf⟩, hgg⟩ : ∃ g, g = Cal.get (S.extract 0 3) := ⟨_, rfl⟩
      rw [← hgg] at hge g3 g4
      dsimp only at g3 g4
      subst g4
      have f1 : (gf != 0) = true := bne_iff_ne.2 g3
      clear hgg g3
      go_wp2_with (fail)
      refine hge.mono ?_
      clear hge
      rintro x w3 ⟨A, d, rfl, H2⟩
      dsimp only [Cal.cells, Cal.zero]
      have H3 := H2.tail.alloc (callC 0 0 0 0 false 0 ⟨#[]⟩ 0 0 A 0 d ⟨#[]⟩) 30
      go_wp2_with (fail)
      go_ret
      exact ⟨rfl, H3.below⟩
    · have a1 : decide (cut < 0) = false := decide_eq_false h0
      have a2 : decide ((S.size : Int) < cut) = true := decide_eq_true (by omega)
      have a3 : (S.size : Int) < cut := by omega
      clear hv h0
      obtain ⟨⟨gc, gt, gf⟩, hgg⟩ : ∃ g, g = Cal.get (S.extract 0 3) := ⟨_, rfl⟩
      rw [← hgg] at hge g3 g4
      dsimp only at g3 g4
      subst g4
      have f1 : (gf != 0) = true := bne_iff_ne.2 g3
      clear hgg g3
      go_wp2_with (fail)
      refine hge.mono ?_
      clear hge
      rintro x w3 ⟨A, d, rfl, H2⟩
      dsimp only [Cal.cells, Cal.zero]
      have H3 := H2.tail.alloc (callC 0 0 0 0 false 0 ⟨#[]⟩ 0 0 A 0 d ⟨#[]⟩) 30
      go_wp2_with (fail)
      go_ret
      exact ⟨rfl, H3.below⟩
theorem own : ownKnob Try.prog.godebug = none := by kernel_rfl
theorem laidOut : laidOutB Try.prog = true := by kernel_rfl
theorem readable : ∀ t ∈ Try.f6.params.toList, Try.prog.readableRec t = true ∧ t < Try.prog.types.size := by
  intro t ht
  rw [Try.params6] at ht
  simp only [List.mem_cons, List.not_mem_nil, or_false] at ht
  rcases ht with rfl | rfl | rfl
  all_goals exact ⟨by kernel_rfl, of_decide_eq_true (by kernel_rfl)⟩
theorem contract (H : Type) (enc : TypeId × Value → H) (W : World) (base : Nat) (args : Array Value) (ds gs : List (DataW H)) (before : List MemPlace)
    (hval : ∀ (j : Nat) t v, Try.f6.params[j]? = some t → args[j]? = some v → Value.okWide Try.prog W .any base t v)
    (hW : DataW.Whole enc Try.prog Try.f6.params.toList Rows.rpcCutSpec.vars false W args.toList ds gs before) (hk : Rows.uptoSmall H (ds ++ gs) = true) :
    Calls Try.prog 6 args W fun e W' => ∃ v, e = .returned v ∧ Rows.rpcCutSpec.post enc Try.prog Try.f6 false true false false W args v W' := by
  have hW' := hW
  obtain ⟨p, q, hA0, hV, rfl, _, _⟩ := hW
  have hA : DataW.TrodAll enc Try.prog W 0 (fun _ => true) true Try.f6.params.toList args.toList ds p := hA0
  rw [Try.params6] at hA hval
  obtain ⟨v0, vs0, d0, ds0, p0, q0, hargs, rfl, rfl, h0, r0⟩ := trodAll_cons hA
  obtain ⟨v1, vs1, d1, ds1, p1, q1, rfl, rfl, rfl, h1, r1⟩ := trodAll_cons r0
  obtain ⟨v2, vs2, d2, ds2, p2, q2, rfl, rfl, rfl, h2, r2⟩ := trodAll_cons r1
  obtain ⟨rfl, rfl, rfl⟩ := trodAll_nil r2
  obtain rfl : args = #[v0, v1, v2] := by cases args; simp_all
  obtain ⟨rfl, rfl⟩ := trodVars_none hV
  clear hA0
  have hk2 : Rows.uptoBulkAll _ ≤ 1048576 := of_decide_eq_true hk
  rw [List.append_nil] at hk2
  obtain ⟨cs0, hv0, hsz0⟩ := okWide_array Try.underlying22 (hval 0 22 v0 rfl rfl)
  subst hv0
  rw [show Try.prog.cellsOf 22 = 4 by kernel_rfl] at hsz0
  obtain ⟨l0⟩ := cs0
  obtain ⟨fuel0, hf0⟩ := h0
  obtain ⟨hrow0, hbulk0⟩ := trod_flat 8 22 [.int .i64, .int .i64, .int .i64, .int .i64] (by kernel_rfl) _ _ _ hf0
  simp only [Value.cells] at hrow0 hbulk0
  match l0, hsz0, hrow0, hbulk0, hval, hf0, hW', hk2 with
  | [c0_0, c0_1, c0_2, c0_3], _, hrow0, hbulk0, hval, hf0, hW', hk2 =>
  obtain ⟨⟨n0, rfl, wn0⟩, ⟨n1, rfl, wn1⟩, ⟨n2, rfl, wn2⟩, ⟨n3, rfl, wn3⟩, _⟩ := hrow0
  obtain ⟨args, rfl, rfl, rfl, wargs⟩ := open_string Try.underlying9 (hval 1 9 v1 rfl rfl) h1
  obtain ⟨cut, rfl, rfl, rfl, wcut⟩ := open_int Try.underlying3 (hval 2 3 v2 rfl rfl) h2
  refine (walk W n0 (wf_i64 wn0) n1 (wf_i64 wn1) n2 (wf_i64 wn2) n3 (wf_i64 wn3) args (by
    have hz : (args.data.toList).length = args.size := bl_length args
    simp only [Rows.uptoBulkAll, Rows.uptoBulk] at hk2
    omega) cut (wf_i64 wcut)).mono fun e W' ⟨he, hb⟩ => ?_
  exact ⟨_, he, law_post (tb := 4) laidOut readable rfl Try.underlying4 rfl hW' rfl rfl rfl hb⟩
set_option maxRecDepth 100000 in
theorem lifted (os : Os) (started : os.Started) (H : Type) (enc : TypeId × Value → H) (F : Stop.Interp) :
    ReturnsInHanded {} Try.checked os 6 .any ((Rows.OpenSpec.upto Rows.rpcCutSpec).pre6 enc Try.prog Try.f6 Rows.rpcCutUptoRow.domain false) (((Rows.OpenSpec.upto Rows.rpcCutSpec).at F).post enc Try.prog Try.f6 false true false false) := by
  refine returnsInHanded_of_cond (C := Try.checked) (s := Rows.OpenSpec.upto Rows.rpcCutSpec) (k := Rows.uptoSmall) rfl own started (by kernel_rfl) Try.func6
    (OpenSpec.witness (enc := enc) (C := Try.checked) (s := Rows.OpenSpec.upto Rows.rpcCutSpec) (k := Rows.uptoSmall) rfl false ⟨#[], #[.agg #[.int .i64 0, .int .i64 0, .int .i64 0, .int .i64 0], .string .empty, .int .i64 0], []⟩ 8 (by kernel_rfl) (by kernel_rfl) (by kernel_rfl)
      (x := ([.agg [.lit (.int .i64 0), .lit (.int .i64 0), .lit (.int .i64 0), .lit (.int .i64 0)], .lit (.string []), .lit (.int .i64 0)], [], [])) (by kernel_rfl) rfl (by kernel_rfl)) ?_
  intro W base args ds gs before hval hW _ hk _
  exact contract H enc W base args ds gs before hval hW hk
theorem proved : Rows.RpcCutUptoSaid :=
  OpenClaim.holds_of_cond 6 Try.f6 rfl rfl rfl rfl rfl rfl rfl ⟨rfl, rfl, rfl, rfl, rfl⟩ rfl rfl rfl rfl rfl (by kernel_rfl) Try.func6 (by kernel_rfl)
    (of_decide_eq_true (by kernel_rfl)) (by unfold Func.isWrapper; first | (rw [if_pos (by decide +kernel)]; kernel_rfl) | (rw [if_neg (by decide +kernel)]; exact ⟨rfl, rfl⟩))
    (fun os started H enc _ F => lifted os started H enc F)
#print axioms proved

end Go.Proofs.Ytkpcnklhboemcaa.RpcCut

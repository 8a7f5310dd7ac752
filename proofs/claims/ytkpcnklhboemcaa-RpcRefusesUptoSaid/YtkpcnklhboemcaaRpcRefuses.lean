/- RpcRefuses: what refuses a call is a reply with the call's number: of texts of at most 1048576 bytes. -/
import Derived.Test.YtkpcnklhboemcaaRpM
import Derived.Test.YtkpcnklhboemcaaRpD
import Derived.Test.YtkpcnklhboemcaaRpF
import Derived.Test.YtkpcnklhboemcaaXdrV
import Derived.Test.YtkpcnklhboemcaaLift
import Derived.Deep.QuietTactic
import Derived.BigQuiet
namespace Go.Proofs.Ytkpcnklhboemcaa.RpcRefuses
open Go.RowKit Go.ChangeShapes Go.WideShapes Go.ChangeAt Go.Proofs.Ytkpcnklhboemcaa
open Go.ChangeMaps (open_string shut_string)

/-- the refusal's three numbers -/
theorem fillC_refuses {x : Int} {r : RS} {t : Int × Int × Int} (h : fillC x r = .inl t) : t = (6, 2, 2) ∨ t = (4, 0, 0) ∨ t = (7, 1, 0) ∨ t = (7, 5, 0) ∨ t = (7, 3, 0) := by
  unfold fillC at h
  dsimp only at h
  split at h
  · injection h with h; exact .inl h.symm
  split at h
  · injection h with h; exact .inr (.inl h.symm)
  split at h
  · injection h with h; exact .inr (.inr (.inl h.symm))
  split at h
  · injection h with h; exact .inr (.inr (.inr (.inl h.symm)))
  split at h
  · injection h with h; exact .inr (.inr (.inl h.symm))
  split at h
  · injection h with h; exact .inr (.inr (.inr (.inr h.symm)))
  · cases h
theorem refusal_put (x : Int) (hx : isW x = true) (t : Int × Int × Int) (ht : t = (6, 2, 2) ∨ t = (4, 0, 0) ∨ t = (7, 1, 0) ∨ t = (7, 5, 0) ∨ t = (7, 3, 0)) :
    (⟨x, t.1, t.2.1, t.2.2, ⟨#[]⟩⟩ : Rep).put = (mkb (be x 4 ++ (Rep.head ⟨x, t.1, t.2.1, t.2.2, ⟨#[]⟩⟩).drop 4), 0) ∧ (t.1 = 6 ∨ t.1 = 4 ∨ t.1 = 7) := by
  have hd : ∀ r : Rep, be r.xid 4 ++ r.head.drop 4 = r.head := fun r => by
    simp only [Rep.head, List.append_assoc]
    rw [List.drop_left' (be_length _ _)]
  have hw : ∀ n : Int, 0 ≤ n → n ≤ 9 → isW n = true := fun n h1 h2 => by unfold isW; rw [decide_eq_true_eq]; omega
  have hd' := hd ⟨x, t.1, t.2.1, t.2.2, ⟨#[]⟩⟩
  dsimp only at hd'
  rw [hd']
  have key : ∀ v l h : Int, (v = 6 ∨ (v = 4 ∧ l = 0) ∨ v = 7) → (v = 6 ∨ h = 0) → 0 ≤ l → l ≤ 9 → 0 ≤ h → h ≤ 9 → (⟨x, v, l, h, ⟨#[]⟩⟩ : Rep).put = (mkb (Rep.head ⟨x, v, l, h, ⟨#[]⟩⟩), 0) := by
    intro v l h h1 h2 l0 l9 h0 h9
    have hb : ∀ m : ByteArray, m ++ (⟨#[]⟩ : ByteArray) = m := fun m => by
      apply bl_inj; rw [bl_append]; show bl m ++ [] = bl m; rw [List.append_nil]
    have hg : Rep.good ⟨x, v, l, h, ⟨#[]⟩⟩ := by
      refine ⟨?_, ⟨hx, hw l l0 l9, hw h h0 h9⟩, ?_, ?_, ?_⟩ <;> dsimp only <;> first | omega | exact .inr rfl
    rw [Rep.put_ok hg ⟨rfl, ?_⟩, hb]
    show _ + 0 ≤ _
    unfold Rep.head
    dsimp only
    simp only [List.length_append]
    split <;> split <;> (try split) <;> (try split) <;> simp [be_length, opaq, fixed, zeros, padn]
  rcases ht with rfl | rfl | rfl | rfl | rfl
  · exact ⟨key 6 2 2 (.inl rfl) (.inl rfl) (by decide) (by decide) (by decide) (by decide), .inl rfl⟩
  · exact ⟨key 4 0 0 (.inr (.inl ⟨rfl, rfl⟩)) (.inr rfl) (by decide) (by decide) (by decide) (by decide), .inr (.inl rfl)⟩
  · exact ⟨key 7 1 0 (.inr (.inr rfl)) (.inr rfl) (by decide) (by decide) (by decide) (by decide), .inr (.inr rfl)⟩
  · exact ⟨key 7 5 0 (.inr (.inr rfl)) (.inr rfl) (by decide) (by decide) (by decide) (by decide), .inr (.inr rfl)⟩
  · exact ⟨key 7 3 0 (.inr (.inr rfl)) (.inr rfl) (by decide) (by decide) (by decide) (by decide), .inr (.inr rfl)⟩
/-- what a refusal is -/
theorem refusal {s : ByteArray} (h : (Cal.get s).2.2 = 62) : ∃ r : Rep, r.put = ((Cal.get s).2.1, 0) ∧ (r.v = 6 ∨ r.v = 4 ∨ r.v = 7) ∧ 8 ≤ s.size ∧ 4 ≤ (Cal.get s).2.1.size ∧ (Cal.get s).2.1.extract 0 4 = s.extract 0 4 := by
  unfold Cal.get at h ⊢
  split
  · rename_i h1; rw [if_pos h1] at h; cases h
  rename_i h1
  rw [if_neg h1] at h
  split
  · rename_i h2; rw [if_pos h2] at h; cases h
  rename_i h2
  rw [if_neg h2] at h
  dsimp only at h ⊢
  split
  · rename_i h3; rw [if_pos h3] at h; cases h
  rename_i h3
  rw [if_neg h3] at h
  split
  · rename_i t ht
    have he := nat4_e s (by omega)
    have hi := RS.nat4_inv he
    have hn := RS.nat4 ⟨s, 0⟩
    obtain ⟨h4, h5⟩ := refusal_put _ (by unfold isW; rw [decide_eq_true_eq]; exact hn) t (fillC_refuses ht)
    refine ⟨⟨((⟨s, 0⟩ : RS).nat 4).1, t.1, t.2.1, t.2.2, ⟨#[]⟩⟩, ?_, h5, by omega, ?_, ?_⟩
    · rw [h4]
    · rw [h4]; dsimp only; rw [mkb_size, List.length_append, be_length]; omega
    · rw [h4]
      dsimp only
      rw [mkb_extract]
      apply bl_inj
      rw [bl_mkb, bl_extract, List.drop_zero, List.drop_zero, Nat.sub_zero, List.take_left' (be_length _ _)]
      rw [hi, List.take_left' (be_length _ _)]
  · rename_i c hc
    rw [hc] at h; cases h
theorem no_refusal {s : ByteArray} (h : (Cal.get s).2.2 ≠ 62) : (Cal.get s).2.1 = ⟨#[]⟩ := by
  unfold Cal.get at h ⊢
  split
  · rfl
  rename_i h1
  rw [if_neg h1] at h
  split
  · rfl
  rename_i h2
  rw [if_neg h2] at h
  dsimp only at h ⊢
  split
  · rfl
  rename_i h3
  rw [if_neg h3] at h
  split
  · rename_i t ht
    rw [ht] at h; exact absurd rfl h
  · rfl
set_option maxRecDepth 100000 in
set_option maxHeartbeats 8000000 in
theorem walk (w : World) (s : ByteArray) (hs : s.size ≤ 1048576) :
    Calls Try.prog 8 #[.string s] w fun r w' => r = .returned (.bool true) ∧ Below w.heap.size w w' := by
  have H0 := St.init w
  go_enter Try.func8, Try.ntmps8
  go_wp2_with (fail)
  refine (speaks_ok H0).mono ?_
  rintro x w1 ⟨rfl, H1⟩
  clear H0
  have hge := getcall_ok s (by omega) H1
  have hno := fun h => no_refusal (s := s) h
  have hre := fun h => refusal (s := s) h
  obtain ⟨⟨gc, gt, gf⟩, hgg⟩ : ∃ g, g = Cal.get s := ⟨_, rfl⟩
  rw [← hgg] at hge hno hre
  dsimp only at hno hre
  have HNO := Lib.hid hno; have HRE := Lib.hid hre; clear hno hre hgg
  go_wp2_with (fail)
  refine hge.mono ?_
  clear hge
  rintro x w3 ⟨A, d, rfl, H2⟩
  obtain ⟨xid, prog, vers, proc, unix, stamp, mach, uid, gid, groups, args⟩ := gc
  dsimp only [Cal.cells] at H2 ⊢
  obtain ⟨n, hn⟩ : ∃ n, groups.length = n := ⟨_, rfl⟩
  rw [hn] at H2 ⊢
  clear hn
  have H3 := H2.tail.alloc (callC xid prog vers proc unix stamp mach uid gid A n d args) 30
  by_cases hf : gf = 62
  rotate_left 1
  · have hf' : (gf != 62) = true := bne_iff_ne.2 hf
    have hgt := HNO.out hf
    subst hgt
    clear hf HNO HRE
    go_wp2_with (fail)
    go_ret
    exact ⟨rfl, H3.below⟩
  have hf' : (gf != 62) = false := by rw [hf]; rfl
  obtain ⟨r, hr, hv, h8, h4, hx⟩ := HRE.out hf
  have hgr : Rep.get gt = (r, 0) := by
    have hsz := (Rep.put_eq hr).2.1.2
    have hst : gt.size = r.head.length + r.body.size := by
      have := (Rep.put_eq hr).2.2
      rw [this, mkb_size, List.length_append, bl_length]
    unfold Rep.get
    rw [if_neg (by omega), Rep.parse_put hr]
    dsimp only
    rw [if_pos hr]
  obtain ⟨rx, rv, rl, rh, rbo⟩ := r
  dsimp only at hv
  have HX := Lib.hid hx
  clear hf HNO HRE hr hx
  go_wp2_with (fail)
  generalize w3.alloc (.cells (callC xid prog vers proc unix stamp mach uid gid A n d args) 30) = w4 at *
  have hrep := getreply_ok gt H3
  rw [hgr] at hrep
  refine hrep.mono ?_
  clear hrep hgr
  rintro x w5 ⟨rfl, H4⟩
  dsimp only [Rep.cells]
  have H5 := H4.alloc (Rep.cells ⟨rx, rv, rl, rh, rbo⟩) 49
  have hq1 : (8 : Int) ≤ s.size := by omega
  have hq2 : (4 : Int) ≤ gt.size := by omega
  have hq3 : (4 : Int) ≤ s.size := by omega
  have hq4 : ((gt.extract 0 4).toList == (s.extract 0 4).toList) = true := by rw [HX.out]; simp
  clear h8 h4
  have p1 := H5.cell 1 rfl
  rcases hv with rfl | rfl | rfl
  · go_wp2_with (fail)
    go_quiet (fail)
    go_wp2_with (fail)
    go_ret
    exact ⟨rfl, (H5.drewN nq).below⟩
  · go_wp2_with (fail)
    go_quiet (fail)
    go_wp2_with (fail)
    go_ret
    exact ⟨rfl, (H5.drewN nq).below⟩
  · go_wp2_with (fail)
    go_quiet (fail)
    go_wp2_with (fail)
    go_ret
    exact ⟨rfl, (H5.drewN nq).below⟩
theorem own : ownKnob Try.prog.godebug = none := by kernel_rfl
theorem laidOut : laidOutB Try.prog = true := by kernel_rfl
theorem readable : ∀ t ∈ Try.f8.params.toList, Try.prog.readableRec t = true ∧ t < Try.prog.types.size := by
  intro t ht
  rw [Try.params8] at ht
  simp only [List.mem_cons, List.not_mem_nil, or_false] at ht
  subst ht
  exact ⟨by kernel_rfl, of_decide_eq_true (by kernel_rfl)⟩
theorem contract (H : Type) (enc : TypeId × Value → H) (W : World) (base : Nat) (args : Array Value) (ds gs : List (DataW H)) (before : List MemPlace)
    (hval : ∀ (j : Nat) t v, Try.f8.params[j]? = some t → args[j]? = some v → Value.okWide Try.prog W .any base t v)
    (hW : DataW.Whole enc Try.prog Try.f8.params.toList Rows.rpcRefusesSpec.vars false W args.toList ds gs before) (hk : Rows.uptoSmall H (ds ++ gs) = true) :
    Calls Try.prog 8 args W fun e W' => ∃ v, e = .returned v ∧ Rows.rpcRefusesSpec.post enc Try.prog Try.f8 false true false false W args v W' := by
  have hW' := hW
  obtain ⟨p, q, hA0, hV, rfl, _, _⟩ := hW
  have hA : DataW.TrodAll enc Try.prog W 0 (fun _ => true) true Try.f8.params.toList args.toList ds p := hA0
  rw [Try.params8] at hA hval
  obtain ⟨v0, vs0, d0, ds0, p0, q0, hargs, rfl, rfl, h0, r0⟩ := trodAll_cons hA
  obtain ⟨rfl, rfl, rfl⟩ := trodAll_nil r0
  obtain rfl : args = #[v0] := by cases args; simp_all
  obtain ⟨rfl, rfl⟩ := trodVars_none hV
  clear hA0
  have hk2 : Rows.uptoBulkAll _ ≤ 1048576 := of_decide_eq_true hk
  rw [List.append_nil] at hk2
  obtain ⟨s, rfl, rfl, rfl, ws⟩ := open_string Try.underlying9 (hval 0 9 v0 rfl rfl) h0
  refine (walk W s (by
    have hz : (s.data.toList).length = s.size := bl_length s
    simp only [Rows.uptoBulkAll, Rows.uptoBulk] at hk2
    omega)).mono fun e W' ⟨he, hb⟩ => ?_
  exact ⟨_, he, law_post (tb := 4) laidOut readable rfl Try.underlying4 rfl hW' rfl rfl rfl hb⟩
set_option maxRecDepth 100000 in
theorem lifted (os : Os) (started : os.Started) (H : Type) (enc : TypeId × Value → H) (F : Stop.Interp) :
    ReturnsInHanded {} Try.checked os 8 .any ((Rows.OpenSpec.upto Rows.rpcRefusesSpec).pre6 enc Try.prog Try.f8 Rows.rpcRefusesUptoRow.domain false) (((Rows.OpenSpec.upto Rows.rpcRefusesSpec).at F).post enc Try.prog Try.f8 false true false false) := by
  refine returnsInHanded_of_cond (C := Try.checked) (s := Rows.OpenSpec.upto Rows.rpcRefusesSpec) (k := Rows.uptoSmall) rfl own started (by kernel_rfl) Try.func8
    (OpenSpec.witness (enc := enc) (C := Try.checked) (s := Rows.OpenSpec.upto Rows.rpcRefusesSpec) (k := Rows.uptoSmall) rfl false ⟨#[], #[.string .empty], []⟩ 8 (by kernel_rfl) (by kernel_rfl) (by kernel_rfl)
      (x := ([.lit (.string [])], [], [])) (by kernel_rfl) rfl (by kernel_rfl)) ?_
  intro W base args ds gs before hval hW _ hk _
  exact contract H enc W base args ds gs before hval hW hk
theorem proved : Rows.RpcRefusesUptoSaid :=
  OpenClaim.holds_of_cond 8 Try.f8 rfl rfl rfl rfl rfl rfl rfl ⟨rfl, rfl, rfl, rfl, rfl⟩ rfl rfl rfl rfl rfl (by kernel_rfl) Try.func8 (by kernel_rfl)
    (of_decide_eq_true (by kernel_rfl)) (by unfold Func.isWrapper; first | (rw [if_pos (by decide +kernel)]; kernel_rfl) | (rw [if_neg (by decide +kernel)]; exact ⟨rfl, rfl⟩))
    (fun os started H enc _ F => lifted os started H enc F)
#print axioms proved

end Go.Proofs.Ytkpcnklhboemcaa.RpcRefuses

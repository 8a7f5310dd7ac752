/- RpcGets: any bytes as a call: the call, or the reply that refuses them; and no other bytes are that call: of texts of at most 1048576 bytes. -/
import Derived.Test.YtkpcnklhboemcaaRpM
import Derived.Test.YtkpcnklhboemcaaRpP
import Derived.Test.YtkpcnklhboemcaaRpQ
import Derived.Test.YtkpcnklhboemcaaRpV
import Derived.Test.YtkpcnklhboemcaaLift
import Derived.Deep.DeepCutAuto
namespace Go.Proofs.Ytkpcnklhboemcaa.RpcGets
open Go.RowKit Go.ChangeShapes Go.WideShapes Go.ChangeAt Go.Proofs.Ytkpcnklhboemcaa
open Go.ChangeMaps (open_string shut_string)

theorem rdRow {w0 w : World} {A : Option Addr} {n c : Nat} {l : List Int} {L : List Assn} (H : St w0 w (Row 3 1 A n c (ivs l) :: L)) : Rd w A l := by
  intro j x hx
  have hl := H.row_length
  rw [ivs_length, Nat.mul_one] at hl
  have hj := (List.getElem?_eq_some_iff.1 hx).1
  obtain ⟨g, o, rfl⟩ := H.row_form (by omega)
  exact ⟨g, o, rfl, H.row_cell j (by rw [ivs, List.getElem?_map, hx]; rfl)⟩
theorem get_zero {s : ByteArray} (h : (Cal.get s).2.2 ≠ 0) : (Cal.get s).1 = Cal.zero := by
  unfold Cal.get at h ⊢
  split
  · rfl
  rename_i h1
  rw [if_neg h1] at h
  split
  · rfl
  rename_i h2
  rw [if_neg h2] at h
  dsimp only at h ⊢
  split
  · rfl
  rename_i h3
  rw [if_neg h3] at h
  split
  · rfl
  · rename_i c hc
    rw [hc] at h; exact absurd rfl h
theorem get_len (s : ByteArray) : (Cal.get s).1.groups.length ≤ 16 := by
  by_cases h : (Cal.get s).2.2 = 0
  · exact (Cal.put_eq (put_got h).1).1.2.1.2
  · rw [get_zero h]; exact Nat.zero_le _
set_option maxRecDepth 100000 in
set_option maxHeartbeats 8000000 in
theorem walk (w : World) (s : ByteArray) (hs : s.size ≤ 1048576) :
    Calls Try.prog 4 #[.string s] w fun r w' => r = .returned (.bool true) ∧ Below w.heap.size w w' := by
  have H0 := St.init w
  go_enter Try.func4, Try.ntmps4
  go_wp2_with (fail)
  refine (speaks_ok H0).mono ?_
  rintro x w1 ⟨rfl, H1⟩
  clear H0
  have hge := getcall_ok s (by omega) H1
  have hlen := get_len s
  have hput := fun h => (put_got (s := s) h).1
  obtain ⟨⟨gc, gt, gf⟩, hgg⟩ : ∃ g, g = Cal.get s := ⟨_, rfl⟩
  rw [← hgg] at hge hlen hput
  have HGG := Lib.hid hgg.symm
  dsimp only at hlen hput
  obtain ⟨xid, prog, vers, proc, unix, stamp, mach, uid, gid, groups, args⟩ := gc
  have hsm := fun (A : Option Addr) (d : Nat) (B : Option Addr) (d2 : Nat) (w' : World) (h1 : Rd w' A groups) (h2 : Rd w' B groups) => same_ok ⟨xid, prog, vers, proc, unix, stamp, mach, uid, gid, groups, args⟩ A d B d2 (by dsimp only at hlen ⊢; omega) w' h1 h2
  have hpc := fun (ha : args.size ≤ 1099511627776) (A : Option Addr) (d : Nat) (w' : World) (h1 : Rd w' A groups) => putcall_ok ⟨xid, prog, vers, proc, unix, stamp, mach, uid, gid, groups, args⟩ A d (by dsimp only at hlen ⊢; omega) ha w' h1
  have HSM := Lib.hid hsm; have HPC := Lib.hid hpc; have HPUT := Lib.hid hput
  clear hsm hpc hput hgg
  dsimp only at hlen
  go_wp2_with (fail)
  refine hge.mono ?_
  clear hge
  rintro x w2 ⟨A, d, rfl, H2⟩
  dsimp only [Cal.cells] at H2 ⊢
  obtain ⟨n, hn⟩ : ∃ n, groups.length = n := ⟨_, rfl⟩
  rw [hn] at H2 hlen ⊢
  have HN := Lib.hid hn; clear hn
  have H3 := H2.alloc (callC xid prog vers proc unix stamp mach uid gid A n d args) 30
  obtain ⟨b3, hb3⟩ : ∃ b, b = w2.heap.size := ⟨_, rfl⟩
  go_upto_region 4 with (fail)
  rw [← hb3] at H3 ⊢
  generalize w2.alloc (.cells (callC xid prog vers proc unix stamp mach uid gid A n d args) 30) = w3 at *
  clear hb3 H2 H1
  go_wp2_with (fail)
  have hge := refgetcall_ok s (by omega) H3
  rw [HGG.out] at hge
  refine hge.mono ?_
  clear hge
  rintro x w4 ⟨B, d2, rfl, H4⟩
  dsimp only [Cal.cells] at H4 ⊢
  rw [HN.out] at H4 ⊢
  have H5 := H4.alloc (callC xid prog vers proc unix stamp mach uid gid B n d2 args) 32
  obtain ⟨b6, hb6⟩ : ∃ b, b = w4.heap.size := ⟨_, rfl⟩
  go_upto_region 5 with (fail)
  rw [← hb6] at H5 ⊢
  generalize w4.alloc (.cells (callC xid prog vers proc unix stamp mach uid gid B n d2 args) 32) = w5 at *
  clear hb6 H4 H3
  have hA := rdRow H5.r4
  have hB := rdRow H5.r2
  have hss := HSM.out A d B d2 _ hA hB
  dsimp only [Cal.cells] at hss
  rw [HN.out] at hss
  have hgt : (gt.toList == gt.toList) = true := by simp
  have p0 := H5.r3.cell 0 rfl
  have p1 := H5.r3.cell 1 rfl
  have p2 := H5.r3.cell 2 rfl
  have p3 := H5.r3.cell 3 rfl
  have p4 := H5.r3.cell 4 rfl
  have p5 := H5.r3.cell 5 rfl
  have p6 := H5.r3.cell 6 rfl
  have p7 := H5.r3.cell 7 rfl
  have p8 := H5.r3.cell 8 rfl
  have p9 := H5.r3.cell 9 rfl
  have p10 := H5.r3.cell 10 rfl
  have q0 := H5.cell 0 rfl
  have q1 := H5.cell 1 rfl
  have q2 := H5.cell 2 rfl
  have q3 := H5.cell 3 rfl
  have q4 := H5.cell 4 rfl
  have q5 := H5.cell 5 rfl
  have q6 := H5.cell 6 rfl
  have q7 := H5.cell 7 rfl
  have q8 := H5.cell 8 rfl
  have q9 := H5.cell 9 rfl
  have q10 := H5.cell 10 rfl
  clear hA hB
  have HSS := Lib.hid hss; clear hss
  go_wp2_with (fail)
  refine HSS.out.mono ?_
  rintro x w6 ⟨rfl, K⟩
  have H6 := H5.frame K
  rw [List.nil_append] at H6
  clear p0 p1 p2 p3 p4 p5 p6 p7 p8 p9 p10 q0 q1 q2 q3 q4 q5 q6 q7 q8 q9 q10 HSS K H5
  by_cases hf : gf = 0
  rotate_left 1
  · have hf' : (gf != 0) = true := bne_iff_ne.2 hf
    clear hf
    go_wp2_with (fail)
    go_ret
    exact ⟨rfl, H6.below⟩
  have hf' : (gf != 0) = false := by rw [hf]; rfl
  have hpp := HPUT.out hf
  have hasz : args.size ≤ 1099511627776 := by
    have := (Cal.put_eq hpp).2.2
    have h2 : s.size = _ := congrArg ByteArray.size this
    rw [mkb_size, List.length_append, bl_length] at h2
    dsimp only at h2
    omega
  have hpc := HPC.out hasz A d w6 (rdRow H6.r4)
  rw [hpp] at hpc
  dsimp only [Cal.cells] at hpc
  rw [HN.out] at hpc
  have HPP := Lib.hid hpc
  clear hf hpp hpc hasz
  have hst : (s.toList == s.toList) = true := by simp
  have p0 := H6.r3.cell 0 rfl
  have p1 := H6.r3.cell 1 rfl
  have p2 := H6.r3.cell 2 rfl
  have p3 := H6.r3.cell 3 rfl
  have p4 := H6.r3.cell 4 rfl
  have p5 := H6.r3.cell 5 rfl
  have p6 := H6.r3.cell 6 rfl
  have p7 := H6.r3.cell 7 rfl
  have p8 := H6.r3.cell 8 rfl
  have p9 := H6.r3.cell 9 rfl
  have p10 := H6.r3.cell 10 rfl
  go_wp2_with (fail)
  refine HPP.out.mono ?_
  rintro x w7 ⟨rfl, K⟩
  have H7 := H6.frame K
  go_wp2_with (fail)
  go_ret
  exact ⟨rfl, H7.below⟩
theorem own : ownKnob Try.prog.godebug = none := by kernel_rfl
theorem laidOut : laidOutB Try.prog = true := by kernel_rfl
theorem readable : ∀ t ∈ Try.f4.params.toList, Try.prog.readableRec t = true ∧ t < Try.prog.types.size := by
  intro t ht
  rw [Try.params4] at ht
  simp only [List.mem_cons, List.not_mem_nil, or_false] at ht
  subst ht
  exact ⟨by kernel_rfl, of_decide_eq_true (by kernel_rfl)⟩
theorem contract (H : Type) (enc : TypeId × Value → H) (W : World) (base : Nat) (args : Array Value) (ds gs : List (DataW H)) (before : List MemPlace)
    (hval : ∀ (j : Nat) t v, Try.f4.params[j]? = some t → args[j]? = some v → Value.okWide Try.prog W .any base t v)
    (hW : DataW.Whole enc Try.prog Try.f4.params.toList Rows.rpcGetsSpec.vars false W args.toList ds gs before) (hk : Rows.uptoSmall H (ds ++ gs) = true) :
    Calls Try.prog 4 args W fun e W' => ∃ v, e = .returned v ∧ Rows.rpcGetsSpec.post enc Try.prog Try.f4 false true false false W args v W' := by
  have hW' := hW
  obtain ⟨p, q, hA0, hV, rfl, _, _⟩ := hW
  have hA : DataW.TrodAll enc Try.prog W 0 (fun _ => true) true Try.f4.params.toList args.toList ds p := hA0
  rw [Try.params4] at hA hval
  obtain ⟨v0, vs0, d0, ds0, p0, q0, hargs, rfl, rfl, h0, r0⟩ := trodAll_cons hA
  obtain ⟨rfl, rfl, rfl⟩ := trodAll_nil r0
  obtain rfl : args = #[v0] := by cases args; simp_all
  obtain ⟨rfl, rfl⟩ := trodVars_none hV
  clear hA0
  have hk2 : Rows.uptoBulkAll _ ≤ 1048576 := of_decide_eq_true hk
  rw [List.append_nil] at hk2
  obtain ⟨s, rfl, rfl, rfl, ws⟩ := open_string Try.underlying9 (hval 0 9 v0 rfl rfl) h0
  refine (walk W s (by
    have hz : (s.data.toList).length = s.size := bl_length s
    simp only [Rows.uptoBulkAll, Rows.uptoBulk] at hk2
    omega)).mono fun e W' ⟨he, hb⟩ => ?_
  exact ⟨_, he, law_post (tb := 4) laidOut readable rfl Try.underlying4 rfl hW' rfl rfl rfl hb⟩
set_option maxRecDepth 100000 in
theorem lifted (os : Os) (started : os.Started) (H : Type) (enc : TypeId × Value → H) (F : Stop.Interp) :
    ReturnsInHanded {} Try.checked os 4 .any ((Rows.OpenSpec.upto Rows.rpcGetsSpec).pre6 enc Try.prog Try.f4 Rows.rpcGetsUptoRow.domain false) (((Rows.OpenSpec.upto Rows.rpcGetsSpec).at F).post enc Try.prog Try.f4 false true false false) := by
  refine returnsInHanded_of_cond (C := Try.checked) (s := Rows.OpenSpec.upto Rows.rpcGetsSpec) (k := Rows.uptoSmall) rfl own started (by kernel_rfl) Try.func4
    (OpenSpec.witness (enc := enc) (C := Try.checked) (s := Rows.OpenSpec.upto Rows.rpcGetsSpec) (k := Rows.uptoSmall) rfl false ⟨#[], #[.string .empty], []⟩ 8 (by kernel_rfl) (by kernel_rfl) (by kernel_rfl)
      (x := ([.lit (.string [])], [], [])) (by kernel_rfl) rfl (by kernel_rfl)) ?_
  intro W base args ds gs before hval hW _ hk _
  exact contract H enc W base args ds gs before hval hW hk
theorem proved : Rows.RpcGetsUptoSaid :=
  OpenClaim.holds_of_cond 4 Try.f4 rfl rfl rfl rfl rfl rfl rfl ⟨rfl, rfl, rfl, rfl, rfl⟩ rfl rfl rfl rfl rfl (by kernel_rfl) Try.func4 (by kernel_rfl)
    (of_decide_eq_true (by kernel_rfl)) (by unfold Func.isWrapper; first | (rw [if_pos (by decide +kernel)]; kernel_rfl) | (rw [if_neg (by decide +kernel)]; exact ⟨rfl, rfl⟩))
    (fun os started H enc _ F => lifted os started H enc F)
#print axioms proved

end Go.Proofs.Ytkpcnklhboemcaa.RpcGets

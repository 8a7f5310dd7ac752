/- RpcPuts: the bytes of every call, and back: of numbers, credentials and texts of bulk at most 1048576. -/
import Derived.Test.YtkpcnklhboemcaaRpX
import Derived.Test.YtkpcnklhboemcaaRpO
import Derived.Test.YtkpcnklhboemcaaRpP
import Derived.Test.YtkpcnklhboemcaaLiftS
import Derived.Deep.DeepCutAuto
namespace Go.Proofs.Ytkpcnklhboemcaa.RpcPuts
open Go.RowKit Go.ChangeShapes Go.WideShapes Go.ChangeAt Go.Proofs.Ytkpcnklhboemcaa
open Go.ChangeMaps (open_string shut_string)

theorem rdRow {w0 w : World} {A : Option Addr} {n c : Nat} {l : List Int} {L : List Assn} (H : St w0 w (Row 3 1 A n c (ivs l) :: L)) : Rd w A l := by
  intro j x hx
  have hl := H.row_length
  rw [ivs_length, Nat.mul_one] at hl
  have hj := (List.getElem?_eq_some_iff.1 hx).1
  obtain ⟨g, o, rfl⟩ := H.row_form (by omega)
  exact ⟨g, o, rfl, H.row_cell j (by rw [ivs, List.getElem?_map, hx]; rfl)⟩
theorem rdSl {w : World} {A : Option Addr} {n : Nat} {l : List Int} (h : SlRd w A n 1 (l.map fun x => [.int .i64 x])) : Rd w A l := by
  intro j x hx
  obtain ⟨b, o, hA, _, hc⟩ := h.2 j [.int .i64 x] (by rw [List.getElem?_map, hx]; rfl)
  have := hc 0 _ rfl
  rw [Nat.mul_one, Nat.add_zero] at this
  exact ⟨b, o, hA, this⟩
structure Caller where
  Unix : Bool
  Stamp : Int
  UID : Int
  GID : Int
  Machine : ByteArray
def Caller.cells (x : Caller) : List Value := [.bool x.Unix, .int .i64 x.Stamp, .int .i64 x.UID, .int .i64 x.GID, .string x.Machine]
def Caller.ok (x : Caller) : Prop := (-9223372036854775808 ≤ x.Stamp ∧ x.Stamp ≤ 9223372036854775807) ∧ (-9223372036854775808 ≤ x.UID ∧ x.UID ≤ 9223372036854775807) ∧ (-9223372036854775808 ≤ x.GID ∧ x.GID ≤ 9223372036854775807)
def Caller.kinds : List SK := [.bool, .int .i64, .int .i64, .int .i64, .str]
theorem Caller.of_row : ∀ row : List Value, RowS Caller.kinds row → ∃ x : Caller, row = x.cells ∧ x.ok := by
  intro row h
  have hl := RowS_length h
  match row, hl, h with
  | [v0, v1, v2, v3, v4], _, h =>
    obtain ⟨⟨x0, rfl⟩, ⟨x1, rfl, h1⟩, ⟨x2, rfl, h2⟩, ⟨x3, rfl, h3⟩, ⟨x4, rfl, _⟩, _⟩ := h
    exact ⟨⟨x0, x1, x2, x3, x4⟩, rfl, ⟨wf_i64 h1, wf_i64 h2, wf_i64 h3⟩⟩

set_option maxRecDepth 100000 in
set_option maxHeartbeats 8000000 in
theorem walk (w : World) (n0 : Int) (_ : -9223372036854775808 ≤ n0 ∧ n0 ≤ 9223372036854775807) (n1 : Int) (_ : -9223372036854775808 ≤ n1 ∧ n1 ≤ 9223372036854775807) (n2 : Int) (_ : -9223372036854775808 ≤ n2 ∧ n2 ≤ 9223372036854775807) (n3 : Int) (_ : -9223372036854775808 ≤ n3 ∧ n3 ≤ 9223372036854775807)
    (x : Caller) (_ : x.ok) (A : Option Addr) (n d : Nat) (groups : List Int) (hrd : SlRd w A n 1 (groups.map fun x => [.int .i64 x])) (hn : n ≤ 1048576) (hm : x.Machine.size ≤ 1048576) (args : ByteArray) (hargs : args.size ≤ 1048576) :
    Calls Try.prog 3 #[.agg #[.int .i64 n0, .int .i64 n1, .int .i64 n2, .int .i64 n3], .agg (x.cells ++ [Value.slice A n d]).toArray, .string args] w fun r w' => r = .returned (.bool true) ∧ Below w.heap.size w w' := by
  obtain ⟨unix, stamp, uid, gid, mach⟩ := x
  dsimp only [Caller.cells, List.cons_append, List.nil_append] at hm ⊢
  have hlen : groups.length = n := by have := hrd.1; rw [List.length_map] at this; exact this
  have hR := rdSl hrd
  have hsm := fun (A : Option Addr) (d : Nat) (B : Option Addr) (d2 : Nat) (w' : World) (h1 : Rd w' A groups) (h2 : Rd w' B groups) => same_ok ⟨n0, n1, n2, n3, unix, stamp, mach, uid, gid, groups, args⟩ A d B d2 (by dsimp only; omega) w' h1 h2
  have hpc := fun (A : Option Addr) (d : Nat) (w' : World) (h1 : Rd w' A groups) => putcall_ok ⟨n0, n1, n2, n3, unix, stamp, mach, uid, gid, groups, args⟩ A d (by dsimp only; omega) (by dsimp only; omega) w' h1
  have hqc := fun (A : Option Addr) (d : Nat) (w' : World) (h1 : Rd w' A groups) => refputcall_ok ⟨n0, n1, n2, n3, unix, stamp, mach, uid, gid, groups, args⟩ A d (by dsimp only; omega) (by dsimp only; omega) (by dsimp only; omega) w' h1
  have hcl := fun (w' : World) (h1 : Rd w' A groups) => call_ok n0 n1 n2 n3 unix stamp uid gid mach groups A n d args hlen (by omega) w' h1
  dsimp only [Cal.cells] at hsm hpc hqc
  obtain ⟨⟨S, e⟩, hp⟩ : ∃ p, p = Cal.put ⟨n0, n1, n2, n3, unix, stamp, mach, uid, gid, groups, args⟩ := ⟨_, rfl⟩
  rw [hlen, ← hp] at hpc hqc
  rw [hlen] at hsm
  dsimp only at hpc hqc
  have hback : e = 0 → Cal.get S = (⟨n0, n1, n2, n3, unix, stamp, mach, uid, gid, groups, args⟩, ⟨#[]⟩, 0) := fun he => by
    subst he; exact get_put hp.symm
  have hSz : e = 0 → S.size ≤ 1099511627776 := fun he => by
    subst he
    obtain ⟨_, ⟨_, hz⟩, hs⟩ := Cal.put_eq hp.symm
    have h2 : S.size = _ := congrArg ByteArray.size hs
    rw [mkb_size, List.length_append, bl_length] at h2
    dsimp only at h2 hz
    omega
  have HSM := Lib.hid hsm; have HPC := Lib.hid hpc; have HQC := Lib.hid hqc; have HCL := Lib.hid hcl; have HB := Lib.hid hback; have HZ := Lib.hid hSz; have HR := Lib.hid hR; have HLN := Lib.hid hlen
  clear hsm hpc hqc hcl hback hp hSz hR hrd hlen
  have H0 := ((St.init w).alloc #[.int .i64 n0, .int .i64 n1, .int .i64 n2, .int .i64 n3] 22).alloc #[.bool unix, .int .i64 stamp, .int .i64 uid, .int .i64 gid, .string mach, .slice A n d] 25
  simp only [World.size_alloc] at H0
  obtain ⟨b3, hb3⟩ : ∃ b, b = w.heap.size := ⟨_, rfl⟩
  obtain ⟨b4, hb4⟩ : ∃ b, b = w.heap.size + 1 := ⟨_, rfl⟩
  go_enter Try.func3, Try.ntmps3
  go_upto_region 1 with (fail)
  rw [← hb4] at H0 ⊢
  rw [← hb3] at H0 ⊢
  generalize (w.alloc (.cells #[.int .i64 n0, .int .i64 n1, .int .i64 n2, .int .i64 n3] 22)).alloc (.cells #[.bool unix, .int .i64 stamp, .int .i64 uid, .int .i64 gid, .string mach, .slice A n d] 25) = w1 at *
  clear hb3 hb4
  go_wp2_with (fail)
  refine (speaks_ok H0).mono ?_
  rintro x w1 ⟨rfl, H1⟩
  clear H0
  have q0 := H1.cell 0 rfl
  have q1 := H1.cell 1 rfl
  have q2 := H1.cell 2 rfl
  have q3 := H1.cell 3 rfl
  have q4 := H1.cell 4 rfl
  have q5 := H1.cell 5 rfl
  have p0 := H1.r2.cell 0 rfl
  have p1 := H1.r2.cell 1 rfl
  have p2 := H1.r2.cell 2 rfl
  have p3 := H1.r2.cell 3 rfl
  go_wp2_with (fail)
  refine (HCL.out _ (HR.out.keep H1)).mono ?_
  rintro x w2 ⟨B, d2, rfl, K⟩
  have H2 := (H1.frame K)
  rw [List.singleton_append] at H2
  have H2 := H2.r3.tail.r2.tail
  clear H1 K q0 q1 q2 q3 q4 q5 p0 p1 p2 p3 HCL
  have H3 := (H2.alloc zcall 30).alloc zcall 32
  simp only [World.size_alloc] at H3
  obtain ⟨b7, hb7⟩ : ∃ b, b = w2.heap.size := ⟨_, rfl⟩
  obtain ⟨b8, hb8⟩ : ∃ b, b = w2.heap.size + 1 := ⟨_, rfl⟩
  go_wp2_with (with_reducible refine hold_store (ty := 30) ?_)
  unfold Hold
  rw [← hb8] at H3 ⊢
  rw [← hb7] at H3 ⊢
  generalize (w2.alloc (.cells zcall 30)).alloc (.cells zcall 32) = w3 at *
  clear hb7 hb8 H2
  with_reducible refine wpList_store_st (ty := 30) (H3.r2) (callC n0 n1 n2 n3 unix stamp mach uid gid B n d2 args) ?_ ?_ ?_ ?_ ?_ ?_ ?_
  rfl
  rfl
  rfl
  rfl
  kernel_rfl
  rfl
  intro w4 H4
  go_wp2_with (with_reducible refine hold_store (ty := 32) ?_)
  unfold Hold
  with_reducible refine wpList_store_st (ty := 32) (H4.r2) (callC n0 n1 n2 n3 unix stamp mach uid gid A n d args) ?_ ?_ ?_ ?_ ?_ ?_ ?_
  rfl
  rfl
  rfl
  rfl
  kernel_rfl
  rfl
  intro w5 H5
  clear H3 H4
  go_wp2_with ((with_reducible refine wpList_load_st (ty := 30) (H5.r2) ?_ ?_ Try.underlying30 ?_ ?_ ?_); rfl; rfl; rfl; kernel_rfl)
  refine (HPC.out B d2 _ (rdRow H5.r3)).mono ?_
  rintro x w6 ⟨rfl, K⟩
  have H6 := H5.frame K
  rw [List.nil_append] at H6
  clear K H5
  go_wp2_with ((with_reducible refine wpList_load_st (ty := 32) (H6) ?_ ?_ Try.underlying32 ?_ ?_ ?_); rfl; rfl; rfl; kernel_rfl)
  refine (HQC.out A d _ (HR.out.keep H6)).mono ?_
  rintro x w7 ⟨rfl, K⟩
  have H7 := H6.frame K
  rw [List.nil_append] at H7
  clear K H6 HPC HQC
  have hss := (HSM.out B d2 A d w7 (rdRow H7.r3) (HR.out.keep H7))
  have HSS := Lib.hid hss; clear hss
  have hst : (S.toList != S.toList) = false := by simp
  have hee : (e != e) = false := bne_self_eq_false e
  have p_0 := (H7.r2).cell 0 rfl
  have p_1 := (H7.r2).cell 1 rfl
  have p_2 := (H7.r2).cell 2 rfl
  have p_3 := (H7.r2).cell 3 rfl
  have p_4 := (H7.r2).cell 4 rfl
  have p_5 := (H7.r2).cell 5 rfl
  have p_6 := (H7.r2).cell 6 rfl
  have p_7 := (H7.r2).cell 7 rfl
  have p_8 := (H7.r2).cell 8 rfl
  have p_9 := (H7.r2).cell 9 rfl
  have p_10 := (H7.r2).cell 10 rfl
  have q_0 := (H7).cell 0 rfl
  have q_1 := (H7).cell 1 rfl
  have q_2 := (H7).cell 2 rfl
  have q_3 := (H7).cell 3 rfl
  have q_4 := (H7).cell 4 rfl
  have q_5 := (H7).cell 5 rfl
  have q_6 := (H7).cell 6 rfl
  have q_7 := (H7).cell 7 rfl
  have q_8 := (H7).cell 8 rfl
  have q_9 := (H7).cell 9 rfl
  have q_10 := (H7).cell 10 rfl
  go_wp2_with (fail)
  refine HSS.out.mono ?_
  rintro x w8 ⟨rfl, K⟩
  have H8 := H7.frame K
  rw [List.nil_append] at H8
  clear K H7 HSS p_0 p_1 p_2 p_3 p_4 p_5 p_6 p_7 p_8 p_9 p_10 q_0 q_1 q_2 q_3 q_4 q_5 q_6 q_7 q_8 q_9 q_10
  by_cases he : e = 0
  rotate_left 1
  · have he' : (e != 0) = true := bne_iff_ne.2 he
    clear he
    go_wp2_with (fail)
    go_ret
    exact ⟨rfl, H8.below⟩
  have he' : (e != 0) = false := by rw [he]; rfl
  have hge := getcall_ok S (HZ.out he) H8
  rw [HB.out he] at hge
  clear he
  go_wp2_with (fail)
  refine hge.mono ?_
  clear hge
  rintro x w9 ⟨C, d3, rfl, H9⟩
  dsimp only [Cal.cells] at H9 ⊢
  rw [HLN.out] at H9 ⊢
  have H10 := H9.alloc (callC n0 n1 n2 n3 unix stamp mach uid gid C n d3 args) 30
  obtain ⟨b13, hb13⟩ : ∃ b, b = w9.heap.size := ⟨_, rfl⟩
  go_upto_region 11 with (fail)
  rw [← hb13] at H10 ⊢
  generalize w9.alloc (.cells (callC n0 n1 n2 n3 unix stamp mach uid gid C n d3 args) 30) = w10 at *
  clear hb13 H9 H8
  have hss := (HSM.out C d3 A d w10 (rdRow H10.r2) (HR.out.keep H10))
  have HSS := Lib.hid hss; clear hss
  have p_0 := (H10).cell 0 rfl
  have p_1 := (H10).cell 1 rfl
  have p_2 := (H10).cell 2 rfl
  have p_3 := (H10).cell 3 rfl
  have p_4 := (H10).cell 4 rfl
  have p_5 := (H10).cell 5 rfl
  have p_6 := (H10).cell 6 rfl
  have p_7 := (H10).cell 7 rfl
  have p_8 := (H10).cell 8 rfl
  have p_9 := (H10).cell 9 rfl
  have p_10 := (H10).cell 10 rfl
  have q_0 := (H10.r3).cell 0 rfl
  have q_1 := (H10.r3).cell 1 rfl
  have q_2 := (H10.r3).cell 2 rfl
  have q_3 := (H10.r3).cell 3 rfl
  have q_4 := (H10.r3).cell 4 rfl
  have q_5 := (H10.r3).cell 5 rfl
  have q_6 := (H10.r3).cell 6 rfl
  have q_7 := (H10.r3).cell 7 rfl
  have q_8 := (H10.r3).cell 8 rfl
  have q_9 := (H10.r3).cell 9 rfl
  have q_10 := (H10.r3).cell 10 rfl
  go_wp2_with (fail)
  refine HSS.out.mono ?_
  rintro x w11 ⟨rfl, K⟩
  have H11 := H10.frame K
  rw [List.nil_append] at H11
  go_wp2_with (fail)
  go_ret
  exact ⟨rfl, H11.below⟩
theorem own : ownKnob Try.prog.godebug = none := by kernel_rfl
theorem laidOut : laidOutB Try.prog = true := by kernel_rfl
theorem readable : ∀ t ∈ Try.f3.params.toList, Try.prog.readableRec t = true ∧ t < Try.prog.types.size := by
  intro t ht
  rw [Try.params3] at ht
  simp only [List.mem_cons, List.not_mem_nil, or_false] at ht
  rcases ht with rfl | rfl | rfl
  all_goals exact ⟨by kernel_rfl, of_decide_eq_true (by kernel_rfl)⟩
theorem contract (H : Type) (enc : TypeId × Value → H) (W : World) (base : Nat) (args : Array Value) (ds gs : List (DataW H)) (before : List MemPlace)
    (hval : ∀ (j : Nat) t v, Try.f3.params[j]? = some t → args[j]? = some v → Value.okWide Try.prog W .any base t v)
    (hW : DataW.Whole enc Try.prog Try.f3.params.toList Rows.rpcPutsSpec.vars false W args.toList ds gs before) (hk : Rows.uptoSmall H (ds ++ gs) = true) :
    Calls Try.prog 3 args W fun e W' => ∃ v, e = .returned v ∧ Rows.rpcPutsSpec.post enc Try.prog Try.f3 false true false false W args v W' := by
  have hW' := hW
  obtain ⟨p, q, hA0, hV, rfl, _, _⟩ := hW
  have hA : DataW.TrodAll enc Try.prog W 0 (fun _ => true) true Try.f3.params.toList args.toList ds p := hA0
  rw [Try.params3] at hA hval
  obtain ⟨v0, vs0, d0, ds0, p0, q0, hargs, rfl, rfl, h0, r0⟩ := trodAll_cons hA
  obtain ⟨v1, vs1, d1, ds1, p1, q1, rfl, rfl, rfl, h1, r1⟩ := trodAll_cons r0
  obtain ⟨v2, vs2, d2, ds2, p2, q2, rfl, rfl, rfl, h2, r2⟩ := trodAll_cons r1
  obtain ⟨rfl, rfl, rfl⟩ := trodAll_nil r2
  obtain rfl : args = #[v0, v1, v2] := by cases args; simp_all
  obtain ⟨rfl, rfl⟩ := trodVars_none hV
  clear hA0
  have hk2 : Rows.uptoBulkAll _ ≤ 1048576 := of_decide_eq_true hk
  rw [List.append_nil] at hk2
  obtain ⟨cs0, hv0, hsz0⟩ := okWide_array Try.underlying22 (hval 0 22 v0 rfl rfl)
  subst hv0
  rw [show Try.prog.cellsOf 22 = 4 by kernel_rfl] at hsz0
  obtain ⟨l0⟩ := cs0
  obtain ⟨fuel0, hf0⟩ := h0
  obtain ⟨hrow0, hbulk0⟩ := trod_flat 8 22 [.int .i64, .int .i64, .int .i64, .int .i64] (by kernel_rfl) _ _ _ hf0
  simp only [Value.cells] at hrow0 hbulk0
  match l0, hsz0, hrow0, hbulk0, hval, hf0, hW', hk2 with
  | [c0_0, c0_1, c0_2, c0_3], _, hrow0, hbulk0, hval, hf0, hW', hk2 =>
  obtain ⟨⟨m0, rfl, wm0⟩, ⟨m1, rfl, wm1⟩, ⟨m2, rfl, wm2⟩, ⟨m3, rfl, wm3⟩, _⟩ := hrow0
  obtain ⟨cs1, hv1, hsz1⟩ := okWide_struct Try.underlying25 (hval 1 25 v1 rfl rfl)
  subst hv1
  obtain ⟨l1⟩ := cs1
  obtain ⟨fuel1, hf1⟩ := h1
  obtain ⟨hrow1, A1, n1, c1, rows1, htl1, hn1, hrd1, hrws1, hbulk1⟩ := trod_struct_slice (e := 3) (m := 8) (ks := Caller.kinds) (ks' := [.int .i64]) Try.underlying25 rfl (by kernel_rfl) (fun j k h => match j, h with | 0, h => by injection h with h; subst h; exact ⟨_, rfl, rfl, by kernel_rfl, by kernel_rfl⟩ | 1, h => by injection h with h; subst h; exact ⟨_, rfl, rfl, by kernel_rfl, by kernel_rfl⟩ | 2, h => by injection h with h; subst h; exact ⟨_, rfl, rfl, by kernel_rfl, by kernel_rfl⟩ | 3, h => by injection h with h; subst h; exact ⟨_, rfl, rfl, by kernel_rfl, by kernel_rfl⟩ | 4, h => by injection h with h; subst h; exact ⟨_, rfl, rfl, by kernel_rfl, by kernel_rfl⟩ | j + 5, h => by simp [Caller.kinds] at h) ⟨_, rfl, rfl, by kernel_rfl, by kernel_rfl⟩ (by kernel_rfl) (by kernel_rfl) (by decide) hf1
  simp only [Value.cells] at hrow1 htl1 hbulk1
  obtain ⟨x, hx1, hok1⟩ := Caller.of_row _ hrow1
  have hl1 := (List.take_append_drop Caller.kinds.length l1).symm
  rw [hx1] at hbulk1 hl1
  rw [htl1] at hl1
  subst hl1
  obtain ⟨xL, rfl, hokl1⟩ := rows_map (fun x : Int => [.int .i64 x]) (fun x : Int => -9223372036854775808 ≤ x ∧ x ≤ 9223372036854775807) rows1 (fun row hr => of_row_int row (hrws1 row hr))
  obtain ⟨args, rfl, rfl, rfl, wargs⟩ := open_string Try.underlying9 (hval 2 9 v2 rfl rfl) h2
  refine (walk W m0 (wf_i64 wm0) m1 (wf_i64 wm1) m2 (wf_i64 wm2) m3 (wf_i64 wm3) x hok1 A1 n1 c1 xL hrd1 (by
    have h1 := len_le_sum (ks := [.int .i64]) _ hrws1 (by decide)
    have h2 := hrd1.1
    simp only [Rows.uptoBulkAll, Rows.uptoBulk] at hk2
    omega) (by
    simp only [Rows.uptoBulkAll, Rows.uptoBulk] at hk2
    simp only [Caller.cells, wts, wt] at hbulk1
    omega) args (by
    have hz : (args.data.toList).length = args.size := bl_length args
    simp only [Rows.uptoBulkAll, Rows.uptoBulk] at hk2
    omega)).mono fun e W' ⟨he, hb⟩ => ?_
  exact ⟨_, he, law_post (tb := 4) laidOut readable rfl Try.underlying4 rfl hW' rfl rfl rfl hb⟩
set_option maxRecDepth 100000 in
theorem lifted (os : Os) (started : os.Started) (H : Type) (enc : TypeId × Value → H) (F : Stop.Interp) :
    ReturnsInHanded {} Try.checked os 3 .any ((Rows.OpenSpec.upto Rows.rpcPutsSpec).pre6 enc Try.prog Try.f3 Rows.rpcPutsUptoRow.domain false) (((Rows.OpenSpec.upto Rows.rpcPutsSpec).at F).post enc Try.prog Try.f3 false true false false) := by
  refine returnsInHanded_of_cond (C := Try.checked) (s := Rows.OpenSpec.upto Rows.rpcPutsSpec) (k := Rows.uptoSmall) rfl own started (by kernel_rfl) Try.func3
    (OpenSpec.witness (enc := enc) (C := Try.checked) (s := Rows.OpenSpec.upto Rows.rpcPutsSpec) (k := Rows.uptoSmall) rfl false ⟨#[], #[.agg #[.int .i64 0, .int .i64 0, .int .i64 0, .int .i64 0], .agg #[.bool false, .int .i64 0, .int .i64 0, .int .i64 0, .string .empty, .slice none 0 0], .string .empty], []⟩ 8 (by kernel_rfl) (by kernel_rfl) (by kernel_rfl)
      (x := ([.agg [.lit (.int .i64 0), .lit (.int .i64 0), .lit (.int .i64 0), .lit (.int .i64 0)], .agg [.lit (.bool false), .lit (.int .i64 0), .lit (.int .i64 0), .lit (.int .i64 0), .lit (.string []), .nil], .lit (.string [])], [], [])) (by kernel_rfl) rfl (by kernel_rfl)) ?_
  intro W base args ds gs before hval hW _ hk _
  exact contract H enc W base args ds gs before hval hW hk
theorem proved : Rows.RpcPutsUptoSaid :=
  OpenClaim.holds_of_cond 3 Try.f3 rfl rfl rfl rfl rfl rfl rfl ⟨rfl, rfl, rfl, rfl, rfl⟩ rfl rfl rfl rfl rfl (by kernel_rfl) Try.func3 (by kernel_rfl)
    (of_decide_eq_true (by kernel_rfl)) (by unfold Func.isWrapper; first | (rw [if_pos (by decide +kernel)]; kernel_rfl) | (rw [if_neg (by decide +kernel)]; exact ⟨rfl, rfl⟩))
    (fun os started H enc _ F => lifted os started H enc F)
#print axioms proved

end Go.Proofs.Ytkpcnklhboemcaa.RpcPuts

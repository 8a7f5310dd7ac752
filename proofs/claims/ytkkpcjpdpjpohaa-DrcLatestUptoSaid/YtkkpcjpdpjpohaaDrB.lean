/- Layer 16: the change that keeps an answer. -/
import Derived.Test.YtkkpcjpdpjpohaaDrA
import Derived.Test.YtkkpcjpdpjpohaaDrP
namespace Go.Proofs.Ytkkpcjpdpjpohaa
open Go.RowKit

theorem results_cell1 {P : Program} {fn : Func} {p t : Tmp} {ty : TypeId} (h : fn.results = #[.cell p ty, .tmp t]) (tmps : Array Value) (w : World) (g : Nat) (T : TypeId) (cs : Array Value) (fr : Nat × Nat) (d : TypeDesc)
    (hp : tmps.getD p undef = .pointer (some ⟨g, 0, none⟩)) (hg : w.heap[g]? = some (.cells cs T fr))
    (hu : P.underlying ty = some d) (hd : (match d with | .struct _ | .array _ _ => true | _ => false) = true) (hi : (P.info? ty).map (·.size) = some cs.size) :
    (results fn tmps).run P w = .ok (.tuple #[.agg cs, tmps.getD t undef]) w := by
  have hp' : tmps[p]?.getD undef = .pointer (some ⟨g, 0, none⟩) := by simpa using hp
  simp [results, h, hp', asAddr, run_loadVar_row w g T ty cs fr d hg hu hd hi]
theorem EncE.any {w0 w' : World} {F : List Assn} {o : Except Int ByteArray} {x : Ending} (h : EncE w0 F o x w') : ∃ v e, x = .returned (.tuple #[.string v, .int .i64 e]) ∧ St w0 w' F := by
  cases o with
  | error e => exact ⟨_, _, h.1, h.2⟩
  | ok s => exact ⟨_, _, h.1, h.2⟩
theorem conv2 {P : Program} (src dst e : TypeId) (hs : P.underlying src = some (.slice e)) (he : P.underlying e = some (.int .u8)) (hd : P.underlying dst = some .string) (W : World) (x0 x1 : Int) :
    (convert src dst (.slice (some ⟨W.heap.size, 0, none⟩) 2 2)).run P (W.alloc (.cells #[.int .u8 x0, .int .u8 x1] e)) = .ok (.string (strOfNums [x0, x1])) (W.alloc (.cells #[.int .u8 x0, .int .u8 x1] e)) := by
  refine run_convert_bytes_arg _ src e hs he W.heap.size 0 2 2 [x0, x1] rfl (fun i hi => ?_) dst hd
  rw [World.cell?_alloc_new]
  match i, hi with
  | 0, _ => rfl
  | 1, _ => rfl
def keyB (p : Nat) : ByteArray := strOfNums [114, (p : Int)]
set_option maxRecDepth 100000 in
set_option maxHeartbeats 4000000 in
theorem change_ok (b : Nat) (d : DS) (m : Nat) (client xid : Int) (call reply : ByteArray) (hm : m ≤ 4611686018427387904) (hcl : i64r client) (hxi : i64r xid) (hn : 1 ≤ d.ps.length ∧ d.ps.length ≤ 256) (hc : call.size ≤ 900) (hr : reply.size ≤ 900) {w0 w : World} {F : List Assn} (H : DcS w0 w F b d) :
    Calls Try.prog 18 #[.pointer (some ⟨b, 0, none⟩), .agg #[.int .i64 ((m : Int) + 1), .int .i64 client, .int .i64 xid, .string call, .string reply]] w fun x w' => x = .returned (.tuple #[.agg #[.string (keyB (m % d.ps.length)), .string (valB ((m : Int) + 1) client xid call reply), .bool false], .int .i64 ((m % d.ps.length : Nat) : Int)]) ∧ DcS w0 w' F b d := by
  obtain ⟨A, H⟩ := H
  obtain ⟨n, hnl⟩ : ∃ n, n = d.ps.length := ⟨_, rfl⟩
  rw [← hnl] at H hn ⊢
  have HNL := Lib.hid hnl; clear hnl
  obtain ⟨hn1, hn2⟩ := hn
  have henc := dr_enc ((m : Int) + 1) client xid call reply ⟨by omega, by omega⟩ hcl hxi hc hr
  have HENC := Lib.hid henc
  obtain ⟨vb, hvb⟩ : ∃ v, v = valB ((m : Int) + 1) client xid call reply := ⟨_, rfl⟩
  rw [← hvb] at HENC ⊢
  clear henc hvb
  have hcv := fun W x0 x1 => conv2 (P := Try.prog) 70 9 5 Try.underlying70 Try.underlying5 Try.underlying9 W x0 x1
  have H1 := (H.alloc #[.int .i64 ((m : Int) + 1), .int .i64 client, .int .i64 xid, .string call, .string reply] 59).alloc #[.string ⟨#[]⟩, .string ⟨#[]⟩, .bool false] 28
  simp only [World.size_alloc] at H1
  obtain ⟨b3, hb3⟩ : ∃ x, x = w.heap.size := ⟨_, rfl⟩
  obtain ⟨b4, hb4⟩ : ∃ x, x = w.heap.size + 1 := ⟨_, rfl⟩
  go_enter Try.func18, Try.ntmps18
  go_upto_region 1 with (fail)
  rw [← hb4] at H1 ⊢
  rw [← hb3] at H1 ⊢
  generalize (w.alloc (.cells #[.int .i64 ((m : Int) + 1), .int .i64 client, .int .i64 xid, .string call, .string reply] 59)).alloc (.cells #[.string ⟨#[]⟩, .string ⟨#[]⟩, .bool false] 28) = w1 at *
  clear hb3 hb4 H
  have k0 := H1.r2.cell 0 rfl
  have q0 := H1.r3.cell 0 rfl
  have hn0 : ((n : Int) == 0) = false := beq_eq_false_iff_ne.2 (by omega)
  have hn00 : n ≠ 0 := by omega
  go_quiet (fail)
  have H2 := H1.drewN nq
  generalize w1.drewN nq = w2 at *
  clear H1 k0 q0
  obtain ⟨pl, hpl⟩ : ∃ pl, pl = m % n := ⟨_, rfl⟩
  rw [show (m : Int) % n = (pl : Int) by rw [hpl]; exact (Int.natCast_emod m n).symm]
  have hpn : pl < n := by rw [hpl]; exact Nat.mod_lt _ (by omega)
  have HPL := Lib.hid hpl; clear hpl
  have hp256 : (pl : Int) % 256 = pl := by omega
  have k0 := H2.r2.cell 0 (v := .int .i64 ((m : Int) + 1)) rfl
  have k1 := H2.r2.cell 1 (v := .int .i64 client) rfl
  have k2 := H2.r2.cell 2 (v := .int .i64 xid) rfl
  have k3 := H2.r2.cell 3 (v := .string call) rfl
  have k4 := H2.r2.cell 4 (v := .string reply) rfl
  have k5 := (H2.alloc #[.int .i64 ((m : Int) + 1), .int .i64 client, .int .i64 xid] 3).r3.cell 3 (v := .string call) rfl
  have k6 := (H2.alloc #[.int .i64 ((m : Int) + 1), .int .i64 client, .int .i64 xid] 3).r3.cell 4 (v := .string reply) rfl
  have H3 := (H2.alloc #[.int .i64 ((m : Int) + 1), .int .i64 client, .int .i64 xid] 3).alloc #[.string call, .string reply] 9
  simp only [World.size_alloc] at H3
  have hI : RdI ((w2.alloc (.cells #[.int .i64 ((m : Int) + 1), .int .i64 client, .int .i64 xid] 3)).alloc (.cells #[.string call, .string reply] 9)) (some ⟨w2.heap.size, 0, none⟩) [(m : Int) + 1, client, xid] := fun j x hx => by
    match j, hx with
    | 0, hx => injection hx with hx; subst hx; exact ⟨_, _, rfl, H3.r2.cell 0 rfl⟩
    | 1, hx => injection hx with hx; subst hx; exact ⟨_, _, rfl, H3.r2.cell 1 rfl⟩
    | 2, hx => injection hx with hx; subst hx; exact ⟨_, _, rfl, H3.r2.cell 2 rfl⟩
  have hS : RdS ((w2.alloc (.cells #[.int .i64 ((m : Int) + 1), .int .i64 client, .int .i64 xid] 3)).alloc (.cells #[.string call, .string reply] 9)) (some ⟨w2.heap.size + 1, 0, none⟩) [call, reply] := fun j x hx => by
    match j, hx with
    | 0, hx => injection hx with hx; subst hx; exact ⟨_, _, rfl, H3.cell 0 rfl⟩
    | 1, hx => injection hx with hx; subst hx; exact ⟨_, _, rfl, H3.cell 1 rfl⟩
  have hE := encode_ok drF (by decide) (some ⟨w2.heap.size, 0, none⟩) 3 (some ⟨w2.heap.size + 1, 0, none⟩) 2 [(m : Int) + 1, client, xid] [call, reply] (by simp) (by simp) (fun x hx => by simp at hx; rcases hx with rfl | rfl <;> omega) (by unfold wgt; simp; omega) hI hS H3
  rw [HENC.out] at hE
  have HE := Lib.hid hE
  clear hI hS hE H3 HENC
  go_wp2_with (fail)
  refine HE.out.mono ?_
  clear HE
  rintro x w3 ⟨rfl, H3⟩
  clear k0 k1 k2 k3 k4 k5 k6
  have H4 := H3.tail.tail
  have H5 := (H4.alloc #[.int .u8 114, .int .u8 pl] 5)
  go_wp2_with (with_reducible refine hold_store (ty := 28) ?_)
  unfold Hold
  with_reducible refine wpList_store_st (ty := 28) (H5.r2) (#[.string (strOfNums [114, (pl : Int)]), .string vb, .bool false]) ?_ ?_ ?_ ?_ ?_ ?_ ?_
  rfl
  rfl
  rfl
  rfl
  kernel_rfl
  rfl
  intro w9 H9
  go_wp2_with (fail)
  refine bodyPost_ret (results_cell1 rfl _ _ b4 28 #[.string (strOfNums [114, (pl : Int)]), .string vb, .bool false] (0, 0) _ rfl H9.block Try.underlying28 rfl (by kernel_rfl)) rfl ?_
  rw [← HPL.out]
  refine ⟨rfl, A, ?_⟩
  rw [← HNL.out]
  exact (H9.ord 5 [3, 4, 0, 1, 2]).r5.tail.r4.tail.r3.tail
end Go.Proofs.Ytkkpcjpdpjpohaa

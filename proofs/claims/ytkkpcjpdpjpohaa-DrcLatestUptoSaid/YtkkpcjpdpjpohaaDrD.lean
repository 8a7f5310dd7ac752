/- Layer 16: Put, Kept, Len. -/
import Derived.Test.YtkkpcjpdpjpohaaDrB
import Derived.Test.YtkkpcjpdpjpohaaSLR
import Derived.Test.YtkkpcjpdpjpohaaRgl
namespace Go.Proofs.Ytkkpcjpdpjpohaa
open Go.RowKit

def DS.put (d : DS) (client xid : Int) (call reply : ByteArray) : DS := ⟨d.ps.set (d.age.toNat % d.ps.length) ⟨d.age + 1, client, xid, call, reply⟩, d.age + 1⟩
theorem DS.put_length (d : DS) (client xid : Int) (call reply : ByteArray) : (d.put client xid call reply).ps.length = d.ps.length := by
  unfold DS.put; simp
theorem ans_set : ∀ (ps : List An) (j : Nat) (x : An), j < ps.length → ans (ps.set j x) = putAt (ans ps) (j * 5) x.cells
  | [], j, x, h => by simp at h
  | y :: l, 0, x, _ => by
    show x.cells ++ ans l = (y.cells ++ ans l).take (0 * 5) ++ (x.cells ++ (y.cells ++ ans l).drop (0 * 5 + x.cells.length))
    rw [Nat.zero_mul, List.take_zero, List.nil_append, Nat.zero_add, List.drop_left' (show y.cells.length = x.cells.length from rfl)]
  | y :: l, j + 1, x, h => by
    have ih := ans_set l j x (by simpa using h)
    show y.cells ++ ans (l.set j x) = (y.cells ++ ans l).take ((j + 1) * 5) ++ (x.cells ++ (y.cells ++ ans l).drop ((j + 1) * 5 + x.cells.length))
    have hy : y.cells.length = 5 := rfl
    have t1 : (y.cells ++ ans l).take ((j + 1) * 5) = y.cells ++ (ans l).take (j * 5) := by
      rw [List.take_append, hy, List.take_of_length_le (l := y.cells) (by rw [hy]; omega), show (j + 1) * 5 - 5 = j * 5 by omega]
    have d1 : (y.cells ++ ans l).drop ((j + 1) * 5 + x.cells.length) = (ans l).drop (j * 5 + x.cells.length) := by
      rw [List.drop_append, hy, List.drop_eq_nil_of_le (show y.cells.length ≤ (j + 1) * 5 + x.cells.length by rw [hy]; omega), List.nil_append, show (j + 1) * 5 + x.cells.length - 5 = j * 5 + x.cells.length by omega]
    rw [ih, t1, d1, putAt, List.append_assoc]
-- §1 the end's zero change
def DPutE (w0 : World) (F : List Assn) (b : Nat) (d : DS) (client xid : Int) (call reply : ByteArray) (x : Ending) (w' : World) : Prop :=
  if call.size ≤ 900 ∧ reply.size ≤ 900 then x = .returned (.tuple #[.agg #[.string (keyB (d.age.toNat % d.ps.length)), .string (valB (d.age + 1) client xid call reply), .bool false], .bool true]) ∧ DcS w0 w' F b (d.put client xid call reply)
  else x = .returned (.tuple #[.agg #[.string ⟨#[]⟩, .string ⟨#[]⟩, .bool false], .bool false]) ∧ DcS w0 w' F b d
set_option maxRecDepth 100000 in
set_option maxHeartbeats 4000000 in
theorem dput_ok (b : Nat) (d : DS) (client xid : Int) (call reply : ByteArray) (ha : 0 ≤ d.age ∧ d.age ≤ 4611686018427387904) (hcl : i64r client) (hxi : i64r xid) (hn : 1 ≤ d.ps.length ∧ d.ps.length ≤ 256) {w0 w : World} {F : List Assn} (H : DcS w0 w F b d) :
    Calls Try.prog 9 #[.pointer (some ⟨b, 0, none⟩), .int .i64 client, .int .i64 xid, .string call, .string reply] w (DPutE w0 F b d client xid call reply) := by
  obtain ⟨A, H⟩ := H
  obtain ⟨ps, age⟩ := d
  obtain ⟨m, rfl⟩ : ∃ m : Nat, age = m := ⟨age.toNat, by dsimp only at ha; omega⟩
  dsimp only at ha hn H
  obtain ⟨n, hnl⟩ : ∃ n, n = ps.length := ⟨_, rfl⟩
  have HN0 := Lib.hid hn
  rw [← hnl] at H hn
  have HNL : Hid (n = (⟨ps, (m : Int)⟩ : DS).ps.length) := hnl
  clear hnl
  have H1 := H.alloc #[.string ⟨#[]⟩, .string ⟨#[]⟩, .bool false] 28
  obtain ⟨b10, hb10⟩ : ∃ x, x = w.heap.size := ⟨_, rfl⟩
  go_enter Try.func9, Try.ntmps9
  go_upto_region 1 with (fail)
  rw [← hb10] at H1 ⊢
  generalize w.alloc (.cells #[.string ⟨#[]⟩, .string ⟨#[]⟩, .bool false] 28) = w1 at *
  clear hb10 H
  by_cases hc : call.size ≤ 900
  rotate_left 1
  · have hcI : (call.size : Int) > 900 := by omega
    have HNO := Lib.hid (show ¬ (call.size ≤ 900 ∧ reply.size ≤ 900) from fun h => hc h.1)
    clear hc
    go_wp2_with (with_reducible refine hold_store (ty := 28) ?_)
    unfold Hold
    with_reducible refine wpList_store_st (ty := 28) (H1) (#[.string ⟨#[]⟩, .string ⟨#[]⟩, .bool false]) ?_ ?_ ?_ ?_ ?_ ?_ ?_
    rfl
    rfl
    rfl
    rfl
    kernel_rfl
    rfl
    intro w9 H9
    go_wp2_with (fail)
    refine bodyPost_ret (results_cell1 rfl _ _ b10 28 #[.string ⟨#[]⟩, .string ⟨#[]⟩, .bool false] (0, 0) _ rfl H9.block Try.underlying28 rfl (by kernel_rfl)) rfl ?_
    show DPutE _ _ _ _ _ _ _ _ _ _
    unfold DPutE
    rw [if_neg HNO.out]
    exact ⟨rfl, A, by rw [← HNL.out]; exact H9.tail⟩
  have hcI : decide ((call.size : Int) > 900) = false := decide_eq_false (by omega)
  have hcN : decide (900 < call.size) = false := decide_eq_false (by omega)
  by_cases hr : reply.size ≤ 900
  rotate_left 1
  · have hrI : (reply.size : Int) > 900 := by omega
    have HNO := Lib.hid (show ¬ (call.size ≤ 900 ∧ reply.size ≤ 900) from fun h => hr h.2)
    clear hr
    go_wp2_with (with_reducible refine hold_store (ty := 28) ?_)
    unfold Hold
    with_reducible refine wpList_store_st (ty := 28) (H1) (#[.string ⟨#[]⟩, .string ⟨#[]⟩, .bool false]) ?_ ?_ ?_ ?_ ?_ ?_ ?_
    rfl
    rfl
    rfl
    rfl
    kernel_rfl
    rfl
    intro w9 H9
    go_wp2_with (fail)
    refine bodyPost_ret (results_cell1 rfl _ _ b10 28 #[.string ⟨#[]⟩, .string ⟨#[]⟩, .bool false] (0, 0) _ rfl H9.block Try.underlying28 rfl (by kernel_rfl)) rfl ?_
    show DPutE _ _ _ _ _ _ _ _ _ _
    unfold DPutE
    rw [if_neg HNO.out]
    exact ⟨rfl, A, by rw [← HNL.out]; exact H9.tail⟩
  have hrI : ¬ (reply.size : Int) > 900 := by omega
  have HC := Lib.hid hc; have HR := Lib.hid hr
  clear hc hr
  have c1 : w1.cell? ⟨b, 1, none⟩ = some (.int .i64 m) := H1.r2.cell 1 rfl
  have f1 := H1.r2.frozen 1
  have H2 := H1.r2.set 1 (.int .i64 ((m : Int) + 1))
  go_upto_region 4 with (fail)
  generalize w1.setCell ⟨b, 1, none⟩ (.int .i64 ((m : Int) + 1)) = w2 at *
  clear c1 f1 H1
  have c1 : w2.cell? ⟨b, 1, none⟩ = some (.int .i64 ((m : Int) + 1)) := H2.cell 1 rfl
  have H3 := H2.alloc #[.int .i64 ((m : Int) + 1), .int .i64 client, .int .i64 xid, .string call, .string reply] 59
  obtain ⟨b12, hb12⟩ : ∃ x, x = w2.heap.size := ⟨_, rfl⟩
  go_upto_region 5 with (fail)
  rw [← hb12] at H3 ⊢
  generalize w2.alloc (.cells #[.int .i64 ((m : Int) + 1), .int .i64 client, .int .i64 xid, .string call, .string reply] 59) = w3 at *
  clear hb12 c1 H2
  have k0 := H3.cell 0 rfl
  have k1 := H3.cell 1 rfl
  have k2 := H3.cell 2 rfl
  have k3 := H3.cell 3 rfl
  have k4 := H3.cell 4 rfl
  have hch := change_ok b ⟨ps, (m : Int) + 1⟩ m client xid call reply (by omega) hcl hxi HN0.out HC.out HR.out (w0 := w0) (w := w3) (F := Pt b12 #[.int .i64 ((m : Int) + 1), .int .i64 client, .int .i64 xid, .string call, .string reply] 59 :: Pt b10 #[.string ⟨#[]⟩, .string ⟨#[]⟩, .bool false] 28 :: F) ⟨A, by
    have h := H3.ord 4 [1, 3, 0, 2]
    rw [HNL.out] at h
    exact h⟩
  obtain ⟨key, hkey⟩ : ∃ k, k = keyB (m % ps.length) := ⟨_, rfl⟩
  obtain ⟨val, hval⟩ : ∃ k, k = valB ((m : Int) + 1) client xid call reply := ⟨_, rfl⟩
  obtain ⟨pl, hpl⟩ : ∃ p, p = m % ps.length := ⟨_, rfl⟩
  dsimp only at hch
  rw [← hkey, ← hval, ← hpl] at hch
  have hpln : pl < n := by rw [hpl, HNL.out]; exact Nat.mod_lt _ HN0.out.1
  have HCH := Lib.hid hch
  have HPL := Lib.hid hpl; have HKEY := Lib.hid hkey; have HVAL := Lib.hid hval
  clear hch hkey hval hpl
  go_wp2_with (fail)
  refine HCH.out.mono ?_
  rintro x w4 ⟨rfl, A4, H4⟩
  clear HCH k0 k1 k2 k3 k4 H3
  have H5 := H4.alloc #[.string key, .string val, .bool false] 28
  obtain ⟨b13, hb13⟩ : ∃ x, x = w4.heap.size := ⟨_, rfl⟩
  go_upto_region 6 with (fail)
  rw [← hb13] at H5 ⊢
  generalize w4.alloc (.cells #[.string key, .string val, .bool false] 28) = w5 at *
  clear hb13 H4
  try dsimp only at H5
  have hrl : (ans ps).length = ps.length * 5 := ans_length ps
  obtain ⟨g, og, rfl⟩ := H5.r3.row_form (by have := HNL.out; omega)
  have HSd := H5.drew
  rw [show ps.length = n from HNL.out.symm] at HSd
  refine wp_region_L [(7, fun w' => w'.cell? ⟨b, 0, none⟩ = some (.slice (some ⟨g, og, none⟩) n n)), (7, fun w' => w'.rangeAt b12 0 [.int .i64 ((m : Int) + 1), .int .i64 client, .int .i64 xid, .string call, .string reply])] (by kernel_rfl) (Keep.on (HSd.r2.cell 0 rfl) (Keep.on HSd.r4.range trivial)) (fun hKeep => ?_)
  generalize World.drew _ = w6 at *
  clear H5
  refine rgl_take (i := 0) (v := ?_) [] rfl (by kernel_rfl) (by kernel_rfl) (by decide +kernel) (fun _ _ _ h => h) (by decide +kernel) (by kernel_rfl) (Or.inl ⟨by kernel_rfl, ?_⟩) hKeep ?_
  rotate_left 1
  · rintro w' -
    go_simp
    first | done | with_reducible rfl
  intro hKeep'
  clear hKeep
  have hKeep := hKeep'
  clear hKeep'
  try simp only [Act.put, List.setIfInBounds_toArray, List.set_cons_zero, List.set_cons_succ]
  refine rgl_take (i := 1) (v := ?_) [] rfl (by kernel_rfl) (by kernel_rfl) (by decide +kernel) (fun _ _ _ h => h) (by decide +kernel) (by kernel_rfl) (Or.inl ⟨by kernel_rfl, ?_⟩) hKeep ?_
  rotate_left 1
  · rintro w' -
    go_simp
    first | done | with_reducible rfl
  intro hKeep'
  clear hKeep
  have hKeep := hKeep'
  clear hKeep'
  try simp only [Act.put, List.setIfInBounds_toArray, List.set_cons_zero, List.set_cons_succ]
  refine rgl_take (i := 2) (v := ?_) [] rfl (by kernel_rfl) (by kernel_rfl) (by decide +kernel) (fun _ _ _ h => h) (by decide +kernel) (by kernel_rfl) (Or.inl ⟨by kernel_rfl, ?_⟩) hKeep ?_
  rotate_left 1
  · rintro w' -
    go_simp
    first | done | with_reducible rfl
  intro hKeep'
  clear hKeep
  have hKeep := hKeep'
  clear hKeep'
  try simp only [Act.put, List.setIfInBounds_toArray, List.set_cons_zero, List.set_cons_succ]
  refine rgl_take (i := 3) (v := ?_) [7] rfl (by kernel_rfl) (by kernel_rfl) (by decide +kernel) (fun _ _ _ h => h) (by decide +kernel) (by kernel_rfl) (Or.inl ⟨by kernel_rfl, ?_⟩) hKeep ?_
  rotate_left 1
  · rintro w' ⟨L, hL, hSw⟩
    have q := Keep.hd hSw (hL 7 (by simp))
    try dsimp only at q
    clear hSw hL
    go_simp
    first | done | with_reducible rfl
  intro hKeep'
  clear hKeep
  have hKeep := hKeep'
  clear hKeep'
  try simp only [Act.put, List.setIfInBounds_toArray, List.set_cons_zero, List.set_cons_succ]
  refine rgl_take (i := 4) (v := ?_) [] rfl (by kernel_rfl) (by kernel_rfl) (by decide +kernel) (fun _ _ _ h => h) (by decide +kernel) (by kernel_rfl) (Or.inl ⟨by kernel_rfl, ?_⟩) hKeep ?_
  rotate_left 1
  · rintro w' -
    go_simp
    first | done | with_reducible rfl
  intro hKeep'
  clear hKeep
  have hKeep := hKeep'
  clear hKeep'
  try simp only [Act.put, List.setIfInBounds_toArray, List.set_cons_zero, List.set_cons_succ]
  refine rgl_take (i := 5) (v := _) [7] rfl (by kernel_rfl) (by kernel_rfl) (by decide +kernel) (fun _ _ _ h => h) (by decide +kernel) (by kernel_rfl) (yieldsIf_load_mid (by kernel_rfl) 59 _ rfl b12 0 rfl [.int .i64 ((m : Int) + 1), .int .i64 client, .int .i64 xid, .string call, .string reply] _ (fun w' h => by obtain ⟨L, hL, hSw⟩ := h; exact Keep.hd (Keep.tl hSw) (hL 7 (by simp))) Try.underlying59 rfl (by kernel_rfl)) hKeep ?_
  intro hKeep'
  clear hKeep
  have hKeep := hKeep'
  clear hKeep'
  try simp only [Act.put, List.setIfInBounds_toArray, List.set_cons_zero, List.set_cons_succ]
  have hplI : (pl : Int) < n := by omega
  refine rgl_take (i := 6) (v := ?_) [] rfl (by kernel_rfl) (by kernel_rfl) (by decide +kernel) (fun _ _ _ h => h) (by decide +kernel) (by kernel_rfl) (Or.inl ⟨by kernel_rfl, ?_⟩) hKeep ?_
  rotate_left 1
  · rintro w' -
    go_simp
    first | done | with_reducible rfl
  intro hKeep'
  clear hKeep
  have hKeep := hKeep'
  clear hKeep'
  try simp only [Act.put, List.setIfInBounds_toArray, List.set_cons_zero, List.set_cons_succ]
  refine rgl_ready (rs := [7]) (by decide +kernel) (by simp) ?_
  refine rgl_cons rfl (fun K hK => ?_) AllReadyL.nil
  refine step_store_row 59 _ _ rfl rfl HSd.r3 (pl * 5) #[.int .i64 ((m : Int) + 1), .int .i64 client, .int .i64 xid, .string call, .string reply] (Nat.le_refl _) (by have := HNL.out; rw [hrl]; show pl * 5 + 5 ≤ _; omega) rfl rfl (by kernel_rfl) rfl ?_
  intro w7 H7
  refine hK.out _ _ (Keep.off (by kernel_rfl) (Keep.off (by kernel_rfl) trivial)) (fun hKeep' => ?_)
  clear hK hKeep hKeep'
  refine rgl_done (by decide +kernel) ?_ _
  clear HSd
  have k0 := H7.r2.cell 0 (v := .string key) rfl
  have k1 := H7.r2.cell 1 (v := .string val) rfl
  have k2 := H7.r2.cell 2 (v := .bool false) rfl
  go_wp2_with (with_reducible refine hold_store (ty := 28) ?_)
  unfold Hold
  with_reducible refine wpList_store_st (ty := 28) (H7.r5) (#[.string key, .string val, .bool false]) ?_ ?_ ?_ ?_ ?_ ?_ ?_
  rfl
  rfl
  rfl
  rfl
  kernel_rfl
  rfl
  intro w9 H9
  go_wp2_with (fail)
  refine bodyPost_ret (results_cell1 rfl _ _ b10 28 #[.string key, .string val, .bool false] (0, 0) _ rfl H9.block Try.underlying28 rfl (by kernel_rfl)) rfl ?_
  show DPutE _ _ _ _ _ _ _ _ _ _
  unfold DPutE
  rw [if_pos ⟨HC.out, HR.out⟩]
  dsimp only
  rw [Int.toNat_natCast, ← HKEY.out, ← HVAL.out]
  refine ⟨rfl, some ⟨g, og, none⟩, ?_⟩
  rw [DS.put_length]
  unfold DS.put
  dsimp only
  rw [Int.toNat_natCast, ← HPL.out, ans_set _ _ _ (by have := HNL.out; omega), ← show n = ps.length from HNL.out]
  exact ((H9.ord 5 [3, 1, 0, 2, 4]).r5.tail.r4.tail).r3.tail
end Go.Proofs.Ytkkpcjpdpjpohaa

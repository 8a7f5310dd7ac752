/- Layer 3: calls as bytes. -/
import Derived.Test.YtkpcnklhboemcaaRpA
import Derived.Test.YtkpcnklhboemcaaSLF
import Derived.Deep.DeepCutAuto
namespace Go.Proofs.Ytkpcnklhboemcaa
open Go.RowKit

theorem Rd.keep {w0 w : World} {A : Option Addr} {l : List Int} (h : Rd w0 A l) {F : List Assn} (H : St w0 w F) : Rd w A l := fun j x hx => by
  obtain ⟨b, o, h1, h2⟩ := h j x hx
  exact ⟨b, o, h1, by rw [H.old (a := ⟨b, o + j, none⟩) (World.block_lt_of_cell? w0 _ h2)]; exact h2⟩
/-- a call -/
structure Cal where
  xid : Int
  prog : Int
  vers : Int
  proc : Int
  unix : Bool
  stamp : Int
  mach : ByteArray
  uid : Int
  gid : Int
  groups : List Int
  args : ByteArray
def Cal.cells (c : Cal) (A : Option Addr) (d : Nat) : Array Value := #[.int .i64 c.xid, .int .i64 c.prog, .int .i64 c.vers, .int .i64 c.proc, .bool c.unix, .int .i64 c.stamp, .string c.mach, .int .i64 c.uid, .int .i64 c.gid, .slice A c.groups.length d, .string c.args]
def Cal.words (c : Cal) : Bool := [c.xid, c.prog, c.vers, c.proc, c.stamp, c.uid, c.gid].all isW
def Cal.good (c : Cal) : Prop := (c.words = true ∧ c.groups.all isW = true) ∧ (c.mach.size ≤ 255 ∧ c.groups.length ≤ 16) ∧ (c.unix = true ∨ (c.stamp = 0 ∧ c.mach = ByteArray.empty ∧ c.uid = 0 ∧ c.gid = 0 ∧ c.groups.length = 0))
instance (c : Cal) : Decidable c.good := by unfold Cal.good; infer_instance
set_option maxRecDepth 100000 in
set_option maxHeartbeats 8000000 in
theorem good_ok (c : Cal) (A : Option Addr) (d : Nat) (hn : c.groups.length ≤ 1099511627776) (w : World) (hr : Rd w A c.groups) :
    Calls Try.prog 20 #[.agg (c.cells A d)] w fun x w' => x = .returned (.bool (decide c.good)) ∧ St w w' [] := by
  obtain ⟨xid, prog, vers, proc, unix, stamp, mach, uid, gid, groups, args⟩ := c
  obtain ⟨res, hres⟩ : ∃ x, x = decide (Cal.good ⟨xid, prog, vers, proc, unix, stamp, mach, uid, gid, groups, args⟩) := ⟨_, rfl⟩
  rw [← hres]
  have HR := Lib.hid hres; clear hres
  dsimp only [Cal.cells] at *
  obtain ⟨n, hl⟩ : ∃ n, groups.length = n := ⟨_, rfl⟩
  rw [hl] at hn ⊢
  have HL := Lib.hid hl; have RA := Lib.hid hr; clear hl hr
  have H1 := ((St.init w).alloc #[.int .i64 xid, .int .i64 prog, .int .i64 vers, .int .i64 proc, .bool unix, .int .i64 stamp, .string mach, .int .i64 uid, .int .i64 gid, .slice A n d, .string args] 30)
  have H := (H1.alloc #[.int .i64 uid, .int .i64 gid, .slice A n d] 28).r2
  simp only [World.size_alloc] at H
  obtain ⟨b1, hb1⟩ : ∃ b, b = w.heap.size := ⟨_, rfl⟩
  obtain ⟨b3, hb3⟩ : ∃ b, b = w.heap.size + 1 := ⟨_, rfl⟩
  go_enter Try.func20, Try.ntmps20
  go_upto_region 2 with (fail)
  rw [← hb3] at H ⊢
  rw [← hb1] at H ⊢
  generalize (w.alloc (.cells #[.int .i64 xid, .int .i64 prog, .int .i64 vers, .int .i64 proc, .bool unix, .int .i64 stamp, .string mach, .int .i64 uid, .int .i64 gid, .slice A n d, .string args] 30)).alloc (.cells #[.int .i64 uid, .int .i64 gid, .slice A n d] 28) = w2 at *
  clear H1 hb1 hb3
  have p0 := H.cell 0 rfl
  have p1 := H.cell 1 rfl
  have p2 := H.cell 2 rfl
  have p3 := H.cell 3 rfl
  have p4 := H.cell 4 rfl
  have p5 := H.cell 5 rfl
  have p6 := H.cell 6 rfl
  have p7 := H.cell 7 rfl
  have p8 := H.cell 8 rfl
  have p9 := H.cell 9 rfl
  have p10 := H.cell 10 rfl
  have q0 := H.r2.cell 0 rfl
  have q1 := H.r2.cell 1 rfl
  have q2 := H.r2.cell 2 rfl
  go_wp2_with (fail)
  refine (words_ok _ 7 _ [xid, prog, vers, proc, stamp, uid, gid] rfl (by decide) _ (Rd_new _ _ _)).mono ?_
  rintro x w3 ⟨rfl, rfl⟩
  have H' := H.more (.cells ([xid, prog, vers, proc, stamp, uid, gid].map (.int .i64 ·)).toArray 3)
  generalize w2.alloc (.cells ([xid, prog, vers, proc, stamp, uid, gid].map (.int .i64 ·)).toArray 3) = w1 at *
  clear p0 p1 p2 p3 p4 p5 p6 p7 p8 p9 p10 q0 q1 q2
  clear H
  have H := H'
  clear H'
  have hrd := RA.out.keep H
  have p0 := H.cell 0 rfl
  have p1 := H.cell 1 rfl
  have p2 := H.cell 2 rfl
  have p3 := H.cell 3 rfl
  have p4 := H.cell 4 rfl
  have p5 := H.cell 5 rfl
  have p6 := H.cell 6 rfl
  have p7 := H.cell 7 rfl
  have p8 := H.cell 8 rfl
  have p9 := H.cell 9 rfl
  have p10 := H.cell 10 rfl
  have q0 := H.r2.cell 0 rfl
  have q1 := H.r2.cell 1 rfl
  have q2 := H.r2.cell 2 rfl
  generalize hW : ([xid, prog, vers, proc, stamp, uid, gid].all isW) = W
  have HW := Lib.hid hW; clear hW
  cases W
  · go_wp2_with (fail)
    go_ret
    exact ⟨by rw [HR.out, decide_eq_false (by rintro ⟨⟨g1, g2⟩, ⟨g3, g4⟩, g5⟩; dsimp only at *; have h := HW.out; rw [show ([xid, prog, vers, proc, stamp, uid, gid].all isW) = true from g1] at h; cases h)]; rfl, H.tail.tail⟩
  go_wp2_with (fail)
  refine (words_ok A n d groups HL.out hn _ hrd).mono ?_
  rintro x w3 ⟨rfl, rfl⟩
  generalize hW2 : groups.all isW = W2
  have HW2 := Lib.hid hW2; clear hW2
  cases W2
  · go_wp2_with (fail)
    go_ret
    exact ⟨by rw [HR.out, decide_eq_false (by rintro ⟨⟨g1, g2⟩, ⟨g3, g4⟩, g5⟩; dsimp only at *; rw [HW2.out] at g2; cases g2)]; rfl, H.tail.tail⟩
  by_cases h3 : mach.size ≤ 255
  rotate_left 1
  · have h3' : decide (255 < (mach.size : Int)) = true := decide_eq_true (by omega)
    go_wp2_with (fail)
    go_ret
    exact ⟨by rw [HR.out, decide_eq_false (by rintro ⟨⟨g1, g2⟩, ⟨g3, g4⟩, g5⟩; dsimp only at *; omega)]; rfl, H.tail.tail⟩
  have h3' : decide (255 < (mach.size : Int)) = false := decide_eq_false (by omega)
  by_cases h4 : n ≤ 16
  rotate_left 1
  · have h4' : decide (16 < (n : Int)) = true := decide_eq_true (by omega)
    go_wp2_with (fail)
    go_ret
    exact ⟨by rw [HR.out, decide_eq_false (by rintro ⟨⟨g1, g2⟩, ⟨g3, g4⟩, g5⟩; dsimp only at *; rw [HL.out] at g4; omega)]; rfl, H.tail.tail⟩
  have h4' : decide (16 < (n : Int)) = false := decide_eq_false (by omega)
  cases unix
  rotate_left 1
  · go_wp2_with (fail)
    go_ret
    exact ⟨by rw [HR.out, decide_eq_true (show Cal.good ⟨xid, prog, vers, proc, true, stamp, mach, uid, gid, groups, args⟩ from ⟨⟨HW.out, HW2.out⟩, ⟨h3, by dsimp only; rw [HL.out]; exact h4⟩, .inl rfl⟩)]; rfl, H.tail.tail⟩
  have he := isEmpty_iff mach
  have HE := Lib.hid he; clear he
  by_cases h5 : stamp = 0
  rotate_left 1
  · have h5' : (stamp == 0) = false := beq_eq_false_iff_ne.2 h5
    go_wp2_with (fail)
    go_ret
    exact ⟨by rw [HR.out, decide_eq_false (by rintro ⟨⟨g1, g2⟩, ⟨g3, g4⟩, g5⟩; dsimp only at *; obtain ⟨g5, g6, g7, g8, g9⟩ := g5.resolve_left (by decide); exact h5 g5)]; rfl, H.tail.tail⟩
  have h5' : (stamp == 0) = true := beq_iff_eq.2 h5
  have H5 := Lib.hid h5; clear h5
  by_cases h6 : mach = ByteArray.empty
  rotate_left 1
  · have h6' : mach.toList.isEmpty = false := Bool.eq_false_iff.2 fun h => h6 (HE.out.1 h)
    go_wp2_with (fail)
    go_ret
    exact ⟨by rw [HR.out, decide_eq_false (by rintro ⟨⟨g1, g2⟩, ⟨g3, g4⟩, g5⟩; dsimp only at *; obtain ⟨g5, g6, g7, g8, g9⟩ := g5.resolve_left (by decide); exact h6 g6)]; rfl, H.tail.tail⟩
  have h6' : mach.toList.isEmpty = true := HE.out.2 h6
  have H6 := Lib.hid h6; clear h6
  by_cases h7 : uid = 0
  rotate_left 1
  · have h7' : (uid == 0) = false := beq_eq_false_iff_ne.2 h7
    go_wp2_with (fail)
    go_ret
    exact ⟨by rw [HR.out, decide_eq_false (by rintro ⟨⟨g1, g2⟩, ⟨g3, g4⟩, g5⟩; dsimp only at *; obtain ⟨g5, g6, g7, g8, g9⟩ := g5.resolve_left (by decide); exact h7 g7)]; rfl, H.tail.tail⟩
  have h7' : (uid == 0) = true := beq_iff_eq.2 h7
  have H7 := Lib.hid h7; clear h7
  by_cases h8 : gid = 0
  rotate_left 1
  · have h8' : (gid == 0) = false := beq_eq_false_iff_ne.2 h8
    go_wp2_with (fail)
    go_ret
    exact ⟨by rw [HR.out, decide_eq_false (by rintro ⟨⟨g1, g2⟩, ⟨g3, g4⟩, g5⟩; dsimp only at *; obtain ⟨g5, g6, g7, g8, g9⟩ := g5.resolve_left (by decide); exact h8 g8)]; rfl, H.tail.tail⟩
  have h8' : (gid == 0) = true := beq_iff_eq.2 h8
  have H8 := Lib.hid h8; clear h8
  by_cases h9 : n = 0
  rotate_left 1
  · have h9' : ((n : Int) == 0) = false := beq_eq_false_iff_ne.2 (by omega)
    go_wp2_with (fail)
    go_ret
    exact ⟨by rw [HR.out, decide_eq_false (by rintro ⟨⟨g1, g2⟩, ⟨g3, g4⟩, g5⟩; dsimp only at *; obtain ⟨g5, g6, g7, g8, g9⟩ := g5.resolve_left (by decide); rw [HL.out] at g9; exact h9 g9)]; rfl, H.tail.tail⟩
  have h9' : ((n : Int) == 0) = true := beq_iff_eq.2 (by omega)
  have H9 := Lib.hid h9; clear h9
  go_wp2_with (fail)
  go_ret
  exact ⟨by rw [HR.out, decide_eq_true (show Cal.good ⟨xid, prog, vers, proc, false, stamp, mach, uid, gid, groups, args⟩ from ⟨⟨HW.out, HW2.out⟩, ⟨h3, by dsimp only; rw [HL.out]; exact h4⟩, .inr ⟨H5.out, H6.out, H7.out, H8.out, HL.out.trans H9.out⟩⟩)]; rfl, H.tail.tail⟩
end Go.Proofs.Ytkpcnklhboemcaa

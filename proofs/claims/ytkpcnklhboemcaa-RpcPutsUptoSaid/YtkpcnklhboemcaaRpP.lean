/- Layer 3's statements: are two calls one? -/
import Derived.Test.YtkpcnklhboemcaaRpG
import Derived.Deep.QuietTactic
import Derived.BigQuiet
namespace Go.Proofs.Ytkpcnklhboemcaa
open Go.RowKit

set_option maxRecDepth 100000 in
set_option maxHeartbeats 8000000 in
theorem same_ok (c : Cal) (A : Option Addr) (d : Nat) (B : Option Addr) (d2 : Nat) (hn : c.groups.length ≤ 1099511627776) (w : World) (hr : Rd w A c.groups) (hr2 : Rd w B c.groups) :
    Calls Try.prog 13 #[.agg (c.cells A d), .agg (c.cells B d2)] w fun x w' => x = .returned (.bool true) ∧ St w w' [] := by
  obtain ⟨xid, prog, vers, proc, unix, stamp, mach, uid, gid, groups, args⟩ := c
  dsimp only at hn hr hr2
  dsimp only [Cal.cells] at *
  obtain ⟨n, hl⟩ : ∃ n, groups.length = n := ⟨_, rfl⟩
  rw [hl] at hn ⊢
  have HL := Lib.hid hl; have RA := Lib.hid hr; have RB := Lib.hid hr2; clear hl hr hr2
  have H := ((St.init w).alloc #[.int .i64 xid, .int .i64 prog, .int .i64 vers, .int .i64 proc, .bool unix, .int .i64 stamp, .string mach, .int .i64 uid, .int .i64 gid, .slice A n d, .string args] 30).alloc #[.int .i64 xid, .int .i64 prog, .int .i64 vers, .int .i64 proc, .bool unix, .int .i64 stamp, .string mach, .int .i64 uid, .int .i64 gid, .slice B n d2, .string args] 32
  simp only [World.size_alloc] at H
  obtain ⟨b2, hb2⟩ : ∃ b, b = w.heap.size := ⟨_, rfl⟩
  obtain ⟨b3, hb3⟩ : ∃ b, b = w.heap.size + 1 := ⟨_, rfl⟩
  have hm : (mach.toList == mach.toList) = true := by simp
  have ha : (args.toList == args.toList) = true := by simp
  have hx0 : (xid != xid) = false := bne_self_eq_false xid
  go_enter Try.func13, Try.ntmps13
  rw [← hb3] at H
  rw [← hb2] at H
  have p0 := H.cell 0 rfl
  have p1 := H.cell 1 rfl
  have p2 := H.cell 2 rfl
  have p3 := H.cell 3 rfl
  have p4 := H.cell 4 rfl
  have p5 := H.cell 5 rfl
  have p6 := H.cell 6 rfl
  have p7 := H.cell 7 rfl
  have p8 := H.cell 8 rfl
  have p9 := H.cell 9 rfl
  have p10 := H.cell 10 rfl
  have q0 := H.r2.cell 0 rfl
  have q1 := H.r2.cell 1 rfl
  have q2 := H.r2.cell 2 rfl
  have q3 := H.r2.cell 3 rfl
  have q4 := H.r2.cell 4 rfl
  have q5 := H.r2.cell 5 rfl
  have q6 := H.r2.cell 6 rfl
  have q7 := H.r2.cell 7 rfl
  have q8 := H.r2.cell 8 rfl
  have q9 := H.r2.cell 9 rfl
  have q10 := H.r2.cell 10 rfl
  rw [hb2] at q0 q1 q2 q3 q4 q5 q6 q7 q8 q9 q10
  rw [hb3] at p0 p1 p2 p3 p4 p5 p6 p7 p8 p9 p10
  go_wp2_with (fail)
  rw [← hb3, ← hb2]
  generalize ((w.alloc (.cells #[.int .i64 xid, .int .i64 prog, .int .i64 vers, .int .i64 proc, .bool unix, .int .i64 stamp, .string mach, .int .i64 uid, .int .i64 gid, .slice A n d, .string args] 30)).alloc (.cells #[.int .i64 xid, .int .i64 prog, .int .i64 vers, .int .i64 proc, .bool unix, .int .i64 stamp, .string mach, .int .i64 uid, .int .i64 gid, .slice B n d2, .string args] 32)) = w1 at *
  clear p0 p1 p2 p3 p4 p5 p6 p7 p8 p9 p10 q0 q1 q2 q3 q4 q5 q6 q7 q8 q9 q10 hm ha hx0 hb2 hb3
  go_loopw [5] (fun i wr => ∃ k : Nat, k ≤ n ∧ i = .int .i64 k ∧ St w wr [Pt b3 #[.int .i64 xid, .int .i64 prog, .int .i64 vers, .int .i64 proc, .bool unix, .int .i64 stamp, .string mach, .int .i64 uid, .int .i64 gid, .slice B n d2, .string args] 32, Pt b2 #[.int .i64 xid, .int .i64 prog, .int .i64 vers, .int .i64 proc, .bool unix, .int .i64 stamp, .string mach, .int .i64 uid, .int .i64 gid, .slice A n d, .string args] 30]) (fun i _ => n - (intOf i).toNat)
  case atStart => exact ⟨0, Nat.zero_le _, rfl, H⟩
  case round =>
    clear H
    obtain ⟨k, hk, rfl, H⟩ := hrel
    have p9 := H.cell 9 rfl
    have q9 := H.r2.cell 9 rfl
    by_cases hlt : k < n
    · obtain ⟨x, hx⟩ : ∃ x, groups[k]? = some x := ⟨_, List.getElem?_eq_getElem (by rw [HL.out]; exact hlt)⟩
      obtain ⟨ba, oa, hA, ca⟩ := RA.out.keep H k x hx
      obtain ⟨bb, ob, hB, cb⟩ := RB.out.keep H k x hx
      subst hA hB
      have hkI : (k : Int) < n := by omega
      clear hx
      go_wp2_with (fail)
      go_quiet (fail)
      go_wp2_with (fail)
      go_roundw
      case rel => exact ⟨k + 1, by omega, by go_num, H.drewN nq⟩
      case measure => simp [intOf]; omega
    · go_wp2_with (fail)
      go_ret
      exact ⟨rfl, H.tail.tail⟩
end Go.Proofs.Ytkpcnklhboemcaa

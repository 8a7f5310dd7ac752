/- Layer 3's statements: the guard that all of them share. -/
import Derived.Test.YtkpcnklhboemcaaRpL
namespace Go.Proofs.Ytkpcnklhboemcaa
open Go.RowKit

/-- a call without a credential -/
abbrev bare (a b c d : Int) (args : ByteArray) : Cal := ⟨a, b, c, d, false, 0, ⟨#[]⟩, 0, 0, [], args⟩
theorem Rd_nil (w : World) (A : Option Addr) : Rd w A [] := fun j x h => by simp at h
theorem bare_put (a b c d : Int) (args : ByteArray) (ha : args.size ≤ 1099511627776) (w : World) :
    Calls Try.prog 11 #[.agg (callC a b c d false 0 ⟨#[]⟩ 0 0 none 0 0 args)] w fun x w' => x = .returned (.tuple #[.string (bare a b c d args).put.1, .int .i64 (bare a b c d args).put.2]) ∧ St w w' [] :=
  putcall_ok (bare a b c d args) none 0 (by simp) ha w (Rd_nil _ _)
theorem good0 : Cal.good (bare 1 100003 3 0 ⟨#[]⟩) := by decide +kernel
theorem put0 : ∃ S : ByteArray, (bare 1 100003 3 0 ⟨#[]⟩).put = (S, 0) ∧ S.size = 40 := by
  have h : (bare 1 100003 3 0 ⟨#[]⟩).put = (mkb (Cal.head (bare 1 100003 3 0 ⟨#[]⟩)) ++ ⟨#[]⟩, 0) := Cal.put_ok good0 (by decide +kernel)
  exact ⟨_, h, (get_cut h rfl 0 (Nat.zero_le _)).2.2⟩
set_option maxRecDepth 100000 in
set_option maxHeartbeats 4000000 in
theorem speaks_ok {w0 w : World} {F : List Assn} (H0 : St w0 w F) :
    Calls Try.prog 9 #[] w fun r w' => r = .returned (.bool true) ∧ St w0 w' F := by
  obtain ⟨S, hS, hz⟩ := put0
  have hg := get_put hS
  have hp := bare_put 1 100003 3 0 ⟨#[]⟩ (Nat.zero_le _) w
  rw [hS] at hp
  dsimp only at hp
  have hz' : (S.size : Int) = 40 := by omega
  have hge := fun (w' : World) (H : St w0 w' F) => getcall_ok S (by omega) H
  rw [hg] at hge
  have HG := Lib.hid hge; clear hS hge hg hz
  go_enter Try.func9, Try.ntmps9
  go_wp2_with (fail)
  refine hp.mono ?_
  clear hp
  rintro x w1 ⟨rfl, K⟩
  have H1 := H0.frame K
  rw [List.nil_append] at H1
  clear K H0
  have h2 := HG.out _ H1
  clear HG H1
  go_wp2_with (fail)
  refine h2.mono ?_
  clear h2
  rintro x w2 ⟨A, d, rfl, H2⟩
  dsimp only [Cal.cells]
  have H3 := H2.tail.alloc (callC 1 100003 3 0 false 0 ⟨#[]⟩ 0 0 A 0 d ⟨#[]⟩) 30
  go_wp2_with (fail)
  go_ret
  exact ⟨rfl, H3.tail⟩
end Go.Proofs.Ytkpcnklhboemcaa

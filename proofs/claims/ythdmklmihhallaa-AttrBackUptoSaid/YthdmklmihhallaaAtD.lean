/- Layer 9: the guard that all statements share. -/
import Derived.Test.YthdmklmihhallaaAtC
import Derived.Test.YthdmklmihhallaaSLW
namespace Go.Proofs.Ythdmklmihhallaa
open Go.RowKit

theorem speaks_ok {w0 w : World} {F : List Assn} (H : St w0 w F) :
    Calls Try.prog 8 #[] w fun r w' => r = .returned (.bool true) ∧ St w0 w' F := by
  have m1 : may 416 5 6 5 9 [] 4 = true := by decide +kernel
  have m2 : may 416 5 6 7 6 [] 4 = true := by decide +kernel
  have m3 : may 416 5 6 7 7 [] 4 = false := by decide +kernel
  have M1 := Lib.hid m1; have M2 := Lib.hid m2; have M3 := Lib.hid m3; clear m1 m2 m3
  have HZ := (H.alloc (attrC 0 0 0) 29)
  go_enter Try.func8, Try.ntmps8
  go_wp2_with (with_reducible refine hold_store ?_)
  unfold Hold
  with_reducible refine wpList_store_st (ty := 29) (HZ) (attrC 416 5 6) ?_ ?_ ?_ ?_ ?_ ?_ ?_
  rfl
  rfl
  rfl
  rfl
  kernel_rfl
  rfl
  intro w1 H1
  go_wp2_with ((with_reducible refine wpList_load_st (ty := 29) (H1) ?_ ?_ Try.underlying29 ?_ ?_ ?_); rfl; rfl; rfl; kernel_rfl)
  refine (may_ok 416 5 6 5 9 none 0 [] 4 (fun _ => Rd.nil _) (by decide) H1).mono ?_
  rw [M1.out]
  rintro x w2 ⟨rfl, H2⟩
  go_wp2_with ((with_reducible refine wpList_load_st (ty := 29) (H2) ?_ ?_ Try.underlying29 ?_ ?_ ?_); rfl; rfl; rfl; kernel_rfl)
  refine (may_ok 416 5 6 7 6 none 0 [] 4 (fun _ => Rd.nil _) (by decide) H2).mono ?_
  rw [M2.out]
  rintro x w3 ⟨rfl, H3⟩
  go_wp2_with ((with_reducible refine wpList_load_st (ty := 29) (H3) ?_ ?_ Try.underlying29 ?_ ?_ ?_); rfl; rfl; rfl; kernel_rfl)
  refine (may_ok 416 5 6 7 7 none 0 [] 4 (fun _ => Rd.nil _) (by decide) H3).mono ?_
  rw [M3.out]
  rintro x w4 ⟨rfl, H4⟩
  go_wp2_with (fail)
  go_ret
  exact ⟨rfl, H4.tail⟩
end Go.Proofs.Ythdmklmihhallaa

/- Layer 1's statements: the guard that all of them share. -/
import Derived.Test.YtcmpocabjhlnfaaXdrG
import Derived.Test.YtcmpocabjhlnfaaXdrF
import Derived.Test.YtcmpocabjhlnfaaXdrW
import Derived.Outline
namespace Go.Proofs.Ytcmpocabjhlnfaa
open Go.RowKit

abbrev one (v : Value) : Array Value := #[v]
theorem mk_one : Mk one := ⟨fun _ => rfl, fun _ _ => rfl⟩
theorem St.newWr {w0 w : World} {b : Nat} {T : TypeId} {F : List Assn} (H : St w0 w (Pt b #[.slice none 0 0] T :: F)) : St w0 w (Wr b one T [] :: F) :=
  St.shutWr (A := none) (n := 0) (c := 0) rfl ((H.nilRow 5 1).r2)
theorem speaks_ok {w0 w : World} {F : List Assn} (H : St w0 w F) :
    Calls Try.prog 9 #[] w fun r w' => r = .returned (.bool true) ∧ St w0 w' F := by
  have H0 := (H.alloc #[.slice none 0 0] 25).newWr
  have e : mkb ([] ++ opaq (bl ⟨#[97, 98, 99]⟩)) = ⟨#[0, 0, 0, 3, 97, 98, 99, 0]⟩ := by decide +kernel
  have E := Lib.hid e; clear e
  go_enter Try.func9, Try.ntmps9
  go_wp2_with (first | (go_at_call 10; refine (wopaque_ok _ _ mk_one _ _ _ (by decide) (by decide) H0).mono ?_; rintro x w1 ⟨rfl, H1⟩) | (go_at_call 14; refine (bytes_ok _ _ mk_one _ _ H1).mono ?_; rw [E.out]; rintro x w2 ⟨rfl, rfl⟩))
  go_ret
  exact ⟨rfl, H1.tail⟩
end Go.Proofs.Ytcmpocabjhlnfaa

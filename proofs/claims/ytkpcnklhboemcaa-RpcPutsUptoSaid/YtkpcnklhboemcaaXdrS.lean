/- Layer 1's statements: the guard that all of them share. -/
import Derived.Test.YtkpcnklhboemcaaXdrG
import Derived.Test.YtkpcnklhboemcaaXdrF
import Derived.Test.YtkpcnklhboemcaaXdrW
import Derived.Outline
namespace Go.Proofs.Ytkpcnklhboemcaa
open Go.RowKit

abbrev one (v : Value) : Array Value := #[v]
theorem mk_one : Mk one := ⟨fun _ => rfl, fun _ _ => rfl⟩
theorem St.newWr {w0 w : World} {b : Nat} {T : TypeId} {F : List Assn} (H : St w0 w (Pt b #[.slice none 0 0] T :: F)) : St w0 w (Wr b one T [] :: F) :=
  St.shutWr (A := none) (n := 0) (c := 0) rfl ((H.nilRow 5 1).r2)
end Go.Proofs.Ytkpcnklhboemcaa

/-
  No cell of these rows narrows 'for every input' (looked for: loops, veiled, ifaces, maps, wideKeys, modest, calm, conditions, laid).
  DERIVED. THE GIVEN ROWS OF THIS SEAT. 4 by the template 'for every input the law returns true; each argument reads behind the call as it read before'; 0 by the template 'total and deterministic' (their statements: YthpcncebjkfjkaaTotals.lean).
  GIVEN WITH THE SEED: the statements are not yours to turn. If you find one false, say at which input.
  Laid BY PROGRAM, IN A SANDBOX (cutbox-rows.mjs): the forced cells as the released guide's own fill.sh prints them over the translation 6c0001e8017e486c… (all of the seat's roots in one cut). By AI agents, Wed Nov 11 2026. No macro, syntax, notation, axiom, sorry.
-/
import Derived.Test.YthpcncebjkfjkaaChecked
import GoSem.Claim
import GoSem.ClaimJoined
import GoSem.ClaimMapViews
import Derived.JoinedTies
import Derived.KernelRfl
namespace Go.Proofs.Ythpcncebjkfjkaa
/- THE CELL 'sum', in the pinned program and in every row, IS THE sha256 OF THE DUMP (.gsa) THAT YthpcncebjkfjkaaProg.lean LOADS. Nothing in Lean hashes anything: it is a label: what it is worth is what the hold of that sum in a sandbox is worth. -/
noncomputable def Try.pinned : Pinned := { name := "ythpcncebjkfjkaa", sum := "6c0001e8017e486cdd1fb4b897552cd39ef64dcc79e8409f30e5ed6a6bb8d6e1", checked := Try.checked }
namespace Rows
def none {H : Type} : Left H := { results := [], args := [] }

/-- 'coraclelaw14.HandleGets': WHATEVER THE INPUT: true; the input reads as it did. -/
def handleGetsSpec : ChangeSpec := { name := "handleGets", fn := fun _ => fun
  | [d] => { results := [.lit (.bool true)], args := [d] }
  | _ => none }
def handleGetsRow : OpenClaim := { program := "ythpcncebjkfjkaa", sum := "6c0001e8017e486cdd1fb4b897552cd39ef64dcc79e8409f30e5ed6a6bb8d6e1", func := "coracle/coraclelaw14.HandleGets", spec := "handleGets", apart := false }
def HandleGetsSaid : Prop := handleGetsRow.holds Try.pinned (OpenSpec.ofChange handleGetsSpec)

/-- ITS FALSE NEIGHBOUR: 'it returns false'. Refute it at one input. -/
def handleGetsWrong : ChangeSpec := { name := "handleGets", fn := fun _ => fun
  | [d] => { results := [.lit (.bool false)], args := [d] }
  | _ => none }
def HandleGetsWrongFalsely : Prop := handleGetsRow.holds Try.pinned (OpenSpec.ofChange handleGetsWrong)

/-- 'coraclelaw14.HandleApart': WHATEVER THE INPUT: true; the input reads as it did. -/
def handleApartSpec : ChangeSpec := { name := "handleApart", fn := fun _ => fun
  | [d1, d2] => { results := [.lit (.bool true)], args := [d1, d2] }
  | _ => none }
def handleApartRow : OpenClaim := { program := "ythpcncebjkfjkaa", sum := "6c0001e8017e486cdd1fb4b897552cd39ef64dcc79e8409f30e5ed6a6bb8d6e1", func := "coracle/coraclelaw14.HandleApart", spec := "handleApart", apart := false }
def HandleApartSaid : Prop := handleApartRow.holds Try.pinned (OpenSpec.ofChange handleApartSpec)

/-- ITS FALSE NEIGHBOUR: 'it returns false'. Refute it at one input. -/
def handleApartWrong : ChangeSpec := { name := "handleApart", fn := fun _ => fun
  | [d1, d2] => { results := [.lit (.bool false)], args := [d1, d2] }
  | _ => none }
def HandleApartWrongFalsely : Prop := handleApartRow.holds Try.pinned (OpenSpec.ofChange handleApartWrong)

/-- 'coraclelaw14.HandleBits': WHATEVER THE INPUT: true; the input reads as it did. -/
def handleBitsSpec : ChangeSpec := { name := "handleBits", fn := fun _ => fun
  | [d1, d2] => { results := [.lit (.bool true)], args := [d1, d2] }
  | _ => none }
def handleBitsRow : OpenClaim := { program := "ythpcncebjkfjkaa", sum := "6c0001e8017e486cdd1fb4b897552cd39ef64dcc79e8409f30e5ed6a6bb8d6e1", func := "coracle/coraclelaw14.HandleBits", spec := "handleBits", apart := false }
def HandleBitsSaid : Prop := handleBitsRow.holds Try.pinned (OpenSpec.ofChange handleBitsSpec)

/-- ITS FALSE NEIGHBOUR: 'it returns false'. Refute it at one input. -/
def handleBitsWrong : ChangeSpec := { name := "handleBits", fn := fun _ => fun
  | [d1, d2] => { results := [.lit (.bool false)], args := [d1, d2] }
  | _ => none }
def HandleBitsWrongFalsely : Prop := handleBitsRow.holds Try.pinned (OpenSpec.ofChange handleBitsWrong)

/-- 'coraclelaw14.HandlePuts': WHATEVER THE INPUT: true; the input reads as it did. -/
def handlePutsSpec : ChangeSpec := { name := "handlePuts", fn := fun _ => fun
  | [d1, d2, d3] => { results := [.lit (.bool true)], args := [d1, d2, d3] }
  | _ => none }
def handlePutsRow : OpenClaim := { program := "ythpcncebjkfjkaa", sum := "6c0001e8017e486cdd1fb4b897552cd39ef64dcc79e8409f30e5ed6a6bb8d6e1", func := "coracle/coraclelaw14.HandlePuts", spec := "handlePuts", apart := false }
def HandlePutsSaid : Prop := handlePutsRow.holds Try.pinned (OpenSpec.ofChange handlePutsSpec)

/-- ITS FALSE NEIGHBOUR: 'it returns false'. Refute it at one input. -/
def handlePutsWrong : ChangeSpec := { name := "handlePuts", fn := fun _ => fun
  | [d1, d2, d3] => { results := [.lit (.bool false)], args := [d1, d2, d3] }
  | _ => none }
def HandlePutsWrongFalsely : Prop := handlePutsRow.holds Try.pinned (OpenSpec.ofChange handlePutsWrong)

/- THE SECOND FORM. 'bulk': how many values and letters a reading holds, each counted each time it is reached (what is shared counts as often as it is met; a slice's spare places count too). A statement '..UptoSaid' is the law's where the arguments, and the package variables that the reading takes, are together of bulk at most 1048576: NARROWER than '..Said'. Prove '..Said' where nothing that the law and all that it calls make is longer than what came in: it says more and counts as full. Else prove '..UptoSaid'. A law counts once. -/
mutual
def uptoBulk {H : Type} : DataW H → Nat
  | .lit (.string bytes) => bytes.length + 1
  | .lit _ => 1
  | .nil => 1
  | .ptr d => uptoBulk d + 1
  | .slice elems spare => uptoBulkAll elems + uptoBulkAll spare + 1
  | .agg parts => uptoBulkAll parts + 1
  | .iface _ d => uptoBulk d + 1
  | .map entries => uptoBulkEntries entries + 1
  | .held _ => 1
def uptoBulkAll {H : Type} : List (DataW H) → Nat
  | [] => 0
  | d :: r => uptoBulk d + uptoBulkAll r
def uptoBulkEntries {H : Type} : List (Lit × DataW H) → Nat
  | [] => 0
  | x :: r => uptoBulkEntry x + uptoBulkEntries r
def uptoBulkEntry {H : Type} : Lit × DataW H → Nat
  | (.string bytes, d) => bytes.length + uptoBulk d + 1
  | (_, d) => uptoBulk d + 1
 end
def uptoSmall : (H : Type) → List (DataW H) → Bool := fun _ ds => decide (uptoBulkAll ds ≤ 1048576)
def OpenSpec.upto (s : _root_.Go.ChangeSpec) : _root_.Go.OpenSpec := { _root_.Go.OpenSpec.ofChange s with cond := some uptoSmall }

/-- 'coraclelaw14.HandleGets', WHERE WHAT IT READS IS OF BULK AT MOST 1048576: true; the input reads as it did. -/
def handleGetsUptoRow : OpenClaim := { program := "ythpcncebjkfjkaa", sum := "6c0001e8017e486cdd1fb4b897552cd39ef64dcc79e8409f30e5ed6a6bb8d6e1", func := "coracle/coraclelaw14.HandleGets", spec := "handleGets", apart := false, narrowed := true }
def HandleGetsUptoSaid : Prop := handleGetsUptoRow.holds Try.pinned (OpenSpec.upto handleGetsSpec)

/-- 'coraclelaw14.HandleApart', WHERE WHAT IT READS IS OF BULK AT MOST 1048576: true; the input reads as it did. -/
def handleApartUptoRow : OpenClaim := { program := "ythpcncebjkfjkaa", sum := "6c0001e8017e486cdd1fb4b897552cd39ef64dcc79e8409f30e5ed6a6bb8d6e1", func := "coracle/coraclelaw14.HandleApart", spec := "handleApart", apart := false, narrowed := true }
def HandleApartUptoSaid : Prop := handleApartUptoRow.holds Try.pinned (OpenSpec.upto handleApartSpec)

/-- 'coraclelaw14.HandleBits', WHERE WHAT IT READS IS OF BULK AT MOST 1048576: true; the input reads as it did. -/
def handleBitsUptoRow : OpenClaim := { program := "ythpcncebjkfjkaa", sum := "6c0001e8017e486cdd1fb4b897552cd39ef64dcc79e8409f30e5ed6a6bb8d6e1", func := "coracle/coraclelaw14.HandleBits", spec := "handleBits", apart := false, narrowed := true }
def HandleBitsUptoSaid : Prop := handleBitsUptoRow.holds Try.pinned (OpenSpec.upto handleBitsSpec)

/-- 'coraclelaw14.HandlePuts', WHERE WHAT IT READS IS OF BULK AT MOST 1048576: true; the input reads as it did. -/
def handlePutsUptoRow : OpenClaim := { program := "ythpcncebjkfjkaa", sum := "6c0001e8017e486cdd1fb4b897552cd39ef64dcc79e8409f30e5ed6a6bb8d6e1", func := "coracle/coraclelaw14.HandlePuts", spec := "handlePuts", apart := false, narrowed := true }
def HandlePutsUptoSaid : Prop := handlePutsUptoRow.holds Try.pinned (OpenSpec.upto handlePutsSpec)

end Rows
end Go.Proofs.Ythpcncebjkfjkaa

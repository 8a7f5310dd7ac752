/-
  No cell of these rows narrows 'for every input' (looked for: loops, veiled, ifaces, maps, wideKeys, modest, calm, conditions, laid).
  DERIVED. THE GIVEN ROWS OF THIS SEAT. 6 by the template 'for every input the law returns true; each argument reads behind the call as it read before'; 0 by the template 'total and deterministic' (their statements: YtcmpocabjhlnfaaTotals.lean).
  GIVEN WITH THE SEED: the statements are not yours to turn. If you find one false, say at which input.
  Laid BY PROGRAM, IN A SANDBOX (cutbox-rows.mjs): the forced cells as the released guide's own fill.sh prints them over the translation 202f70f9538c328c… (all of the seat's roots in one cut). By AI agents, Wed Nov 11 2026. No macro, syntax, notation, axiom, sorry.
-/
import Derived.Test.YtcmpocabjhlnfaaChecked
import GoSem.Claim
import GoSem.ClaimJoined
import GoSem.ClaimMapViews
import Derived.JoinedTies
import Derived.KernelRfl
namespace Go.Proofs.Ytcmpocabjhlnfaa
/- THE CELL 'sum', in the pinned program and in every row, IS THE sha256 OF THE DUMP (.gsa) THAT YtcmpocabjhlnfaaProg.lean LOADS. Nothing in Lean hashes anything: it is a label: what it is worth is what the hold of that sum in a sandbox is worth. -/
noncomputable def Try.pinned : Pinned := { name := "ytcmpocabjhlnfaa", sum := "202f70f9538c328ce0edc43785c6fa0233fa42081ef80a8b1c30f1e5d5c74c57", checked := Try.checked }
namespace Rows
def none {H : Type} : Left H := { results := [], args := [] }

/-- 'coraclelaw01.XdrJoined': WHATEVER THE INPUT: true; the input reads as it did. -/
def xdrJoinedSpec : ChangeSpec := { name := "xdrJoined", fn := fun _ => fun
  | [d1, d2, d3] => { results := [.lit (.bool true)], args := [d1, d2, d3] }
  | _ => none }
def xdrJoinedRow : OpenClaim := { program := "ytcmpocabjhlnfaa", sum := "202f70f9538c328ce0edc43785c6fa0233fa42081ef80a8b1c30f1e5d5c74c57", func := "coracle/coraclelaw01.XdrJoined", spec := "xdrJoined", apart := false }
def XdrJoinedSaid : Prop := xdrJoinedRow.holds Try.pinned (OpenSpec.ofChange xdrJoinedSpec)

/-- ITS FALSE NEIGHBOUR: 'it returns false'. Refute it at one input. -/
def xdrJoinedWrong : ChangeSpec := { name := "xdrJoined", fn := fun _ => fun
  | [d1, d2, d3] => { results := [.lit (.bool false)], args := [d1, d2, d3] }
  | _ => none }
def XdrJoinedWrongFalsely : Prop := xdrJoinedRow.holds Try.pinned (OpenSpec.ofChange xdrJoinedWrong)

/-- 'coraclelaw01.XdrPuts': WHATEVER THE INPUT: true; the input reads as it did. -/
def xdrPutsSpec : ChangeSpec := { name := "xdrPuts", fn := fun _ => fun
  | [d] => { results := [.lit (.bool true)], args := [d] }
  | _ => none }
def xdrPutsRow : OpenClaim := { program := "ytcmpocabjhlnfaa", sum := "202f70f9538c328ce0edc43785c6fa0233fa42081ef80a8b1c30f1e5d5c74c57", func := "coracle/coraclelaw01.XdrPuts", spec := "xdrPuts", apart := false }
def XdrPutsSaid : Prop := xdrPutsRow.holds Try.pinned (OpenSpec.ofChange xdrPutsSpec)

/-- ITS FALSE NEIGHBOUR: 'it returns false'. Refute it at one input. -/
def xdrPutsWrong : ChangeSpec := { name := "xdrPuts", fn := fun _ => fun
  | [d] => { results := [.lit (.bool false)], args := [d] }
  | _ => none }
def XdrPutsWrongFalsely : Prop := xdrPutsRow.holds Try.pinned (OpenSpec.ofChange xdrPutsWrong)

/-- 'coraclelaw01.XdrOnly': WHATEVER THE INPUT: true; the input reads as it did. -/
def xdrOnlySpec : ChangeSpec := { name := "xdrOnly", fn := fun _ => fun
  | [d1, d2] => { results := [.lit (.bool true)], args := [d1, d2] }
  | _ => none }
def xdrOnlyRow : OpenClaim := { program := "ytcmpocabjhlnfaa", sum := "202f70f9538c328ce0edc43785c6fa0233fa42081ef80a8b1c30f1e5d5c74c57", func := "coracle/coraclelaw01.XdrOnly", spec := "xdrOnly", apart := false }
def XdrOnlySaid : Prop := xdrOnlyRow.holds Try.pinned (OpenSpec.ofChange xdrOnlySpec)

/-- ITS FALSE NEIGHBOUR: 'it returns false'. Refute it at one input. -/
def xdrOnlyWrong : ChangeSpec := { name := "xdrOnly", fn := fun _ => fun
  | [d1, d2] => { results := [.lit (.bool false)], args := [d1, d2] }
  | _ => none }
def XdrOnlyWrongFalsely : Prop := xdrOnlyRow.holds Try.pinned (OpenSpec.ofChange xdrOnlyWrong)

/-- 'coraclelaw01.XdrNil': WHATEVER THE INPUT: true; the input reads as it did. -/
def xdrNilSpec : ChangeSpec := { name := "xdrNil", fn := fun _ => fun
  | [d] => { results := [.lit (.bool true)], args := [d] }
  | _ => none }
def xdrNilRow : OpenClaim := { program := "ytcmpocabjhlnfaa", sum := "202f70f9538c328ce0edc43785c6fa0233fa42081ef80a8b1c30f1e5d5c74c57", func := "coracle/coraclelaw01.XdrNil", spec := "xdrNil", apart := false }
def XdrNilSaid : Prop := xdrNilRow.holds Try.pinned (OpenSpec.ofChange xdrNilSpec)

/-- ITS FALSE NEIGHBOUR: 'it returns false'. Refute it at one input. -/
def xdrNilWrong : ChangeSpec := { name := "xdrNil", fn := fun _ => fun
  | [d] => { results := [.lit (.bool false)], args := [d] }
  | _ => none }
def XdrNilWrongFalsely : Prop := xdrNilRow.holds Try.pinned (OpenSpec.ofChange xdrNilWrong)

/-- 'coraclelaw01.XdrTakes': WHATEVER THE INPUT: true; the input reads as it did. -/
def xdrTakesSpec : ChangeSpec := { name := "xdrTakes", fn := fun _ => fun
  | [d1, d2] => { results := [.lit (.bool true)], args := [d1, d2] }
  | _ => none }
def xdrTakesRow : OpenClaim := { program := "ytcmpocabjhlnfaa", sum := "202f70f9538c328ce0edc43785c6fa0233fa42081ef80a8b1c30f1e5d5c74c57", func := "coracle/coraclelaw01.XdrTakes", spec := "xdrTakes", apart := false }
def XdrTakesSaid : Prop := xdrTakesRow.holds Try.pinned (OpenSpec.ofChange xdrTakesSpec)

/-- ITS FALSE NEIGHBOUR: 'it returns false'. Refute it at one input. -/
def xdrTakesWrong : ChangeSpec := { name := "xdrTakes", fn := fun _ => fun
  | [d1, d2] => { results := [.lit (.bool false)], args := [d1, d2] }
  | _ => none }
def XdrTakesWrongFalsely : Prop := xdrTakesRow.holds Try.pinned (OpenSpec.ofChange xdrTakesWrong)

/-- 'coraclelaw01.XdrBack': WHATEVER THE INPUT: true; the input reads as it did. -/
def xdrBackSpec : ChangeSpec := { name := "xdrBack", fn := fun _ => fun
  | [d1, d2] => { results := [.lit (.bool true)], args := [d1, d2] }
  | _ => none }
def xdrBackRow : OpenClaim := { program := "ytcmpocabjhlnfaa", sum := "202f70f9538c328ce0edc43785c6fa0233fa42081ef80a8b1c30f1e5d5c74c57", func := "coracle/coraclelaw01.XdrBack", spec := "xdrBack", apart := false }
def XdrBackSaid : Prop := xdrBackRow.holds Try.pinned (OpenSpec.ofChange xdrBackSpec)

/-- ITS FALSE NEIGHBOUR: 'it returns false'. Refute it at one input. -/
def xdrBackWrong : ChangeSpec := { name := "xdrBack", fn := fun _ => fun
  | [d1, d2] => { results := [.lit (.bool false)], args := [d1, d2] }
  | _ => none }
def XdrBackWrongFalsely : Prop := xdrBackRow.holds Try.pinned (OpenSpec.ofChange xdrBackWrong)

/- THE SECOND FORM. 'bulk': how many values and letters a reading holds, each counted each time it is reached (what is shared counts as often as it is met; a slice's spare places count too). A statement '..UptoSaid' is the law's where the arguments, and the package variables that the reading takes, are together of bulk at most 1048576: NARROWER than '..Said'. Prove '..Said' where nothing that the law and all that it calls make is longer than what came in: it says more and counts as full. Else prove '..UptoSaid'. A law counts once. -/
mutual
def uptoBulk {H : Type} : DataW H → Nat
  | .lit (.string bytes) => bytes.length + 1
  | .lit _ => 1
  | .nil => 1
  | .ptr d => uptoBulk d + 1
  | .slice elems spare => uptoBulkAll elems + uptoBulkAll spare + 1
  | .agg parts => uptoBulkAll parts + 1
  | .iface _ d => uptoBulk d + 1
  | .map entries => uptoBulkEntries entries + 1
  | .held _ => 1
def uptoBulkAll {H : Type} : List (DataW H) → Nat
  | [] => 0
  | d :: r => uptoBulk d + uptoBulkAll r
def uptoBulkEntries {H : Type} : List (Lit × DataW H) → Nat
  | [] => 0
  | x :: r => uptoBulkEntry x + uptoBulkEntries r
def uptoBulkEntry {H : Type} : Lit × DataW H → Nat
  | (.string bytes, d) => bytes.length + uptoBulk d + 1
  | (_, d) => uptoBulk d + 1
 end
def uptoSmall : (H : Type) → List (DataW H) → Bool := fun _ ds => decide (uptoBulkAll ds ≤ 1048576)
def OpenSpec.upto (s : _root_.Go.ChangeSpec) : _root_.Go.OpenSpec := { _root_.Go.OpenSpec.ofChange s with cond := some uptoSmall }

/-- 'coraclelaw01.XdrJoined', WHERE WHAT IT READS IS OF BULK AT MOST 1048576: true; the input reads as it did. -/
def xdrJoinedUptoRow : OpenClaim := { program := "ytcmpocabjhlnfaa", sum := "202f70f9538c328ce0edc43785c6fa0233fa42081ef80a8b1c30f1e5d5c74c57", func := "coracle/coraclelaw01.XdrJoined", spec := "xdrJoined", apart := false, narrowed := true }
def XdrJoinedUptoSaid : Prop := xdrJoinedUptoRow.holds Try.pinned (OpenSpec.upto xdrJoinedSpec)

/-- 'coraclelaw01.XdrPuts', WHERE WHAT IT READS IS OF BULK AT MOST 1048576: true; the input reads as it did. -/
def xdrPutsUptoRow : OpenClaim := { program := "ytcmpocabjhlnfaa", sum := "202f70f9538c328ce0edc43785c6fa0233fa42081ef80a8b1c30f1e5d5c74c57", func := "coracle/coraclelaw01.XdrPuts", spec := "xdrPuts", apart := false, narrowed := true }
def XdrPutsUptoSaid : Prop := xdrPutsUptoRow.holds Try.pinned (OpenSpec.upto xdrPutsSpec)

/-- 'coraclelaw01.XdrOnly', WHERE WHAT IT READS IS OF BULK AT MOST 1048576: true; the input reads as it did. -/
def xdrOnlyUptoRow : OpenClaim := { program := "ytcmpocabjhlnfaa", sum := "202f70f9538c328ce0edc43785c6fa0233fa42081ef80a8b1c30f1e5d5c74c57", func := "coracle/coraclelaw01.XdrOnly", spec := "xdrOnly", apart := false, narrowed := true }
def XdrOnlyUptoSaid : Prop := xdrOnlyUptoRow.holds Try.pinned (OpenSpec.upto xdrOnlySpec)

/-- 'coraclelaw01.XdrNil', WHERE WHAT IT READS IS OF BULK AT MOST 1048576: true; the input reads as it did. -/
def xdrNilUptoRow : OpenClaim := { program := "ytcmpocabjhlnfaa", sum := "202f70f9538c328ce0edc43785c6fa0233fa42081ef80a8b1c30f1e5d5c74c57", func := "coracle/coraclelaw01.XdrNil", spec := "xdrNil", apart := false, narrowed := true }
def XdrNilUptoSaid : Prop := xdrNilUptoRow.holds Try.pinned (OpenSpec.upto xdrNilSpec)

/-- 'coraclelaw01.XdrTakes', WHERE WHAT IT READS IS OF BULK AT MOST 1048576: true; the input reads as it did. -/
def xdrTakesUptoRow : OpenClaim := { program := "ytcmpocabjhlnfaa", sum := "202f70f9538c328ce0edc43785c6fa0233fa42081ef80a8b1c30f1e5d5c74c57", func := "coracle/coraclelaw01.XdrTakes", spec := "xdrTakes", apart := false, narrowed := true }
def XdrTakesUptoSaid : Prop := xdrTakesUptoRow.holds Try.pinned (OpenSpec.upto xdrTakesSpec)

/-- 'coraclelaw01.XdrBack', WHERE WHAT IT READS IS OF BULK AT MOST 1048576: true; the input reads as it did. -/
def xdrBackUptoRow : OpenClaim := { program := "ytcmpocabjhlnfaa", sum := "202f70f9538c328ce0edc43785c6fa0233fa42081ef80a8b1c30f1e5d5c74c57", func := "coracle/coraclelaw01.XdrBack", spec := "xdrBack", apart := false, narrowed := true }
def XdrBackUptoSaid : Prop := xdrBackUptoRow.holds Try.pinned (OpenSpec.upto xdrBackSpec)

end Rows
end Go.Proofs.Ytcmpocabjhlnfaa

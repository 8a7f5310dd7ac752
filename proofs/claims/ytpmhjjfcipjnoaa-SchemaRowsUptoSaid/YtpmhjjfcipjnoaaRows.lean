/-
  No cell of these rows narrows 'for every input' (looked for: loops, veiled, ifaces, maps, wideKeys, modest, calm, conditions, laid).
  DERIVED. THE GIVEN ROWS OF THIS SEAT. 6 by the template 'for every input the law returns true; each argument reads behind the call as it read before'; 0 by the template 'total and deterministic' (their statements: YtpmhjjfcipjnoaaTotals.lean).
  GIVEN WITH THE SEED: the statements are not yours to turn. If you find one false, say at which input.
  Laid BY PROGRAM, IN A SANDBOX (cutbox-rows.mjs): the forced cells as the released guide's own fill.sh prints them over the translation 02ca016a3be4316b… (all of the seat's roots in one cut). By AI agents, Wed Nov 11 2026. No macro, syntax, notation, axiom, sorry.
-/
import Derived.Test.YtpmhjjfcipjnoaaChecked
import GoSem.Claim
import GoSem.ClaimJoined
import GoSem.ClaimMapViews
import Derived.JoinedTies
import Derived.KernelRfl
namespace Go.Proofs.Ytpmhjjfcipjnoaa
/- THE CELL 'sum', in the pinned program and in every row, IS THE sha256 OF THE DUMP (.gsa) THAT YtpmhjjfcipjnoaaProg.lean LOADS. Nothing in Lean hashes anything: it is a label: what it is worth is what the hold of that sum in a sandbox is worth. -/
noncomputable def Try.pinned : Pinned := { name := "ytpmhjjfcipjnoaa", sum := "02ca016a3be4316b3fa2242587efa1565b8c3b6818800e29ecd9fdd1d38bd3da", checked := Try.checked }
namespace Rows
def none {H : Type} : Left H := { results := [], args := [] }

/-- 'coraclelaw02.SchemaShort': WHATEVER THE INPUT: true; the input reads as it did. -/
def schemaShortSpec : ChangeSpec := { name := "schemaShort", fn := fun _ => fun
  | [d1, d2, d3] => { results := [.lit (.bool true)], args := [d1, d2, d3] }
  | _ => none }
def schemaShortRow : OpenClaim := { program := "ytpmhjjfcipjnoaa", sum := "02ca016a3be4316b3fa2242587efa1565b8c3b6818800e29ecd9fdd1d38bd3da", func := "coracle/coraclelaw02.SchemaShort", spec := "schemaShort", recurses := true, apart := false }
def SchemaShortSaid : Prop := schemaShortRow.holds Try.pinned (OpenSpec.ofChange schemaShortSpec)

/-- ITS FALSE NEIGHBOUR: 'it returns false'. Refute it at one input. -/
def schemaShortWrong : ChangeSpec := { name := "schemaShort", fn := fun _ => fun
  | [d1, d2, d3] => { results := [.lit (.bool false)], args := [d1, d2, d3] }
  | _ => none }
def SchemaShortWrongFalsely : Prop := schemaShortRow.holds Try.pinned (OpenSpec.ofChange schemaShortWrong)

/-- 'coraclelaw02.SchemaChecks': WHATEVER THE INPUT: true; the input reads as it did. -/
def schemaChecksSpec : ChangeSpec := { name := "schemaChecks", fn := fun _ => fun
  | [d] => { results := [.lit (.bool true)], args := [d] }
  | _ => none }
def schemaChecksRow : OpenClaim := { program := "ytpmhjjfcipjnoaa", sum := "02ca016a3be4316b3fa2242587efa1565b8c3b6818800e29ecd9fdd1d38bd3da", func := "coracle/coraclelaw02.SchemaChecks", spec := "schemaChecks", recurses := true, apart := false }
def SchemaChecksSaid : Prop := schemaChecksRow.holds Try.pinned (OpenSpec.ofChange schemaChecksSpec)

/-- ITS FALSE NEIGHBOUR: 'it returns false'. Refute it at one input. -/
def schemaChecksWrong : ChangeSpec := { name := "schemaChecks", fn := fun _ => fun
  | [d] => { results := [.lit (.bool false)], args := [d] }
  | _ => none }
def SchemaChecksWrongFalsely : Prop := schemaChecksRow.holds Try.pinned (OpenSpec.ofChange schemaChecksWrong)

/-- 'coraclelaw02.SchemaDecodes': WHATEVER THE INPUT: true; the input reads as it did. -/
def schemaDecodesSpec : ChangeSpec := { name := "schemaDecodes", fn := fun _ => fun
  | [d1, d2] => { results := [.lit (.bool true)], args := [d1, d2] }
  | _ => none }
def schemaDecodesRow : OpenClaim := { program := "ytpmhjjfcipjnoaa", sum := "02ca016a3be4316b3fa2242587efa1565b8c3b6818800e29ecd9fdd1d38bd3da", func := "coracle/coraclelaw02.SchemaDecodes", spec := "schemaDecodes", recurses := true, apart := false }
def SchemaDecodesSaid : Prop := schemaDecodesRow.holds Try.pinned (OpenSpec.ofChange schemaDecodesSpec)

/-- ITS FALSE NEIGHBOUR: 'it returns false'. Refute it at one input. -/
def schemaDecodesWrong : ChangeSpec := { name := "schemaDecodes", fn := fun _ => fun
  | [d1, d2] => { results := [.lit (.bool false)], args := [d1, d2] }
  | _ => none }
def SchemaDecodesWrongFalsely : Prop := schemaDecodesRow.holds Try.pinned (OpenSpec.ofChange schemaDecodesWrong)

/-- 'coraclelaw02.SchemaEncodes': WHATEVER THE INPUT: true; the input reads as it did. -/
def schemaEncodesSpec : ChangeSpec := { name := "schemaEncodes", fn := fun _ => fun
  | [d1, d2, d3] => { results := [.lit (.bool true)], args := [d1, d2, d3] }
  | _ => none }
def schemaEncodesRow : OpenClaim := { program := "ytpmhjjfcipjnoaa", sum := "02ca016a3be4316b3fa2242587efa1565b8c3b6818800e29ecd9fdd1d38bd3da", func := "coracle/coraclelaw02.SchemaEncodes", spec := "schemaEncodes", recurses := true, apart := false }
def SchemaEncodesSaid : Prop := schemaEncodesRow.holds Try.pinned (OpenSpec.ofChange schemaEncodesSpec)

/-- ITS FALSE NEIGHBOUR: 'it returns false'. Refute it at one input. -/
def schemaEncodesWrong : ChangeSpec := { name := "schemaEncodes", fn := fun _ => fun
  | [d1, d2, d3] => { results := [.lit (.bool false)], args := [d1, d2, d3] }
  | _ => none }
def SchemaEncodesWrongFalsely : Prop := schemaEncodesRow.holds Try.pinned (OpenSpec.ofChange schemaEncodesWrong)

/-- 'coraclelaw02.SchemaCounts': WHATEVER THE INPUT: true; the input reads as it did. -/
def schemaCountsSpec : ChangeSpec := { name := "schemaCounts", fn := fun _ => fun
  | [d1, d2] => { results := [.lit (.bool true)], args := [d1, d2] }
  | _ => none }
def schemaCountsRow : OpenClaim := { program := "ytpmhjjfcipjnoaa", sum := "02ca016a3be4316b3fa2242587efa1565b8c3b6818800e29ecd9fdd1d38bd3da", func := "coracle/coraclelaw02.SchemaCounts", spec := "schemaCounts", recurses := true, apart := false }
def SchemaCountsSaid : Prop := schemaCountsRow.holds Try.pinned (OpenSpec.ofChange schemaCountsSpec)

/-- ITS FALSE NEIGHBOUR: 'it returns false'. Refute it at one input. -/
def schemaCountsWrong : ChangeSpec := { name := "schemaCounts", fn := fun _ => fun
  | [d1, d2] => { results := [.lit (.bool false)], args := [d1, d2] }
  | _ => none }
def SchemaCountsWrongFalsely : Prop := schemaCountsRow.holds Try.pinned (OpenSpec.ofChange schemaCountsWrong)

/-- 'coraclelaw02.SchemaRows': WHATEVER THE INPUT: true; the input reads as it did. -/
def schemaRowsSpec : ChangeSpec := { name := "schemaRows", fn := fun _ => fun
  | [d1, d2, d3] => { results := [.lit (.bool true)], args := [d1, d2, d3] }
  | _ => none }
def schemaRowsRow : OpenClaim := { program := "ytpmhjjfcipjnoaa", sum := "02ca016a3be4316b3fa2242587efa1565b8c3b6818800e29ecd9fdd1d38bd3da", func := "coracle/coraclelaw02.SchemaRows", spec := "schemaRows", recurses := true, apart := false }
def SchemaRowsSaid : Prop := schemaRowsRow.holds Try.pinned (OpenSpec.ofChange schemaRowsSpec)

/-- ITS FALSE NEIGHBOUR: 'it returns false'. Refute it at one input. -/
def schemaRowsWrong : ChangeSpec := { name := "schemaRows", fn := fun _ => fun
  | [d1, d2, d3] => { results := [.lit (.bool false)], args := [d1, d2, d3] }
  | _ => none }
def SchemaRowsWrongFalsely : Prop := schemaRowsRow.holds Try.pinned (OpenSpec.ofChange schemaRowsWrong)

/- THE SECOND FORM. 'bulk': how many values and letters a reading holds, each counted each time it is reached (what is shared counts as often as it is met; a slice's spare places count too). A statement '..UptoSaid' is the law's where the arguments, and the package variables that the reading takes, are together of bulk at most 1048576: NARROWER than '..Said'. Prove '..Said' where nothing that the law and all that it calls make is longer than what came in: it says more and counts as full. Else prove '..UptoSaid'. A law counts once. -/
mutual
def uptoBulk {H : Type} : DataW H → Nat
  | .lit (.string bytes) => bytes.length + 1
  | .lit _ => 1
  | .nil => 1
  | .ptr d => uptoBulk d + 1
  | .slice elems spare => uptoBulkAll elems + uptoBulkAll spare + 1
  | .agg parts => uptoBulkAll parts + 1
  | .iface _ d => uptoBulk d + 1
  | .map entries => uptoBulkEntries entries + 1
  | .held _ => 1
def uptoBulkAll {H : Type} : List (DataW H) → Nat
  | [] => 0
  | d :: r => uptoBulk d + uptoBulkAll r
def uptoBulkEntries {H : Type} : List (Lit × DataW H) → Nat
  | [] => 0
  | x :: r => uptoBulkEntry x + uptoBulkEntries r
def uptoBulkEntry {H : Type} : Lit × DataW H → Nat
  | (.string bytes, d) => bytes.length + uptoBulk d + 1
  | (_, d) => uptoBulk d + 1
 end
def uptoSmall : (H : Type) → List (DataW H) → Bool := fun _ ds => decide (uptoBulkAll ds ≤ 1048576)
def OpenSpec.upto (s : _root_.Go.ChangeSpec) : _root_.Go.OpenSpec := { _root_.Go.OpenSpec.ofChange s with cond := some uptoSmall }

/-- 'coraclelaw02.SchemaShort', WHERE WHAT IT READS IS OF BULK AT MOST 1048576: true; the input reads as it did. -/
def schemaShortUptoRow : OpenClaim := { program := "ytpmhjjfcipjnoaa", sum := "02ca016a3be4316b3fa2242587efa1565b8c3b6818800e29ecd9fdd1d38bd3da", func := "coracle/coraclelaw02.SchemaShort", spec := "schemaShort", recurses := true, apart := false, narrowed := true }
def SchemaShortUptoSaid : Prop := schemaShortUptoRow.holds Try.pinned (OpenSpec.upto schemaShortSpec)

/-- 'coraclelaw02.SchemaChecks', WHERE WHAT IT READS IS OF BULK AT MOST 1048576: true; the input reads as it did. -/
def schemaChecksUptoRow : OpenClaim := { program := "ytpmhjjfcipjnoaa", sum := "02ca016a3be4316b3fa2242587efa1565b8c3b6818800e29ecd9fdd1d38bd3da", func := "coracle/coraclelaw02.SchemaChecks", spec := "schemaChecks", recurses := true, apart := false, narrowed := true }
def SchemaChecksUptoSaid : Prop := schemaChecksUptoRow.holds Try.pinned (OpenSpec.upto schemaChecksSpec)

/-- 'coraclelaw02.SchemaDecodes', WHERE WHAT IT READS IS OF BULK AT MOST 1048576: true; the input reads as it did. -/
def schemaDecodesUptoRow : OpenClaim := { program := "ytpmhjjfcipjnoaa", sum := "02ca016a3be4316b3fa2242587efa1565b8c3b6818800e29ecd9fdd1d38bd3da", func := "coracle/coraclelaw02.SchemaDecodes", spec := "schemaDecodes", recurses := true, apart := false, narrowed := true }
def SchemaDecodesUptoSaid : Prop := schemaDecodesUptoRow.holds Try.pinned (OpenSpec.upto schemaDecodesSpec)

/-- 'coraclelaw02.SchemaEncodes', WHERE WHAT IT READS IS OF BULK AT MOST 1048576: true; the input reads as it did. -/
def schemaEncodesUptoRow : OpenClaim := { program := "ytpmhjjfcipjnoaa", sum := "02ca016a3be4316b3fa2242587efa1565b8c3b6818800e29ecd9fdd1d38bd3da", func := "coracle/coraclelaw02.SchemaEncodes", spec := "schemaEncodes", recurses := true, apart := false, narrowed := true }
def SchemaEncodesUptoSaid : Prop := schemaEncodesUptoRow.holds Try.pinned (OpenSpec.upto schemaEncodesSpec)

/-- 'coraclelaw02.SchemaCounts', WHERE WHAT IT READS IS OF BULK AT MOST 1048576: true; the input reads as it did. -/
def schemaCountsUptoRow : OpenClaim := { program := "ytpmhjjfcipjnoaa", sum := "02ca016a3be4316b3fa2242587efa1565b8c3b6818800e29ecd9fdd1d38bd3da", func := "coracle/coraclelaw02.SchemaCounts", spec := "schemaCounts", recurses := true, apart := false, narrowed := true }
def SchemaCountsUptoSaid : Prop := schemaCountsUptoRow.holds Try.pinned (OpenSpec.upto schemaCountsSpec)

/-- 'coraclelaw02.SchemaRows', WHERE WHAT IT READS IS OF BULK AT MOST 1048576: true; the input reads as it did. -/
def schemaRowsUptoRow : OpenClaim := { program := "ytpmhjjfcipjnoaa", sum := "02ca016a3be4316b3fa2242587efa1565b8c3b6818800e29ecd9fdd1d38bd3da", func := "coracle/coraclelaw02.SchemaRows", spec := "schemaRows", recurses := true, apart := false, narrowed := true }
def SchemaRowsUptoSaid : Prop := schemaRowsUptoRow.holds Try.pinned (OpenSpec.upto schemaRowsSpec)

end Rows
end Go.Proofs.Ytpmhjjfcipjnoaa

/-
  No cell of these rows narrows 'for every input' (looked for: loops, veiled, ifaces, maps, wideKeys, modest, calm, conditions, laid).
  DERIVED. THE GIVEN ROWS OF THIS SEAT. 5 by the template 'for every input the law returns true; each argument reads behind the call as it read before'; 0 by the template 'total and deterministic' (their statements: YthdmklmihhallaaTotals.lean).
  GIVEN WITH THE SEED: the statements are not yours to turn. If you find one false, say at which input.
  Laid BY PROGRAM, IN A SANDBOX (cutbox-rows.mjs): the forced cells as the released guide's own fill.sh prints them over the translation f37c93964f3496f9… (all of the seat's roots in one cut). By AI agents, Wed Nov 11 2026. No macro, syntax, notation, axiom, sorry.
-/
import Derived.Test.YthdmklmihhallaaChecked
import GoSem.Claim
import GoSem.ClaimJoined
import GoSem.ClaimMapViews
import Derived.JoinedTies
import Derived.KernelRfl
namespace Go.Proofs.Ythdmklmihhallaa
/- THE CELL 'sum', in the pinned program and in every row, IS THE sha256 OF THE DUMP (.gsa) THAT YthdmklmihhallaaProg.lean LOADS. Nothing in Lean hashes anything: it is a label: what it is worth is what the hold of that sum in a sandbox is worth. -/
noncomputable def Try.pinned : Pinned := { name := "ythdmklmihhallaa", sum := "f37c93964f3496f94df118f151d088b70ee1c67b02fd67a651a23eebff6b977f", checked := Try.checked }
namespace Rows
def none {H : Type} : Left H := { results := [], args := [] }

/-- 'coraclelaw09.AttrMay': WHATEVER THE INPUT: true; the input reads as it did. -/
def attrMaySpec : ChangeSpec := { name := "attrMay", fn := fun _ => fun
  | [d1, d2] => { results := [.lit (.bool true)], args := [d1, d2] }
  | _ => none }
def attrMayRow : OpenClaim := { program := "ythdmklmihhallaa", sum := "f37c93964f3496f94df118f151d088b70ee1c67b02fd67a651a23eebff6b977f", func := "coracle/coraclelaw09.AttrMay", spec := "attrMay", apart := false }
def AttrMaySaid : Prop := attrMayRow.holds Try.pinned (OpenSpec.ofChange attrMaySpec)

/-- ITS FALSE NEIGHBOUR: 'it returns false'. Refute it at one input. -/
def attrMayWrong : ChangeSpec := { name := "attrMay", fn := fun _ => fun
  | [d1, d2] => { results := [.lit (.bool false)], args := [d1, d2] }
  | _ => none }
def AttrMayWrongFalsely : Prop := attrMayRow.holds Try.pinned (OpenSpec.ofChange attrMayWrong)

/-- 'coraclelaw09.AttrLess': WHATEVER THE INPUT: true; the input reads as it did. -/
def attrLessSpec : ChangeSpec := { name := "attrLess", fn := fun _ => fun
  | [d1, d2] => { results := [.lit (.bool true)], args := [d1, d2] }
  | _ => none }
def attrLessRow : OpenClaim := { program := "ythdmklmihhallaa", sum := "f37c93964f3496f94df118f151d088b70ee1c67b02fd67a651a23eebff6b977f", func := "coracle/coraclelaw09.AttrLess", spec := "attrLess", apart := false }
def AttrLessSaid : Prop := attrLessRow.holds Try.pinned (OpenSpec.ofChange attrLessSpec)

/-- ITS FALSE NEIGHBOUR: 'it returns false'. Refute it at one input. -/
def attrLessWrong : ChangeSpec := { name := "attrLess", fn := fun _ => fun
  | [d1, d2] => { results := [.lit (.bool false)], args := [d1, d2] }
  | _ => none }
def AttrLessWrongFalsely : Prop := attrLessRow.holds Try.pinned (OpenSpec.ofChange attrLessWrong)

/-- 'coraclelaw09.AttrPuts': WHATEVER THE INPUT: true; the input reads as it did. -/
def attrPutsSpec : ChangeSpec := { name := "attrPuts", fn := fun _ => fun
  | [d1, d2] => { results := [.lit (.bool true)], args := [d1, d2] }
  | _ => none }
def attrPutsRow : OpenClaim := { program := "ythdmklmihhallaa", sum := "f37c93964f3496f94df118f151d088b70ee1c67b02fd67a651a23eebff6b977f", func := "coracle/coraclelaw09.AttrPuts", spec := "attrPuts", apart := false }
def AttrPutsSaid : Prop := attrPutsRow.holds Try.pinned (OpenSpec.ofChange attrPutsSpec)

/-- ITS FALSE NEIGHBOUR: 'it returns false'. Refute it at one input. -/
def attrPutsWrong : ChangeSpec := { name := "attrPuts", fn := fun _ => fun
  | [d1, d2] => { results := [.lit (.bool false)], args := [d1, d2] }
  | _ => none }
def AttrPutsWrongFalsely : Prop := attrPutsRow.holds Try.pinned (OpenSpec.ofChange attrPutsWrong)

/-- 'coraclelaw09.AttrSets': WHATEVER THE INPUT: true; the input reads as it did. -/
def attrSetsSpec : ChangeSpec := { name := "attrSets", fn := fun _ => fun
  | [d1, d2, d3] => { results := [.lit (.bool true)], args := [d1, d2, d3] }
  | _ => none }
def attrSetsRow : OpenClaim := { program := "ythdmklmihhallaa", sum := "f37c93964f3496f94df118f151d088b70ee1c67b02fd67a651a23eebff6b977f", func := "coracle/coraclelaw09.AttrSets", spec := "attrSets", unfollowed := true, recurses := true, apart := false }
def AttrSetsSaid : Prop := attrSetsRow.holds Try.pinned (OpenSpec.ofChange attrSetsSpec)

/-- ITS FALSE NEIGHBOUR: 'it returns false'. Refute it at one input. -/
def attrSetsWrong : ChangeSpec := { name := "attrSets", fn := fun _ => fun
  | [d1, d2, d3] => { results := [.lit (.bool false)], args := [d1, d2, d3] }
  | _ => none }
def AttrSetsWrongFalsely : Prop := attrSetsRow.holds Try.pinned (OpenSpec.ofChange attrSetsWrong)

/-- 'coraclelaw09.AttrBack': WHATEVER THE INPUT: true; the input reads as it did. -/
def attrBackSpec : ChangeSpec := { name := "attrBack", fn := fun _ => fun
  | [d1, d2, d3] => { results := [.lit (.bool true)], args := [d1, d2, d3] }
  | _ => none }
def attrBackRow : OpenClaim := { program := "ythdmklmihhallaa", sum := "f37c93964f3496f94df118f151d088b70ee1c67b02fd67a651a23eebff6b977f", func := "coracle/coraclelaw09.AttrBack", spec := "attrBack", unfollowed := true, recurses := true, apart := false }
def AttrBackSaid : Prop := attrBackRow.holds Try.pinned (OpenSpec.ofChange attrBackSpec)

/-- ITS FALSE NEIGHBOUR: 'it returns false'. Refute it at one input. -/
def attrBackWrong : ChangeSpec := { name := "attrBack", fn := fun _ => fun
  | [d1, d2, d3] => { results := [.lit (.bool false)], args := [d1, d2, d3] }
  | _ => none }
def AttrBackWrongFalsely : Prop := attrBackRow.holds Try.pinned (OpenSpec.ofChange attrBackWrong)

/- THE SECOND FORM. 'bulk': how many values and letters a reading holds, each counted each time it is reached (what is shared counts as often as it is met; a slice's spare places count too). A statement '..UptoSaid' is the law's where the arguments, and the package variables that the reading takes, are together of bulk at most 1048576: NARROWER than '..Said'. Prove '..Said' where nothing that the law and all that it calls make is longer than what came in: it says more and counts as full. Else prove '..UptoSaid'. A law counts once. -/
mutual
def uptoBulk {H : Type} : DataW H → Nat
  | .lit (.string bytes) => bytes.length + 1
  | .lit _ => 1
  | .nil => 1
  | .ptr d => uptoBulk d + 1
  | .slice elems spare => uptoBulkAll elems + uptoBulkAll spare + 1
  | .agg parts => uptoBulkAll parts + 1
  | .iface _ d => uptoBulk d + 1
  | .map entries => uptoBulkEntries entries + 1
  | .held _ => 1
def uptoBulkAll {H : Type} : List (DataW H) → Nat
  | [] => 0
  | d :: r => uptoBulk d + uptoBulkAll r
def uptoBulkEntries {H : Type} : List (Lit × DataW H) → Nat
  | [] => 0
  | x :: r => uptoBulkEntry x + uptoBulkEntries r
def uptoBulkEntry {H : Type} : Lit × DataW H → Nat
  | (.string bytes, d) => bytes.length + uptoBulk d + 1
  | (_, d) => uptoBulk d + 1
 end
def uptoSmall : (H : Type) → List (DataW H) → Bool := fun _ ds => decide (uptoBulkAll ds ≤ 1048576)
def OpenSpec.upto (s : _root_.Go.ChangeSpec) : _root_.Go.OpenSpec := { _root_.Go.OpenSpec.ofChange s with cond := some uptoSmall }

/-- 'coraclelaw09.AttrMay', WHERE WHAT IT READS IS OF BULK AT MOST 1048576: true; the input reads as it did. -/
def attrMayUptoRow : OpenClaim := { program := "ythdmklmihhallaa", sum := "f37c93964f3496f94df118f151d088b70ee1c67b02fd67a651a23eebff6b977f", func := "coracle/coraclelaw09.AttrMay", spec := "attrMay", apart := false, narrowed := true }
def AttrMayUptoSaid : Prop := attrMayUptoRow.holds Try.pinned (OpenSpec.upto attrMaySpec)

/-- 'coraclelaw09.AttrLess', WHERE WHAT IT READS IS OF BULK AT MOST 1048576: true; the input reads as it did. -/
def attrLessUptoRow : OpenClaim := { program := "ythdmklmihhallaa", sum := "f37c93964f3496f94df118f151d088b70ee1c67b02fd67a651a23eebff6b977f", func := "coracle/coraclelaw09.AttrLess", spec := "attrLess", apart := false, narrowed := true }
def AttrLessUptoSaid : Prop := attrLessUptoRow.holds Try.pinned (OpenSpec.upto attrLessSpec)

/-- 'coraclelaw09.AttrPuts', WHERE WHAT IT READS IS OF BULK AT MOST 1048576: true; the input reads as it did. -/
def attrPutsUptoRow : OpenClaim := { program := "ythdmklmihhallaa", sum := "f37c93964f3496f94df118f151d088b70ee1c67b02fd67a651a23eebff6b977f", func := "coracle/coraclelaw09.AttrPuts", spec := "attrPuts", apart := false, narrowed := true }
def AttrPutsUptoSaid : Prop := attrPutsUptoRow.holds Try.pinned (OpenSpec.upto attrPutsSpec)

/-- 'coraclelaw09.AttrSets', WHERE WHAT IT READS IS OF BULK AT MOST 1048576: true; the input reads as it did. -/
def attrSetsUptoRow : OpenClaim := { program := "ythdmklmihhallaa", sum := "f37c93964f3496f94df118f151d088b70ee1c67b02fd67a651a23eebff6b977f", func := "coracle/coraclelaw09.AttrSets", spec := "attrSets", unfollowed := true, recurses := true, apart := false, narrowed := true }
def AttrSetsUptoSaid : Prop := attrSetsUptoRow.holds Try.pinned (OpenSpec.upto attrSetsSpec)

/-- 'coraclelaw09.AttrBack', WHERE WHAT IT READS IS OF BULK AT MOST 1048576: true; the input reads as it did. -/
def attrBackUptoRow : OpenClaim := { program := "ythdmklmihhallaa", sum := "f37c93964f3496f94df118f151d088b70ee1c67b02fd67a651a23eebff6b977f", func := "coracle/coraclelaw09.AttrBack", spec := "attrBack", unfollowed := true, recurses := true, apart := false, narrowed := true }
def AttrBackUptoSaid : Prop := attrBackUptoRow.holds Try.pinned (OpenSpec.upto attrBackSpec)

end Rows
end Go.Proofs.Ythdmklmihhallaa

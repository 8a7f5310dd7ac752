/-
  No cell of these rows narrows 'for every input' (looked for: loops, veiled, ifaces, maps, wideKeys, modest, calm, conditions, laid).
  DERIVED. THE GIVEN ROWS OF THIS SEAT. 4 by the template 'for every input the law returns true; each argument reads behind the call as it read before'; 0 by the template 'total and deterministic' (their statements: YtaifncebakbinaaTotals.lean).
  GIVEN WITH THE SEED: the statements are not yours to turn. If you find one false, say at which input.
  Laid BY PROGRAM, IN A SANDBOX (cutbox-rows.mjs): the forced cells as the released guide's own fill.sh prints them over the translation d9773e540eed9bd8… (all of the seat's roots in one cut). By AI agents, Wed Nov 11 2026. No macro, syntax, notation, axiom, sorry.
-/
import Derived.Test.YtaifncebakbinaaChecked
import GoSem.Claim
import GoSem.ClaimJoined
import GoSem.ClaimMapViews
import Derived.JoinedTies
import Derived.KernelRfl
namespace Go.Proofs.Ytaifncebakbinaa
/- THE CELL 'sum', in the pinned program and in every row, IS THE sha256 OF THE DUMP (.gsa) THAT YtaifncebakbinaaProg.lean LOADS. Nothing in Lean hashes anything: it is a label: what it is worth is what the hold of that sum in a sandbox is worth. -/
noncomputable def Try.pinned : Pinned := { name := "ytaifncebakbinaa", sum := "d9773e540eed9bd8ce90a649235f30e21ccfda44a64c363588c5a5bb6e42073c", checked := Try.checked }
namespace Rows
def none {H : Type} : Left H := { results := [], args := [] }

/-- 'coracletop.TopCarried': WHATEVER THE INPUT: true; the input reads as it did. -/
def topCarriedSpec : ChangeSpec := { name := "topCarried", fn := fun _ => fun
  | [d1, d2] => { results := [.lit (.bool true)], args := [d1, d2] }
  | _ => none }
def topCarriedRow : OpenClaim := { program := "ytaifncebakbinaa", sum := "d9773e540eed9bd8ce90a649235f30e21ccfda44a64c363588c5a5bb6e42073c", func := "coracle/coracletop.TopCarried", spec := "topCarried", unfollowed := true, recurses := true, plainKeys := false, apart := false }
def TopCarriedSaid : Prop := topCarriedRow.holds Try.pinned (OpenSpec.ofChange topCarriedSpec)

/-- ITS FALSE NEIGHBOUR: 'it returns false'. Refute it at one input. -/
def topCarriedWrong : ChangeSpec := { name := "topCarried", fn := fun _ => fun
  | [d1, d2] => { results := [.lit (.bool false)], args := [d1, d2] }
  | _ => none }
def TopCarriedWrongFalsely : Prop := topCarriedRow.holds Try.pinned (OpenSpec.ofChange topCarriedWrong)

/-- 'coracletop.TopLists': WHATEVER THE INPUT: true; the input reads as it did. -/
def topListsSpec : ChangeSpec := { name := "topLists", fn := fun _ => fun
  | [d1, d2, d3] => { results := [.lit (.bool true)], args := [d1, d2, d3] }
  | _ => none }
def topListsRow : OpenClaim := { program := "ytaifncebakbinaa", sum := "d9773e540eed9bd8ce90a649235f30e21ccfda44a64c363588c5a5bb6e42073c", func := "coracle/coracletop.TopLists", spec := "topLists", recurses := true, plainKeys := false, apart := false }
def TopListsSaid : Prop := topListsRow.holds Try.pinned (OpenSpec.ofChange topListsSpec)

/-- ITS FALSE NEIGHBOUR: 'it returns false'. Refute it at one input. -/
def topListsWrong : ChangeSpec := { name := "topLists", fn := fun _ => fun
  | [d1, d2, d3] => { results := [.lit (.bool false)], args := [d1, d2, d3] }
  | _ => none }
def TopListsWrongFalsely : Prop := topListsRow.holds Try.pinned (OpenSpec.ofChange topListsWrong)

/-- 'coracletop.TopEnvelope': WHATEVER THE INPUT: true; the input reads as it did. -/
def topEnvelopeSpec : ChangeSpec := { name := "topEnvelope", fn := fun _ => fun
  | [d1, d2, d3] => { results := [.lit (.bool true)], args := [d1, d2, d3] }
  | _ => none }
def topEnvelopeRow : OpenClaim := { program := "ytaifncebakbinaa", sum := "d9773e540eed9bd8ce90a649235f30e21ccfda44a64c363588c5a5bb6e42073c", func := "coracle/coracletop.TopEnvelope", spec := "topEnvelope", unfollowed := true, recurses := true, plainKeys := false, apart := false }
def TopEnvelopeSaid : Prop := topEnvelopeRow.holds Try.pinned (OpenSpec.ofChange topEnvelopeSpec)

/-- ITS FALSE NEIGHBOUR: 'it returns false'. Refute it at one input. -/
def topEnvelopeWrong : ChangeSpec := { name := "topEnvelope", fn := fun _ => fun
  | [d1, d2, d3] => { results := [.lit (.bool false)], args := [d1, d2, d3] }
  | _ => none }
def TopEnvelopeWrongFalsely : Prop := topEnvelopeRow.holds Try.pinned (OpenSpec.ofChange topEnvelopeWrong)

/-- 'coraclelaw09.AttrForms': WHATEVER THE INPUT: true; the input reads as it did. -/
def attrFormsSpec : ChangeSpec := { name := "attrForms", fn := fun _ => fun
  | [d1, d2, d3] => { results := [.lit (.bool true)], args := [d1, d2, d3] }
  | _ => none }
def attrFormsRow : OpenClaim := { program := "ytaifncebakbinaa", sum := "d9773e540eed9bd8ce90a649235f30e21ccfda44a64c363588c5a5bb6e42073c", func := "coracle/coraclelaw09.AttrForms", spec := "attrForms", recurses := true, plainKeys := false, apart := false }
def AttrFormsSaid : Prop := attrFormsRow.holds Try.pinned (OpenSpec.ofChange attrFormsSpec)

/-- ITS FALSE NEIGHBOUR: 'it returns false'. Refute it at one input. -/
def attrFormsWrong : ChangeSpec := { name := "attrForms", fn := fun _ => fun
  | [d1, d2, d3] => { results := [.lit (.bool false)], args := [d1, d2, d3] }
  | _ => none }
def AttrFormsWrongFalsely : Prop := attrFormsRow.holds Try.pinned (OpenSpec.ofChange attrFormsWrong)

/- THE SECOND FORM. 'bulk': how many values and letters a reading holds, each counted each time it is reached (what is shared counts as often as it is met; a slice's spare places count too). A statement '..UptoSaid' is the law's where the arguments, and the package variables that the reading takes, are together of bulk at most 1048576: NARROWER than '..Said'. Prove '..Said' where nothing that the law and all that it calls make is longer than what came in: it says more and counts as full. Else prove '..UptoSaid'. A law counts once. -/
mutual
def uptoBulk {H : Type} : DataW H → Nat
  | .lit (.string bytes) => bytes.length + 1
  | .lit _ => 1
  | .nil => 1
  | .ptr d => uptoBulk d + 1
  | .slice elems spare => uptoBulkAll elems + uptoBulkAll spare + 1
  | .agg parts => uptoBulkAll parts + 1
  | .iface _ d => uptoBulk d + 1
  | .map entries => uptoBulkEntries entries + 1
  | .held _ => 1
def uptoBulkAll {H : Type} : List (DataW H) → Nat
  | [] => 0
  | d :: r => uptoBulk d + uptoBulkAll r
def uptoBulkEntries {H : Type} : List (Lit × DataW H) → Nat
  | [] => 0
  | x :: r => uptoBulkEntry x + uptoBulkEntries r
def uptoBulkEntry {H : Type} : Lit × DataW H → Nat
  | (.string bytes, d) => bytes.length + uptoBulk d + 1
  | (_, d) => uptoBulk d + 1
 end
def uptoSmall : (H : Type) → List (DataW H) → Bool := fun _ ds => decide (uptoBulkAll ds ≤ 1048576)
def OpenSpec.upto (s : _root_.Go.ChangeSpec) : _root_.Go.OpenSpec := { _root_.Go.OpenSpec.ofChange s with cond := some uptoSmall }

/-- 'coracletop.TopCarried', WHERE WHAT IT READS IS OF BULK AT MOST 1048576: true; the input reads as it did. -/
def topCarriedUptoRow : OpenClaim := { program := "ytaifncebakbinaa", sum := "d9773e540eed9bd8ce90a649235f30e21ccfda44a64c363588c5a5bb6e42073c", func := "coracle/coracletop.TopCarried", spec := "topCarried", unfollowed := true, recurses := true, plainKeys := false, apart := false, narrowed := true }
def TopCarriedUptoSaid : Prop := topCarriedUptoRow.holds Try.pinned (OpenSpec.upto topCarriedSpec)

/-- 'coracletop.TopLists', WHERE WHAT IT READS IS OF BULK AT MOST 1048576: true; the input reads as it did. -/
def topListsUptoRow : OpenClaim := { program := "ytaifncebakbinaa", sum := "d9773e540eed9bd8ce90a649235f30e21ccfda44a64c363588c5a5bb6e42073c", func := "coracle/coracletop.TopLists", spec := "topLists", recurses := true, plainKeys := false, apart := false, narrowed := true }
def TopListsUptoSaid : Prop := topListsUptoRow.holds Try.pinned (OpenSpec.upto topListsSpec)

/-- 'coracletop.TopEnvelope', WHERE WHAT IT READS IS OF BULK AT MOST 1048576: true; the input reads as it did. -/
def topEnvelopeUptoRow : OpenClaim := { program := "ytaifncebakbinaa", sum := "d9773e540eed9bd8ce90a649235f30e21ccfda44a64c363588c5a5bb6e42073c", func := "coracle/coracletop.TopEnvelope", spec := "topEnvelope", unfollowed := true, recurses := true, plainKeys := false, apart := false, narrowed := true }
def TopEnvelopeUptoSaid : Prop := topEnvelopeUptoRow.holds Try.pinned (OpenSpec.upto topEnvelopeSpec)

/-- 'coraclelaw09.AttrForms', WHERE WHAT IT READS IS OF BULK AT MOST 1048576: true; the input reads as it did. -/
def attrFormsUptoRow : OpenClaim := { program := "ytaifncebakbinaa", sum := "d9773e540eed9bd8ce90a649235f30e21ccfda44a64c363588c5a5bb6e42073c", func := "coracle/coraclelaw09.AttrForms", spec := "attrForms", recurses := true, plainKeys := false, apart := false, narrowed := true }
def AttrFormsUptoSaid : Prop := attrFormsUptoRow.holds Try.pinned (OpenSpec.upto attrFormsSpec)

end Rows
end Go.Proofs.Ytaifncebakbinaa

/-
  No cell of these rows narrows 'for every input' (looked for: loops, veiled, ifaces, maps, wideKeys, modest, calm, conditions, laid).
  DERIVED. THE GIVEN ROWS OF THIS SEAT. 4 by the template 'for every input the law returns true; each argument reads behind the call as it read before'; 0 by the template 'total and deterministic' (their statements: YtkkpcjpdpjpohaaTotals.lean).
  GIVEN WITH THE SEED: the statements are not yours to turn. If you find one false, say at which input.
  Laid BY PROGRAM, IN A SANDBOX (cutbox-rows.mjs): the forced cells as the released guide's own fill.sh prints them over the translation 321d2dead37031da… (all of the seat's roots in one cut). By AI agents, Wed Nov 11 2026. No macro, syntax, notation, axiom, sorry.
-/
import Derived.Test.YtkkpcjpdpjpohaaChecked
import GoSem.Claim
import GoSem.ClaimJoined
import GoSem.ClaimMapViews
import Derived.JoinedTies
import Derived.KernelRfl
namespace Go.Proofs.Ytkkpcjpdpjpohaa
/- THE CELL 'sum', in the pinned program and in every row, IS THE sha256 OF THE DUMP (.gsa) THAT YtkkpcjpdpjpohaaProg.lean LOADS. Nothing in Lean hashes anything: it is a label: what it is worth is what the hold of that sum in a sandbox is worth. -/
noncomputable def Try.pinned : Pinned := { name := "ytkkpcjpdpjpohaa", sum := "321d2dead37031da611a53d89545d52401afb679df9b227ebd771a4c7295e048", checked := Try.checked }
namespace Rows
def none {H : Type} : Left H := { results := [], args := [] }

/-- 'coraclelaw16.DrcStrangers': WHATEVER THE INPUT: true; the input reads as it did. -/
def drcStrangersSpec : ChangeSpec := { name := "drcStrangers", fn := fun _ => fun
  | [d1, d2, d3] => { results := [.lit (.bool true)], args := [d1, d2, d3] }
  | _ => none }
def drcStrangersRow : OpenClaim := { program := "ytkkpcjpdpjpohaa", sum := "321d2dead37031da611a53d89545d52401afb679df9b227ebd771a4c7295e048", func := "coracle/coraclelaw16.DrcStrangers", spec := "drcStrangers", recurses := true, apart := false }
def DrcStrangersSaid : Prop := drcStrangersRow.holds Try.pinned (OpenSpec.ofChange drcStrangersSpec)

/-- ITS FALSE NEIGHBOUR: 'it returns false'. Refute it at one input. -/
def drcStrangersWrong : ChangeSpec := { name := "drcStrangers", fn := fun _ => fun
  | [d1, d2, d3] => { results := [.lit (.bool false)], args := [d1, d2, d3] }
  | _ => none }
def DrcStrangersWrongFalsely : Prop := drcStrangersRow.holds Try.pinned (OpenSpec.ofChange drcStrangersWrong)

/-- 'coraclelaw16.DrcLatest': WHATEVER THE INPUT: true; the input reads as it did. -/
def drcLatestSpec : ChangeSpec := { name := "drcLatest", fn := fun _ => fun
  | [d1, d2] => { results := [.lit (.bool true)], args := [d1, d2] }
  | _ => none }
def drcLatestRow : OpenClaim := { program := "ytkkpcjpdpjpohaa", sum := "321d2dead37031da611a53d89545d52401afb679df9b227ebd771a4c7295e048", func := "coracle/coraclelaw16.DrcLatest", spec := "drcLatest", recurses := true, apart := false }
def DrcLatestSaid : Prop := drcLatestRow.holds Try.pinned (OpenSpec.ofChange drcLatestSpec)

/-- ITS FALSE NEIGHBOUR: 'it returns false'. Refute it at one input. -/
def drcLatestWrong : ChangeSpec := { name := "drcLatest", fn := fun _ => fun
  | [d1, d2] => { results := [.lit (.bool false)], args := [d1, d2] }
  | _ => none }
def DrcLatestWrongFalsely : Prop := drcLatestRow.holds Try.pinned (OpenSpec.ofChange drcLatestWrong)

/-- 'coraclelaw16.DrcKept': WHATEVER THE INPUT: true; the input reads as it did. -/
def drcKeptSpec : ChangeSpec := { name := "drcKept", fn := fun _ => fun
  | [d1, d2, d3] => { results := [.lit (.bool true)], args := [d1, d2, d3] }
  | _ => none }
def drcKeptRow : OpenClaim := { program := "ytkkpcjpdpjpohaa", sum := "321d2dead37031da611a53d89545d52401afb679df9b227ebd771a4c7295e048", func := "coracle/coraclelaw16.DrcKept", spec := "drcKept", recurses := true, apart := false }
def DrcKeptSaid : Prop := drcKeptRow.holds Try.pinned (OpenSpec.ofChange drcKeptSpec)

/-- ITS FALSE NEIGHBOUR: 'it returns false'. Refute it at one input. -/
def drcKeptWrong : ChangeSpec := { name := "drcKept", fn := fun _ => fun
  | [d1, d2, d3] => { results := [.lit (.bool false)], args := [d1, d2, d3] }
  | _ => none }
def DrcKeptWrongFalsely : Prop := drcKeptRow.holds Try.pinned (OpenSpec.ofChange drcKeptWrong)

/-- 'coraclelaw16.DrcScripts': WHATEVER THE INPUT: true; the input reads as it did. -/
def drcScriptsSpec : ChangeSpec := { name := "drcScripts", fn := fun _ => fun
  | [d1, d2] => { results := [.lit (.bool true)], args := [d1, d2] }
  | _ => none }
def drcScriptsRow : OpenClaim := { program := "ytkkpcjpdpjpohaa", sum := "321d2dead37031da611a53d89545d52401afb679df9b227ebd771a4c7295e048", func := "coracle/coraclelaw16.DrcScripts", spec := "drcScripts", recurses := true, apart := false }
def DrcScriptsSaid : Prop := drcScriptsRow.holds Try.pinned (OpenSpec.ofChange drcScriptsSpec)

/-- ITS FALSE NEIGHBOUR: 'it returns false'. Refute it at one input. -/
def drcScriptsWrong : ChangeSpec := { name := "drcScripts", fn := fun _ => fun
  | [d1, d2] => { results := [.lit (.bool false)], args := [d1, d2] }
  | _ => none }
def DrcScriptsWrongFalsely : Prop := drcScriptsRow.holds Try.pinned (OpenSpec.ofChange drcScriptsWrong)

/- THE SECOND FORM. 'bulk': how many values and letters a reading holds, each counted each time it is reached (what is shared counts as often as it is met; a slice's spare places count too). A statement '..UptoSaid' is the law's where the arguments, and the package variables that the reading takes, are together of bulk at most 1048576: NARROWER than '..Said'. Prove '..Said' where nothing that the law and all that it calls make is longer than what came in: it says more and counts as full. Else prove '..UptoSaid'. A law counts once. -/
mutual
def uptoBulk {H : Type} : DataW H → Nat
  | .lit (.string bytes) => bytes.length + 1
  | .lit _ => 1
  | .nil => 1
  | .ptr d => uptoBulk d + 1
  | .slice elems spare => uptoBulkAll elems + uptoBulkAll spare + 1
  | .agg parts => uptoBulkAll parts + 1
  | .iface _ d => uptoBulk d + 1
  | .map entries => uptoBulkEntries entries + 1
  | .held _ => 1
def uptoBulkAll {H : Type} : List (DataW H) → Nat
  | [] => 0
  | d :: r => uptoBulk d + uptoBulkAll r
def uptoBulkEntries {H : Type} : List (Lit × DataW H) → Nat
  | [] => 0
  | x :: r => uptoBulkEntry x + uptoBulkEntries r
def uptoBulkEntry {H : Type} : Lit × DataW H → Nat
  | (.string bytes, d) => bytes.length + uptoBulk d + 1
  | (_, d) => uptoBulk d + 1
 end
def uptoSmall : (H : Type) → List (DataW H) → Bool := fun _ ds => decide (uptoBulkAll ds ≤ 1048576)
def OpenSpec.upto (s : _root_.Go.ChangeSpec) : _root_.Go.OpenSpec := { _root_.Go.OpenSpec.ofChange s with cond := some uptoSmall }

/-- 'coraclelaw16.DrcStrangers', WHERE WHAT IT READS IS OF BULK AT MOST 1048576: true; the input reads as it did. -/
def drcStrangersUptoRow : OpenClaim := { program := "ytkkpcjpdpjpohaa", sum := "321d2dead37031da611a53d89545d52401afb679df9b227ebd771a4c7295e048", func := "coracle/coraclelaw16.DrcStrangers", spec := "drcStrangers", recurses := true, apart := false, narrowed := true }
def DrcStrangersUptoSaid : Prop := drcStrangersUptoRow.holds Try.pinned (OpenSpec.upto drcStrangersSpec)

/-- 'coraclelaw16.DrcLatest', WHERE WHAT IT READS IS OF BULK AT MOST 1048576: true; the input reads as it did. -/
def drcLatestUptoRow : OpenClaim := { program := "ytkkpcjpdpjpohaa", sum := "321d2dead37031da611a53d89545d52401afb679df9b227ebd771a4c7295e048", func := "coracle/coraclelaw16.DrcLatest", spec := "drcLatest", recurses := true, apart := false, narrowed := true }
def DrcLatestUptoSaid : Prop := drcLatestUptoRow.holds Try.pinned (OpenSpec.upto drcLatestSpec)

/-- 'coraclelaw16.DrcKept', WHERE WHAT IT READS IS OF BULK AT MOST 1048576: true; the input reads as it did. -/
def drcKeptUptoRow : OpenClaim := { program := "ytkkpcjpdpjpohaa", sum := "321d2dead37031da611a53d89545d52401afb679df9b227ebd771a4c7295e048", func := "coracle/coraclelaw16.DrcKept", spec := "drcKept", recurses := true, apart := false, narrowed := true }
def DrcKeptUptoSaid : Prop := drcKeptUptoRow.holds Try.pinned (OpenSpec.upto drcKeptSpec)

/-- 'coraclelaw16.DrcScripts', WHERE WHAT IT READS IS OF BULK AT MOST 1048576: true; the input reads as it did. -/
def drcScriptsUptoRow : OpenClaim := { program := "ytkkpcjpdpjpohaa", sum := "321d2dead37031da611a53d89545d52401afb679df9b227ebd771a4c7295e048", func := "coracle/coraclelaw16.DrcScripts", spec := "drcScripts", recurses := true, apart := false, narrowed := true }
def DrcScriptsUptoSaid : Prop := drcScriptsUptoRow.holds Try.pinned (OpenSpec.upto drcScriptsSpec)

end Rows
end Go.Proofs.Ytkkpcjpdpjpohaa

/-
  No cell of these rows narrows 'for every input' (looked for: loops, veiled, ifaces, maps, wideKeys, modest, calm, conditions, laid).
  DERIVED. THE GIVEN ROWS OF THIS SEAT. 5 by the template 'for every input the law returns true; each argument reads behind the call as it read before'; 0 by the template 'total and deterministic' (their statements: YtmlknjgcfplnlaaTotals.lean).
  GIVEN WITH THE SEED: the statements are not yours to turn. If you find one false, say at which input.
  Laid BY PROGRAM, IN A SANDBOX (cutbox-rows.mjs): the forced cells as the released guide's own fill.sh prints them over the translation fda665f40dcbb5ee… (all of the seat's roots in one cut). By AI agents, Wed Nov 11 2026. No macro, syntax, notation, axiom, sorry.
-/
import Derived.Test.YtmlknjgcfplnlaaChecked
import GoSem.Claim
import GoSem.ClaimJoined
import GoSem.ClaimMapViews
import Derived.JoinedTies
import Derived.KernelRfl
namespace Go.Proofs.Ytmlknjgcfplnlaa
/- THE CELL 'sum', in the pinned program and in every row, IS THE sha256 OF THE DUMP (.gsa) THAT YtmlknjgcfplnlaaProg.lean LOADS. Nothing in Lean hashes anything: it is a label: what it is worth is what the hold of that sum in a sandbox is worth. -/
noncomputable def Try.pinned : Pinned := { name := "ytmlknjgcfplnlaa", sum := "fda665f40dcbb5eee6c5516e55bfa5aeb6a292ce110116f8a5b4b2fbe46f2c65", checked := Try.checked }
namespace Rows
def none {H : Type} : Left H := { results := [], args := [] }

/-- 'coraclelaw04.SectorLasts': WHATEVER THE INPUT: true; the input reads as it did. -/
def sectorLastsSpec : ChangeSpec := { name := "sectorLasts", fn := fun _ => fun
  | [d1, d2, d3] => { results := [.lit (.bool true)], args := [d1, d2, d3] }
  | _ => none }
def sectorLastsRow : OpenClaim := { program := "ytmlknjgcfplnlaa", sum := "fda665f40dcbb5eee6c5516e55bfa5aeb6a292ce110116f8a5b4b2fbe46f2c65", func := "coracle/coraclelaw04.SectorLasts", spec := "sectorLasts", inPlace := ["internal/abi.NoEscape", "internal/bytealg.MakeNoZero"], apart := false }
def SectorLastsSaid : Prop := sectorLastsRow.holds Try.pinned (OpenSpec.ofChange sectorLastsSpec)

/-- ITS FALSE NEIGHBOUR: 'it returns false'. Refute it at one input. -/
def sectorLastsWrong : ChangeSpec := { name := "sectorLasts", fn := fun _ => fun
  | [d1, d2, d3] => { results := [.lit (.bool false)], args := [d1, d2, d3] }
  | _ => none }
def SectorLastsWrongFalsely : Prop := sectorLastsRow.holds Try.pinned (OpenSpec.ofChange sectorLastsWrong)

/-- 'coraclelaw04.SectorAll': WHATEVER THE INPUT: true; the input reads as it did. -/
def sectorAllSpec : ChangeSpec := { name := "sectorAll", fn := fun _ => fun
  | [d1, d2] => { results := [.lit (.bool true)], args := [d1, d2] }
  | _ => none }
def sectorAllRow : OpenClaim := { program := "ytmlknjgcfplnlaa", sum := "fda665f40dcbb5eee6c5516e55bfa5aeb6a292ce110116f8a5b4b2fbe46f2c65", func := "coracle/coraclelaw04.SectorAll", spec := "sectorAll", inPlace := ["internal/abi.NoEscape", "internal/bytealg.MakeNoZero"], apart := false }
def SectorAllSaid : Prop := sectorAllRow.holds Try.pinned (OpenSpec.ofChange sectorAllSpec)

/-- ITS FALSE NEIGHBOUR: 'it returns false'. Refute it at one input. -/
def sectorAllWrong : ChangeSpec := { name := "sectorAll", fn := fun _ => fun
  | [d1, d2] => { results := [.lit (.bool false)], args := [d1, d2] }
  | _ => none }
def SectorAllWrongFalsely : Prop := sectorAllRow.holds Try.pinned (OpenSpec.ofChange sectorAllWrong)

/-- 'coraclelaw04.SectorScripts': WHATEVER THE INPUT: true; the input reads as it did. -/
def sectorScriptsSpec : ChangeSpec := { name := "sectorScripts", fn := fun _ => fun
  | [d1, d2] => { results := [.lit (.bool true)], args := [d1, d2] }
  | _ => none }
def sectorScriptsRow : OpenClaim := { program := "ytmlknjgcfplnlaa", sum := "fda665f40dcbb5eee6c5516e55bfa5aeb6a292ce110116f8a5b4b2fbe46f2c65", func := "coracle/coraclelaw04.SectorScripts", spec := "sectorScripts", inPlace := ["internal/abi.NoEscape", "internal/bytealg.MakeNoZero"], apart := false }
def SectorScriptsSaid : Prop := sectorScriptsRow.holds Try.pinned (OpenSpec.ofChange sectorScriptsSpec)

/-- ITS FALSE NEIGHBOUR: 'it returns false'. Refute it at one input. -/
def sectorScriptsWrong : ChangeSpec := { name := "sectorScripts", fn := fun _ => fun
  | [d1, d2] => { results := [.lit (.bool false)], args := [d1, d2] }
  | _ => none }
def SectorScriptsWrongFalsely : Prop := sectorScriptsRow.holds Try.pinned (OpenSpec.ofChange sectorScriptsWrong)

/-- 'coraclelaw04.SectorNil': WHATEVER THE INPUT: true; the input reads as it did. -/
def sectorNilSpec : ChangeSpec := { name := "sectorNil", fn := fun _ => fun
  | [d1, d2] => { results := [.lit (.bool true)], args := [d1, d2] }
  | _ => none }
def sectorNilRow : OpenClaim := { program := "ytmlknjgcfplnlaa", sum := "fda665f40dcbb5eee6c5516e55bfa5aeb6a292ce110116f8a5b4b2fbe46f2c65", func := "coracle/coraclelaw04.SectorNil", spec := "sectorNil", inPlace := ["internal/abi.NoEscape", "internal/bytealg.MakeNoZero"], apart := false }
def SectorNilSaid : Prop := sectorNilRow.holds Try.pinned (OpenSpec.ofChange sectorNilSpec)

/-- ITS FALSE NEIGHBOUR: 'it returns false'. Refute it at one input. -/
def sectorNilWrong : ChangeSpec := { name := "sectorNil", fn := fun _ => fun
  | [d1, d2] => { results := [.lit (.bool false)], args := [d1, d2] }
  | _ => none }
def SectorNilWrongFalsely : Prop := sectorNilRow.holds Try.pinned (OpenSpec.ofChange sectorNilWrong)

/-- 'coraclelaw04.SectorDark': WHATEVER THE INPUT: true; the input reads as it did. -/
def sectorDarkSpec : ChangeSpec := { name := "sectorDark", fn := fun _ => fun
  | [d1, d2] => { results := [.lit (.bool true)], args := [d1, d2] }
  | _ => none }
def sectorDarkRow : OpenClaim := { program := "ytmlknjgcfplnlaa", sum := "fda665f40dcbb5eee6c5516e55bfa5aeb6a292ce110116f8a5b4b2fbe46f2c65", func := "coracle/coraclelaw04.SectorDark", spec := "sectorDark", inPlace := ["internal/abi.NoEscape", "internal/bytealg.MakeNoZero"], apart := false }
def SectorDarkSaid : Prop := sectorDarkRow.holds Try.pinned (OpenSpec.ofChange sectorDarkSpec)

/-- ITS FALSE NEIGHBOUR: 'it returns false'. Refute it at one input. -/
def sectorDarkWrong : ChangeSpec := { name := "sectorDark", fn := fun _ => fun
  | [d1, d2] => { results := [.lit (.bool false)], args := [d1, d2] }
  | _ => none }
def SectorDarkWrongFalsely : Prop := sectorDarkRow.holds Try.pinned (OpenSpec.ofChange sectorDarkWrong)

/- THE SECOND FORM. 'bulk': how many values and letters a reading holds, each counted each time it is reached (what is shared counts as often as it is met; a slice's spare places count too). A statement '..UptoSaid' is the law's where the arguments, and the package variables that the reading takes, are together of bulk at most 1048576: NARROWER than '..Said'. Prove '..Said' where nothing that the law and all that it calls make is longer than what came in: it says more and counts as full. Else prove '..UptoSaid'. A law counts once. -/
mutual
def uptoBulk {H : Type} : DataW H → Nat
  | .lit (.string bytes) => bytes.length + 1
  | .lit _ => 1
  | .nil => 1
  | .ptr d => uptoBulk d + 1
  | .slice elems spare => uptoBulkAll elems + uptoBulkAll spare + 1
  | .agg parts => uptoBulkAll parts + 1
  | .iface _ d => uptoBulk d + 1
  | .map entries => uptoBulkEntries entries + 1
  | .held _ => 1
def uptoBulkAll {H : Type} : List (DataW H) → Nat
  | [] => 0
  | d :: r => uptoBulk d + uptoBulkAll r
def uptoBulkEntries {H : Type} : List (Lit × DataW H) → Nat
  | [] => 0
  | x :: r => uptoBulkEntry x + uptoBulkEntries r
def uptoBulkEntry {H : Type} : Lit × DataW H → Nat
  | (.string bytes, d) => bytes.length + uptoBulk d + 1
  | (_, d) => uptoBulk d + 1
 end
def uptoSmall : (H : Type) → List (DataW H) → Bool := fun _ ds => decide (uptoBulkAll ds ≤ 1048576)
def OpenSpec.upto (s : _root_.Go.ChangeSpec) : _root_.Go.OpenSpec := { _root_.Go.OpenSpec.ofChange s with cond := some uptoSmall }

/-- 'coraclelaw04.SectorLasts', WHERE WHAT IT READS IS OF BULK AT MOST 1048576: true; the input reads as it did. -/
def sectorLastsUptoRow : OpenClaim := { program := "ytmlknjgcfplnlaa", sum := "fda665f40dcbb5eee6c5516e55bfa5aeb6a292ce110116f8a5b4b2fbe46f2c65", func := "coracle/coraclelaw04.SectorLasts", spec := "sectorLasts", inPlace := ["internal/abi.NoEscape", "internal/bytealg.MakeNoZero"], apart := false, narrowed := true }
def SectorLastsUptoSaid : Prop := sectorLastsUptoRow.holds Try.pinned (OpenSpec.upto sectorLastsSpec)

/-- 'coraclelaw04.SectorAll', WHERE WHAT IT READS IS OF BULK AT MOST 1048576: true; the input reads as it did. -/
def sectorAllUptoRow : OpenClaim := { program := "ytmlknjgcfplnlaa", sum := "fda665f40dcbb5eee6c5516e55bfa5aeb6a292ce110116f8a5b4b2fbe46f2c65", func := "coracle/coraclelaw04.SectorAll", spec := "sectorAll", inPlace := ["internal/abi.NoEscape", "internal/bytealg.MakeNoZero"], apart := false, narrowed := true }
def SectorAllUptoSaid : Prop := sectorAllUptoRow.holds Try.pinned (OpenSpec.upto sectorAllSpec)

/-- 'coraclelaw04.SectorScripts', WHERE WHAT IT READS IS OF BULK AT MOST 1048576: true; the input reads as it did. -/
def sectorScriptsUptoRow : OpenClaim := { program := "ytmlknjgcfplnlaa", sum := "fda665f40dcbb5eee6c5516e55bfa5aeb6a292ce110116f8a5b4b2fbe46f2c65", func := "coracle/coraclelaw04.SectorScripts", spec := "sectorScripts", inPlace := ["internal/abi.NoEscape", "internal/bytealg.MakeNoZero"], apart := false, narrowed := true }
def SectorScriptsUptoSaid : Prop := sectorScriptsUptoRow.holds Try.pinned (OpenSpec.upto sectorScriptsSpec)

/-- 'coraclelaw04.SectorNil', WHERE WHAT IT READS IS OF BULK AT MOST 1048576: true; the input reads as it did. -/
def sectorNilUptoRow : OpenClaim := { program := "ytmlknjgcfplnlaa", sum := "fda665f40dcbb5eee6c5516e55bfa5aeb6a292ce110116f8a5b4b2fbe46f2c65", func := "coracle/coraclelaw04.SectorNil", spec := "sectorNil", inPlace := ["internal/abi.NoEscape", "internal/bytealg.MakeNoZero"], apart := false, narrowed := true }
def SectorNilUptoSaid : Prop := sectorNilUptoRow.holds Try.pinned (OpenSpec.upto sectorNilSpec)

/-- 'coraclelaw04.SectorDark', WHERE WHAT IT READS IS OF BULK AT MOST 1048576: true; the input reads as it did. -/
def sectorDarkUptoRow : OpenClaim := { program := "ytmlknjgcfplnlaa", sum := "fda665f40dcbb5eee6c5516e55bfa5aeb6a292ce110116f8a5b4b2fbe46f2c65", func := "coracle/coraclelaw04.SectorDark", spec := "sectorDark", inPlace := ["internal/abi.NoEscape", "internal/bytealg.MakeNoZero"], apart := false, narrowed := true }
def SectorDarkUptoSaid : Prop := sectorDarkUptoRow.holds Try.pinned (OpenSpec.upto sectorDarkSpec)

end Rows
end Go.Proofs.Ytmlknjgcfplnlaa

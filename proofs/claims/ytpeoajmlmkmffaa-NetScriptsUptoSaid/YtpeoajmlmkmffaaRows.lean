/-
  No cell of these rows narrows 'for every input' (looked for: loops, veiled, ifaces, maps, wideKeys, modest, calm, conditions, laid).
  DERIVED. THE GIVEN ROWS OF THIS SEAT. 5 by the template 'for every input the law returns true; each argument reads behind the call as it read before'; 0 by the template 'total and deterministic' (their statements: YtpeoajmlmkmffaaTotals.lean).
  GIVEN WITH THE SEED: the statements are not yours to turn. If you find one false, say at which input.
  Laid BY PROGRAM, IN A SANDBOX (cutbox-rows.mjs): the forced cells as the released guide's own fill.sh prints them over the translation 5ebac497612836bf… (all of the seat's roots in one cut). By AI agents, Wed Nov 11 2026. No macro, syntax, notation, axiom, sorry.
-/
import Derived.Test.YtpeoajmlmkmffaaChecked
import GoSem.Claim
import GoSem.ClaimJoined
import GoSem.ClaimMapViews
import Derived.JoinedTies
import Derived.KernelRfl
namespace Go.Proofs.Ytpeoajmlmkmffaa
/- THE CELL 'sum', in the pinned program and in every row, IS THE sha256 OF THE DUMP (.gsa) THAT YtpeoajmlmkmffaaProg.lean LOADS. Nothing in Lean hashes anything: it is a label: what it is worth is what the hold of that sum in a sandbox is worth. -/
noncomputable def Try.pinned : Pinned := { name := "ytpeoajmlmkmffaa", sum := "5ebac497612836bfee93c3035bf87cbf351b783f96679f7b187972674a592920", checked := Try.checked }
namespace Rows
def none {H : Type} : Left H := { results := [], args := [] }

/-- 'coraclelaw21.NetLate': WHATEVER THE INPUT: true; the input reads as it did. -/
def netLateSpec : ChangeSpec := { name := "netLate", fn := fun _ => fun
  | [d] => { results := [.lit (.bool true)], args := [d] }
  | _ => none }
def netLateRow : OpenClaim := { program := "ytpeoajmlmkmffaa", sum := "5ebac497612836bfee93c3035bf87cbf351b783f96679f7b187972674a592920", func := "coracle/coraclelaw21.NetLate", spec := "netLate", apart := false }
def NetLateSaid : Prop := netLateRow.holds Try.pinned (OpenSpec.ofChange netLateSpec)

/-- ITS FALSE NEIGHBOUR: 'it returns false'. Refute it at one input. -/
def netLateWrong : ChangeSpec := { name := "netLate", fn := fun _ => fun
  | [d] => { results := [.lit (.bool false)], args := [d] }
  | _ => none }
def NetLateWrongFalsely : Prop := netLateRow.holds Try.pinned (OpenSpec.ofChange netLateWrong)

/-- 'coraclelaw21.NetKind': WHATEVER THE INPUT: true; the input reads as it did. -/
def netKindSpec : ChangeSpec := { name := "netKind", fn := fun _ => fun
  | [d1, d2] => { results := [.lit (.bool true)], args := [d1, d2] }
  | _ => none }
def netKindRow : OpenClaim := { program := "ytpeoajmlmkmffaa", sum := "5ebac497612836bfee93c3035bf87cbf351b783f96679f7b187972674a592920", func := "coracle/coraclelaw21.NetKind", spec := "netKind", apart := false }
def NetKindSaid : Prop := netKindRow.holds Try.pinned (OpenSpec.ofChange netKindSpec)

/-- ITS FALSE NEIGHBOUR: 'it returns false'. Refute it at one input. -/
def netKindWrong : ChangeSpec := { name := "netKind", fn := fun _ => fun
  | [d1, d2] => { results := [.lit (.bool false)], args := [d1, d2] }
  | _ => none }
def NetKindWrongFalsely : Prop := netKindRow.holds Try.pinned (OpenSpec.ofChange netKindWrong)

/-- 'coraclelaw21.NetScripts': WHATEVER THE INPUT: true; the input reads as it did. -/
def netScriptsSpec : ChangeSpec := { name := "netScripts", fn := fun _ => fun
  | [d1, d2] => { results := [.lit (.bool true)], args := [d1, d2] }
  | _ => none }
def netScriptsRow : OpenClaim := { program := "ytpeoajmlmkmffaa", sum := "5ebac497612836bfee93c3035bf87cbf351b783f96679f7b187972674a592920", func := "coracle/coraclelaw21.NetScripts", spec := "netScripts", apart := false }
def NetScriptsSaid : Prop := netScriptsRow.holds Try.pinned (OpenSpec.ofChange netScriptsSpec)

/-- ITS FALSE NEIGHBOUR: 'it returns false'. Refute it at one input. -/
def netScriptsWrong : ChangeSpec := { name := "netScripts", fn := fun _ => fun
  | [d1, d2] => { results := [.lit (.bool false)], args := [d1, d2] }
  | _ => none }
def NetScriptsWrongFalsely : Prop := netScriptsRow.holds Try.pinned (OpenSpec.ofChange netScriptsWrong)

/-- 'coraclelaw21.NetNil': WHATEVER THE INPUT: true; the input reads as it did. -/
def netNilSpec : ChangeSpec := { name := "netNil", fn := fun _ => fun
  | [d1, d2] => { results := [.lit (.bool true)], args := [d1, d2] }
  | _ => none }
def netNilRow : OpenClaim := { program := "ytpeoajmlmkmffaa", sum := "5ebac497612836bfee93c3035bf87cbf351b783f96679f7b187972674a592920", func := "coracle/coraclelaw21.NetNil", spec := "netNil", apart := false }
def NetNilSaid : Prop := netNilRow.holds Try.pinned (OpenSpec.ofChange netNilSpec)

/-- ITS FALSE NEIGHBOUR: 'it returns false'. Refute it at one input. -/
def netNilWrong : ChangeSpec := { name := "netNil", fn := fun _ => fun
  | [d1, d2] => { results := [.lit (.bool false)], args := [d1, d2] }
  | _ => none }
def NetNilWrongFalsely : Prop := netNilRow.holds Try.pinned (OpenSpec.ofChange netNilWrong)

/-- 'coraclelaw21.NetSeals': WHATEVER THE INPUT: true; the input reads as it did. -/
def netSealsSpec : ChangeSpec := { name := "netSeals", fn := fun _ => fun
  | [d1, d2, d3] => { results := [.lit (.bool true)], args := [d1, d2, d3] }
  | _ => none }
def netSealsRow : OpenClaim := { program := "ytpeoajmlmkmffaa", sum := "5ebac497612836bfee93c3035bf87cbf351b783f96679f7b187972674a592920", func := "coracle/coraclelaw21.NetSeals", spec := "netSeals", apart := false }
def NetSealsSaid : Prop := netSealsRow.holds Try.pinned (OpenSpec.ofChange netSealsSpec)

/-- ITS FALSE NEIGHBOUR: 'it returns false'. Refute it at one input. -/
def netSealsWrong : ChangeSpec := { name := "netSeals", fn := fun _ => fun
  | [d1, d2, d3] => { results := [.lit (.bool false)], args := [d1, d2, d3] }
  | _ => none }
def NetSealsWrongFalsely : Prop := netSealsRow.holds Try.pinned (OpenSpec.ofChange netSealsWrong)

/- THE SECOND FORM. 'bulk': how many values and letters a reading holds, each counted each time it is reached (what is shared counts as often as it is met; a slice's spare places count too). A statement '..UptoSaid' is the law's where the arguments, and the package variables that the reading takes, are together of bulk at most 1048576: NARROWER than '..Said'. Prove '..Said' where nothing that the law and all that it calls make is longer than what came in: it says more and counts as full. Else prove '..UptoSaid'. A law counts once. -/
mutual
def uptoBulk {H : Type} : DataW H → Nat
  | .lit (.string bytes) => bytes.length + 1
  | .lit _ => 1
  | .nil => 1
  | .ptr d => uptoBulk d + 1
  | .slice elems spare => uptoBulkAll elems + uptoBulkAll spare + 1
  | .agg parts => uptoBulkAll parts + 1
  | .iface _ d => uptoBulk d + 1
  | .map entries => uptoBulkEntries entries + 1
  | .held _ => 1
def uptoBulkAll {H : Type} : List (DataW H) → Nat
  | [] => 0
  | d :: r => uptoBulk d + uptoBulkAll r
def uptoBulkEntries {H : Type} : List (Lit × DataW H) → Nat
  | [] => 0
  | x :: r => uptoBulkEntry x + uptoBulkEntries r
def uptoBulkEntry {H : Type} : Lit × DataW H → Nat
  | (.string bytes, d) => bytes.length + uptoBulk d + 1
  | (_, d) => uptoBulk d + 1
 end
def uptoSmall : (H : Type) → List (DataW H) → Bool := fun _ ds => decide (uptoBulkAll ds ≤ 1048576)
def OpenSpec.upto (s : _root_.Go.ChangeSpec) : _root_.Go.OpenSpec := { _root_.Go.OpenSpec.ofChange s with cond := some uptoSmall }

/-- 'coraclelaw21.NetLate', WHERE WHAT IT READS IS OF BULK AT MOST 1048576: true; the input reads as it did. -/
def netLateUptoRow : OpenClaim := { program := "ytpeoajmlmkmffaa", sum := "5ebac497612836bfee93c3035bf87cbf351b783f96679f7b187972674a592920", func := "coracle/coraclelaw21.NetLate", spec := "netLate", apart := false, narrowed := true }
def NetLateUptoSaid : Prop := netLateUptoRow.holds Try.pinned (OpenSpec.upto netLateSpec)

/-- 'coraclelaw21.NetKind', WHERE WHAT IT READS IS OF BULK AT MOST 1048576: true; the input reads as it did. -/
def netKindUptoRow : OpenClaim := { program := "ytpeoajmlmkmffaa", sum := "5ebac497612836bfee93c3035bf87cbf351b783f96679f7b187972674a592920", func := "coracle/coraclelaw21.NetKind", spec := "netKind", apart := false, narrowed := true }
def NetKindUptoSaid : Prop := netKindUptoRow.holds Try.pinned (OpenSpec.upto netKindSpec)

/-- 'coraclelaw21.NetScripts', WHERE WHAT IT READS IS OF BULK AT MOST 1048576: true; the input reads as it did. -/
def netScriptsUptoRow : OpenClaim := { program := "ytpeoajmlmkmffaa", sum := "5ebac497612836bfee93c3035bf87cbf351b783f96679f7b187972674a592920", func := "coracle/coraclelaw21.NetScripts", spec := "netScripts", apart := false, narrowed := true }
def NetScriptsUptoSaid : Prop := netScriptsUptoRow.holds Try.pinned (OpenSpec.upto netScriptsSpec)

/-- 'coraclelaw21.NetNil', WHERE WHAT IT READS IS OF BULK AT MOST 1048576: true; the input reads as it did. -/
def netNilUptoRow : OpenClaim := { program := "ytpeoajmlmkmffaa", sum := "5ebac497612836bfee93c3035bf87cbf351b783f96679f7b187972674a592920", func := "coracle/coraclelaw21.NetNil", spec := "netNil", apart := false, narrowed := true }
def NetNilUptoSaid : Prop := netNilUptoRow.holds Try.pinned (OpenSpec.upto netNilSpec)

/-- 'coraclelaw21.NetSeals', WHERE WHAT IT READS IS OF BULK AT MOST 1048576: true; the input reads as it did. -/
def netSealsUptoRow : OpenClaim := { program := "ytpeoajmlmkmffaa", sum := "5ebac497612836bfee93c3035bf87cbf351b783f96679f7b187972674a592920", func := "coracle/coraclelaw21.NetSeals", spec := "netSeals", apart := false, narrowed := true }
def NetSealsUptoSaid : Prop := netSealsUptoRow.holds Try.pinned (OpenSpec.upto netSealsSpec)

end Rows
end Go.Proofs.Ytpeoajmlmkmffaa

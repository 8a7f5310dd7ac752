/-
  No cell of these rows narrows 'for every input' (looked for: loops, veiled, ifaces, maps, wideKeys, modest, calm, conditions, laid).
  DERIVED. THE GIVEN ROWS OF THIS SEAT. 6 by the template 'for every input the law returns true; each argument reads behind the call as it read before'; 0 by the template 'total and deterministic' (their statements: YtkpcnklhboemcaaTotals.lean).
  GIVEN WITH THE SEED: the statements are not yours to turn. If you find one false, say at which input.
  Laid BY PROGRAM, IN A SANDBOX (cutbox-rows.mjs): the forced cells as the released guide's own fill.sh prints them over the translation 5a86597296f92098… (all of the seat's roots in one cut). By AI agents, Wed Nov 11 2026. No macro, syntax, notation, axiom, sorry.
-/
import Derived.Test.YtkpcnklhboemcaaChecked
import GoSem.Claim
import GoSem.ClaimJoined
import GoSem.ClaimMapViews
import Derived.JoinedTies
import Derived.KernelRfl
namespace Go.Proofs.Ytkpcnklhboemcaa
/- THE CELL 'sum', in the pinned program and in every row, IS THE sha256 OF THE DUMP (.gsa) THAT YtkpcnklhboemcaaProg.lean LOADS. Nothing in Lean hashes anything: it is a label: what it is worth is what the hold of that sum in a sandbox is worth. -/
noncomputable def Try.pinned : Pinned := { name := "ytkpcnklhboemcaa", sum := "5a86597296f92098b94c1c3244369d64c5f2214fa453e321ef0d1461f960202f", checked := Try.checked }
namespace Rows
def none {H : Type} : Left H := { results := [], args := [] }

/-- 'coraclelaw03.RpcPuts': WHATEVER THE INPUT: true; the input reads as it did. -/
def rpcPutsSpec : ChangeSpec := { name := "rpcPuts", fn := fun _ => fun
  | [d1, d2, d3] => { results := [.lit (.bool true)], args := [d1, d2, d3] }
  | _ => none }
def rpcPutsRow : OpenClaim := { program := "ytkpcnklhboemcaa", sum := "5a86597296f92098b94c1c3244369d64c5f2214fa453e321ef0d1461f960202f", func := "coracle/coraclelaw03.RpcPuts", spec := "rpcPuts", unfollowed := true, recurses := true, apart := false }
def RpcPutsSaid : Prop := rpcPutsRow.holds Try.pinned (OpenSpec.ofChange rpcPutsSpec)

/-- ITS FALSE NEIGHBOUR: 'it returns false'. Refute it at one input. -/
def rpcPutsWrong : ChangeSpec := { name := "rpcPuts", fn := fun _ => fun
  | [d1, d2, d3] => { results := [.lit (.bool false)], args := [d1, d2, d3] }
  | _ => none }
def RpcPutsWrongFalsely : Prop := rpcPutsRow.holds Try.pinned (OpenSpec.ofChange rpcPutsWrong)

/-- 'coraclelaw03.RpcGets': WHATEVER THE INPUT: true; the input reads as it did. -/
def rpcGetsSpec : ChangeSpec := { name := "rpcGets", fn := fun _ => fun
  | [d] => { results := [.lit (.bool true)], args := [d] }
  | _ => none }
def rpcGetsRow : OpenClaim := { program := "ytkpcnklhboemcaa", sum := "5a86597296f92098b94c1c3244369d64c5f2214fa453e321ef0d1461f960202f", func := "coracle/coraclelaw03.RpcGets", spec := "rpcGets", unfollowed := true, recurses := true, apart := false }
def RpcGetsSaid : Prop := rpcGetsRow.holds Try.pinned (OpenSpec.ofChange rpcGetsSpec)

/-- ITS FALSE NEIGHBOUR: 'it returns false'. Refute it at one input. -/
def rpcGetsWrong : ChangeSpec := { name := "rpcGets", fn := fun _ => fun
  | [d] => { results := [.lit (.bool false)], args := [d] }
  | _ => none }
def RpcGetsWrongFalsely : Prop := rpcGetsRow.holds Try.pinned (OpenSpec.ofChange rpcGetsWrong)

/-- 'coraclelaw03.RpcApart': WHATEVER THE INPUT: true; the input reads as it did. -/
def rpcApartSpec : ChangeSpec := { name := "rpcApart", fn := fun _ => fun
  | [d1, d2, d3] => { results := [.lit (.bool true)], args := [d1, d2, d3] }
  | _ => none }
def rpcApartRow : OpenClaim := { program := "ytkpcnklhboemcaa", sum := "5a86597296f92098b94c1c3244369d64c5f2214fa453e321ef0d1461f960202f", func := "coracle/coraclelaw03.RpcApart", spec := "rpcApart", unfollowed := true, recurses := true, apart := false }
def RpcApartSaid : Prop := rpcApartRow.holds Try.pinned (OpenSpec.ofChange rpcApartSpec)

/-- ITS FALSE NEIGHBOUR: 'it returns false'. Refute it at one input. -/
def rpcApartWrong : ChangeSpec := { name := "rpcApart", fn := fun _ => fun
  | [d1, d2, d3] => { results := [.lit (.bool false)], args := [d1, d2, d3] }
  | _ => none }
def RpcApartWrongFalsely : Prop := rpcApartRow.holds Try.pinned (OpenSpec.ofChange rpcApartWrong)

/-- 'coraclelaw03.RpcCut': WHATEVER THE INPUT: true; the input reads as it did. -/
def rpcCutSpec : ChangeSpec := { name := "rpcCut", fn := fun _ => fun
  | [d1, d2, d3] => { results := [.lit (.bool true)], args := [d1, d2, d3] }
  | _ => none }
def rpcCutRow : OpenClaim := { program := "ytkpcnklhboemcaa", sum := "5a86597296f92098b94c1c3244369d64c5f2214fa453e321ef0d1461f960202f", func := "coracle/coraclelaw03.RpcCut", spec := "rpcCut", unfollowed := true, recurses := true, apart := false }
def RpcCutSaid : Prop := rpcCutRow.holds Try.pinned (OpenSpec.ofChange rpcCutSpec)

/-- ITS FALSE NEIGHBOUR: 'it returns false'. Refute it at one input. -/
def rpcCutWrong : ChangeSpec := { name := "rpcCut", fn := fun _ => fun
  | [d1, d2, d3] => { results := [.lit (.bool false)], args := [d1, d2, d3] }
  | _ => none }
def RpcCutWrongFalsely : Prop := rpcCutRow.holds Try.pinned (OpenSpec.ofChange rpcCutWrong)

/-- 'coraclelaw03.RpcReplies': WHATEVER THE INPUT: true; the input reads as it did. -/
def rpcRepliesSpec : ChangeSpec := { name := "rpcReplies", fn := fun _ => fun
  | [d1, d2, d3] => { results := [.lit (.bool true)], args := [d1, d2, d3] }
  | _ => none }
def rpcRepliesRow : OpenClaim := { program := "ytkpcnklhboemcaa", sum := "5a86597296f92098b94c1c3244369d64c5f2214fa453e321ef0d1461f960202f", func := "coracle/coraclelaw03.RpcReplies", spec := "rpcReplies", unfollowed := true, recurses := true, apart := false }
def RpcRepliesSaid : Prop := rpcRepliesRow.holds Try.pinned (OpenSpec.ofChange rpcRepliesSpec)

/-- ITS FALSE NEIGHBOUR: 'it returns false'. Refute it at one input. -/
def rpcRepliesWrong : ChangeSpec := { name := "rpcReplies", fn := fun _ => fun
  | [d1, d2, d3] => { results := [.lit (.bool false)], args := [d1, d2, d3] }
  | _ => none }
def RpcRepliesWrongFalsely : Prop := rpcRepliesRow.holds Try.pinned (OpenSpec.ofChange rpcRepliesWrong)

/-- 'coraclelaw03.RpcRefuses': WHATEVER THE INPUT: true; the input reads as it did. -/
def rpcRefusesSpec : ChangeSpec := { name := "rpcRefuses", fn := fun _ => fun
  | [d] => { results := [.lit (.bool true)], args := [d] }
  | _ => none }
def rpcRefusesRow : OpenClaim := { program := "ytkpcnklhboemcaa", sum := "5a86597296f92098b94c1c3244369d64c5f2214fa453e321ef0d1461f960202f", func := "coracle/coraclelaw03.RpcRefuses", spec := "rpcRefuses", unfollowed := true, recurses := true, apart := false }
def RpcRefusesSaid : Prop := rpcRefusesRow.holds Try.pinned (OpenSpec.ofChange rpcRefusesSpec)

/-- ITS FALSE NEIGHBOUR: 'it returns false'. Refute it at one input. -/
def rpcRefusesWrong : ChangeSpec := { name := "rpcRefuses", fn := fun _ => fun
  | [d] => { results := [.lit (.bool false)], args := [d] }
  | _ => none }
def RpcRefusesWrongFalsely : Prop := rpcRefusesRow.holds Try.pinned (OpenSpec.ofChange rpcRefusesWrong)

/- THE SECOND FORM. 'bulk': how many values and letters a reading holds, each counted each time it is reached (what is shared counts as often as it is met; a slice's spare places count too). A statement '..UptoSaid' is the law's where the arguments, and the package variables that the reading takes, are together of bulk at most 1048576: NARROWER than '..Said'. Prove '..Said' where nothing that the law and all that it calls make is longer than what came in: it says more and counts as full. Else prove '..UptoSaid'. A law counts once. -/
mutual
def uptoBulk {H : Type} : DataW H → Nat
  | .lit (.string bytes) => bytes.length + 1
  | .lit _ => 1
  | .nil => 1
  | .ptr d => uptoBulk d + 1
  | .slice elems spare => uptoBulkAll elems + uptoBulkAll spare + 1
  | .agg parts => uptoBulkAll parts + 1
  | .iface _ d => uptoBulk d + 1
  | .map entries => uptoBulkEntries entries + 1
  | .held _ => 1
def uptoBulkAll {H : Type} : List (DataW H) → Nat
  | [] => 0
  | d :: r => uptoBulk d + uptoBulkAll r
def uptoBulkEntries {H : Type} : List (Lit × DataW H) → Nat
  | [] => 0
  | x :: r => uptoBulkEntry x + uptoBulkEntries r
def uptoBulkEntry {H : Type} : Lit × DataW H → Nat
  | (.string bytes, d) => bytes.length + uptoBulk d + 1
  | (_, d) => uptoBulk d + 1
 end
def uptoSmall : (H : Type) → List (DataW H) → Bool := fun _ ds => decide (uptoBulkAll ds ≤ 1048576)
def OpenSpec.upto (s : _root_.Go.ChangeSpec) : _root_.Go.OpenSpec := { _root_.Go.OpenSpec.ofChange s with cond := some uptoSmall }

/-- 'coraclelaw03.RpcPuts', WHERE WHAT IT READS IS OF BULK AT MOST 1048576: true; the input reads as it did. -/
def rpcPutsUptoRow : OpenClaim := { program := "ytkpcnklhboemcaa", sum := "5a86597296f92098b94c1c3244369d64c5f2214fa453e321ef0d1461f960202f", func := "coracle/coraclelaw03.RpcPuts", spec := "rpcPuts", unfollowed := true, recurses := true, apart := false, narrowed := true }
def RpcPutsUptoSaid : Prop := rpcPutsUptoRow.holds Try.pinned (OpenSpec.upto rpcPutsSpec)

/-- 'coraclelaw03.RpcGets', WHERE WHAT IT READS IS OF BULK AT MOST 1048576: true; the input reads as it did. -/
def rpcGetsUptoRow : OpenClaim := { program := "ytkpcnklhboemcaa", sum := "5a86597296f92098b94c1c3244369d64c5f2214fa453e321ef0d1461f960202f", func := "coracle/coraclelaw03.RpcGets", spec := "rpcGets", unfollowed := true, recurses := true, apart := false, narrowed := true }
def RpcGetsUptoSaid : Prop := rpcGetsUptoRow.holds Try.pinned (OpenSpec.upto rpcGetsSpec)

/-- 'coraclelaw03.RpcApart', WHERE WHAT IT READS IS OF BULK AT MOST 1048576: true; the input reads as it did. -/
def rpcApartUptoRow : OpenClaim := { program := "ytkpcnklhboemcaa", sum := "5a86597296f92098b94c1c3244369d64c5f2214fa453e321ef0d1461f960202f", func := "coracle/coraclelaw03.RpcApart", spec := "rpcApart", unfollowed := true, recurses := true, apart := false, narrowed := true }
def RpcApartUptoSaid : Prop := rpcApartUptoRow.holds Try.pinned (OpenSpec.upto rpcApartSpec)

/-- 'coraclelaw03.RpcCut', WHERE WHAT IT READS IS OF BULK AT MOST 1048576: true; the input reads as it did. -/
def rpcCutUptoRow : OpenClaim := { program := "ytkpcnklhboemcaa", sum := "5a86597296f92098b94c1c3244369d64c5f2214fa453e321ef0d1461f960202f", func := "coracle/coraclelaw03.RpcCut", spec := "rpcCut", unfollowed := true, recurses := true, apart := false, narrowed := true }
def RpcCutUptoSaid : Prop := rpcCutUptoRow.holds Try.pinned (OpenSpec.upto rpcCutSpec)

/-- 'coraclelaw03.RpcReplies', WHERE WHAT IT READS IS OF BULK AT MOST 1048576: true; the input reads as it did. -/
def rpcRepliesUptoRow : OpenClaim := { program := "ytkpcnklhboemcaa", sum := "5a86597296f92098b94c1c3244369d64c5f2214fa453e321ef0d1461f960202f", func := "coracle/coraclelaw03.RpcReplies", spec := "rpcReplies", unfollowed := true, recurses := true, apart := false, narrowed := true }
def RpcRepliesUptoSaid : Prop := rpcRepliesUptoRow.holds Try.pinned (OpenSpec.upto rpcRepliesSpec)

/-- 'coraclelaw03.RpcRefuses', WHERE WHAT IT READS IS OF BULK AT MOST 1048576: true; the input reads as it did. -/
def rpcRefusesUptoRow : OpenClaim := { program := "ytkpcnklhboemcaa", sum := "5a86597296f92098b94c1c3244369d64c5f2214fa453e321ef0d1461f960202f", func := "coracle/coraclelaw03.RpcRefuses", spec := "rpcRefuses", unfollowed := true, recurses := true, apart := false, narrowed := true }
def RpcRefusesUptoSaid : Prop := rpcRefusesUptoRow.holds Try.pinned (OpenSpec.upto rpcRefusesSpec)

end Rows
end Go.Proofs.Ytkpcnklhboemcaa

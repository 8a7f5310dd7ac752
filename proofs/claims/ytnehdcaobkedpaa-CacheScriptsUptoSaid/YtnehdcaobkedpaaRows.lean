/-
  No cell of these rows narrows 'for every input' (looked for: loops, veiled, ifaces, maps, wideKeys, modest, calm, conditions, laid).
  DERIVED. THE GIVEN ROWS OF THIS SEAT. 4 by the template 'for every input the law returns true; each argument reads behind the call as it read before'; 0 by the template 'total and deterministic' (their statements: YtnehdcaobkedpaaTotals.lean).
  GIVEN WITH THE SEED: the statements are not yours to turn. If you find one false, say at which input.
  Laid BY PROGRAM, IN A SANDBOX (cutbox-rows.mjs): the forced cells as the released guide's own fill.sh prints them over the translation fd64272b9ef5adb1… (all of the seat's roots in one cut). By AI agents, Wed Nov 11 2026. No macro, syntax, notation, axiom, sorry.
-/
import Derived.Test.YtnehdcaobkedpaaChecked
import GoSem.Claim
import GoSem.ClaimJoined
import GoSem.ClaimMapViews
import Derived.JoinedTies
import Derived.KernelRfl
namespace Go.Proofs.Ytnehdcaobkedpaa
/- THE CELL 'sum', in the pinned program and in every row, IS THE sha256 OF THE DUMP (.gsa) THAT YtnehdcaobkedpaaProg.lean LOADS. Nothing in Lean hashes anything: it is a label: what it is worth is what the hold of that sum in a sandbox is worth. -/
noncomputable def Try.pinned : Pinned := { name := "ytnehdcaobkedpaa", sum := "fd64272b9ef5adb191e9724da249848f9cd460873778617eb49a92643f6eba8a", checked := Try.checked }
namespace Rows
def none {H : Type} : Left H := { results := [], args := [] }

/-- 'coraclelaw20.CacheBytes': WHATEVER THE INPUT: true; the input reads as it did. -/
def cacheBytesSpec : ChangeSpec := { name := "cacheBytes", fn := fun _ => fun
  | [d1, d2, d3] => { results := [.lit (.bool true)], args := [d1, d2, d3] }
  | _ => none }
def cacheBytesRow : OpenClaim := { program := "ytnehdcaobkedpaa", sum := "fd64272b9ef5adb191e9724da249848f9cd460873778617eb49a92643f6eba8a", func := "coracle/coraclelaw20.CacheBytes", spec := "cacheBytes", unfollowed := true, recurses := true, plainKeys := false, apart := false }
def CacheBytesSaid : Prop := cacheBytesRow.holds Try.pinned (OpenSpec.ofChange cacheBytesSpec)

/-- ITS FALSE NEIGHBOUR: 'it returns false'. Refute it at one input. -/
def cacheBytesWrong : ChangeSpec := { name := "cacheBytes", fn := fun _ => fun
  | [d1, d2, d3] => { results := [.lit (.bool false)], args := [d1, d2, d3] }
  | _ => none }
def CacheBytesWrongFalsely : Prop := cacheBytesRow.holds Try.pinned (OpenSpec.ofChange cacheBytesWrong)

/-- 'coraclelaw20.CacheAges': WHATEVER THE INPUT: true; the input reads as it did. -/
def cacheAgesSpec : ChangeSpec := { name := "cacheAges", fn := fun _ => fun
  | [d1, d2, d3] => { results := [.lit (.bool true)], args := [d1, d2, d3] }
  | _ => none }
def cacheAgesRow : OpenClaim := { program := "ytnehdcaobkedpaa", sum := "fd64272b9ef5adb191e9724da249848f9cd460873778617eb49a92643f6eba8a", func := "coracle/coraclelaw20.CacheAges", spec := "cacheAges", unfollowed := true, recurses := true, plainKeys := false, apart := false }
def CacheAgesSaid : Prop := cacheAgesRow.holds Try.pinned (OpenSpec.ofChange cacheAgesSpec)

/-- ITS FALSE NEIGHBOUR: 'it returns false'. Refute it at one input. -/
def cacheAgesWrong : ChangeSpec := { name := "cacheAges", fn := fun _ => fun
  | [d1, d2, d3] => { results := [.lit (.bool false)], args := [d1, d2, d3] }
  | _ => none }
def CacheAgesWrongFalsely : Prop := cacheAgesRow.holds Try.pinned (OpenSpec.ofChange cacheAgesWrong)

/-- 'coraclelaw20.CacheScripts': WHATEVER THE INPUT: true; the input reads as it did. -/
def cacheScriptsSpec : ChangeSpec := { name := "cacheScripts", fn := fun _ => fun
  | [d1, d2] => { results := [.lit (.bool true)], args := [d1, d2] }
  | _ => none }
def cacheScriptsRow : OpenClaim := { program := "ytnehdcaobkedpaa", sum := "fd64272b9ef5adb191e9724da249848f9cd460873778617eb49a92643f6eba8a", func := "coracle/coraclelaw20.CacheScripts", spec := "cacheScripts", unfollowed := true, recurses := true, plainKeys := false, apart := false }
def CacheScriptsSaid : Prop := cacheScriptsRow.holds Try.pinned (OpenSpec.ofChange cacheScriptsSpec)

/-- ITS FALSE NEIGHBOUR: 'it returns false'. Refute it at one input. -/
def cacheScriptsWrong : ChangeSpec := { name := "cacheScripts", fn := fun _ => fun
  | [d1, d2] => { results := [.lit (.bool false)], args := [d1, d2] }
  | _ => none }
def CacheScriptsWrongFalsely : Prop := cacheScriptsRow.holds Try.pinned (OpenSpec.ofChange cacheScriptsWrong)

/-- 'coraclelaw20.CacheNil': WHATEVER THE INPUT: true; the input reads as it did. -/
def cacheNilSpec : ChangeSpec := { name := "cacheNil", fn := fun _ => fun
  | [d] => { results := [.lit (.bool true)], args := [d] }
  | _ => none }
def cacheNilRow : OpenClaim := { program := "ytnehdcaobkedpaa", sum := "fd64272b9ef5adb191e9724da249848f9cd460873778617eb49a92643f6eba8a", func := "coracle/coraclelaw20.CacheNil", spec := "cacheNil", unfollowed := true, recurses := true, plainKeys := false, apart := false }
def CacheNilSaid : Prop := cacheNilRow.holds Try.pinned (OpenSpec.ofChange cacheNilSpec)

/-- ITS FALSE NEIGHBOUR: 'it returns false'. Refute it at one input. -/
def cacheNilWrong : ChangeSpec := { name := "cacheNil", fn := fun _ => fun
  | [d] => { results := [.lit (.bool false)], args := [d] }
  | _ => none }
def CacheNilWrongFalsely : Prop := cacheNilRow.holds Try.pinned (OpenSpec.ofChange cacheNilWrong)

/- THE SECOND FORM. 'bulk': how many values and letters a reading holds, each counted each time it is reached (what is shared counts as often as it is met; a slice's spare places count too). A statement '..UptoSaid' is the law's where the arguments, and the package variables that the reading takes, are together of bulk at most 1048576: NARROWER than '..Said'. Prove '..Said' where nothing that the law and all that it calls make is longer than what came in: it says more and counts as full. Else prove '..UptoSaid'. A law counts once. -/
mutual
def uptoBulk {H : Type} : DataW H → Nat
  | .lit (.string bytes) => bytes.length + 1
  | .lit _ => 1
  | .nil => 1
  | .ptr d => uptoBulk d + 1
  | .slice elems spare => uptoBulkAll elems + uptoBulkAll spare + 1
  | .agg parts => uptoBulkAll parts + 1
  | .iface _ d => uptoBulk d + 1
  | .map entries => uptoBulkEntries entries + 1
  | .held _ => 1
def uptoBulkAll {H : Type} : List (DataW H) → Nat
  | [] => 0
  | d :: r => uptoBulk d + uptoBulkAll r
def uptoBulkEntries {H : Type} : List (Lit × DataW H) → Nat
  | [] => 0
  | x :: r => uptoBulkEntry x + uptoBulkEntries r
def uptoBulkEntry {H : Type} : Lit × DataW H → Nat
  | (.string bytes, d) => bytes.length + uptoBulk d + 1
  | (_, d) => uptoBulk d + 1
 end
def uptoSmall : (H : Type) → List (DataW H) → Bool := fun _ ds => decide (uptoBulkAll ds ≤ 1048576)
def OpenSpec.upto (s : _root_.Go.ChangeSpec) : _root_.Go.OpenSpec := { _root_.Go.OpenSpec.ofChange s with cond := some uptoSmall }

/-- 'coraclelaw20.CacheBytes', WHERE WHAT IT READS IS OF BULK AT MOST 1048576: true; the input reads as it did. -/
def cacheBytesUptoRow : OpenClaim := { program := "ytnehdcaobkedpaa", sum := "fd64272b9ef5adb191e9724da249848f9cd460873778617eb49a92643f6eba8a", func := "coracle/coraclelaw20.CacheBytes", spec := "cacheBytes", unfollowed := true, recurses := true, plainKeys := false, apart := false, narrowed := true }
def CacheBytesUptoSaid : Prop := cacheBytesUptoRow.holds Try.pinned (OpenSpec.upto cacheBytesSpec)

/-- 'coraclelaw20.CacheAges', WHERE WHAT IT READS IS OF BULK AT MOST 1048576: true; the input reads as it did. -/
def cacheAgesUptoRow : OpenClaim := { program := "ytnehdcaobkedpaa", sum := "fd64272b9ef5adb191e9724da249848f9cd460873778617eb49a92643f6eba8a", func := "coracle/coraclelaw20.CacheAges", spec := "cacheAges", unfollowed := true, recurses := true, plainKeys := false, apart := false, narrowed := true }
def CacheAgesUptoSaid : Prop := cacheAgesUptoRow.holds Try.pinned (OpenSpec.upto cacheAgesSpec)

/-- 'coraclelaw20.CacheScripts', WHERE WHAT IT READS IS OF BULK AT MOST 1048576: true; the input reads as it did. -/
def cacheScriptsUptoRow : OpenClaim := { program := "ytnehdcaobkedpaa", sum := "fd64272b9ef5adb191e9724da249848f9cd460873778617eb49a92643f6eba8a", func := "coracle/coraclelaw20.CacheScripts", spec := "cacheScripts", unfollowed := true, recurses := true, plainKeys := false, apart := false, narrowed := true }
def CacheScriptsUptoSaid : Prop := cacheScriptsUptoRow.holds Try.pinned (OpenSpec.upto cacheScriptsSpec)

/-- 'coraclelaw20.CacheNil', WHERE WHAT IT READS IS OF BULK AT MOST 1048576: true; the input reads as it did. -/
def cacheNilUptoRow : OpenClaim := { program := "ytnehdcaobkedpaa", sum := "fd64272b9ef5adb191e9724da249848f9cd460873778617eb49a92643f6eba8a", func := "coracle/coraclelaw20.CacheNil", spec := "cacheNil", unfollowed := true, recurses := true, plainKeys := false, apart := false, narrowed := true }
def CacheNilUptoSaid : Prop := cacheNilUptoRow.holds Try.pinned (OpenSpec.upto cacheNilSpec)

end Rows
end Go.Proofs.Ytnehdcaobkedpaa

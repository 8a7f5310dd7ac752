/-
  No cell of these rows narrows 'for every input' (looked for: loops, veiled, ifaces, maps, wideKeys, modest, calm, conditions, laid).
  DERIVED. THE GIVEN ROWS OF THIS SEAT. 7 by the template 'for every input the law returns true; each argument reads behind the call as it read before'; 0 by the template 'total and deterministic' (their statements: YtdofeehnclobmaaTotals.lean).
  GIVEN WITH THE SEED: the statements are not yours to turn. If you find one false, say at which input.
  Laid BY PROGRAM, IN A SANDBOX (cutbox-rows.mjs): the forced cells as the released guide's own fill.sh prints them over the translation 56d87c30002e18d7… (all of the seat's roots in one cut). By AI agents, Wed Nov 11 2026. No macro, syntax, notation, axiom, sorry.
-/
import Derived.Test.YtdofeehnclobmaaChecked
import GoSem.Claim
import GoSem.ClaimJoined
import GoSem.ClaimMapViews
import Derived.JoinedTies
import Derived.KernelRfl
namespace Go.Proofs.Ytdofeehnclobmaa
/- THE CELL 'sum', in the pinned program and in every row, IS THE sha256 OF THE DUMP (.gsa) THAT YtdofeehnclobmaaProg.lean LOADS. Nothing in Lean hashes anything: it is a label: what it is worth is what the hold of that sum in a sandbox is worth. -/
noncomputable def Try.pinned : Pinned := { name := "ytdofeehnclobmaa", sum := "56d87c30002e18d758f147c8a327a74c2d1bb8d7156a084d5205bf0e7a039f89", checked := Try.checked }
namespace Rows
def none {H : Type} : Left H := { results := [], args := [] }

/-- 'coraclelaw06.ScoreBenefits': WHATEVER THE INPUT: true; the input reads as it did. -/
def scoreBenefitsSpec : ChangeSpec := { name := "scoreBenefits", fn := fun _ => fun
  | [d1, d2, d3] => { results := [.lit (.bool true)], args := [d1, d2, d3] }
  | _ => none }
def scoreBenefitsRow : OpenClaim := { program := "ytdofeehnclobmaa", sum := "56d87c30002e18d758f147c8a327a74c2d1bb8d7156a084d5205bf0e7a039f89", func := "coracle/coraclelaw06.ScoreBenefits", spec := "scoreBenefits", inPlace := ["math.Float64bits"], apart := false }
def ScoreBenefitsSaid : Prop := scoreBenefitsRow.holds Try.pinned (OpenSpec.ofChange scoreBenefitsSpec)

/-- ITS FALSE NEIGHBOUR: 'it returns false'. Refute it at one input. -/
def scoreBenefitsWrong : ChangeSpec := { name := "scoreBenefits", fn := fun _ => fun
  | [d1, d2, d3] => { results := [.lit (.bool false)], args := [d1, d2, d3] }
  | _ => none }
def ScoreBenefitsWrongFalsely : Prop := scoreBenefitsRow.holds Try.pinned (OpenSpec.ofChange scoreBenefitsWrong)

/-- 'coraclelaw06.ScoreOrders': WHATEVER THE INPUT: true; the input reads as it did. -/
def scoreOrdersSpec : ChangeSpec := { name := "scoreOrders", fn := fun _ => fun
  | [d1, d2] => { results := [.lit (.bool true)], args := [d1, d2] }
  | _ => none }
def scoreOrdersRow : OpenClaim := { program := "ytdofeehnclobmaa", sum := "56d87c30002e18d758f147c8a327a74c2d1bb8d7156a084d5205bf0e7a039f89", func := "coracle/coraclelaw06.ScoreOrders", spec := "scoreOrders", inPlace := ["math.Float64frombits", "math.Float64bits"], apart := false }
def ScoreOrdersSaid : Prop := scoreOrdersRow.holds Try.pinned (OpenSpec.ofChange scoreOrdersSpec)

/-- ITS FALSE NEIGHBOUR: 'it returns false'. Refute it at one input. -/
def scoreOrdersWrong : ChangeSpec := { name := "scoreOrders", fn := fun _ => fun
  | [d1, d2] => { results := [.lit (.bool false)], args := [d1, d2] }
  | _ => none }
def ScoreOrdersWrongFalsely : Prop := scoreOrdersRow.holds Try.pinned (OpenSpec.ofChange scoreOrdersWrong)

/-- 'coraclelaw06.ScoreTotal': WHATEVER THE INPUT: true; the input reads as it did. -/
def scoreTotalSpec : ChangeSpec := { name := "scoreTotal", fn := fun _ => fun
  | [d1, d2, d3] => { results := [.lit (.bool true)], args := [d1, d2, d3] }
  | _ => none }
def scoreTotalRow : OpenClaim := { program := "ytdofeehnclobmaa", sum := "56d87c30002e18d758f147c8a327a74c2d1bb8d7156a084d5205bf0e7a039f89", func := "coracle/coraclelaw06.ScoreTotal", spec := "scoreTotal", inPlace := ["math.Float64frombits", "math.Float64bits"], apart := false }
def ScoreTotalSaid : Prop := scoreTotalRow.holds Try.pinned (OpenSpec.ofChange scoreTotalSpec)

/-- ITS FALSE NEIGHBOUR: 'it returns false'. Refute it at one input. -/
def scoreTotalWrong : ChangeSpec := { name := "scoreTotal", fn := fun _ => fun
  | [d1, d2, d3] => { results := [.lit (.bool false)], args := [d1, d2, d3] }
  | _ => none }
def ScoreTotalWrongFalsely : Prop := scoreTotalRow.holds Try.pinned (OpenSpec.ofChange scoreTotalWrong)

/-- 'coraclelaw06.ScorePicks': WHATEVER THE INPUT: true; the input reads as it did. -/
def scorePicksSpec : ChangeSpec := { name := "scorePicks", fn := fun _ => fun
  | [d] => { results := [.lit (.bool true)], args := [d] }
  | _ => none }
def scorePicksRow : OpenClaim := { program := "ytdofeehnclobmaa", sum := "56d87c30002e18d758f147c8a327a74c2d1bb8d7156a084d5205bf0e7a039f89", func := "coracle/coraclelaw06.ScorePicks", spec := "scorePicks", inPlace := ["math.Float64bits"], apart := false }
def ScorePicksSaid : Prop := scorePicksRow.holds Try.pinned (OpenSpec.ofChange scorePicksSpec)

/-- ITS FALSE NEIGHBOUR: 'it returns false'. Refute it at one input. -/
def scorePicksWrong : ChangeSpec := { name := "scorePicks", fn := fun _ => fun
  | [d] => { results := [.lit (.bool false)], args := [d] }
  | _ => none }
def ScorePicksWrongFalsely : Prop := scorePicksRow.holds Try.pinned (OpenSpec.ofChange scorePicksWrong)

/-- 'coraclelaw06.ScoreBest': WHATEVER THE INPUT: true; the input reads as it did. -/
def scoreBestSpec : ChangeSpec := { name := "scoreBest", fn := fun _ => fun
  | [d1, d2] => { results := [.lit (.bool true)], args := [d1, d2] }
  | _ => none }
def scoreBestRow : OpenClaim := { program := "ytdofeehnclobmaa", sum := "56d87c30002e18d758f147c8a327a74c2d1bb8d7156a084d5205bf0e7a039f89", func := "coracle/coraclelaw06.ScoreBest", spec := "scoreBest", inPlace := ["math.Float64bits"], apart := false }
def ScoreBestSaid : Prop := scoreBestRow.holds Try.pinned (OpenSpec.ofChange scoreBestSpec)

/-- ITS FALSE NEIGHBOUR: 'it returns false'. Refute it at one input. -/
def scoreBestWrong : ChangeSpec := { name := "scoreBest", fn := fun _ => fun
  | [d1, d2] => { results := [.lit (.bool false)], args := [d1, d2] }
  | _ => none }
def ScoreBestWrongFalsely : Prop := scoreBestRow.holds Try.pinned (OpenSpec.ofChange scoreBestWrong)

/-- 'coraclelaw06.ScoreMeans': WHATEVER THE INPUT: true; the input reads as it did. -/
def scoreMeansSpec : ChangeSpec := { name := "scoreMeans", fn := fun _ => fun
  | [d] => { results := [.lit (.bool true)], args := [d] }
  | _ => none }
def scoreMeansRow : OpenClaim := { program := "ytdofeehnclobmaa", sum := "56d87c30002e18d758f147c8a327a74c2d1bb8d7156a084d5205bf0e7a039f89", func := "coracle/coraclelaw06.ScoreMeans", spec := "scoreMeans", inPlace := ["math.Float64frombits", "math.Float64bits"], apart := false }
def ScoreMeansSaid : Prop := scoreMeansRow.holds Try.pinned (OpenSpec.ofChange scoreMeansSpec)

/-- ITS FALSE NEIGHBOUR: 'it returns false'. Refute it at one input. -/
def scoreMeansWrong : ChangeSpec := { name := "scoreMeans", fn := fun _ => fun
  | [d] => { results := [.lit (.bool false)], args := [d] }
  | _ => none }
def ScoreMeansWrongFalsely : Prop := scoreMeansRow.holds Try.pinned (OpenSpec.ofChange scoreMeansWrong)

/-- 'coraclelaw06.ScoreTurned': WHATEVER THE INPUT: true; the input reads as it did. -/
def scoreTurnedSpec : ChangeSpec := { name := "scoreTurned", fn := fun _ => fun
  | [d1, d2] => { results := [.lit (.bool true)], args := [d1, d2] }
  | _ => none }
def scoreTurnedRow : OpenClaim := { program := "ytdofeehnclobmaa", sum := "56d87c30002e18d758f147c8a327a74c2d1bb8d7156a084d5205bf0e7a039f89", func := "coracle/coraclelaw06.ScoreTurned", spec := "scoreTurned", inPlace := ["math.Float64frombits", "math.Float64bits"], apart := false }
def ScoreTurnedSaid : Prop := scoreTurnedRow.holds Try.pinned (OpenSpec.ofChange scoreTurnedSpec)

/-- ITS FALSE NEIGHBOUR: 'it returns false'. Refute it at one input. -/
def scoreTurnedWrong : ChangeSpec := { name := "scoreTurned", fn := fun _ => fun
  | [d1, d2] => { results := [.lit (.bool false)], args := [d1, d2] }
  | _ => none }
def ScoreTurnedWrongFalsely : Prop := scoreTurnedRow.holds Try.pinned (OpenSpec.ofChange scoreTurnedWrong)

/- THE SECOND FORM. 'bulk': how many values and letters a reading holds, each counted each time it is reached (what is shared counts as often as it is met; a slice's spare places count too). A statement '..UptoSaid' is the law's where the arguments, and the package variables that the reading takes, are together of bulk at most 1048576: NARROWER than '..Said'. Prove '..Said' where nothing that the law and all that it calls make is longer than what came in: it says more and counts as full. Else prove '..UptoSaid'. A law counts once. -/
mutual
def uptoBulk {H : Type} : DataW H → Nat
  | .lit (.string bytes) => bytes.length + 1
  | .lit _ => 1
  | .nil => 1
  | .ptr d => uptoBulk d + 1
  | .slice elems spare => uptoBulkAll elems + uptoBulkAll spare + 1
  | .agg parts => uptoBulkAll parts + 1
  | .iface _ d => uptoBulk d + 1
  | .map entries => uptoBulkEntries entries + 1
  | .held _ => 1
def uptoBulkAll {H : Type} : List (DataW H) → Nat
  | [] => 0
  | d :: r => uptoBulk d + uptoBulkAll r
def uptoBulkEntries {H : Type} : List (Lit × DataW H) → Nat
  | [] => 0
  | x :: r => uptoBulkEntry x + uptoBulkEntries r
def uptoBulkEntry {H : Type} : Lit × DataW H → Nat
  | (.string bytes, d) => bytes.length + uptoBulk d + 1
  | (_, d) => uptoBulk d + 1
 end
def uptoSmall : (H : Type) → List (DataW H) → Bool := fun _ ds => decide (uptoBulkAll ds ≤ 1048576)
def OpenSpec.upto (s : _root_.Go.ChangeSpec) : _root_.Go.OpenSpec := { _root_.Go.OpenSpec.ofChange s with cond := some uptoSmall }

/-- 'coraclelaw06.ScoreBenefits', WHERE WHAT IT READS IS OF BULK AT MOST 1048576: true; the input reads as it did. -/
def scoreBenefitsUptoRow : OpenClaim := { program := "ytdofeehnclobmaa", sum := "56d87c30002e18d758f147c8a327a74c2d1bb8d7156a084d5205bf0e7a039f89", func := "coracle/coraclelaw06.ScoreBenefits", spec := "scoreBenefits", inPlace := ["math.Float64bits"], apart := false, narrowed := true }
def ScoreBenefitsUptoSaid : Prop := scoreBenefitsUptoRow.holds Try.pinned (OpenSpec.upto scoreBenefitsSpec)

/-- 'coraclelaw06.ScoreOrders', WHERE WHAT IT READS IS OF BULK AT MOST 1048576: true; the input reads as it did. -/
def scoreOrdersUptoRow : OpenClaim := { program := "ytdofeehnclobmaa", sum := "56d87c30002e18d758f147c8a327a74c2d1bb8d7156a084d5205bf0e7a039f89", func := "coracle/coraclelaw06.ScoreOrders", spec := "scoreOrders", inPlace := ["math.Float64frombits", "math.Float64bits"], apart := false, narrowed := true }
def ScoreOrdersUptoSaid : Prop := scoreOrdersUptoRow.holds Try.pinned (OpenSpec.upto scoreOrdersSpec)

/-- 'coraclelaw06.ScoreTotal', WHERE WHAT IT READS IS OF BULK AT MOST 1048576: true; the input reads as it did. -/
def scoreTotalUptoRow : OpenClaim := { program := "ytdofeehnclobmaa", sum := "56d87c30002e18d758f147c8a327a74c2d1bb8d7156a084d5205bf0e7a039f89", func := "coracle/coraclelaw06.ScoreTotal", spec := "scoreTotal", inPlace := ["math.Float64frombits", "math.Float64bits"], apart := false, narrowed := true }
def ScoreTotalUptoSaid : Prop := scoreTotalUptoRow.holds Try.pinned (OpenSpec.upto scoreTotalSpec)

/-- 'coraclelaw06.ScorePicks', WHERE WHAT IT READS IS OF BULK AT MOST 1048576: true; the input reads as it did. -/
def scorePicksUptoRow : OpenClaim := { program := "ytdofeehnclobmaa", sum := "56d87c30002e18d758f147c8a327a74c2d1bb8d7156a084d5205bf0e7a039f89", func := "coracle/coraclelaw06.ScorePicks", spec := "scorePicks", inPlace := ["math.Float64bits"], apart := false, narrowed := true }
def ScorePicksUptoSaid : Prop := scorePicksUptoRow.holds Try.pinned (OpenSpec.upto scorePicksSpec)

/-- 'coraclelaw06.ScoreBest', WHERE WHAT IT READS IS OF BULK AT MOST 1048576: true; the input reads as it did. -/
def scoreBestUptoRow : OpenClaim := { program := "ytdofeehnclobmaa", sum := "56d87c30002e18d758f147c8a327a74c2d1bb8d7156a084d5205bf0e7a039f89", func := "coracle/coraclelaw06.ScoreBest", spec := "scoreBest", inPlace := ["math.Float64bits"], apart := false, narrowed := true }
def ScoreBestUptoSaid : Prop := scoreBestUptoRow.holds Try.pinned (OpenSpec.upto scoreBestSpec)

/-- 'coraclelaw06.ScoreMeans', WHERE WHAT IT READS IS OF BULK AT MOST 1048576: true; the input reads as it did. -/
def scoreMeansUptoRow : OpenClaim := { program := "ytdofeehnclobmaa", sum := "56d87c30002e18d758f147c8a327a74c2d1bb8d7156a084d5205bf0e7a039f89", func := "coracle/coraclelaw06.ScoreMeans", spec := "scoreMeans", inPlace := ["math.Float64frombits", "math.Float64bits"], apart := false, narrowed := true }
def ScoreMeansUptoSaid : Prop := scoreMeansUptoRow.holds Try.pinned (OpenSpec.upto scoreMeansSpec)

/-- 'coraclelaw06.ScoreTurned', WHERE WHAT IT READS IS OF BULK AT MOST 1048576: true; the input reads as it did. -/
def scoreTurnedUptoRow : OpenClaim := { program := "ytdofeehnclobmaa", sum := "56d87c30002e18d758f147c8a327a74c2d1bb8d7156a084d5205bf0e7a039f89", func := "coracle/coraclelaw06.ScoreTurned", spec := "scoreTurned", inPlace := ["math.Float64frombits", "math.Float64bits"], apart := false, narrowed := true }
def ScoreTurnedUptoSaid : Prop := scoreTurnedUptoRow.holds Try.pinned (OpenSpec.upto scoreTurnedSpec)

end Rows
end Go.Proofs.Ytdofeehnclobmaa

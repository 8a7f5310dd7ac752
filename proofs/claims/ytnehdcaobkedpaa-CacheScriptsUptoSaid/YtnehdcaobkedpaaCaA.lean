/- Layer 20: what is known, and the laws of its three maps. -/
import Derived.Test.YtnehdcaobkedpaaMpA
import Derived.Test.YtnehdcaobkedpaaSLW
import Derived.Test.YtnehdcaobkedpaaSLP
import Derived.Test.YtnehdcaobkedpaaRgn
import Derived.Test.YtnehdcaobkedpaaProg
namespace Go.Proofs.Ytnehdcaobkedpaa.Ca
open Go.Proofs.Ytnehdcaobkedpaa
open Go.RowKit
open Go.Maps (Keyed)

theorem laid : laidOutB Try.prog = true := by kernel_rfl
theorem law_s : Keyed Try.prog 9 := Maps.string_keyed Try.underlying9
theorem law_n : Keyed Try.prog 85 := Keyed.of_law (deep_law_gate laid (by decide +kernel) (by decide +kernel) (by kernel_rfl) (by kernel_rfl))
theorem law_p : Keyed Try.prog 80 := Keyed.of_law (deep_law_gate laid (by decide +kernel) (by decide +kernel) (by kernel_rfl) (by kernel_rfl))
theorem key_s (s : ByteArray) (hs : s.size ≤ maxLen) : ∃ kl, keyOf Try.prog 9 (.string s) = some kl := ⟨_, WideMaps.keyOf_string_mk Try.underlying9 hs⟩
theorem lits_s {d : Nat} (s : ByteArray) (hs : s.size ≤ maxLen) : Try.prog.keyLits (d + 1) 9 [.string s] = some [.string s.data.toList] := by
  simp [Program.keyLits, Try.underlying9, hs]
theorem lits_i {d : Nat} (i : Int) (hi : -9223372036854775808 ≤ i ∧ i ≤ 9223372036854775807) : Try.prog.keyLits (d + 1) 3 [.int .i64 i] = some [.int .i64 i] := by
  have hw : (Lit.int .i64 i).wf = true := by simp [Lit.wf, IntKind.min, IntKind.max, IntKind.signed, IntKind.bits]; omega
  simp [Program.keyLits, Try.underlying3, hw]
theorem keyLits_struct {P : Program} {d : Nat} {k : TypeId} {fs : Array Field} (hk : P.underlying k = some (.struct fs)) (cs : List Value) :
    P.keyLits (d + 1) k cs = if cs.length = P.cellsOf k ∧ fs.all (·.name != "_") = true then (fs.toList.mapM fun f => P.keyLits d f.type ((cs.drop f.offset).take (P.cellsOf f.type))).map List.flatten else none := by
  rw [Program.keyLits.eq_def]
  simp only [hk]
theorem keyOf_struct {P : Program} {k : TypeId} {fs : Array Field} (hk : P.underlying k = some (.struct fs)) (v : Value) :
    keyOf P k v = if P.keyType k && v.formed P k then (P.keyLits (P.types.size + 1) k v.cells.toList).map fun ls => .string (keyBytes ls) else none := by
  unfold keyOf
  rw [hk]
theorem cells_s : Try.prog.cellsOf 9 = 1 := by kernel_rfl
theorem cells_i : Try.prog.cellsOf 3 = 1 := by kernel_rfl
theorem key_n (d s : ByteArray) (hd : d.size ≤ maxLen) (hs : s.size ≤ maxLen) : ∃ kl, keyOf Try.prog 85 (.agg #[.string d, .string s]) = some kl := by
  obtain ⟨m, hm⟩ : ∃ m, Try.prog.types.size = m + 1 := ⟨_, rfl⟩
  have hc : (2 : Nat) = Try.prog.cellsOf 85 := by kernel_rfl
  have hf : (Try.prog.keyType 85 && (Value.agg #[.string d, .string s]).formed Try.prog 85) = true := by kernel_rfl
  rw [keyOf_struct Try.underlying85, if_pos hf, hm, keyLits_struct Try.underlying85]
  simp [Value.cells, ← hc, lits_s d hd, lits_s s hs, cells_s]
theorem key_p (d : ByteArray) (i : Int) (hd : d.size ≤ maxLen) (hi : -9223372036854775808 ≤ i ∧ i ≤ 9223372036854775807) : ∃ kl, keyOf Try.prog 80 (.agg #[.string d, .int .i64 i]) = some kl := by
  obtain ⟨m, hm⟩ : ∃ m, Try.prog.types.size = m + 1 := ⟨_, rfl⟩
  have hc : (2 : Nat) = Try.prog.cellsOf 80 := by kernel_rfl
  have hf : (Try.prog.keyType 80 && (Value.agg #[.string d, .int .i64 i]).formed Try.prog 80) = true := by kernel_rfl
  rw [keyOf_struct Try.underlying80, if_pos hf, hm, keyLits_struct Try.underlying80]
  simp [Value.cells, ← hc, lits_s d hd, lits_i i hi, cells_s, cells_i]
end Go.Proofs.Ytnehdcaobkedpaa.Ca

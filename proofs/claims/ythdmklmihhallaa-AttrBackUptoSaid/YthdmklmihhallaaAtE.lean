/- Layer 9: two Attrs that are one. -/
import Derived.Test.YthdmklmihhallaaAtQ
import Derived.Laws.StructEq
namespace Go.Proofs.Ythdmklmihhallaa
open Go.RowKit

theorem list17 (l : List Int) (h : l.length = 17) : ∃ a0 a1 a2 a3 a4 a5 a6 a7 a8 a9 a10 a11 a12 a13 a14 a15 a16, l = [a0, a1, a2, a3, a4, a5, a6, a7, a8, a9, a10, a11, a12, a13, a14, a15, a16] := by
  match l, h with
  | [a0, a1, a2, a3, a4, a5, a6, a7, a8, a9, a10, a11, a12, a13, a14, a15, a16], _ => exact ⟨_, _, _, _, _, _, _, _, _, _, _, _, _, _, _, _, _, rfl⟩
theorem run_int_refl (d : Nat) (t : TypeId) (a : Int) (h : Try.prog.underlying t = some (.int .i64)) (w : World) : (Op.equalIn (d + 1) t (.int .i64 a) (.int .i64 a)).run Try.prog w = .ok true w := by
  rw [run_equalIn_int w d t .i64 .i64 a a h, beq_self_eq_true]
theorem eql_attr (l : List Int) (hl : l.length = 17) (w : World) : (binOp .eql 29 (.agg (ivs l).toArray) (.agg (ivs l).toArray)).run Try.prog w = .ok (.bool true) w := by
  obtain ⟨a0, a1, a2, a3, a4, a5, a6, a7, a8, a9, a10, a11, a12, a13, a14, a15, a16, rfl⟩ := list17 l hl
  rw [run_eql_struct, run_equalIn_agg w 9999 29 _ _ (by kernel_rfl) (by kernel_rfl)]
  have hf : (Try.prog.fieldsOf 29).toList = (match Try.prog.underlying 29 with | some (.struct fs) => fs.toList | _ => []) := by kernel_rfl
  rw [hf, Try.underlying29]
  have h27 : Try.prog.underlying 27 = some (.struct (Try.prog.fieldsOf 27)) := by kernel_rfl
  have s27 : Try.prog.stoodInHeld 27 = false := by kernel_rfl
  have hf2 : (Try.prog.fieldsOf 27).toList = (match Try.prog.underlying 27 with | some (.struct fs) => fs.toList | _ => []) := by kernel_rfl
  rw [Try.underlying27] at hf2
  have c27 : Try.prog.cellsOf 27 = 2 := by kernel_rfl
  have hi := Try.underlying3
  simp [go_sem, ivs, iv, run_equalIn_agg _ _ _ _ _ h27 s27, hf2, hi]
end Go.Proofs.Ythdmklmihhallaa

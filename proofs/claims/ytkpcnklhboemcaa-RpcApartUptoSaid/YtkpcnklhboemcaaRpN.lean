/- Layer 3: replies and arrays that are one. -/
import Derived.Test.YtkpcnklhboemcaaRpA
import Derived.Laws.StructEq
import Derived.ChangeKeysEq
namespace Go.Proofs.Ytkpcnklhboemcaa
open Go.RowKit

theorem str_beq (a b : ByteArray) : (a.toList == b.toList) = decide (a = b) := by
  by_cases h : a = b
  · subst h; simp
  · rw [decide_eq_false h, beq_eq_false_iff_ne, ByteArray.toList_eq, ByteArray.toList_eq]
    exact fun he => h (bl_inj he)
theorem rep_eq (a0 a1 a2 a3 b0 b1 b2 b3 : Int) (a4 b4 : ByteArray) (w : World) : (Op.equalIn 10000 49 (.agg #[.int .i64 a0, .int .i64 a1, .int .i64 a2, .int .i64 a3, .string a4]) (.agg #[.int .i64 b0, .int .i64 b1, .int .i64 b2, .int .i64 b3, .string b4])).run Try.prog w = .ok (decide (a0 = b0) && (decide (a1 = b1) && (decide (a2 = b2) && (decide (a3 = b3) && decide (a4 = b4))))) w := by
  rw [run_equalIn_agg w 9999 49 _ _ (by kernel_rfl) (by kernel_rfl)]
  have hf : (Try.prog.fieldsOf 49).toList = (match Try.prog.underlying 49 with | some (.struct fs) => fs.toList | _ => []) := by kernel_rfl
  rw [hf, Try.underlying49]
  have hi := Try.underlying3
  have hb := Try.underlying9
  by_cases h0 : a0 = b0
  · by_cases h1 : a1 = b1
    · by_cases h2 : a2 = b2
      · by_cases h3 : a3 = b3
        · by_cases h4 : a4 = b4
          · simp [go_sem, hi, hb, h0, h1, h2, h3, h4]
          · simp [go_sem, hi, hb, h0, h1, h2, h3, h4, str_beq]
        · simp [go_sem, hi, hb, h0, h1, h2, h3]
      · simp [go_sem, hi, hb, h0, h1, h2]
    · simp [go_sem, hi, hb, h0, h1]
  · simp [go_sem, hi, hb, h0]
theorem arr_eq (a0 a1 a2 a3 b0 b1 b2 b3 : Int) (w : World) : (Op.equalIn 10000 22 (.agg #[.int .i64 a0, .int .i64 a1, .int .i64 a2, .int .i64 a3]) (.agg #[.int .i64 b0, .int .i64 b1, .int .i64 b2, .int .i64 b3])).run Try.prog w = .ok (decide (a0 = b0) && (decide (a1 = b1) && (decide (a2 = b2) && decide (a3 = b3)))) w := by
  have hi := Try.underlying3
  obtain ⟨i, hinf⟩ : ∃ i, Try.prog.info? 3 = some i := by
    cases h : Try.prog.info? 3 with
    | none => have : (Try.prog.info? 3).isSome = true := by kernel_rfl
              rw [h] at this; cases this
    | some i => exact ⟨i, rfl⟩
  have hc : Try.prog.cellsOf 3 = 1 := by kernel_rfl
  rw [run_equalIn_array w 9999 _ _ Try.underlying22 hinf, hc]
  rw [show List.range 4 = [0, 1, 2, 3] from rfl]
  by_cases h0 : a0 = b0
  · by_cases h1 : a1 = b1
    · by_cases h2 : a2 = b2
      · by_cases h3 : a3 = b3
        · simp [Op.eqItems, go_sem, hi, h0, h1, h2, h3]
        · simp [Op.eqItems, go_sem, hi, h0, h1, h2, h3]
      · simp [Op.eqItems, go_sem, hi, h0, h1, h2]
    · simp [Op.eqItems, go_sem, hi, h0, h1]
  · simp [Op.eqItems, go_sem, hi, h0]
end Go.Proofs.Ytkpcnklhboemcaa

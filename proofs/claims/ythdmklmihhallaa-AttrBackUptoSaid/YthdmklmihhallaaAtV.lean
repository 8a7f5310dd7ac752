/- Layer 9: a document's Set as one of attr's; two Sets that are one. -/
import Derived.Test.YthdmklmihhallaaAtN
import Derived.Test.YthdmklmihhallaaAtU
import Derived.Test.YthdmklmihhallaaAtE
namespace Go.Proofs.Ythdmklmihhallaa
open Go.RowKit

theorem SS.split {s : SS} (ok : s.ok) : ∃ h0 h1 h2 h3 a0 a1 a2 a3 a4 a5 a6 a7 a8 a9, s = ⟨[h0, h1, h2, h3], [a0, a1, a2, a3, a4, a5, a6, a7, a8, a9]⟩ := by
  obtain ⟨h, l⟩ := s
  have h1 := ok.h
  have h2 := ok.l
  dsimp only at h1 h2
  match h, h1, l, h2 with
  | [_, _, _, _], _, [_, _, _, _, _, _, _, _, _, _], _ => exact ⟨_, _, _, _, _, _, _, _, _, _, _, _, _, _, rfl⟩
theorem same_set (s : SS) (ok : s.ok) (w : World) : (Op.equalIn 10000 49 (.agg s.cells.toArray) (.agg s.cells.toArray)).run Try.prog w = .ok true w := by
  obtain ⟨h0, h1, h2, h3, a0, a1, a2, a3, a4, a5, a6, a7, a8, a9, rfl⟩ := SS.split ok
  rw [run_equalIn_agg w 9999 49 _ _ (by kernel_rfl) (by kernel_rfl)]
  have hf : (Try.prog.fieldsOf 49).toList = (match Try.prog.underlying 49 with | some (.struct fs) => fs.toList | _ => []) := by kernel_rfl
  rw [hf, Try.underlying49]
  have h27 : Try.prog.underlying 27 = some (.struct (Try.prog.fieldsOf 27)) := by kernel_rfl
  have s27 : Try.prog.stoodInHeld 27 = false := by kernel_rfl
  have hf2 : (Try.prog.fieldsOf 27).toList = (match Try.prog.underlying 27 with | some (.struct fs) => fs.toList | _ => []) := by kernel_rfl
  rw [Try.underlying27] at hf2
  have c27 : Try.prog.cellsOf 27 = 2 := by kernel_rfl
  have hi := Try.underlying3
  have hb := Try.underlying4
  simp [go_sem, SS.cells, bvs, ivs, iv, run_equalIn_agg _ _ _ _ _ h27 s27, hf2, hi, hb]
theorem eql_set (s : SS) (ok : s.ok) (w : World) : (binOp .eql 49 (.agg s.cells.toArray) (.agg s.cells.toArray)).run Try.prog w = .ok (.bool true) w := by
  rw [run_eql_struct, same_set s ok]; rfl
theorem neq_set (s : SS) (ok : s.ok) (w : World) : (binOp .neq 49 (.agg s.cells.toArray) (.agg s.cells.toArray)).run Try.prog w = .ok (.bool false) w := by
  rw [run_neq_struct, same_set s ok]; rfl
set_option maxRecDepth 100000 in
set_option maxHeartbeats 4000000 in
theorem made_ok (s : SS) (ok : s.ok) {w0 w : World} {F : List Assn} (H : St w0 w F) :
    Calls Try.prog 15 #[.agg s.cells.toArray] w fun r w' => r = .returned (.agg s.cells.toArray) ∧ St w0 w' F := by
  obtain ⟨h0, h1, h2, h3, a0, a1, a2, a3, a4, a5, a6, a7, a8, a9, rfl⟩ := SS.split ok
  have H1 := H.alloc #[.bool h0, .bool h1, .bool h2, .bool h3, .int .i64 a0, .int .i64 a1, .int .i64 a2, .int .i64 a3, .int .i64 a4, .int .i64 a5, .int .i64 a6, .int .i64 a7, .int .i64 a8, .int .i64 a9] 46
  have H2 := H1.alloc zeroSet 49
  simp only [World.size_alloc] at H2
  show Calls Try.prog 15 #[.agg #[.bool h0, .bool h1, .bool h2, .bool h3, .int .i64 a0, .int .i64 a1, .int .i64 a2, .int .i64 a3, .int .i64 a4, .int .i64 a5, .int .i64 a6, .int .i64 a7, .int .i64 a8, .int .i64 a9]] w fun r w' => r = .returned (.agg #[.bool h0, .bool h1, .bool h2, .bool h3, .int .i64 a0, .int .i64 a1, .int .i64 a2, .int .i64 a3, .int .i64 a4, .int .i64 a5, .int .i64 a6, .int .i64 a7, .int .i64 a8, .int .i64 a9]) ∧ St w0 w' F
  have p0 := H2.r2.cell 0 rfl
  have p1 := H2.r2.cell 1 rfl
  have p2 := H2.r2.cell 2 rfl
  have p3 := H2.r2.cell 3 rfl
  have p4 := H2.r2.cell 4 rfl
  have p5 := H2.r2.cell 5 rfl
  have p6 := H2.r2.cell 6 rfl
  have p7 := H2.r2.cell 7 rfl
  have p8 := H2.r2.cell 8 rfl
  have p9 := H2.r2.cell 9 rfl
  have p10 := H2.r2.cell 10 rfl
  have p11 := H2.r2.cell 11 rfl
  have p12 := H2.r2.cell 12 rfl
  have p13 := H2.r2.cell 13 rfl
  go_enter Try.func15, Try.ntmps15
  go_wp2_with (with_reducible refine hold_store ?_)
  unfold Hold
  with_reducible refine wpList_store_st (ty := 49) H2 #[.bool h0, .bool h1, .bool h2, .bool h3, .int .i64 a0, .int .i64 a1, .int .i64 a2, .int .i64 a3, .int .i64 a4, .int .i64 a5, .int .i64 a6, .int .i64 a7, .int .i64 a8, .int .i64 a9] ?_ ?_ ?_ ?_ ?_ ?_ ?_
  rfl
  rfl
  rfl
  rfl
  kernel_rfl
  rfl
  intro w2 H3
  go_wp2_with (fail)
  refine bodyPost_ret (results_cell_row rfl _ _ _ 49 _ (0, 0) _ rfl H3.block Try.underlying49 rfl (by kernel_rfl)) rfl ?_
  exact ⟨rfl, H3.tail.tail⟩
end Go.Proofs.Ythdmklmihhallaa

/- Layer 20: the document's answers: a file's row. -/
import Derived.Test.YtnehdcaobkedpaaCrB
import Derived.Deep.MidRow
namespace Go.Proofs.Ytnehdcaobkedpaa.Ca
open Go.Proofs.Ytnehdcaobkedpaa
open Go.RowKit

def zFR : FR := ⟨⟨#[]⟩, 0, 0, 0, 0, 0⟩
abbrev zC : Array Value := #[.string ⟨#[]⟩, .int .i64 0, .int .i64 0, .int .i64 0, .int .i64 0, .int .i64 0]
/-- what the document knows of a file -/
def RC.attr (r : RC) (h : ByteArray) (now : Int) : FR × Bool := match lastOf (isH h) r.fl with | some x => (x, freshB r.age now x.now) | none => (zFR, false)
/-- how far a search from the end has come -/
def Down (iv : Value) (k : Nat) : Prop := (k = 0 ∧ iv = .int .i64 (-1)) ∨ ∃ k' : Nat, k = k' + 1 ∧ iv = .int .i64 (k' : Int)
def downOf (iv : Value) : Nat := (intOf iv + 1).toNat
theorem downOf_eq {iv : Value} {k : Nat} (h : Down iv k) : downOf iv = k := by
  rcases h with ⟨rfl, rfl⟩ | ⟨k', rfl, rfl⟩
  · rfl
  · unfold downOf; simp [intOf]
theorem down_start (m : Nat) : Down (.int .i64 ((m : Int) - 1)) m := by
  cases m with
  | zero => exact .inl ⟨rfl, rfl⟩
  | succ m => exact .inr ⟨m, rfl, congrArg (Value.int .i64) (by omega)⟩
set_option maxRecDepth 100000 in
set_option maxHeartbeats 4000000 in
theorem refattr_ok (r : RC) (h : ByteArray) (now : Int) (hn : inI now) (ha : 0 ≤ r.age) (ha2 : inI r.age) (hm : ∀ x ∈ r.fl, inI x.now) {w0 w : World} {F : List Assn} (H : St w0 w (RCx r :: F)) :
    Calls Try.prog 18 #[.pointer (some ⟨r.b, 0, none⟩), .string h, .int .i64 now] w fun e w' => e = .returned (.tuple #[.agg (r.attr h now).1.cells.toArray, .bool (r.attr h now).2]) ∧ St w0 w' (RCx r :: F) := by
  obtain ⟨A1, c1, A2, c2, A3, c3, H0⟩ := St.openR H
  have hlen := H0.r2.row_le
  unfold maxLen at hlen
  have H1 := H0.alloc zC 48
  obtain ⟨m, hmm⟩ : ∃ m, m = r.fl.length := ⟨_, rfl⟩
  have p1 := H1.r2.cell 1 (v := .slice A1 r.fl.length c1) rfl
  rw [← hmm] at p1 hlen H1
  have HM := Lib.hid hmm; clear hmm H0
  go_enter Try.func18, Try.ntmps18
  go_wp2_with (fail)
  generalize w.heap.size = b6 at *
  generalize w.alloc (.cells zC 48) = w1 at *
  go_loopw [8] (fun iv wr => ∃ k : Nat, k ≤ m ∧ Down iv k ∧ wr = w1 ∧ ∀ j x, k ≤ j → r.fl[j]? = some x → isH h x = false) (fun iv _ => downOf iv)
  case atStart => exact ⟨m, Nat.le_refl _, down_start m, rfl, fun j x hj hx => absurd (List.getElem?_eq_some_iff.1 hx).1 (by rw [← HM.out]; omega)⟩
  case round =>
    obtain ⟨k, hk, hdn, rfl, hno⟩ := hrel
    rcases hdn with ⟨rfl, rfl⟩ | ⟨i, rfl, rfl⟩
    · have hl : lastOf (isH h) r.fl = none := lastOf_none fun x hx => by
        obtain ⟨j, hj⟩ := List.mem_iff_getElem?.1 hx
        exact hno j x (Nat.zero_le _) hj
      have hr : r.attr h now = (zFR, false) := by unfold RC.attr; rw [hl]
      have HR := Lib.hid hr
      clear hno hl hr
      go_wp2_with (with_reducible refine hold_store ?_)
      unfold Hold
      with_reducible refine wpList_store_st (ty := 48) (H1) (zC) ?_ ?_ ?_ ?_ ?_ ?_ ?_
      rfl
      rfl
      rfl
      rfl
      kernel_rfl
      rfl
      intro w2 H2
      go_wp2_with (fail)
      refine bodyPost_ret (results_cell1 rfl _ _ b6 48 zC (0, 0) _ rfl H2.block Try.underlying48 rfl (by kernel_rfl)) rfl ?_
      exact ⟨by rw [HR.out]; rfl, St.shutR HM.out rfl rfl H2.tail⟩
    · obtain ⟨x, hx⟩ : ∃ x, r.fl[i]? = some x := ⟨_, List.getElem?_eq_getElem (by rw [← HM.out]; omega)⟩
      obtain ⟨g, o, rfl, k0, kk⟩ := rows_get fcell H1.r3 hx HM.out.symm
      have c0 := k0 _ rfl
      have hiI : (i : Int) < m := by omega
      have ht := tl x.h h
      cases hd : decide (x.h = h) with
      | false =>
        rw [hd] at ht
        have HN := Lib.hid hno; clear hno
        have hds : Down (.int .i64 ((i : Int) - 1)) i := down_start i
        have hds2 := downOf_eq hds
        have HD := Lib.hid hds; have HD2 := Lib.hid hds2; clear hds hds2 kk k0
        go_wp2_with (fail)
        refine ⟨⟨i, by omega, HD.out, trivial, fun j y hj hy => ?_⟩, by rw [HD2.out]; simp [downOf, intOf]⟩
        by_cases e : j = i
        · subst e; rw [hx] at hy; cases hy; exact hd
        · exact HN.out j y (by omega) hy
      | true =>
        rw [hd] at ht
        have hl : lastOf (isH h) r.fl = some x := lastOf_at hx hd fun j y hj hy => hno j y (by omega) hy
        have hr : r.attr h now = (x, freshB r.age now x.now) := by unfold RC.attr; rw [hl]
        have hxn := hm x (List.mem_of_getElem? hx)
        have hrange : wr.drew.rangeAt g (o + i * 6) x.cells := fun j v hv => kk j v hv
        have hcell5 := kk 5 (.int .i64 x.now) rfl
        have fr := reffresh_ok x.now now r.age hxn hn ha ha2
        have HR := Lib.hid hr; have FRS := Lib.hid fr; clear hno hl hr kk k0 fr
        go_wp2_with (fail)
        refine wp_region_held_drew (S := fun w' => w'.cell? ⟨r.b, 0, none⟩ = some (.int .i64 r.age) ∧ w'.cell? ⟨r.b, 1, none⟩ = some (.slice (some ⟨g, o, none⟩) m c1) ∧ w'.cell? ⟨g, o + i * 6 + 5, none⟩ = some (.int .i64 x.now) ∧ w'.rangeAt g (o + i * 6) x.cells) (by kernel_rfl)
          ⟨H1.drew.r2.cell 0 (v := .int .i64 r.age) rfl, H1.drew.r2.cell 1 (v := .slice (some ⟨g, o, none⟩) m c1) rfl, hcell5, hrange⟩ (fun hHeld => ?_)
        have H2 := H1.drew
        clear H1
        generalize wr.drew = w2 at *
        refine rg_take (i := 0) (v := ?_) rfl (by kernel_rfl) (by kernel_rfl) (by kernel_rfl) (fun _ _ _ h => h) (Or.inl ⟨by kernel_rfl, ?_⟩) (by assumption) ?_
        rotate_left 1
        · intro w' hSw
          try dsimp only at hSw
          go_simp
          first | done | with_reducible rfl
        simp only [Act.put, List.setIfInBounds_toArray, List.set_cons_zero, List.set_cons_succ]
        refine rg_take (i := 1) (v := ?_) rfl (by kernel_rfl) (by kernel_rfl) (by kernel_rfl) (fun _ _ _ h => h) (Or.inl ⟨by kernel_rfl, ?_⟩) (by assumption) ?_
        rotate_left 1
        · intro w' hSw
          try dsimp only at hSw
          go_simp
          first | done | with_reducible rfl
        simp only [Act.put, List.setIfInBounds_toArray, List.set_cons_zero, List.set_cons_succ]
        refine rg_take (i := 2) (v := ?_) rfl (by kernel_rfl) (by kernel_rfl) (by kernel_rfl) (fun _ _ _ h => h) (Or.inl ⟨by kernel_rfl, ?_⟩) (by assumption) ?_
        rotate_left 1
        · intro w' hSw
          try dsimp only at hSw
          go_simp
          first | done | with_reducible rfl
        simp only [Act.put, List.setIfInBounds_toArray, List.set_cons_zero, List.set_cons_succ]
        refine rg_take (i := 3) (v := ?_) rfl (by kernel_rfl) (by kernel_rfl) (by kernel_rfl) (fun _ _ _ h => h) (Or.inl ⟨by kernel_rfl, ?_⟩) (by assumption) ?_
        rotate_left 1
        · intro w' hSw
          try dsimp only at hSw
          go_simp
          first | done | with_reducible rfl
        simp only [Act.put, List.setIfInBounds_toArray, List.set_cons_zero, List.set_cons_succ]
        refine rg_take (i := 4) (v := ?_) rfl (by kernel_rfl) (by kernel_rfl) (by kernel_rfl) (fun _ _ _ h => h) (Or.inl ⟨by kernel_rfl, ?_⟩) (by assumption) ?_
        rotate_left 1
        · intro w' hSw
          try dsimp only at hSw
          go_simp
          first | done | with_reducible rfl
        simp only [Act.put, List.setIfInBounds_toArray, List.set_cons_zero, List.set_cons_succ]
        refine rg_take (i := 5) (v := ?_) rfl (by kernel_rfl) (by kernel_rfl) (by kernel_rfl) (fun _ _ _ h => h) (Or.inl ⟨by kernel_rfl, ?_⟩) (by assumption) ?_
        rotate_left 1
        · intro w' hSw
          try dsimp only at hSw
          go_simp
          first | done | with_reducible rfl
        simp only [Act.put, List.setIfInBounds_toArray, List.set_cons_zero, List.set_cons_succ]
        refine rg_take (i := 6) (v := _) rfl (by kernel_rfl) (by kernel_rfl) (by kernel_rfl) (fun _ _ _ h => h) (yieldsIf_load_mid (by kernel_rfl) 48 _ rfl g (o + i * 6) rfl x.cells _ (fun w' h => h.2.2.2) Try.underlying48 rfl (by kernel_rfl)) hHeld ?_
        simp only [Act.put, List.setIfInBounds_toArray, List.set_cons_zero, List.set_cons_succ]
        refine rg_take (i := 7) (v := ?_) rfl (by kernel_rfl) (by kernel_rfl) (by kernel_rfl) (fun _ _ _ h => h) (Or.inl ⟨by kernel_rfl, ?_⟩) (by assumption) ?_
        rotate_left 1
        · intro w' hSw
          try dsimp only at hSw
          go_simp
          first | done | with_reducible rfl
        simp only [Act.put, List.setIfInBounds_toArray, List.set_cons_zero, List.set_cons_succ]
        refine rg_take (i := 8) (v := ?_) rfl (by kernel_rfl) (by kernel_rfl) (by kernel_rfl) (fun _ _ _ h => h) (Or.inl ⟨by kernel_rfl, ?_⟩) (by assumption) ?_
        rotate_left 1
        · intro w' hSw
          try dsimp only at hSw
          go_simp
          first | done | with_reducible rfl
        simp only [Act.put, List.setIfInBounds_toArray, List.set_cons_zero, List.set_cons_succ]
        refine rg_take (i := 9) (v := ?_) rfl (by kernel_rfl) (by kernel_rfl) (by kernel_rfl) (fun _ _ _ h => h) (Or.inl ⟨by kernel_rfl, ?_⟩) (by assumption) ?_
        rotate_left 1
        · intro w' hSw
          try dsimp only at hSw
          go_simp
          first | done | with_reducible rfl
        simp only [Act.put, List.setIfInBounds_toArray, List.set_cons_zero, List.set_cons_succ]
        refine rg_take (i := 10) (v := ?_) rfl (by kernel_rfl) (by kernel_rfl) (by kernel_rfl) (fun _ _ _ h => h) (Or.inl ⟨by kernel_rfl, ?_⟩) (by assumption) ?_
        rotate_left 1
        · intro w' hSw
          try dsimp only at hSw
          go_simp
          first | done | with_reducible rfl
        simp only [Act.put, List.setIfInBounds_toArray, List.set_cons_zero, List.set_cons_succ]
        refine rg_take (i := 11) (v := ?_) rfl (by kernel_rfl) (by kernel_rfl) (by kernel_rfl) (fun _ _ _ h => h) (Or.inl ⟨by kernel_rfl, ?_⟩) (by assumption) ?_
        rotate_left 1
        · intro w' hSw
          try dsimp only at hSw
          go_simp
          first | done | with_reducible rfl
        simp only [Act.put, List.setIfInBounds_toArray, List.set_cons_zero, List.set_cons_succ]
        refine rg_take (i := 12) (v := ?_) rfl (by kernel_rfl) (by kernel_rfl) (by kernel_rfl) (fun _ _ _ h => h) (Or.inl ⟨by kernel_rfl, ?_⟩) (by assumption) ?_
        rotate_left 1
        · intro w' hSw
          try dsimp only at hSw
          go_simp
          first | done | with_reducible rfl
        simp only [Act.put, List.setIfInBounds_toArray, List.set_cons_zero, List.set_cons_succ]
        refine rg_take (i := 13) (v := ?_) rfl (by kernel_rfl) (by kernel_rfl) (by kernel_rfl) (fun _ _ _ h => h) (Or.inl ⟨by kernel_rfl, ?_⟩) (by assumption) ?_
        rotate_left 1
        · intro w' hSw
          try dsimp only at hSw
          go_simp
          first | done | with_reducible rfl
        simp only [Act.put, List.setIfInBounds_toArray, List.set_cons_zero, List.set_cons_succ]
        refine rg_take (i := 14) (v := ?_) rfl (by kernel_rfl) (by kernel_rfl) (by kernel_rfl) (fun _ _ _ h => h) (Or.inl ⟨by kernel_rfl, ?_⟩) (by assumption) ?_
        rotate_left 1
        · intro w' hSw
          try dsimp only at hSw
          go_simp
          first | done | with_reducible rfl
        simp only [Act.put, List.setIfInBounds_toArray, List.set_cons_zero, List.set_cons_succ]
        refine rg_take (i := 15) (v := ?_) rfl (by kernel_rfl) (by kernel_rfl) (by kernel_rfl) (fun _ _ _ h => h) (Or.inl ⟨by kernel_rfl, ?_⟩) (by assumption) ?_
        rotate_left 1
        · intro w' hSw
          try dsimp only at hSw
          go_simp
          first | done | with_reducible rfl
        simp only [Act.put, List.setIfInBounds_toArray, List.set_cons_zero, List.set_cons_succ]
        refine rg_take (i := 16) (v := ?_) rfl (by kernel_rfl) (by kernel_rfl) (by kernel_rfl) (fun _ _ _ h => h) (Or.inl ⟨by kernel_rfl, ?_⟩) (by assumption) ?_
        rotate_left 1
        · intro w' hSw
          try dsimp only at hSw
          go_simp
          first | done | with_reducible rfl
        simp only [Act.put, List.setIfInBounds_toArray, List.set_cons_zero, List.set_cons_succ]
        refine rg_take (i := 17) (v := ?_) rfl (by kernel_rfl) (by kernel_rfl) (by kernel_rfl) (fun _ _ _ h => h) (Or.inl ⟨by kernel_rfl, ?_⟩) (by assumption) ?_
        rotate_left 1
        · intro w' hSw
          try dsimp only at hSw
          go_simp
          first | done | with_reducible rfl
        simp only [Act.put, List.setIfInBounds_toArray, List.set_cons_zero, List.set_cons_succ]
        refine rg_take (i := 18) (v := ?_) rfl (by kernel_rfl) (by kernel_rfl) (by kernel_rfl) (fun _ _ _ h => h) (Or.inl ⟨by kernel_rfl, ?_⟩) (by assumption) ?_
        rotate_left 1
        · intro w' hSw
          try dsimp only at hSw
          go_simp
          first | done | with_reducible rfl
        simp only [Act.put, List.setIfInBounds_toArray, List.set_cons_zero, List.set_cons_succ]
        refine rg_take (i := 19) (v := ?_) rfl (by kernel_rfl) (by kernel_rfl) (by kernel_rfl) (fun _ _ _ h => h) (Or.inl ⟨by kernel_rfl, ?_⟩) (by assumption) ?_
        rotate_left 1
        · intro w' hSw
          try dsimp only at hSw
          go_simp
          first | done | with_reducible rfl
        simp only [Act.put, List.setIfInBounds_toArray, List.set_cons_zero, List.set_cons_succ]
        refine wpAnyH_ready (rs := [20]) (by kernel_rfl) (by simp) ?_
        refine rg_cons rfl (fun K hK => ?_) AllReadyH.nil
        go_simp
        refine (FRS.out _).mono ?_
        rintro e w3 ⟨rfl, rfl⟩
        refine hK.out _ _ hHeld (fun hHeld => ?_)
        clear hK
        try simp only [Act.put, List.setIfInBounds_toArray, List.set_cons_zero, List.set_cons_succ]
        refine wpAnyH_ready (rs := [21]) (by kernel_rfl) (by simp) ?_
        refine rg_cons rfl (fun K hK => ?_) AllReadyH.nil
        refine step_store_st 48 _ _ rfl rfl H2 x.cells.toArray rfl rfl rfl (by kernel_rfl) rfl ?_
        intro w4 H3
        obtain ⟨g', o', hA, _, k2⟩ := rows_get fcell H3.r3 hx HM.out.symm
        cases hA
        refine hK.out _ _ ⟨H3.r2.cell 0 (v := .int .i64 r.age) rfl, H3.r2.cell 1 (v := .slice (some ⟨g, o, none⟩) m c1) rfl, k2 5 _ rfl, fun j v hv => k2 j v hv⟩ (fun hHeld => ?_)
        clear hK
        try simp only [Act.put, List.setIfInBounds_toArray, List.set_cons_zero, List.set_cons_succ]
        refine rg_take (i := 22) (v := ?_) rfl (by kernel_rfl) (by kernel_rfl) (by kernel_rfl) (fun _ _ _ h => h) (Or.inl ⟨by kernel_rfl, ?_⟩) (by assumption) ?_
        rotate_left 1
        · intro w' hSw
          try dsimp only at hSw
          go_simp
          first | done | with_reducible rfl
        simp only [Act.put, List.setIfInBounds_toArray, List.set_cons_zero, List.set_cons_succ]
        refine wpAnyH_done (by kernel_rfl) ?_ _
        clear hHeld k2
        go_wp2_with (fail)
        refine bodyPost_ret (results_cell1 rfl _ _ b6 48 x.cells.toArray (0, 0) _ rfl H3.block Try.underlying48 rfl (by kernel_rfl)) rfl ?_
        exact ⟨by rw [HR.out]; rfl, St.shutR HM.out rfl rfl H3.tail⟩
end Go.Proofs.Ytnehdcaobkedpaa.Ca

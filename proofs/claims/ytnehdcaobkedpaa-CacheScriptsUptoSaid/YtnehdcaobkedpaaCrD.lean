/- Layer 20: the document's answers: what a name leads to, a piece. -/
import Derived.Test.YtnehdcaobkedpaaCrC
namespace Go.Proofs.Ytnehdcaobkedpaa.Ca
open Go.Proofs.Ytnehdcaobkedpaa
open Go.RowKit

def isN (d s : ByteArray) (r : NR) : Bool := decide (r.d = d) && decide (r.s = s)
def isP (h : ByteArray) (k : Int) (r : PR) : Bool := decide (r.h = h) && decide (r.k = k)
/-- what a name leads to, in the document -/
def RC.look (r : RC) (d s : ByteArray) (now : Int) : ByteArray × Bool := match lastOf (isN d s) r.nl with | some x => (if freshB r.age now x.now = true then (x.h, true) else (⟨#[]⟩, false)) | none => (⟨#[]⟩, false)
def RC.get (r : RC) (h : ByteArray) (k : Int) : ByteArray × Bool := match lastOf (isP h k) r.pl with | some x => (x.x, true) | none => (⟨#[]⟩, false)
set_option maxRecDepth 100000 in
set_option maxHeartbeats 4000000 in
theorem look_ok (r : RC) (d s : ByteArray) (now : Int) (hn : inI now) (ha : 0 ≤ r.age) (ha2 : inI r.age) (hm : ∀ x ∈ r.nl, inI x.now) {w0 w : World} {F : List Assn} (H : St w0 w (RCx r :: F)) :
    Calls Try.prog 19 #[.pointer (some ⟨r.b, 0, none⟩), .string d, .string s, .int .i64 now] w fun e w' => e = .returned (.tuple #[.string (r.look d s now).1, .bool (r.look d s now).2]) ∧ St w0 w' (RCx r :: F) := by
  obtain ⟨A1, c1, A2, c2, A3, c3, H1⟩ := St.openR H
  have hlen := H1.r3.row_le
  unfold maxLen at hlen
  obtain ⟨m, hmm⟩ : ∃ m, m = r.nl.length := ⟨_, rfl⟩
  have p1 := H1.cell 2 (v := .slice A2 r.nl.length c2) rfl
  rw [← hmm] at p1 hlen H1
  have HM := Lib.hid hmm; clear hmm
  go_enter Try.func19, Try.ntmps19
  go_wp2_with (fail)
  go_loopw [10] (fun iv wr => ∃ k : Nat, k ≤ m ∧ Down iv k ∧ wr = w ∧ ∀ j x, k ≤ j → r.nl[j]? = some x → isN d s x = false) (fun iv _ => downOf iv)
  case atStart => exact ⟨m, Nat.le_refl _, down_start m, rfl, fun j x hj hx => absurd (List.getElem?_eq_some_iff.1 hx).1 (by rw [← HM.out]; omega)⟩
  case round =>
    obtain ⟨k, hk, hdn, rfl, hno⟩ := hrel
    rcases hdn with ⟨rfl, rfl⟩ | ⟨i, rfl, rfl⟩
    · have hl : lastOf (isN d s) r.nl = none := lastOf_none fun x hx => by
        obtain ⟨j, hj⟩ := List.mem_iff_getElem?.1 hx
        exact hno j x (Nat.zero_le _) hj
      have hr : r.look d s now = (⟨#[]⟩, false) := by unfold RC.look; rw [hl]
      have HR := Lib.hid hr
      clear hno hl hr
      go_wp2_with (fail)
      go_ret2
      exact ⟨by rw [HR.out]; rfl, H⟩
    · obtain ⟨x, hx⟩ : ∃ x, r.nl[i]? = some x := ⟨_, List.getElem?_eq_getElem (by rw [← HM.out]; omega)⟩
      obtain ⟨g, o, rfl, k0, kk⟩ := rows_get ncell H1.r3 hx HM.out.symm
      have c0 := k0 _ rfl
      have e1 := kk 1 _ rfl
      have hiI : (i : Int) < m := by omega
      have ht := tl x.d d
      have hu := tl x.s s
      have hds : Down (.int .i64 ((i : Int) - 1)) i := down_start i
      have hds2 := downOf_eq hds
      have HD := Lib.hid hds; have HD2 := Lib.hid hds2; clear hds hds2
      cases hd1 : decide (x.d = d) with
      | false =>
        rw [hd1] at ht
        have hd : isN d s x = false := by unfold isN; rw [hd1]; rfl
        have HN := Lib.hid hno; clear hno kk k0
        go_wp2_with (fail)
        refine ⟨⟨i, by omega, HD.out, trivial, fun j y hj hy => ?_⟩, by rw [HD2.out]; simp [downOf, intOf]⟩
        by_cases e : j = i
        · subst e; rw [hx] at hy; cases hy; exact hd
        · exact HN.out j y (by omega) hy
      | true =>
        rw [hd1] at ht
        cases hd2 : decide (x.s = s) with
        | false =>
          rw [hd2] at hu
          have hd : isN d s x = false := by unfold isN; rw [hd1, hd2]; rfl
          have HN := Lib.hid hno; clear hno kk k0
          go_wp2_with (fail)
          refine ⟨⟨i, by omega, HD.out, trivial, fun j y hj hy => ?_⟩, by rw [HD2.out]; simp [downOf, intOf]⟩
          by_cases e : j = i
          · subst e; rw [hx] at hy; cases hy; exact hd
          · exact HN.out j y (by omega) hy
        | true =>
          rw [hd2] at hu
          have hd : isN d s x = true := by unfold isN; rw [hd1, hd2]; rfl
          have hl : lastOf (isN d s) r.nl = some x := lastOf_at hx hd fun j y hj hy => hno j y (by omega) hy
          obtain ⟨fb, hfb⟩ : ∃ fb, fb = freshB r.age now x.now := ⟨_, rfl⟩
          have hr : r.look d s now = (if fb = true then (x.h, true) else (⟨#[]⟩, false)) := by unfold RC.look; rw [hl, hfb]
          have hxn := hm x (List.mem_of_getElem? hx)
          have hcell3 := kk 3 (.int .i64 x.now) rfl
          have hcell2 := kk 2 (.string x.h) rfl
          have fr := reffresh_ok x.now now r.age hxn hn ha ha2
          rw [← hfb] at fr
          have HR := Lib.hid hr; have FRS := Lib.hid fr; clear hno hl hr kk k0 fr hfb
          go_wp2_with (fail)
          refine wp_region_held_drew (S := fun w' => w'.cell? ⟨r.b, 0, none⟩ = some (.int .i64 r.age) ∧ w'.cell? ⟨r.b, 2, none⟩ = some (.slice (some ⟨g, o, none⟩) m c2) ∧ w'.cell? ⟨g, o + i * 4 + 3, none⟩ = some (.int .i64 x.now)) (by kernel_rfl)
            ⟨H1.drew.cell 0 (v := .int .i64 r.age) rfl, p1, hcell3⟩ (fun hHeld => ?_)
          have H2 := H1.drew
          have hcell2' : wr.drew.cell? ⟨g, o + i * 4 + 2, none⟩ = some (.string x.h) := hcell2
          have p1' : wr.drew.cell? ⟨r.b, 2, none⟩ = some (.slice (some ⟨g, o, none⟩) m c2) := p1
          clear H1 hcell2 p1 hcell3 c0 e1
          generalize wr.drew = w2 at *
          refine rg_take (i := 0) (v := ?_) rfl (by kernel_rfl) (by kernel_rfl) (by kernel_rfl) (fun _ _ _ h => h) (Or.inl ⟨by kernel_rfl, ?_⟩) (by assumption) ?_
          rotate_left 1
          · intro w' hSw
            try dsimp only at hSw
            go_simp
            first | done | with_reducible rfl
          simp only [Act.put, List.setIfInBounds_toArray, List.set_cons_zero, List.set_cons_succ]
          refine rg_take (i := 1) (v := ?_) rfl (by kernel_rfl) (by kernel_rfl) (by kernel_rfl) (fun _ _ _ h => h) (Or.inl ⟨by kernel_rfl, ?_⟩) (by assumption) ?_
          rotate_left 1
          · intro w' hSw
            try dsimp only at hSw
            go_simp
            first | done | with_reducible rfl
          simp only [Act.put, List.setIfInBounds_toArray, List.set_cons_zero, List.set_cons_succ]
          refine rg_take (i := 2) (v := ?_) rfl (by kernel_rfl) (by kernel_rfl) (by kernel_rfl) (fun _ _ _ h => h) (Or.inl ⟨by kernel_rfl, ?_⟩) (by assumption) ?_
          rotate_left 1
          · intro w' hSw
            try dsimp only at hSw
            go_simp
            first | done | with_reducible rfl
          simp only [Act.put, List.setIfInBounds_toArray, List.set_cons_zero, List.set_cons_succ]
          refine rg_take (i := 3) (v := ?_) rfl (by kernel_rfl) (by kernel_rfl) (by kernel_rfl) (fun _ _ _ h => h) (Or.inl ⟨by kernel_rfl, ?_⟩) (by assumption) ?_
          rotate_left 1
          · intro w' hSw
            try dsimp only at hSw
            go_simp
            first | done | with_reducible rfl
          simp only [Act.put, List.setIfInBounds_toArray, List.set_cons_zero, List.set_cons_succ]
          refine rg_take (i := 4) (v := ?_) rfl (by kernel_rfl) (by kernel_rfl) (by kernel_rfl) (fun _ _ _ h => h) (Or.inl ⟨by kernel_rfl, ?_⟩) (by assumption) ?_
          rotate_left 1
          · intro w' hSw
            try dsimp only at hSw
            go_simp
            first | done | with_reducible rfl
          simp only [Act.put, List.setIfInBounds_toArray, List.set_cons_zero, List.set_cons_succ]
          refine rg_take (i := 5) (v := ?_) rfl (by kernel_rfl) (by kernel_rfl) (by kernel_rfl) (fun _ _ _ h => h) (Or.inl ⟨by kernel_rfl, ?_⟩) (by assumption) ?_
          rotate_left 1
          · intro w' hSw
            try dsimp only at hSw
            go_simp
            first | done | with_reducible rfl
          simp only [Act.put, List.setIfInBounds_toArray, List.set_cons_zero, List.set_cons_succ]
          refine rg_take (i := 6) (v := ?_) rfl (by kernel_rfl) (by kernel_rfl) (by kernel_rfl) (fun _ _ _ h => h) (Or.inl ⟨by kernel_rfl, ?_⟩) (by assumption) ?_
          rotate_left 1
          · intro w' hSw
            try dsimp only at hSw
            go_simp
            first | done | with_reducible rfl
          simp only [Act.put, List.setIfInBounds_toArray, List.set_cons_zero, List.set_cons_succ]
          refine rg_take (i := 7) (v := ?_) rfl (by kernel_rfl) (by kernel_rfl) (by kernel_rfl) (fun _ _ _ h => h) (Or.inl ⟨by kernel_rfl, ?_⟩) (by assumption) ?_
          rotate_left 1
          · intro w' hSw
            try dsimp only at hSw
            go_simp
            first | done | with_reducible rfl
          simp only [Act.put, List.setIfInBounds_toArray, List.set_cons_zero, List.set_cons_succ]
          refine rg_take (i := 8) (v := ?_) rfl (by kernel_rfl) (by kernel_rfl) (by kernel_rfl) (fun _ _ _ h => h) (Or.inl ⟨by kernel_rfl, ?_⟩) (by assumption) ?_
          rotate_left 1
          · intro w' hSw
            try dsimp only at hSw
            go_simp
            first | done | with_reducible rfl
          simp only [Act.put, List.setIfInBounds_toArray, List.set_cons_zero, List.set_cons_succ]
          refine rg_take (i := 9) (v := ?_) rfl (by kernel_rfl) (by kernel_rfl) (by kernel_rfl) (fun _ _ _ h => h) (Or.inl ⟨by kernel_rfl, ?_⟩) (by assumption) ?_
          rotate_left 1
          · intro w' hSw
            try dsimp only at hSw
            go_simp
            first | done | with_reducible rfl
          simp only [Act.put, List.setIfInBounds_toArray, List.set_cons_zero, List.set_cons_succ]
          refine rg_take (i := 10) (v := ?_) rfl (by kernel_rfl) (by kernel_rfl) (by kernel_rfl) (fun _ _ _ h => h) (Or.inl ⟨by kernel_rfl, ?_⟩) (by assumption) ?_
          rotate_left 1
          · intro w' hSw
            try dsimp only at hSw
            go_simp
            first | done | with_reducible rfl
          simp only [Act.put, List.setIfInBounds_toArray, List.set_cons_zero, List.set_cons_succ]
          refine rg_take (i := 11) (v := ?_) rfl (by kernel_rfl) (by kernel_rfl) (by kernel_rfl) (fun _ _ _ h => h) (Or.inl ⟨by kernel_rfl, ?_⟩) (by assumption) ?_
          rotate_left 1
          · intro w' hSw
            try dsimp only at hSw
            go_simp
            first | done | with_reducible rfl
          simp only [Act.put, List.setIfInBounds_toArray, List.set_cons_zero, List.set_cons_succ]
          refine rg_take (i := 12) (v := ?_) rfl (by kernel_rfl) (by kernel_rfl) (by kernel_rfl) (fun _ _ _ h => h) (Or.inl ⟨by kernel_rfl, ?_⟩) (by assumption) ?_
          rotate_left 1
          · intro w' hSw
            try dsimp only at hSw
            go_simp
            first | done | with_reducible rfl
          simp only [Act.put, List.setIfInBounds_toArray, List.set_cons_zero, List.set_cons_succ]
          refine wpAnyH_ready (rs := [13]) (by kernel_rfl) (by simp) ?_
          refine rg_cons rfl (fun K hK => ?_) AllReadyH.nil
          go_simp
          refine (FRS.out _).mono ?_
          rintro e w3 ⟨rfl, rfl⟩
          refine hK.out _ _ hHeld (fun hHeld => ?_)
          clear hK
          try simp only [Act.put, List.setIfInBounds_toArray, List.set_cons_zero, List.set_cons_succ]
          refine rg_take (i := 14) (v := ?_) rfl (by kernel_rfl) (by kernel_rfl) (by kernel_rfl) (fun _ _ _ h => h) (Or.inl ⟨by kernel_rfl, ?_⟩) (by assumption) ?_
          rotate_left 1
          · intro w' hSw
            try dsimp only at hSw
            go_simp
            first | done | with_reducible rfl
          simp only [Act.put, List.setIfInBounds_toArray, List.set_cons_zero, List.set_cons_succ]
          refine wpAnyH_done (by kernel_rfl) ?_ _
          clear hHeld
          cases fb with
          | true =>
            go_wp2_with (fail)
            go_ret2
            exact ⟨by rw [HR.out]; rfl, St.shutR rfl HM.out rfl H2⟩
          | false =>
            go_wp2_with (fail)
            go_ret2
            exact ⟨by rw [HR.out]; rfl, St.shutR rfl HM.out rfl H2⟩
set_option maxRecDepth 100000 in
set_option maxHeartbeats 4000000 in
theorem get_ok (r : RC) (h : ByteArray) (q : Int) {w0 w : World} {F : List Assn} (H : St w0 w (RCx r :: F)) :
    Calls Try.prog 21 #[.pointer (some ⟨r.b, 0, none⟩), .string h, .int .i64 q] w fun e w' => e = .returned (.tuple #[.string (r.get h q).1, .bool (r.get h q).2]) ∧ St w0 w' (RCx r :: F) := by
  obtain ⟨A1, c1, A2, c2, A3, c3, H1⟩ := St.openR H
  have hlen := H1.r4.row_le
  unfold maxLen at hlen
  obtain ⟨m, hmm⟩ : ∃ m, m = r.pl.length := ⟨_, rfl⟩
  have p1 := H1.cell 3 (v := .slice A3 r.pl.length c3) rfl
  rw [← hmm] at p1 hlen H1
  have HM := Lib.hid hmm; clear hmm
  go_enter Try.func21, Try.ntmps21
  go_wp2_with (fail)
  go_loopw [8] (fun iv wr => ∃ k : Nat, k ≤ m ∧ Down iv k ∧ wr = w ∧ ∀ j x, k ≤ j → r.pl[j]? = some x → isP h q x = false) (fun iv _ => downOf iv)
  case atStart => exact ⟨m, Nat.le_refl _, down_start m, rfl, fun j x hj hx => absurd (List.getElem?_eq_some_iff.1 hx).1 (by rw [← HM.out]; omega)⟩
  case round =>
    obtain ⟨k, hk, hdn, rfl, hno⟩ := hrel
    rcases hdn with ⟨rfl, rfl⟩ | ⟨i, rfl, rfl⟩
    · have hl : lastOf (isP h q) r.pl = none := lastOf_none fun x hx => by
        obtain ⟨j, hj⟩ := List.mem_iff_getElem?.1 hx
        exact hno j x (Nat.zero_le _) hj
      have hr : r.get h q = (⟨#[]⟩, false) := by unfold RC.get; rw [hl]
      have HR := Lib.hid hr
      clear hno hl hr
      go_wp2_with (fail)
      go_ret2
      exact ⟨by rw [HR.out]; rfl, H⟩
    · obtain ⟨x, hx⟩ : ∃ x, r.pl[i]? = some x := ⟨_, List.getElem?_eq_getElem (by rw [← HM.out]; omega)⟩
      obtain ⟨g, o, rfl, k0, kk⟩ := rows_get pcell H1.r4 hx HM.out.symm
      have c0 := k0 _ rfl
      have e1 := kk 1 _ rfl
      have e2 := kk 2 _ rfl
      have hiI : (i : Int) < m := by omega
      have ht := tl x.h h
      have hds : Down (.int .i64 ((i : Int) - 1)) i := down_start i
      have hds2 := downOf_eq hds
      have HD := Lib.hid hds; have HD2 := Lib.hid hds2; clear hds hds2 kk k0
      cases hd1 : decide (x.h = h) with
      | false =>
        rw [hd1] at ht
        have hd : isP h q x = false := by unfold isP; rw [hd1]; rfl
        have HN := Lib.hid hno; clear hno
        go_wp2_with (fail)
        refine ⟨⟨i, by omega, HD.out, trivial, fun j y hj hy => ?_⟩, by rw [HD2.out]; simp [downOf, intOf]⟩
        by_cases e : j = i
        · subst e; rw [hx] at hy; cases hy; exact hd
        · exact HN.out j y (by omega) hy
      | true =>
        rw [hd1] at ht
        by_cases hd2 : x.k = q
        · have hd : isP h q x = true := by unfold isP; rw [hd1, decide_eq_true hd2]; rfl
          have hl : lastOf (isP h q) r.pl = some x := lastOf_at hx hd fun j y hj hy => hno j y (by omega) hy
          have hr : r.get h q = (x.x, true) := by unfold RC.get; rw [hl]
          have HR := Lib.hid hr; clear hno hl hr
          have hq : (x.k == q) = true := by simpa using hd2
          go_wp2_with (fail)
          go_ret2
          exact ⟨by rw [HR.out]; rfl, H⟩
        · have hd : isP h q x = false := by unfold isP; rw [hd1, decide_eq_false hd2]; rfl
          have hq : (x.k == q) = false := by rw [beq_eq_false_iff_ne]; exact hd2
          have HN := Lib.hid hno; clear hno
          go_wp2_with (fail)
          refine ⟨⟨i, by omega, HD.out, trivial, fun j y hj hy => ?_⟩, by rw [HD2.out]; simp [downOf, intOf]⟩
          by_cases e : j = i
          · subst e; rw [hx] at hy; cases hy; exact hd
          · exact HN.out j y (by omega) hy
end Go.Proofs.Ytnehdcaobkedpaa.Ca

/- Layer 2: the parser's signs. -/
import Derived.Test.YtkkpcjpdpjpohaaSmA
namespace Go.Proofs.Ytkkpcjpdpjpohaa
open Go.RowKit

theorem infoSign : (Try.prog.info? 112).map (fun i => (i.zero, i.size, i.bytes)) = some (some (.agg #[.int .u8 0, .int .i64 0, .slice none 0 0]), 3, 40) := by kernel_rfl
theorem infoArm : (Try.prog.info? 117).map (fun i => (i.zero, i.size, i.bytes)) = some (some (.agg #[.int .i64 0, .bool false, .slice none 0 0]), 3, 40) := by kernel_rfl
theorem St.newRow {w0 w : World} {L : List Assn} {b : Nat} {cs : Array Value} {e : TypeId} (H : St w0 w (Pt b cs e :: L)) (size n : Nat) (hl : cs.size = n * size) (hn : n ≤ maxLen) :
    St w0 w (Row e size (some ⟨b, 0, none⟩) n n cs.toList :: L) :=
  St.toRow (fr := (0, 0)) H (by simp; omega) (.inl (Nat.le_refl _)) (Nat.le_refl _) hn (by omega) (fun j u h => by simpa using h)
abbrev RowSg (A : Option Addr) (n c : Nat) (xs : List Value) : Assn := Row 112 3 A n c xs
abbrev panic1 : Ending := .panicked [{ v := threw 1, recovered := false }]
/-- how 'form' ends -/
def FormE (e : TypeId) (w0 : World) (F : List Assn) (b : Nat) (s : ByteArray) (o : Option (Tr × Nat)) (x : Ending) (w' : World) : Prop := match o with
  | none => x = panic1 ∧ ∃ at_, St w0 w' (Psr b s at_ :: F)
  | some r => ∃ A c vs L, x = .returned (.slice A r.1.len c) ∧ Hd r.1 vs L ∧ St w0 w' (Psr b s r.2 :: Row e 3 A r.1.len c vs :: (L ++ F))
def FormOK (s : ByteArray) (k : Nat) : Prop := ∀ (b d at_ : Nat) (w0 w : World) (F : List Assn), s.size - at_ < k → at_ ≤ s.size → d ≤ 1000 → St w0 w (Psr b s at_ :: F) →
  Calls Try.prog 36 #[.pointer (some ⟨b, 0, none⟩), .int .i64 d] w (FormE 112 w0 F b s (if 16 < d then none else pr s k false d at_ []))
def ArmsOK (s : ByteArray) (k : Nat) : Prop := ∀ (b d at_ : Nat) (w0 w : World) (F : List Assn), s.size - at_ < k → at_ ≤ s.size → d ≤ 1000 → St w0 w (Psr b s at_ :: F) →
  Calls Try.prog 67 #[.pointer (some ⟨b, 0, none⟩), .int .i64 d] w (FormE 117 w0 F b s (pr s k true d at_ []))
theorem map_app (t sg : Tr) (o : Option (Tr × Nat)) (f : Tr → Tr) (hf : ∀ u, f u = sg.app u) : (o.map fun r => (f r.1, r.2)).map (fun r : Tr × Nat => (t.app r.1, r.2)) = o.map fun r => ((t.app sg).app r.1, r.2) := by
  cases o with
  | none => rfl
  | some r => simp only [Option.map_some, hf, Tr.app_assoc]
theorem St.drop1 {w0 w : World} {A : Assn} {L F : List Assn} (H : St w0 w (A :: (L ++ F))) : St w0 w (A :: F) :=
  St.drop (L := L) (H.perm List.perm_middle.symm)
theorem St.drop2 {w0 w : World} {A : Assn} {L F : List Assn} (H : St w0 w (A :: (L ++ F))) : St w0 w (A :: F) := H.drop1
theorem sh4 (L : List Assn) (P R : Assn) (F : List Assn) : (L ++ (P :: R :: F)).Perm (P :: R :: (L ++ F)) :=
  List.perm_middle.trans (List.Perm.cons _ List.perm_middle)
theorem sh3 (L M F : List Assn) (R : Assn) : (R :: (M ++ (L ++ F))).Perm (L ++ (R :: (M ++ F))) := by
  refine List.Perm.trans ?_ List.perm_middle.symm
  refine List.Perm.cons _ ?_
  rw [← List.append_assoc, ← List.append_assoc]
  exact List.Perm.append_right _ List.perm_append_comm
-- the append of the sign and the round's end. §1 its kind's literal, §2 its number, §3 where its arms lie, §4 their room, §5 the arms, §6 their cells, §7 what they own
-- in the context: HH : St .. (Pt b6 .. :: Psr b s qn :: Row .. :: (M ++ F')); HA1 : Hid (Hd a va La); hq1 : q < qn; hq2 : qn ≤ s.size; HOn
-- §1 what is told, §2 H with p's block in front
-- §1 the literal; §2 its condition in pr
-- §1 the literal, §2 the panic of an empty row, §3 what of it is so
set_option maxRecDepth 100000 in
set_option maxHeartbeats 16000000 in
theorem form_step (s : ByteArray) (hs : s.size ≤ 1099511627776) (k : Nat) (IH : ∀ j, j < k → FormOK s j ∧ ArmsOK s j) : FormOK s k := by
  intro b d at_ w0 w F hk ha hd H
  obtain ⟨o, ho⟩ : ∃ o, o = if 16 < d then none else pr s k false d at_ [] := ⟨_, rfl⟩
  rw [← ho]
  by_cases h16 : 16 < d
  · rw [if_pos h16] at ho
    have HO := Lib.hid ho; clear ho
    have hdI : (d : Int) > 16 := by omega
    go_enter Try.func36, Try.ntmps36
    go_wp2_with (fail)
    refine ⟨rfl, ?_⟩
    rw [HO.out]
    exact ⟨rfl, _, H⟩
  rw [if_neg h16] at ho
  have hdI : ¬ (d : Int) > 16 := by omega
  have HO := Lib.hid ho; clear ho
  obtain ⟨i0, hi, hz0, hz1, hz2⟩ := info_parts infoSign
  go_enter Try.func36, Try.ntmps36
  go_wp2_with (fail)
  go_loopw [5] (fun out wr => ∃ (j : Nat) (t : Tr) (q : Nat) (A : Option Addr) (c : Nat) (vs : List Value) (L : List Assn), j ≤ k ∧ s.size - q < j ∧ q ≤ s.size ∧ t.len ≤ q ∧ Hid (o = (pr s j false d q []).map (fun r => (t.app r.1, r.2))) ∧ out = .slice A t.len c ∧ Hd t vs L ∧ St w0 wr (Psr b s q :: Row 112 3 A t.len c vs :: (L ++ F))) (fun _ wr => s.size - atOf b wr)
  case atStart => exact ⟨k, .nil, at_, none, 0, [], [], Nat.le_refl _, hk, ha, Nat.zero_le _, by show o = _; rw [HO.out]; cases pr s k false d at_ [] <;> rfl, rfl, ⟨rfl, rfl⟩, (H.nilRow 112 3).r2⟩
  case round =>
    clear H HO
    obtain ⟨j, t, q, A, c, vs, L, hjk, hqj, hqs, htq, HO, rfl, HT, H⟩ := hrel
    obtain ⟨j, rfl⟩ : ∃ i, j = i + 1 := ⟨j - 1, by omega⟩
    have HT := Lib.hid HT
    obtain ⟨n, hn⟩ : ∃ n, n = t.len := ⟨_, rfl⟩
    rw [← hn] at H htq ⊢
    have HN := Lib.hid hn; clear hn
    obtain ⟨F', hF'⟩ : ∃ X, X = L ++ F := ⟨_, rfl⟩
    rw [← hF'] at H
    have HF' := Lib.hid hF'; clear hF'
    have ha0 : atOf b wr = q := by unfold atOf; rw [H.cell 1 rfl]; rfl
    have HA := Lib.hid ha0; clear ha0
    go_wp2_with (fail)
    refine (peek_ok b s q hs H).mono ?_
    rintro x w1 ⟨rfl, H1⟩
    clear H
    obtain ⟨ci, hci⟩ : ∃ ci : Int, ci = (pk s q : Int) := ⟨_, rfl⟩
    rw [← hci]
    have HC0 := Lib.hid hci; clear hci
    have H2 := H1.alloc #[.int .u8 ci, .int .i64 0, .slice none 0 0] 112
    obtain ⟨b6, hb6⟩ : ∃ x, x = w1.heap.size := ⟨_, rfl⟩
    go_upto_region 5 with (fail)
    rw [← hb6] at H2 ⊢
    generalize w1.alloc (.cells #[.int .u8 ci, .int .i64 0, .slice none 0 0] 112) = w2 at *
    clear hb6 H1
    have s0 := H2.cell 0 rfl
    have c1 := H2.r2.cell 1 rfl
    by_cases e1 : ci = 117
    · subst e1
      have f1 := H2.r2.frozen 1
      go_upto_region 28 with (fail)
      have H3 : St w0 (w2.setCell ⟨b, 1, none⟩ (.int .i64 ((q : Int) + 1))) (Psr b s (q + 1) :: Pt b6 #[.int .u8 117, .int .i64 0, .slice none 0 0] 112 :: Row 112 3 A n c vs :: F') := H2.r2.set 1 _
      generalize w2.setCell ⟨b, 1, none⟩ (.int .i64 ((q : Int) + 1)) = w3 at *
      clear s0 c1 f1 H2
      have hpk : pk s q = 117 := by have := HC0.out; omega
      have hql := pk_lt (s := s) (i := q) (by omega)
      have hOn : o = (pr s j false d (q + 1) []).map fun r => ((t.app (.sign (pk s q) 0 .nil .nil)).app r.1, r.2) := by
        rw [HO.out, pr, if_pos (by omega)]
        exact map_app _ _ _ _ (fun _ => rfl)
      have HOn := Lib.hid hOn; clear hOn hpk
      obtain ⟨qn, hqn⟩ : ∃ x, x = q + 1 := ⟨_, rfl⟩
      rw [← hqn] at HOn H3
      have hq1 : q < qn := by omega
      have hq2 : qn ≤ s.size := by omega
      clear hqn
      have HA1 : Hid (Hd .nil [] []) := ⟨rfl, rfl⟩
      have HH := (H3.r2.nilRow 117 3).ord 4 [1, 2, 3, 0]
      dsimp only [List.filterMap, List.drop, List.append_nil] at HH
      clear H3
      have p0 := HH.cell 0 rfl
      have p1 := HH.cell 1 rfl
      have p2 := HH.cell 2 rfl
      go_wp2_with (at_builtin; refine wpList_append_st (by rfl) _ _ _ (by rfl) 112 i0 (.agg #[.int .u8 0, .int .i64 0, .slice none 0 0]) 3 40 Try.underlying76 hi hz0 hz1 hz2 rfl (by decide) A n c vs ((HH.r3).more _) (by rfl) ⟨_, 0, none⟩ 1 1 [.int .u8 117, .int .i64 0, .slice none (Tr.len (.nil)) 0] (by rfl) rfl (World.news_of_block (heap_alloc_new _ _)) (fun u hu => by simp at hu; rcases hu with rfl | rfl | rfl <;> rfl) (by unfold maxLen; omega) (by omega) ?_; intro A4 c4 w4 H4)
      clear p0 p1 p2
      have H5 := H4.r2.tail.r2
      have c5 := H5.cell 1 rfl
      go_roundw
      case rel =>
        have hcs : [Value.int .u8 117, .int .i64 0, .slice none (Tr.len (.nil)) 0] = [Value.int .u8 (pk s q : Int), .int .i64 0, .slice none (Tr.len (.nil)) 0] := by rw [← HC0.out]
        rw [hcs, HF'.out] at H5
        refine ⟨j, t.app (.sign (pk s q) 0 (.nil) .nil), qn, A4, c4, _, L ++ (Row 117 3 (none) (Tr.len (.nil)) 0 ([]) :: []), by omega, by omega, hq2, by rw [Tr.len_app, ← HN.out]; simp only [Tr.len]; omega, HOn.out, by rw [Tr.len_app, ← HN.out]; rfl, HT.out.app (Hd.one HA1.out), ?_⟩
        rw [Tr.len_app, ← HN.out]
        simp only [Tr.len, Nat.zero_add]
        refine H5.perm (List.Perm.cons _ (List.Perm.cons _ ?_))
        simp only [List.append_eq, List.nil_append, List.append_assoc, List.cons_append]
        exact sh3 L ([]) F _
      case measure =>
        rw [HA.out]
        have : atOf b w4 = qn := by unfold atOf; rw [c5]; rfl
        omega
    have z1 : (ci == 117) = false := beq_eq_false_iff_ne.2 e1
    by_cases e2 : ci = 113
    · subst e2
      clear z1 e1
      have f1 := H2.r2.frozen 1
      go_upto_region 28 with (fail)
      have H3 : St w0 (w2.setCell ⟨b, 1, none⟩ (.int .i64 ((q : Int) + 1))) (Psr b s (q + 1) :: Pt b6 #[.int .u8 113, .int .i64 0, .slice none 0 0] 112 :: Row 112 3 A n c vs :: F') := H2.r2.set 1 _
      generalize w2.setCell ⟨b, 1, none⟩ (.int .i64 ((q : Int) + 1)) = w3 at *
      clear s0 c1 f1 H2
      have hpk : pk s q = 113 := by have := HC0.out; omega
      have hql := pk_lt (s := s) (i := q) (by omega)
      have hOn : o = (pr s j false d (q + 1) []).map fun r => ((t.app (.sign (pk s q) 0 .nil .nil)).app r.1, r.2) := by
        rw [HO.out, pr, if_pos (by omega)]
        exact map_app _ _ _ _ (fun _ => rfl)
      have HOn := Lib.hid hOn; clear hOn hpk
      obtain ⟨qn, hqn⟩ : ∃ x, x = q + 1 := ⟨_, rfl⟩
      rw [← hqn] at HOn H3
      have hq1 : q < qn := by omega
      have hq2 : qn ≤ s.size := by omega
      clear hqn
      have HA1 : Hid (Hd .nil [] []) := ⟨rfl, rfl⟩
      have HH := (H3.r2.nilRow 117 3).ord 4 [1, 2, 3, 0]
      dsimp only [List.filterMap, List.drop, List.append_nil] at HH
      clear H3
      have p0 := HH.cell 0 rfl
      have p1 := HH.cell 1 rfl
      have p2 := HH.cell 2 rfl
      go_wp2_with (at_builtin; refine wpList_append_st (by rfl) _ _ _ (by rfl) 112 i0 (.agg #[.int .u8 0, .int .i64 0, .slice none 0 0]) 3 40 Try.underlying76 hi hz0 hz1 hz2 rfl (by decide) A n c vs ((HH.r3).more _) (by rfl) ⟨_, 0, none⟩ 1 1 [.int .u8 113, .int .i64 0, .slice none (Tr.len (.nil)) 0] (by rfl) rfl (World.news_of_block (heap_alloc_new _ _)) (fun u hu => by simp at hu; rcases hu with rfl | rfl | rfl <;> rfl) (by unfold maxLen; omega) (by omega) ?_; intro A4 c4 w4 H4)
      clear p0 p1 p2
      have H5 := H4.r2.tail.r2
      have c5 := H5.cell 1 rfl
      go_roundw
      case rel =>
        have hcs : [Value.int .u8 113, .int .i64 0, .slice none (Tr.len (.nil)) 0] = [Value.int .u8 (pk s q : Int), .int .i64 0, .slice none (Tr.len (.nil)) 0] := by rw [← HC0.out]
        rw [hcs, HF'.out] at H5
        refine ⟨j, t.app (.sign (pk s q) 0 (.nil) .nil), qn, A4, c4, _, L ++ (Row 117 3 (none) (Tr.len (.nil)) 0 ([]) :: []), by omega, by omega, hq2, by rw [Tr.len_app, ← HN.out]; simp only [Tr.len]; omega, HOn.out, by rw [Tr.len_app, ← HN.out]; rfl, HT.out.app (Hd.one HA1.out), ?_⟩
        rw [Tr.len_app, ← HN.out]
        simp only [Tr.len, Nat.zero_add]
        refine H5.perm (List.Perm.cons _ (List.Perm.cons _ ?_))
        simp only [List.append_eq, List.nil_append, List.append_assoc, List.cons_append]
        exact sh3 L ([]) F _
      case measure =>
        rw [HA.out]
        have : atOf b w4 = qn := by unfold atOf; rw [c5]; rfl
        omega
    have z2 : (ci == 113) = false := beq_eq_false_iff_ne.2 e2
    by_cases e3 : ci = 98
    · subst e3
      clear z1 z2 e1 e2
      have f1 := H2.r2.frozen 1
      go_upto_region 28 with (fail)
      have H3 : St w0 (w2.setCell ⟨b, 1, none⟩ (.int .i64 ((q : Int) + 1))) (Psr b s (q + 1) :: Pt b6 #[.int .u8 98, .int .i64 0, .slice none 0 0] 112 :: Row 112 3 A n c vs :: F') := H2.r2.set 1 _
      generalize w2.setCell ⟨b, 1, none⟩ (.int .i64 ((q : Int) + 1)) = w3 at *
      clear s0 c1 f1 H2
      have hpk : pk s q = 98 := by have := HC0.out; omega
      have hql := pk_lt (s := s) (i := q) (by omega)
      have hOn : o = (pr s j false d (q + 1) []).map fun r => ((t.app (.sign (pk s q) 0 .nil .nil)).app r.1, r.2) := by
        rw [HO.out, pr, if_pos (by omega)]
        exact map_app _ _ _ _ (fun _ => rfl)
      have HOn := Lib.hid hOn; clear hOn hpk
      obtain ⟨qn, hqn⟩ : ∃ x, x = q + 1 := ⟨_, rfl⟩
      rw [← hqn] at HOn H3
      have hq1 : q < qn := by omega
      have hq2 : qn ≤ s.size := by omega
      clear hqn
      have HA1 : Hid (Hd .nil [] []) := ⟨rfl, rfl⟩
      have HH := (H3.r2.nilRow 117 3).ord 4 [1, 2, 3, 0]
      dsimp only [List.filterMap, List.drop, List.append_nil] at HH
      clear H3
      have p0 := HH.cell 0 rfl
      have p1 := HH.cell 1 rfl
      have p2 := HH.cell 2 rfl
      go_wp2_with (at_builtin; refine wpList_append_st (by rfl) _ _ _ (by rfl) 112 i0 (.agg #[.int .u8 0, .int .i64 0, .slice none 0 0]) 3 40 Try.underlying76 hi hz0 hz1 hz2 rfl (by decide) A n c vs ((HH.r3).more _) (by rfl) ⟨_, 0, none⟩ 1 1 [.int .u8 98, .int .i64 0, .slice none (Tr.len (.nil)) 0] (by rfl) rfl (World.news_of_block (heap_alloc_new _ _)) (fun u hu => by simp at hu; rcases hu with rfl | rfl | rfl <;> rfl) (by unfold maxLen; omega) (by omega) ?_; intro A4 c4 w4 H4)
      clear p0 p1 p2
      have H5 := H4.r2.tail.r2
      have c5 := H5.cell 1 rfl
      go_roundw
      case rel =>
        have hcs : [Value.int .u8 98, .int .i64 0, .slice none (Tr.len (.nil)) 0] = [Value.int .u8 (pk s q : Int), .int .i64 0, .slice none (Tr.len (.nil)) 0] := by rw [← HC0.out]
        rw [hcs, HF'.out] at H5
        refine ⟨j, t.app (.sign (pk s q) 0 (.nil) .nil), qn, A4, c4, _, L ++ (Row 117 3 (none) (Tr.len (.nil)) 0 ([]) :: []), by omega, by omega, hq2, by rw [Tr.len_app, ← HN.out]; simp only [Tr.len]; omega, HOn.out, by rw [Tr.len_app, ← HN.out]; rfl, HT.out.app (Hd.one HA1.out), ?_⟩
        rw [Tr.len_app, ← HN.out]
        simp only [Tr.len, Nat.zero_add]
        refine H5.perm (List.Perm.cons _ (List.Perm.cons _ ?_))
        simp only [List.append_eq, List.nil_append, List.append_assoc, List.cons_append]
        exact sh3 L ([]) F _
      case measure =>
        rw [HA.out]
        have : atOf b w4 = qn := by unfold atOf; rw [c5]; rfl
        omega
    have z3 : (ci == 98) = false := beq_eq_false_iff_ne.2 e3
    by_cases e4 : ci = 111
    · subst e4
      clear z1 z2 z3 e1 e2 e3
      have f1 := H2.r2.frozen 1
      have hpk : pk s q = 111 := by have := HC0.out; omega
      have hql := pk_lt (s := s) (i := q) (by omega)
      have HPK := Lib.hid hpk; clear hpk
      go_upto_region 14 with (fail)
      have H3 : St w0 (w2.setCell ⟨b, 1, none⟩ (.int .i64 ((q : Int) + 1))) (Psr b s (q + 1) :: Pt b6 #[.int .u8 111, .int .i64 0, .slice none 0 0] 112 :: Row 112 3 A n c vs :: F') := H2.r2.set 1 _
      generalize w2.setCell ⟨b, 1, none⟩ (.int .i64 ((q : Int) + 1)) = w3 at *
      clear s0 c1 f1 H2
      go_wp2_with (fail)
      refine (pnumber_ok b s (q + 1) hs (by omega) H3).mono ?_
      intro x w4 hx
      obtain ⟨on, hon⟩ : ∃ on, on = numF s (q + 1) := ⟨_, rfl⟩
      rw [← hon] at hx
      cases on with
      | none =>
        obtain ⟨rfl, at2, H4⟩ := hx
        refine ⟨rfl, ?_⟩
        have hno : o = none := by
          rw [HO.out, pr]
          rw [if_neg (by have := HPK.out; omega), if_pos (by have := HPK.out; omega), ← hon]; rfl
        rw [hno]
        have HL := H4.r2.tail.r2.tail
        rw [HF'.out] at HL
        exact ⟨rfl, _, HL.drop1⟩
      | some r =>
        obtain ⟨rfl, H4⟩ := hx
        obtain ⟨m, qn⟩ := r
        dsimp only at H4 ⊢
        have hrg := numF_range hon.symm
        dsimp only at hrg
        have hq1 : q < qn := by omega
        have hq2 : qn ≤ s.size := hrg.2.2 (by omega)
        have hOn : o = (pr s j false d qn []).map fun r => ((t.app (.sign (pk s q) m .nil .nil)).app r.1, r.2) := by
          rw [HO.out, pr, if_neg (by have := HPK.out; omega), if_pos (by have := HPK.out; omega), ← hon]
          exact map_app _ _ _ _ (fun _ => rfl)
        have HOn := Lib.hid hOn; clear hOn hon hrg H3
        have s1 := H4.r2.cell 1 rfl
        have g1 := H4.r2.frozen 1
        go_upto_region 28 with (fail)
        have H5 := H4.r2.set 1 (.int .i64 m)
        generalize w4.setCell ⟨b6, 1, none⟩ (.int .i64 m) = w5 at *
        clear s1 g1 H4
        have HA1 : Hid (Hd .nil [] []) := ⟨rfl, rfl⟩
        have HH := (H5.nilRow 117 3).ord 4 [1, 2, 3, 0]
        dsimp only [List.filterMap, List.drop, List.append_nil] at HH
        clear H5
        have p0 := HH.cell 0 rfl
        have p1 := HH.cell 1 rfl
        have p2 := HH.cell 2 rfl
        go_wp2_with (at_builtin; refine wpList_append_st (by rfl) _ _ _ (by rfl) 112 i0 (.agg #[.int .u8 0, .int .i64 0, .slice none 0 0]) 3 40 Try.underlying76 hi hz0 hz1 hz2 rfl (by decide) A n c vs ((HH.r3).more _) (by rfl) ⟨_, 0, none⟩ 1 1 [.int .u8 111, .int .i64 m, .slice none (Tr.len (.nil)) 0] (by rfl) rfl (World.news_of_block (heap_alloc_new _ _)) (fun u hu => by simp at hu; rcases hu with rfl | rfl | rfl <;> rfl) (by unfold maxLen; omega) (by omega) ?_; intro A4 c4 w4 H4)
        clear p0 p1 p2
        have H5 := H4.r2.tail.r2
        have c5 := H5.cell 1 rfl
        go_roundw
        case rel =>
          have hcs : [Value.int .u8 111, .int .i64 m, .slice none (Tr.len (.nil)) 0] = [Value.int .u8 (pk s q : Int), .int .i64 m, .slice none (Tr.len (.nil)) 0] := by rw [← HC0.out]
          rw [hcs, HF'.out] at H5
          refine ⟨j, t.app (.sign (pk s q) m (.nil) .nil), qn, A4, c4, _, L ++ (Row 117 3 (none) (Tr.len (.nil)) 0 ([]) :: []), by omega, by omega, hq2, by rw [Tr.len_app, ← HN.out]; simp only [Tr.len]; omega, HOn.out, by rw [Tr.len_app, ← HN.out]; rfl, HT.out.app (Hd.one HA1.out), ?_⟩
          rw [Tr.len_app, ← HN.out]
          simp only [Tr.len, Nat.zero_add]
          refine H5.perm (List.Perm.cons _ (List.Perm.cons _ ?_))
          simp only [List.append_eq, List.nil_append, List.append_assoc, List.cons_append]
          exact sh3 L ([]) F _
        case measure =>
          rw [HA.out]
          have : atOf b w4 = qn := by unfold atOf; rw [c5]; rfl
          omega
    have z4 : (ci == 111) = false := beq_eq_false_iff_ne.2 e4
    by_cases e5 : ci = 102
    · subst e5
      clear z1 z2 z3 z4 e1 e2 e3 e4
      have f1 := H2.r2.frozen 1
      have hpk : pk s q = 102 := by have := HC0.out; omega
      have hql := pk_lt (s := s) (i := q) (by omega)
      have HPK := Lib.hid hpk; clear hpk
      go_upto_region 14 with (fail)
      have H3 : St w0 (w2.setCell ⟨b, 1, none⟩ (.int .i64 ((q : Int) + 1))) (Psr b s (q + 1) :: Pt b6 #[.int .u8 102, .int .i64 0, .slice none 0 0] 112 :: Row 112 3 A n c vs :: F') := H2.r2.set 1 _
      generalize w2.setCell ⟨b, 1, none⟩ (.int .i64 ((q : Int) + 1)) = w3 at *
      clear s0 c1 f1 H2
      go_wp2_with (fail)
      refine (pnumber_ok b s (q + 1) hs (by omega) H3).mono ?_
      intro x w4 hx
      obtain ⟨on, hon⟩ : ∃ on, on = numF s (q + 1) := ⟨_, rfl⟩
      rw [← hon] at hx
      cases on with
      | none =>
        obtain ⟨rfl, at2, H4⟩ := hx
        refine ⟨rfl, ?_⟩
        have hno : o = none := by
          rw [HO.out, pr]
          rw [if_neg (by have := HPK.out; omega), if_pos (by have := HPK.out; omega), ← hon]; rfl
        rw [hno]
        have HL := H4.r2.tail.r2.tail
        rw [HF'.out] at HL
        exact ⟨rfl, _, HL.drop1⟩
      | some r =>
        obtain ⟨rfl, H4⟩ := hx
        obtain ⟨m, qn⟩ := r
        dsimp only at H4 ⊢
        have hrg := numF_range hon.symm
        dsimp only at hrg
        have hq1 : q < qn := by omega
        have hq2 : qn ≤ s.size := hrg.2.2 (by omega)
        have hOn : o = (pr s j false d qn []).map fun r => ((t.app (.sign (pk s q) m .nil .nil)).app r.1, r.2) := by
          rw [HO.out, pr, if_neg (by have := HPK.out; omega), if_pos (by have := HPK.out; omega), ← hon]
          exact map_app _ _ _ _ (fun _ => rfl)
        have HOn := Lib.hid hOn; clear hOn hon hrg H3
        have s1 := H4.r2.cell 1 rfl
        have g1 := H4.r2.frozen 1
        go_upto_region 28 with (fail)
        have H5 := H4.r2.set 1 (.int .i64 m)
        generalize w4.setCell ⟨b6, 1, none⟩ (.int .i64 m) = w5 at *
        clear s1 g1 H4
        have HA1 : Hid (Hd .nil [] []) := ⟨rfl, rfl⟩
        have HH := (H5.nilRow 117 3).ord 4 [1, 2, 3, 0]
        dsimp only [List.filterMap, List.drop, List.append_nil] at HH
        clear H5
        have p0 := HH.cell 0 rfl
        have p1 := HH.cell 1 rfl
        have p2 := HH.cell 2 rfl
        go_wp2_with (at_builtin; refine wpList_append_st (by rfl) _ _ _ (by rfl) 112 i0 (.agg #[.int .u8 0, .int .i64 0, .slice none 0 0]) 3 40 Try.underlying76 hi hz0 hz1 hz2 rfl (by decide) A n c vs ((HH.r3).more _) (by rfl) ⟨_, 0, none⟩ 1 1 [.int .u8 102, .int .i64 m, .slice none (Tr.len (.nil)) 0] (by rfl) rfl (World.news_of_block (heap_alloc_new _ _)) (fun u hu => by simp at hu; rcases hu with rfl | rfl | rfl <;> rfl) (by unfold maxLen; omega) (by omega) ?_; intro A4 c4 w4 H4)
        clear p0 p1 p2
        have H5 := H4.r2.tail.r2
        have c5 := H5.cell 1 rfl
        go_roundw
        case rel =>
          have hcs : [Value.int .u8 102, .int .i64 m, .slice none (Tr.len (.nil)) 0] = [Value.int .u8 (pk s q : Int), .int .i64 m, .slice none (Tr.len (.nil)) 0] := by rw [← HC0.out]
          rw [hcs, HF'.out] at H5
          refine ⟨j, t.app (.sign (pk s q) m (.nil) .nil), qn, A4, c4, _, L ++ (Row 117 3 (none) (Tr.len (.nil)) 0 ([]) :: []), by omega, by omega, hq2, by rw [Tr.len_app, ← HN.out]; simp only [Tr.len]; omega, HOn.out, by rw [Tr.len_app, ← HN.out]; rfl, HT.out.app (Hd.one HA1.out), ?_⟩
          rw [Tr.len_app, ← HN.out]
          simp only [Tr.len, Nat.zero_add]
          refine H5.perm (List.Perm.cons _ (List.Perm.cons _ ?_))
          simp only [List.append_eq, List.nil_append, List.append_assoc, List.cons_append]
          exact sh3 L ([]) F _
        case measure =>
          rw [HA.out]
          have : atOf b w4 = qn := by unfold atOf; rw [c5]; rfl
          omega
    have z5 : (ci == 102) = false := beq_eq_false_iff_ne.2 e5
    by_cases e6 : ci = 63
    · subst e6
      clear z1 z2 z3 z4 z5 e1 e2 e3 e4 e5
      have f1 := H2.r2.frozen 1
      have hpk : pk s q = 63 := by have := HC0.out; omega
      have hql := pk_lt (s := s) (i := q) (by omega)
      have HPK := Lib.hid hpk; clear hpk
      go_upto_region 18 with (fail)
      have H3 : St w0 (w2.setCell ⟨b, 1, none⟩ (.int .i64 ((q : Int) + 1))) (Psr b s (q + 1) :: Pt b6 #[.int .u8 63, .int .i64 0, .slice none 0 0] 112 :: Row 112 3 A n c vs :: F') := H2.r2.set 1 _
      generalize w2.setCell ⟨b, 1, none⟩ (.int .i64 ((q : Int) + 1)) = w3 at *
      clear s0 c1 f1 H2
      go_wp2_with (fail)
      refine (want_ok b s (q + 1) 40 hs (by omega) H3).mono ?_
      intro x w4 hx
      by_cases h40 : pk s (q + 1) = 40
      rotate_left 1
      · rw [beq_eq_false_iff_ne.2 h40] at hx
        obtain ⟨rfl, H4⟩ := hx
        refine ⟨rfl, ?_⟩
        have hno : o = none := by
          rw [HO.out, pr]
          rw [if_neg (by have := HPK.out; omega), if_neg (by have := HPK.out; omega), if_pos (by have := HPK.out; omega), if_pos (.inl h40)]; rfl
        rw [hno]
        have HL := H4.r2.tail.r2.tail
        rw [HF'.out] at HL
        exact ⟨rfl, _, HL.drop1⟩
      rw [beq_iff_eq.2 h40] at hx
      obtain ⟨rfl, H4⟩ := hx
      have hql2 := pk_lt (s := s) (i := q + 1) (by omega)
      have H40 := Lib.hid h40; clear h40 H3
      have hfm := (IH j (by omega)).1 b (d + 1) (q + 1 + 1) w0 w4 _ (by omega) (by omega) (by omega) H4
      obtain ⟨fo, hfo⟩ : ∃ fo, fo = if 16 < d + 1 then none else pr s j false (d + 1) (q + 1 + 1) [] := ⟨_, rfl⟩
      rw [← hfo] at hfm
      go_wp2_with (fail)
      refine hfm.mono ?_
      clear hfm
      intro x w5 hx
      cases fo with
      | none =>
        obtain ⟨rfl, at2, H5⟩ := hx
        refine ⟨rfl, ?_⟩
        have hno : o = none := by
          rw [HO.out, pr]
          rw [if_neg (by have := HPK.out; omega), if_neg (by have := HPK.out; omega), if_pos (by have := HPK.out; omega)]; by_cases hh : 16 < d + 1; (rw [if_pos (.inr hh)]; rfl); (rw [if_neg (fun h => h.elim (fun h => h H40.out) hh)]; rw [if_neg hh] at hfo; rw [← hfo]; rfl)
        rw [hno]
        have HL := H5.r2.tail.r2.tail
        rw [HF'.out] at HL
        exact ⟨rfl, _, HL.drop1⟩
      | some r =>
        obtain ⟨Aa, ca, va, La, rfl, hA1, H5⟩ := hx
        obtain ⟨f, q2⟩ := r
        dsimp only at hA1 H5 ⊢
        have h16b : ¬ 16 < d + 1 := fun h => by rw [if_pos h] at hfo; cases hfo
        rw [if_neg h16b] at hfo
        have hrg := pr_range s j false (d + 1) (q + 1 + 1) [] _ hfo.symm
        dsimp only at hrg
        have hq2s : q2 ≤ s.size := hrg.2 (by omega)
        have hq21 : q + 1 + 1 ≤ q2 := hrg.1
        have HFO := Lib.hid hfo; have HA0 := Lib.hid hA1; have H16b := Lib.hid h16b
        clear hfo hrg hA1 h16b H4
        obtain ⟨fn, hfn⟩ : ∃ x, x = f.len := ⟨_, rfl⟩
        rw [← hfn] at H5 ⊢
        have HFN := Lib.hid hfn; clear hfn
        have H5 := H5.perm (List.Perm.cons _ (List.Perm.cons _ (sh4 La _ _ F')))
        go_wp2_with (fail)
        refine (want_ok b s q2 41 hs hq2s H5).mono ?_
        intro x w6 hx
        by_cases h41 : pk s q2 = 41
        rotate_left 1
        · rw [beq_eq_false_iff_ne.2 h41] at hx
          obtain ⟨rfl, H6⟩ := hx
          refine ⟨rfl, ?_⟩
          have hno : o = none := by
            rw [HO.out, pr]
            rw [if_neg (by have := HPK.out; omega), if_neg (by have := HPK.out; omega), if_pos (by have := HPK.out; omega), if_neg (fun h => h.elim (fun h => h H40.out) H16b.out), ← HFO.out, Option.bind_some, if_pos (.inl h41)]; rfl
          rw [hno]
          have HL := H6.r2.tail.r2.tail.r2.tail.drop2
          rw [HF'.out] at HL
          exact ⟨rfl, _, HL.drop1⟩
        rw [beq_iff_eq.2 h41] at hx
        obtain ⟨rfl, H6⟩ := hx
        have hql3 := pk_lt (s := s) (i := q2) (by omega)
        have H41 := Lib.hid h41; clear h41 H5
        have s0 := H6.r3.cell 0 rfl
        have hOn : o = (pr s j false d (q2 + 1) []).map fun r => ((t.app (.sign (pk s q) 0 (.arm 0 false f .nil) .nil)).app r.1, r.2) := by
          rw [HO.out, pr, if_neg (by have := HPK.out; omega), if_neg (by have := HPK.out; omega), if_pos (by have := HPK.out; omega), if_neg (fun h => h.elim (fun h => h H40.out) H16b.out), ← HFO.out, Option.bind_some, if_neg (fun h => h.elim (fun h => h H41.out) (fun h => absurd (h.1.symm.trans HPK.out) (by decide)))]
          exact map_app _ _ _ _ (fun _ => rfl)
        have HOn := Lib.hid hOn; clear hOn
        have H7 := H6.alloc #[.int .i64 0, .bool false, .slice Aa fn ca] 117
        obtain ⟨b9, hb9⟩ : ∃ x, x = w6.heap.size := ⟨_, rfl⟩
        have s2 := (H7.ord 5 [3, 0, 1, 2, 4]).cell 2 rfl
        have g2 := (H7.ord 5 [3, 0, 1, 2, 4]).frozen 2
        go_upto_region 28 with (fail)
        have H8 := (H7.ord 5 [3, 0, 1, 2, 4]).set 2 (.slice (some ⟨w6.heap.size, 0, none⟩) 1 1)
        dsimp only [List.filterMap, List.drop, List.append_nil] at H8
        simp only [List.append_eq, List.nil_append] at H8
        rw [← hb9] at H8 ⊢
        generalize (w6.alloc (.cells #[.int .i64 0, .bool false, .slice Aa fn ca] 117)).setCell ⟨b6, 2, none⟩ (.slice (some ⟨b9, 0, none⟩) 1 1) = w7 at *
        clear s0 s2 g2 hb9 H6 H7
        obtain ⟨qn, hqn⟩ : ∃ x, x = q2 + 1 := ⟨_, rfl⟩
        rw [← hqn] at HOn H8
        have hq1 : q < qn := by omega
        have hq2 : qn ≤ s.size := by omega
        clear hqn
        rw [HFN.out] at H8
        have HA1 : Hid (Hd (.arm 0 false f .nil) [.int .i64 0, .bool false, .slice Aa f.len ca] (Row 112 3 Aa f.len ca va :: La)) := Hd.one_arm HA0.out
        have HH := (H8.r2.newRow 3 1 (by rfl) (by decide)).r5.r4.r4
        clear H8
        have p0 := HH.cell 0 rfl
        have p1 := HH.cell 1 rfl
        have p2 := HH.cell 2 rfl
        go_wp2_with (at_builtin; refine wpList_append_st (by rfl) _ _ _ (by rfl) 112 i0 (.agg #[.int .u8 0, .int .i64 0, .slice none 0 0]) 3 40 Try.underlying76 hi hz0 hz1 hz2 rfl (by decide) A n c vs ((HH.r3).more _) (by rfl) ⟨_, 0, none⟩ 1 1 [.int .u8 63, .int .i64 0, .slice (some ⟨b9, 0, none⟩) (Tr.len ((.arm 0 false f .nil))) 1] (by rfl) rfl (World.news_of_block (heap_alloc_new _ _)) (fun u hu => by simp at hu; rcases hu with rfl | rfl | rfl <;> rfl) (by unfold maxLen; omega) (by omega) ?_; intro A4 c4 w4 H4)
        clear p0 p1 p2
        have H5 := H4.r2.tail.r2
        have c5 := H5.cell 1 rfl
        go_roundw
        case rel =>
          have hcs : [Value.int .u8 63, .int .i64 0, .slice (some ⟨b9, 0, none⟩) (Tr.len ((.arm 0 false f .nil))) 1] = [Value.int .u8 (pk s q : Int), .int .i64 0, .slice (some ⟨b9, 0, none⟩) (Tr.len ((.arm 0 false f .nil))) 1] := by rw [← HC0.out]
          rw [hcs, HF'.out] at H5
          refine ⟨j, t.app (.sign (pk s q) 0 ((.arm 0 false f .nil)) .nil), qn, A4, c4, _, L ++ (Row 117 3 ((some ⟨b9, 0, none⟩)) (Tr.len ((.arm 0 false f .nil))) 1 ([.int .i64 0, .bool false, .slice Aa f.len ca]) :: (RowSg Aa f.len ca va :: La)), by omega, by omega, hq2, by rw [Tr.len_app, ← HN.out]; simp only [Tr.len]; omega, HOn.out, by rw [Tr.len_app, ← HN.out]; rfl, HT.out.app (Hd.one HA1.out), ?_⟩
          rw [Tr.len_app, ← HN.out]
          simp only [Tr.len, Nat.zero_add]
          refine H5.perm (List.Perm.cons _ (List.Perm.cons _ ?_))
          simp only [List.append_eq, List.nil_append, List.append_assoc, List.cons_append]
          exact sh3 L ((RowSg Aa f.len ca va :: La)) F _
        case measure =>
          rw [HA.out]
          have : atOf b w4 = qn := by unfold atOf; rw [c5]; rfl
          omega
    have z6 : (ci == 63) = false := beq_eq_false_iff_ne.2 e6
    by_cases e7 : ci = 42
    · subst e7
      clear z1 z2 z3 z4 z5 z6 e1 e2 e3 e4 e5 e6
      have f1 := H2.r2.frozen 1
      have hpk : pk s q = 42 := by have := HC0.out; omega
      have hql := pk_lt (s := s) (i := q) (by omega)
      have HPK := Lib.hid hpk; clear hpk
      go_upto_region 18 with (fail)
      have H3 : St w0 (w2.setCell ⟨b, 1, none⟩ (.int .i64 ((q : Int) + 1))) (Psr b s (q + 1) :: Pt b6 #[.int .u8 42, .int .i64 0, .slice none 0 0] 112 :: Row 112 3 A n c vs :: F') := H2.r2.set 1 _
      generalize w2.setCell ⟨b, 1, none⟩ (.int .i64 ((q : Int) + 1)) = w3 at *
      clear s0 c1 f1 H2
      go_wp2_with (fail)
      refine (want_ok b s (q + 1) 40 hs (by omega) H3).mono ?_
      intro x w4 hx
      by_cases h40 : pk s (q + 1) = 40
      rotate_left 1
      · rw [beq_eq_false_iff_ne.2 h40] at hx
        obtain ⟨rfl, H4⟩ := hx
        refine ⟨rfl, ?_⟩
        have hno : o = none := by
          rw [HO.out, pr]
          rw [if_neg (by have := HPK.out; omega), if_neg (by have := HPK.out; omega), if_pos (by have := HPK.out; omega), if_pos (.inl h40)]; rfl
        rw [hno]
        have HL := H4.r2.tail.r2.tail
        rw [HF'.out] at HL
        exact ⟨rfl, _, HL.drop1⟩
      rw [beq_iff_eq.2 h40] at hx
      obtain ⟨rfl, H4⟩ := hx
      have hql2 := pk_lt (s := s) (i := q + 1) (by omega)
      have H40 := Lib.hid h40; clear h40 H3
      have hfm := (IH j (by omega)).1 b (d + 1) (q + 1 + 1) w0 w4 _ (by omega) (by omega) (by omega) H4
      obtain ⟨fo, hfo⟩ : ∃ fo, fo = if 16 < d + 1 then none else pr s j false (d + 1) (q + 1 + 1) [] := ⟨_, rfl⟩
      rw [← hfo] at hfm
      go_wp2_with (fail)
      refine hfm.mono ?_
      clear hfm
      intro x w5 hx
      cases fo with
      | none =>
        obtain ⟨rfl, at2, H5⟩ := hx
        refine ⟨rfl, ?_⟩
        have hno : o = none := by
          rw [HO.out, pr]
          rw [if_neg (by have := HPK.out; omega), if_neg (by have := HPK.out; omega), if_pos (by have := HPK.out; omega)]; by_cases hh : 16 < d + 1; (rw [if_pos (.inr hh)]; rfl); (rw [if_neg (fun h => h.elim (fun h => h H40.out) hh)]; rw [if_neg hh] at hfo; rw [← hfo]; rfl)
        rw [hno]
        have HL := H5.r2.tail.r2.tail
        rw [HF'.out] at HL
        exact ⟨rfl, _, HL.drop1⟩
      | some r =>
        obtain ⟨Aa, ca, va, La, rfl, hA1, H5⟩ := hx
        obtain ⟨f, q2⟩ := r
        dsimp only at hA1 H5 ⊢
        have h16b : ¬ 16 < d + 1 := fun h => by rw [if_pos h] at hfo; cases hfo
        rw [if_neg h16b] at hfo
        have hrg := pr_range s j false (d + 1) (q + 1 + 1) [] _ hfo.symm
        dsimp only at hrg
        have hq2s : q2 ≤ s.size := hrg.2 (by omega)
        have hq21 : q + 1 + 1 ≤ q2 := hrg.1
        have HFO := Lib.hid hfo; have HA0 := Lib.hid hA1; have H16b := Lib.hid h16b
        clear hfo hrg hA1 h16b H4
        obtain ⟨fn, hfn⟩ : ∃ x, x = f.len := ⟨_, rfl⟩
        rw [← hfn] at H5 ⊢
        have HFN := Lib.hid hfn; clear hfn
        have H5 := H5.perm (List.Perm.cons _ (List.Perm.cons _ (sh4 La _ _ F')))
        go_wp2_with (fail)
        refine (want_ok b s q2 41 hs hq2s H5).mono ?_
        intro x w6 hx
        by_cases h41 : pk s q2 = 41
        rotate_left 1
        · rw [beq_eq_false_iff_ne.2 h41] at hx
          obtain ⟨rfl, H6⟩ := hx
          refine ⟨rfl, ?_⟩
          have hno : o = none := by
            rw [HO.out, pr]
            rw [if_neg (by have := HPK.out; omega), if_neg (by have := HPK.out; omega), if_pos (by have := HPK.out; omega), if_neg (fun h => h.elim (fun h => h H40.out) H16b.out), ← HFO.out, Option.bind_some, if_pos (.inl h41)]; rfl
          rw [hno]
          have HL := H6.r2.tail.r2.tail.r2.tail.drop2
          rw [HF'.out] at HL
          exact ⟨rfl, _, HL.drop1⟩
        rw [beq_iff_eq.2 h41] at hx
        obtain ⟨rfl, H6⟩ := hx
        have hql3 := pk_lt (s := s) (i := q2) (by omega)
        have H41 := Lib.hid h41; clear h41 H5
        have s0 := H6.r3.cell 0 rfl
        by_cases hfz : fn = 0
        · have hz : ((fn : Int) == 0) = true := by rw [hfz]; rfl
          have HFZ := Lib.hid hfz; clear hfz
          go_wp2_with (fail)
          refine ⟨rfl, ?_⟩
          have hno : o = none := by
            rw [HO.out, pr]
            rw [if_neg (by have := HPK.out; omega), if_neg (by have := HPK.out; omega), if_pos (by have := HPK.out; omega), if_neg (fun h => h.elim (fun h => h H40.out) H16b.out), ← HFO.out, Option.bind_some, if_pos (.inr ⟨HPK.out, by rw [← HFN.out]; exact HFZ.out⟩)]; rfl
          rw [hno]
          have HL := H6.r2.tail.r2.tail.r2.tail.drop2
          rw [HF'.out] at HL
          exact ⟨rfl, _, HL.drop1⟩
        have hz : ((fn : Int) == 0) = false := beq_eq_false_iff_ne.2 (by omega)
        have HFZ := Lib.hid hfz; clear hfz
        have hOn : o = (pr s j false d (q2 + 1) []).map fun r => ((t.app (.sign (pk s q) 0 (.arm 0 false f .nil) .nil)).app r.1, r.2) := by
          rw [HO.out, pr, if_neg (by have := HPK.out; omega), if_neg (by have := HPK.out; omega), if_pos (by have := HPK.out; omega), if_neg (fun h => h.elim (fun h => h H40.out) H16b.out), ← HFO.out, Option.bind_some, if_neg (fun h => h.elim (fun h => h H41.out) (fun h => HFZ.out (by rw [HFN.out]; exact h.2)))]
          exact map_app _ _ _ _ (fun _ => rfl)
        have HOn := Lib.hid hOn; clear hOn
        have H7 := H6.alloc #[.int .i64 0, .bool false, .slice Aa fn ca] 117
        obtain ⟨b9, hb9⟩ : ∃ x, x = w6.heap.size := ⟨_, rfl⟩
        have s2 := (H7.ord 5 [3, 0, 1, 2, 4]).cell 2 rfl
        have g2 := (H7.ord 5 [3, 0, 1, 2, 4]).frozen 2
        go_upto_region 28 with (fail)
        have H8 := (H7.ord 5 [3, 0, 1, 2, 4]).set 2 (.slice (some ⟨w6.heap.size, 0, none⟩) 1 1)
        dsimp only [List.filterMap, List.drop, List.append_nil] at H8
        simp only [List.append_eq, List.nil_append] at H8
        rw [← hb9] at H8 ⊢
        generalize (w6.alloc (.cells #[.int .i64 0, .bool false, .slice Aa fn ca] 117)).setCell ⟨b6, 2, none⟩ (.slice (some ⟨b9, 0, none⟩) 1 1) = w7 at *
        clear s0 s2 g2 hb9 H6 H7
        obtain ⟨qn, hqn⟩ : ∃ x, x = q2 + 1 := ⟨_, rfl⟩
        rw [← hqn] at HOn H8
        have hq1 : q < qn := by omega
        have hq2 : qn ≤ s.size := by omega
        clear hqn
        rw [HFN.out] at H8
        have HA1 : Hid (Hd (.arm 0 false f .nil) [.int .i64 0, .bool false, .slice Aa f.len ca] (Row 112 3 Aa f.len ca va :: La)) := Hd.one_arm HA0.out
        have HH := (H8.r2.newRow 3 1 (by rfl) (by decide)).r5.r4.r4
        clear H8
        have p0 := HH.cell 0 rfl
        have p1 := HH.cell 1 rfl
        have p2 := HH.cell 2 rfl
        go_wp2_with (at_builtin; refine wpList_append_st (by rfl) _ _ _ (by rfl) 112 i0 (.agg #[.int .u8 0, .int .i64 0, .slice none 0 0]) 3 40 Try.underlying76 hi hz0 hz1 hz2 rfl (by decide) A n c vs ((HH.r3).more _) (by rfl) ⟨_, 0, none⟩ 1 1 [.int .u8 42, .int .i64 0, .slice (some ⟨b9, 0, none⟩) (Tr.len ((.arm 0 false f .nil))) 1] (by rfl) rfl (World.news_of_block (heap_alloc_new _ _)) (fun u hu => by simp at hu; rcases hu with rfl | rfl | rfl <;> rfl) (by unfold maxLen; omega) (by omega) ?_; intro A4 c4 w4 H4)
        clear p0 p1 p2
        have H5 := H4.r2.tail.r2
        have c5 := H5.cell 1 rfl
        go_roundw
        case rel =>
          have hcs : [Value.int .u8 42, .int .i64 0, .slice (some ⟨b9, 0, none⟩) (Tr.len ((.arm 0 false f .nil))) 1] = [Value.int .u8 (pk s q : Int), .int .i64 0, .slice (some ⟨b9, 0, none⟩) (Tr.len ((.arm 0 false f .nil))) 1] := by rw [← HC0.out]
          rw [hcs, HF'.out] at H5
          refine ⟨j, t.app (.sign (pk s q) 0 ((.arm 0 false f .nil)) .nil), qn, A4, c4, _, L ++ (Row 117 3 ((some ⟨b9, 0, none⟩)) (Tr.len ((.arm 0 false f .nil))) 1 ([.int .i64 0, .bool false, .slice Aa f.len ca]) :: (RowSg Aa f.len ca va :: La)), by omega, by omega, hq2, by rw [Tr.len_app, ← HN.out]; simp only [Tr.len]; omega, HOn.out, by rw [Tr.len_app, ← HN.out]; rfl, HT.out.app (Hd.one HA1.out), ?_⟩
          rw [Tr.len_app, ← HN.out]
          simp only [Tr.len, Nat.zero_add]
          refine H5.perm (List.Perm.cons _ (List.Perm.cons _ ?_))
          simp only [List.append_eq, List.nil_append, List.append_assoc, List.cons_append]
          exact sh3 L ((RowSg Aa f.len ca va :: La)) F _
        case measure =>
          rw [HA.out]
          have : atOf b w4 = qn := by unfold atOf; rw [c5]; rfl
          omega
    have z7 : (ci == 42) = false := beq_eq_false_iff_ne.2 e7
    by_cases e8 : ci = 60
    · subst e8
      clear z1 z2 z3 z4 z5 z6 z7 e1 e2 e3 e4 e5 e6 e7
      have f1 := H2.r2.frozen 1
      have hpk : pk s q = 60 := by have := HC0.out; omega
      have hql := pk_lt (s := s) (i := q) (by omega)
      have HPK := Lib.hid hpk; clear hpk
      go_upto_region 26 with (fail)
      have H3 : St w0 (w2.setCell ⟨b, 1, none⟩ (.int .i64 ((q : Int) + 1))) (Psr b s (q + 1) :: Pt b6 #[.int .u8 60, .int .i64 0, .slice none 0 0] 112 :: Row 112 3 A n c vs :: F') := H2.r2.set 1 _
      generalize w2.setCell ⟨b, 1, none⟩ (.int .i64 ((q : Int) + 1)) = w3 at *
      clear s0 c1 f1 H2
      have hfm := (IH j (by omega)).2 b (d + 1) (q + 1) w0 w3 _ (by omega) (by omega) (by omega) H3
      obtain ⟨fo, hfo⟩ : ∃ fo, fo = pr s j true (d + 1) (q + 1) [] := ⟨_, rfl⟩
      rw [← hfo] at hfm
      go_wp2_with (fail)
      refine hfm.mono ?_
      clear hfm
      intro x w5 hx
      cases fo with
      | none =>
        obtain ⟨rfl, at2, H5⟩ := hx
        refine ⟨rfl, ?_⟩
        have hno : o = none := by
          rw [HO.out, pr]
          rw [if_neg (by have := HPK.out; omega), if_neg (by have := HPK.out; omega), if_neg (by have := HPK.out; omega), if_pos HPK.out, ← hfo]; rfl
        rw [hno]
        have HL := H5.r2.tail.r2.tail
        rw [HF'.out] at HL
        exact ⟨rfl, _, HL.drop1⟩
      | some r =>
        obtain ⟨Aa, ca, va, La, rfl, hA1, H5⟩ := hx
        obtain ⟨f, q2⟩ := r
        dsimp only at hA1 H5 ⊢
        have hrg := pr_range s j true (d + 1) (q + 1) [] _ hfo.symm
        dsimp only at hrg
        have hq2s : q2 ≤ s.size := hrg.2 (by omega)
        have hq21 : q + 1 ≤ q2 := hrg.1
        have HFO := Lib.hid hfo; have HA1 := Lib.hid hA1
        clear hfo hrg hA1 H3
        have H5 := H5.perm (List.Perm.cons _ (List.Perm.cons _ (sh4 La _ _ F')))
        have s2 := H5.r3.cell 2 rfl
        have g2 := H5.r3.frozen 2
        go_upto_region 27 with (fail)
        have H6 := (H5.r3.set 2 (.slice Aa f.len ca)).r2
        generalize w5.setCell ⟨b6, 2, none⟩ (.slice Aa f.len ca) = w6 at *
        clear s2 g2 H5
        go_wp2_with (fail)
        refine (want_ok b s q2 62 hs hq2s H6).mono ?_
        intro x w7 hx
        by_cases h62 : pk s q2 = 62
        rotate_left 1
        · rw [beq_eq_false_iff_ne.2 h62] at hx
          obtain ⟨rfl, H7⟩ := hx
          refine ⟨rfl, ?_⟩
          have hno : o = none := by
            rw [HO.out, pr]
            rw [if_neg (by have := HPK.out; omega), if_neg (by have := HPK.out; omega), if_neg (by have := HPK.out; omega), if_pos HPK.out, ← HFO.out, Option.bind_some, if_pos h62]; rfl
          rw [hno]
          have HL := H7.r2.tail.r2.tail.r2.tail.drop2
          rw [HF'.out] at HL
          exact ⟨rfl, _, HL.drop1⟩
        rw [beq_iff_eq.2 h62] at hx
        obtain ⟨rfl, H7⟩ := hx
        have hql3 := pk_lt (s := s) (i := q2) (by omega)
        have hOn : o = (pr s j false d (q2 + 1) []).map fun r => ((t.app (.sign (pk s q) 0 f .nil)).app r.1, r.2) := by
          rw [HO.out, pr, if_neg (by have := HPK.out; omega), if_neg (by have := HPK.out; omega), if_neg (by have := HPK.out; omega), if_pos HPK.out, ← HFO.out, Option.bind_some, if_neg (fun h => h h62)]
          exact map_app _ _ _ _ (fun _ => rfl)
        have HOn := Lib.hid hOn; clear hOn h62 H6
        obtain ⟨qn, hqn⟩ : ∃ x, x = q2 + 1 := ⟨_, rfl⟩
        rw [← hqn] at HOn H7
        have hq1 : q < qn := by omega
        have hq2 : qn ≤ s.size := by omega
        clear hqn
        have HH := H7.r4.r2.r3
        clear H7
        have p0 := HH.cell 0 rfl
        have p1 := HH.cell 1 rfl
        have p2 := HH.cell 2 rfl
        go_wp2_with (at_builtin; refine wpList_append_st (by rfl) _ _ _ (by rfl) 112 i0 (.agg #[.int .u8 0, .int .i64 0, .slice none 0 0]) 3 40 Try.underlying76 hi hz0 hz1 hz2 rfl (by decide) A n c vs ((HH.r3).more _) (by rfl) ⟨_, 0, none⟩ 1 1 [.int .u8 60, .int .i64 0, .slice Aa (Tr.len (f)) ca] (by rfl) rfl (World.news_of_block (heap_alloc_new _ _)) (fun u hu => by simp at hu; rcases hu with rfl | rfl | rfl <;> rfl) (by unfold maxLen; omega) (by omega) ?_; intro A4 c4 w4 H4)
        clear p0 p1 p2
        have H5 := H4.r2.tail.r2
        have c5 := H5.cell 1 rfl
        go_roundw
        case rel =>
          have hcs : [Value.int .u8 60, .int .i64 0, .slice Aa (Tr.len (f)) ca] = [Value.int .u8 (pk s q : Int), .int .i64 0, .slice Aa (Tr.len (f)) ca] := by rw [← HC0.out]
          rw [hcs, HF'.out] at H5
          refine ⟨j, t.app (.sign (pk s q) 0 (f) .nil), qn, A4, c4, _, L ++ (Row 117 3 (Aa) (Tr.len (f)) ca (va) :: La), by omega, by omega, hq2, by rw [Tr.len_app, ← HN.out]; simp only [Tr.len]; omega, HOn.out, by rw [Tr.len_app, ← HN.out]; rfl, HT.out.app (Hd.one HA1.out), ?_⟩
          rw [Tr.len_app, ← HN.out]
          simp only [Tr.len, Nat.zero_add]
          refine H5.perm (List.Perm.cons _ (List.Perm.cons _ ?_))
          simp only [List.append_eq, List.nil_append, List.append_assoc, List.cons_append]
          exact sh3 L (La) F _
        case measure =>
          rw [HA.out]
          have : atOf b w4 = qn := by unfold atOf; rw [c5]; rfl
          omega
    have z8 : (ci == 60) = false := beq_eq_false_iff_ne.2 e8
    have hOn : o = some (t, q) := by
      have := HC0.out
      rw [HO.out, pr, if_neg (by omega), if_neg (by omega), if_neg (by omega), if_neg (by omega), Option.map_some, Tr.app_nil]
    have HOn := Lib.hid hOn; clear hOn e1 e2 e3 e4 e5 e6 e7 e8
    go_wp2_with (fail)
    go_ret
    rw [HOn.out]
    have H3 := H2.tail
    rw [HN.out, HF'.out] at H3
    exact ⟨A, c, vs, L, by rw [HN.out]; rfl, HT.out, H3⟩
end Go.Proofs.Ytkkpcjpdpjpohaa

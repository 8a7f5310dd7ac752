/- Layer 2's reference: a choice's arms; which texts are forms. -/
import Derived.Test.YtpmhjjfcipjnoaaSmK
namespace Go.Proofs.Ytpmhjjfcipjnoaa
open Go.RowKit

def nvs (l : List Nat) : List Value := l.map (fun (x : Nat) => .int .i64 (x : Int))
theorem nvs_length (l : List Nat) : (nvs l).length = l.length := List.length_map ..
theorem nvs_snoc (l : List Nat) (x : Nat) : nvs (l ++ [x]) = nvs l ++ [.int .i64 (x : Int)] := by simp [nvs]
-- the end: §1 what comes, §2 why, §3 H
-- behind the key: §1 any, §2 the key, §3 where ':' is wanted, §4 H's tail, §5 why it ends at the byte, §6 the way on
set_option maxRecDepth 100000 in
set_option maxHeartbeats 8000000 in
theorem rarms_step (s : ByteArray) (hs : s.size ≤ 1099511627776) (k : Nat) (IH : ∀ j, j < k → SkipOK s j ∧ RArmsOK s j) : RArmsOK s k := by
  intro d at_ w0 w F hk ha hd H
  obtain ⟨o, ho⟩ : ∃ o, o = arI s (pr s k true d at_ []) := ⟨_, rfl⟩
  rw [← ho]
  have HO := Lib.hid ho; clear ho
  obtain ⟨i0, hi, hz0, hz1, hz2⟩ := info_parts infoInt
  go_enter Try.func41, Try.ntmps41
  go_wp2_with (fail)
  go_loopw [1, 7] (fun a ks wr => ∃ (j q : Nat) (keys : List Nat) (A : Option Addr) (c : Nat), j ≤ k ∧ s.size - q < j ∧ q ≤ s.size ∧ keys.length ≤ q ∧ Hid (o = arI s (pr s j true d q keys)) ∧ a = .int .i64 q ∧ ks = .slice A keys.length c ∧ St w0 wr (Row 3 1 A keys.length c (nvs keys) :: F)) (fun a _ _ => s.size - (intOf a).toNat)
  case atStart => exact ⟨k, at_, [], none, 0, Nat.le_refl _, hk, ha, Nat.zero_le _, HO.out, rfl, rfl, H.nilRow _ _⟩
  case round =>
    clear H HO
    obtain ⟨j, q, keys, A, c, hjk, hqj, hqs, hkq, HO, rfl, rfl, H⟩ := hrel
    obtain ⟨j, rfl⟩ : ∃ i, j = i + 1 := ⟨j - 1, by omega⟩
    obtain ⟨nl, hnl⟩ : ∃ x, x = keys.length := ⟨_, rfl⟩
    rw [← hnl] at H hkq ⊢
    have HNL := Lib.hid hnl; clear hnl
    by_cases h45 : pk s q = 45
    · have hlt := pk_lt (s := s) (i := q) (by omega)
      have hltI : (q : Int) < s.size := by omega
      have hx0 : ∀ (h : q < s.size), (s[q].toNat : Int) = 45 := fun h => by rw [← pk_in h, h45]; rfl
      have H45 := Lib.hid h45; clear h45
      go_upto_region 15 with (fail)
      clear hx0 hltI
      obtain ⟨q1, hq1⟩ : ∃ q1, q1 = q + 1 := ⟨_, rfl⟩
      have hqI : (q : Int) + 1 = (q1 : Int) := by omega
      rw [hqI]
      have HKEY : Hid ((if pk s q = 45 then some (0, q + 1) else (numF s q).bind fun n => if n.1 ∈ keys then none else some n) = some (0, q1)) := by show _ = _; rw [if_pos H45.out, hq1]
      have hq1s : q1 ≤ s.size := by omega
      have hqq1 : q < q1 := by omega
      clear hqI hq1
      by_cases h58 : pk s (q1) = 58
      rotate_left 1
      · by_cases hl1 : q1 < s.size
        · have hl1I : ((q1 : Nat) : Int) < s.size := by omega
          have hl1J : ¬ (s.size : Int) ≤ ((q1 : Nat) : Int) := by omega
          have hx1 : ∀ (h : q1 < s.size), ((s[q1].toNat : Int) != 58) = true := fun h => by rw [← pk_in h]; exact bne_iff_ne.2 (by omega)
          have H58 := Lib.hid h58; clear h58
          have hno : o = -1 := by
            rw [HO.out, pr, HKEY.out, Option.bind_some]
            rw [if_pos (.inl H58.out)]; rfl
          have HNO := Lib.hid hno; clear hno
          go_wp2_with (fail)
          go_ret
          rw [HNO.out]
          exact ⟨rfl, H.tail⟩
        · have hl1J : (s.size : Int) ≤ ((q1 : Nat) : Int) := by omega
          have H58 := Lib.hid h58; clear h58
          have hno : o = -1 := by
            rw [HO.out, pr, HKEY.out, Option.bind_some]
            rw [if_pos (.inl H58.out)]; rfl
          have HNO := Lib.hid hno; clear hno
          go_wp2_with (fail)
          go_ret
          rw [HNO.out]
          exact ⟨rfl, H.tail⟩
      have hl1 := pk_lt (s := s) (i := q1) (by omega)
      have hl1I : ((q1 : Nat) : Int) < s.size := by omega
      have hl1J : ¬ (s.size : Int) ≤ ((q1 : Nat) : Int) := by omega
      have hx1 : ∀ (h : q1 < s.size), ((s[q1].toNat : Int) != 58) = false := fun h => by rw [← pk_in h, h58]; rfl
      have H58 := Lib.hid h58; clear h58
      have hsk := (IH j (by omega)).1 d (q1 + 1) w0 _ _ (by omega) (by omega) hd H
      obtain ⟨fo, hfo⟩ : ∃ fo, fo = if 16 < d then none else pr s j false d (q1 + 1) [] := ⟨_, rfl⟩
      rw [← hfo] at hsk
      have HFO := Lib.hid hfo; clear hfo
      go_wp2_with (fail)
      refine hsk.mono ?_
      clear hsk H
      rintro x w2 ⟨rfl, H⟩
      cases fo with
      | none =>
        have hsi : skI none = -1 := rfl
        have hno : o = -1 := by
          rw [HO.out, pr, HKEY.out, Option.bind_some]
          by_cases hh : 16 < d; (rw [if_pos (.inr hh)]; rfl); (have hfo := HFO.out; rw [if_neg hh] at hfo; rw [if_neg (fun h => h.elim (fun h => h H58.out) hh), ← hfo]; rfl)
        have HNO := Lib.hid hno; clear hno
        go_wp2_with (fail)
        go_ret
        rw [HNO.out]
        exact ⟨rfl, H.tail⟩
      | some r =>
        obtain ⟨f, e2⟩ := r
        have h16b : ¬ 16 < d := fun h => by have hfo := HFO.out; rw [if_pos h] at hfo; cases hfo
        have hfo := HFO.out
        rw [if_neg h16b] at hfo
        have hrg := pr_range s j false d (q1 + 1) [] _ hfo.symm
        dsimp only at hrg
        have he2 : e2 ≤ s.size := hrg.2 (by omega)
        have he1 : q1 + 1 ≤ e2 := hrg.1
        have H16b := Lib.hid h16b
        have HFO' := Lib.hid hfo
        clear hfo hrg h16b HFO
        have hsi : skI (some (f, e2)) = e2 := rfl
        rw [hsi]
        clear hsi
        have he0 : ¬ (e2 : Int) < 0 := by omega
        by_cases hle : e2 < s.size
        rotate_left 1
        · have hleJ : (s.size : Int) ≤ (e2 : Int) := by omega
          have hpo := pk_out hle
          have HPO := Lib.hid hpo; clear hpo
          have hno : o = -1 := by
            rw [HO.out, pr, HKEY.out, Option.bind_some]
            rw [if_neg (fun h => h.elim (fun h => h H58.out) H16b.out), ← HFO'.out, Option.bind_some, if_pos (.inr (by rw [HPO.out]; decide))]; show (if pk s e2 = 62 then _ else _) = _; rw [HPO.out]; rfl
          have HNO := Lib.hid hno; clear hno
          go_wp2_with (fail)
          go_ret
          rw [HNO.out]
          exact ⟨rfl, H.tail⟩
        have hleI : (e2 : Int) < s.size := by omega
        have hleJ : ¬ (s.size : Int) ≤ (e2 : Int) := by omega
        by_cases h62 : pk s e2 = 62
        · have hx2 : ∀ (h : e2 < s.size), (s[e2].toNat : Int) = 62 := fun h => by rw [← pk_in h, h62]; rfl
          have H62 := Lib.hid h62; clear h62
          have hno : o = (e2 : Int) + 1 := by
            rw [HO.out, pr, HKEY.out, Option.bind_some]
            rw [if_neg (fun h => h.elim (fun h => h H58.out) H16b.out), ← HFO'.out, Option.bind_some, if_pos (.inr (by rw [H62.out]; decide))]; exact if_pos H62.out
          have HNO := Lib.hid hno; clear hno
          go_wp2_with (fail)
          go_ret
          rw [HNO.out]
          exact ⟨rfl, H.tail⟩
        have hx2 : ∀ (h : e2 < s.size), ((s[e2].toNat : Int) == 62) = false := fun h => by rw [← pk_in h]; exact beq_eq_false_iff_ne.2 (by omega)
        have H62 := Lib.hid h62; clear h62
        by_cases h44 : pk s e2 = 44
        · have hx3 : ∀ (h : e2 < s.size), ((s[e2].toNat : Int) != 44) = false := fun h => by rw [← pk_in h, h44]; rfl
          clear h44
          have hno : o = -1 := by
            rw [HO.out, pr, HKEY.out, Option.bind_some]
            rw [if_neg (fun h => h.elim (fun h => h H58.out) H16b.out), ← HFO'.out, Option.bind_some, if_pos (.inl H45.out)]; exact if_neg H62.out
          have HNO := Lib.hid hno; clear hno
          go_wp2_with (fail)
          go_ret
          rw [HNO.out]
          exact ⟨rfl, H.tail⟩
        · have hx3 : ∀ (h : e2 < s.size), ((s[e2].toNat : Int) != 44) = true := fun h => by rw [← pk_in h]; exact bne_iff_ne.2 (by omega)
          clear h44
          have hno : o = -1 := by
            rw [HO.out, pr, HKEY.out, Option.bind_some]
            rw [if_neg (fun h => h.elim (fun h => h H58.out) H16b.out), ← HFO'.out, Option.bind_some, if_pos (.inl H45.out)]; exact if_neg H62.out
          have HNO := Lib.hid hno; clear hno
          go_wp2_with (fail)
          go_ret
          rw [HNO.out]
          exact ⟨rfl, H.tail⟩
    · have hdg := digits_ok s q hs hqs
      obtain ⟨on, hon⟩ : ∃ on, on = numF s q := ⟨_, rfl⟩
      have H45 := Lib.hid h45
      have hslot : ∀ (P : Prop), (q < s.size → (∀ (h : q < s.size), ((s[q].toNat : Int) == 45) = false) → P) → (¬ q < s.size → P) → P := fun P h1 h2 => by
        by_cases h : q < s.size
        · exact h1 h (fun h => by rw [← pk_in h]; exact beq_eq_false_iff_ne.2 (by omega))
        · exact h2 h
      clear h45
      go_upto_region 2 with (fail)
      go_cut [8] (fun v wx => v = .bool false ∧ wr = wx)
      case first =>
        by_cases hlt : q < s.size
        · have hltI : (q : Int) < s.size := by omega
          have hx0 : ∀ (h : q < s.size), ((s[q].toNat : Int) == 45) = false := fun h => by rw [← pk_in h]; exact beq_eq_false_iff_ne.2 (by have := H45.out; omega)
          go_wp2_with (fail)
          go_meet
          exact ⟨rfl, rfl⟩
        · have hltI : ¬ (q : Int) < s.size := by omega
          go_wp2_with (fail)
          go_meet
          exact ⟨rfl, rfl⟩
      case rest =>
      obtain ⟨rfl, rfl⟩ := hcut
      clear hslot
      cases on with
      | none =>
        have hdi : digI s q = -1 := by unfold digI; rw [← hon]
        rw [hdi] at hdg
        obtain ⟨ke, hke⟩ : ∃ x, x = (scan s 6 q 0).2 := ⟨_, rfl⟩
        rw [← hke] at hdg
        have hno : o = -1 := by rw [HO.out, pr, if_neg H45.out, ← hon]; rfl
        have HNO := Lib.hid hno
        clear hdi hke hon hno
        go_wp2_with (go_at_call 40; refine (hdg _).mono ?_; rintro x w1 ⟨rfl, rfl⟩)
        go_ret
        rw [HNO.out]
        exact ⟨rfl, H.tail⟩
      | some r =>
        obtain ⟨kn, q1⟩ := r
        have hdi : digI s q = kn := by unfold digI; rw [← hon]
        have hke : (scan s 6 q 0).2 = q1 := by
          have h := hon
          unfold numF at h
          split at h
          · cases h
          · injection h with h; rw [← h]
        rw [hdi, hke] at hdg
        have hrg := numF_range hon.symm
        dsimp only at hrg
        have hn0 : ¬ (kn : Int) < 0 := by omega
        have hqq1 : q < q1 := by omega
        have hq1s : q1 ≤ s.size := hrg.2.2 (by omega)
        have HNUM := Lib.hid hon
        clear hdi hke hon hrg
        go_wp2_with (go_at_call 40; refine (hdg _).mono ?_; rintro x w1 ⟨rfl, rfl⟩)
        go_loopw [11] (fun i wx => ∃ m : Nat, m ≤ nl ∧ i = .int .i64 m ∧ Hid (∀ y ∈ keys.take m, y ≠ kn) ∧ St w0 wx (Row 3 1 A nl c (nvs keys) :: F)) (fun i _ => nl - (intOf i).toNat)
        case atStart => exact ⟨0, Nat.zero_le _, rfl, fun y hy => by simp at hy, H⟩
        case round =>
          clear H
          obtain ⟨m, hm, rfl, HK, H⟩ := hrel
          by_cases hml : m < nl
          · have hmI : (m : Int) < nl := by omega
            obtain ⟨x, hx⟩ : ∃ x, keys[m]? = some x := ⟨_, List.getElem?_eq_getElem (by rw [← HNL.out]; exact hml)⟩
            obtain ⟨g, og, rfl⟩ := H.row_form (by omega)
            have e0 := H.row_cell m (u := .int .i64 (x : Int)) (by rw [nvs, List.getElem?_map, hx]; rfl)
            have HX := Lib.hid hx; clear hx
            by_cases hkx : x = kn
            · have z : ((x : Int) == (kn : Int)) = true := by rw [hkx]; exact beq_self_eq_true _
              have HKX := Lib.hid hkx; clear hkx
              have hno : o = -1 := by
                rw [HO.out, pr, if_neg H45.out, ← HNUM.out, Option.bind_some, if_pos (by rw [← HKX.out]; exact List.mem_of_getElem? HX.out)]; rfl
              have HNO := Lib.hid hno; clear hno
              go_wp2_with (fail)
              go_ret
              rw [HNO.out]
              exact ⟨rfl, H.tail⟩
            have z : ((x : Int) == (kn : Int)) = false := beq_eq_false_iff_ne.2 (by omega)
            have HKX := Lib.hid hkx; clear hkx
            go_wp2_with (fail)
            go_roundw
            case rel =>
              refine ⟨m + 1, by omega, by go_num, ?_, H⟩
              show ∀ y ∈ keys.take (m + 1), y ≠ kn
              intro y hy
              rw [List.take_add_one, HX.out] at hy
              rcases List.mem_append.1 hy with hy | hy
              · exact HK.out y hy
              · simp at hy; subst hy; exact HKX.out
            case measure => simp [intOf]; omega
          · obtain rfl : m = nl := by omega
            have HKEY : Hid ((if pk s q = 45 then some (0, q + 1) else (numF s q).bind fun n => if n.1 ∈ keys then none else some n) = some (kn, q1)) := by
              show _ = _
              rw [if_neg H45.out, ← HNUM.out, Option.bind_some, if_neg]
              intro hmem
              refine HK.out kn ?_ rfl
              rw [HNL.out, List.take_length]
              exact hmem
            go_upto_region 14 with (at_builtin; refine wpList_append_st (by rfl) _ _ _ (by rfl) 3 i0 (.int .i64 0) 1 8 Try.underlying23 hi hz0 hz1 hz2 rfl (by decide) A m c (nvs keys) (H.more _) (by rfl) ⟨_, 0, none⟩ 1 1 [.int .i64 kn] (by rfl) rfl (World.news_of_block (heap_alloc_new _ _)) (fun u hu => by simp at hu; subst hu; rfl) (by unfold maxLen; omega) (by omega) ?_; intro A9 c9 w4 H4)
            clear H
            have H := H4
            clear H4
            go_upto_region 15 with (fail)
            by_cases h58 : pk s (q1) = 58
            rotate_left 1
            · by_cases hl1 : q1 < s.size
              · have hl1I : ((q1 : Nat) : Int) < s.size := by omega
                have hl1J : ¬ (s.size : Int) ≤ ((q1 : Nat) : Int) := by omega
                have hx1 : ∀ (h : q1 < s.size), ((s[q1].toNat : Int) != 58) = true := fun h => by rw [← pk_in h]; exact bne_iff_ne.2 (by omega)
                have H58 := Lib.hid h58; clear h58
                have hno : o = -1 := by
                  rw [HO.out, pr, HKEY.out, Option.bind_some]
                  rw [if_pos (.inl H58.out)]; rfl
                have HNO := Lib.hid hno; clear hno
                go_wp2_with (fail)
                go_ret
                rw [HNO.out]
                exact ⟨rfl, H.tail⟩
              · have hl1J : (s.size : Int) ≤ ((q1 : Nat) : Int) := by omega
                have H58 := Lib.hid h58; clear h58
                have hno : o = -1 := by
                  rw [HO.out, pr, HKEY.out, Option.bind_some]
                  rw [if_pos (.inl H58.out)]; rfl
                have HNO := Lib.hid hno; clear hno
                go_wp2_with (fail)
                go_ret
                rw [HNO.out]
                exact ⟨rfl, H.tail⟩
            have hl1 := pk_lt (s := s) (i := q1) (by omega)
            have hl1I : ((q1 : Nat) : Int) < s.size := by omega
            have hl1J : ¬ (s.size : Int) ≤ ((q1 : Nat) : Int) := by omega
            have hx1 : ∀ (h : q1 < s.size), ((s[q1].toNat : Int) != 58) = false := fun h => by rw [← pk_in h, h58]; rfl
            have H58 := Lib.hid h58; clear h58
            have hsk := (IH j (by omega)).1 d (q1 + 1) w0 _ _ (by omega) (by omega) hd H
            obtain ⟨fo, hfo⟩ : ∃ fo, fo = if 16 < d then none else pr s j false d (q1 + 1) [] := ⟨_, rfl⟩
            rw [← hfo] at hsk
            have HFO := Lib.hid hfo; clear hfo
            go_wp2_with (fail)
            refine hsk.mono ?_
            clear hsk H
            rintro x w2 ⟨rfl, H⟩
            cases fo with
            | none =>
              have hsi : skI none = -1 := rfl
              have hno : o = -1 := by
                rw [HO.out, pr, HKEY.out, Option.bind_some]
                by_cases hh : 16 < d; (rw [if_pos (.inr hh)]; rfl); (have hfo := HFO.out; rw [if_neg hh] at hfo; rw [if_neg (fun h => h.elim (fun h => h H58.out) hh), ← hfo]; rfl)
              have HNO := Lib.hid hno; clear hno
              go_wp2_with (fail)
              go_ret
              rw [HNO.out]
              exact ⟨rfl, H.tail⟩
            | some r =>
              obtain ⟨f, e2⟩ := r
              have h16b : ¬ 16 < d := fun h => by have hfo := HFO.out; rw [if_pos h] at hfo; cases hfo
              have hfo := HFO.out
              rw [if_neg h16b] at hfo
              have hrg := pr_range s j false d (q1 + 1) [] _ hfo.symm
              dsimp only at hrg
              have he2 : e2 ≤ s.size := hrg.2 (by omega)
              have he1 : q1 + 1 ≤ e2 := hrg.1
              have H16b := Lib.hid h16b
              have HFO' := Lib.hid hfo
              clear hfo hrg h16b HFO
              have hsi : skI (some (f, e2)) = e2 := rfl
              rw [hsi]
              clear hsi
              have he0 : ¬ (e2 : Int) < 0 := by omega
              by_cases hle : e2 < s.size
              rotate_left 1
              · have hleJ : (s.size : Int) ≤ (e2 : Int) := by omega
                have hpo := pk_out hle
                have HPO := Lib.hid hpo; clear hpo
                have hno : o = -1 := by
                  rw [HO.out, pr, HKEY.out, Option.bind_some]
                  rw [if_neg (fun h => h.elim (fun h => h H58.out) H16b.out), ← HFO'.out, Option.bind_some, if_pos (.inr (by rw [HPO.out]; decide))]; show (if pk s e2 = 62 then _ else _) = _; rw [HPO.out]; rfl
                have HNO := Lib.hid hno; clear hno
                go_wp2_with (fail)
                go_ret
                rw [HNO.out]
                exact ⟨rfl, H.tail⟩
              have hleI : (e2 : Int) < s.size := by omega
              have hleJ : ¬ (s.size : Int) ≤ (e2 : Int) := by omega
              by_cases h62 : pk s e2 = 62
              · have hx2 : ∀ (h : e2 < s.size), (s[e2].toNat : Int) = 62 := fun h => by rw [← pk_in h, h62]; rfl
                have H62 := Lib.hid h62; clear h62
                have hno : o = (e2 : Int) + 1 := by
                  rw [HO.out, pr, HKEY.out, Option.bind_some]
                  rw [if_neg (fun h => h.elim (fun h => h H58.out) H16b.out), ← HFO'.out, Option.bind_some, if_pos (.inr (by rw [H62.out]; decide))]; exact if_pos H62.out
                have HNO := Lib.hid hno; clear hno
                go_wp2_with (fail)
                go_ret
                rw [HNO.out]
                exact ⟨rfl, H.tail⟩
              have hx2 : ∀ (h : e2 < s.size), ((s[e2].toNat : Int) == 62) = false := fun h => by rw [← pk_in h]; exact beq_eq_false_iff_ne.2 (by omega)
              have H62 := Lib.hid h62; clear h62
              by_cases h44 : pk s e2 = 44
              rotate_left 1
              · have hx3 : ∀ (h : e2 < s.size), ((s[e2].toNat : Int) != 44) = true := fun h => by rw [← pk_in h]; exact bne_iff_ne.2 (by omega)
                have H44 := Lib.hid h44; clear h44
                have hno : o = -1 := by
                  rw [HO.out, pr, HKEY.out, Option.bind_some]
                  rw [if_neg (fun h => h.elim (fun h => h H58.out) H16b.out), ← HFO'.out, Option.bind_some, if_pos (.inr H44.out)]; exact if_neg H62.out
                have HNO := Lib.hid hno; clear hno
                go_wp2_with (fail)
                go_ret
                rw [HNO.out]
                exact ⟨rfl, H.tail⟩
              have hx3 : ∀ (h : e2 < s.size), ((s[e2].toNat : Int) != 44) = false := fun h => by rw [← pk_in h, h44]; rfl
              have H44 := Lib.hid h44; clear h44
              have hOn : o = arI s (pr s j true d (e2 + 1) (keys ++ [kn])) := by
                rw [HO.out, pr, HKEY.out, Option.bind_some, if_neg (fun h => h.elim (fun h => h H58.out) H16b.out), ← HFO'.out, Option.bind_some, if_neg (fun h => h.elim H45.out (fun h => h H44.out))]
                cases pr s j true d (e2 + 1) (keys ++ [kn]) <;> rfl
              have HOn := Lib.hid hOn; clear hOn
              go_wp2_with (fail)
              go_roundw
              case rel => exact ⟨j, e2 + 1, keys ++ [kn], A9, c9, by omega, by omega, by omega, by rw [List.length_append]; simp only [List.length_cons, List.length_nil]; have := HNL.out; omega, HOn.out, by go_num, by rw [List.length_append, ← HNL.out]; rfl, by rw [List.length_append, ← HNL.out, nvs_snoc]; exact H⟩
              case measure => simp [intOf]; omega
theorem skipper_ok (s : ByteArray) (hs : s.size ≤ 1099511627776) (k : Nat) : SkipOK s k ∧ RArmsOK s k := by
  induction k using Nat.strongRecOn with
  | _ k ih => exact ⟨skip_step s hs k ih, rarms_step s hs k ih⟩
set_option maxHeartbeats 2000000 in
theorem refcheck_ok (s : ByteArray) (hs : s.size ≤ 1099511627776) {w0 w : World} {F : List Assn} (H : St w0 w F) :
    Calls Try.prog 12 #[.string s] w fun x w' => x = .returned (.bool (parseF s).isSome) ∧ St w0 w' F := by
  obtain ⟨o, ho⟩ : ∃ o, o = (parseF s).isSome := ⟨_, rfl⟩
  rw [← ho]
  have HO := Lib.hid ho; clear ho
  by_cases h1 : s.size ≤ 1000
  · have h1I : (s.size : Int) ≤ 1000 := by omega
    have hsk := (skipper_ok s hs (s.size + 1)).1 0 0 w0 w F (by omega) (by omega) (by omega) H
    rw [if_neg (by omega)] at hsk
    obtain ⟨p, hp⟩ : ∃ p, p = pr s (s.size + 1) false 0 0 [] := ⟨_, rfl⟩
    rw [← hp] at hsk
    have hno : o = (skI p == (s.size : Int)) := by
      rw [HO.out, parseF, if_neg (by omega), ← hp]
      cases p with
      | none => symm; exact beq_eq_false_iff_ne.2 (by show (-1 : Int) ≠ _; omega)
      | some r =>
        have hrg := pr_range s _ _ _ _ _ _ hp.symm
        rw [Option.bind_some]
        by_cases hr : r.2 < s.size
        · rw [if_pos hr]; symm; exact beq_eq_false_iff_ne.2 (by show (r.2 : Int) ≠ _; omega)
        · rw [if_neg hr]; symm; exact beq_iff_eq.2 (by show (r.2 : Int) = _; have := hrg.2 (Nat.zero_le _); omega)
    have HNO := Lib.hid hno
    clear hno hp h1
    obtain ⟨z, hz⟩ : ∃ z, z = skI p := ⟨_, rfl⟩
    rw [← hz] at hsk HNO
    clear hz
    go_enter Try.func12, Try.ntmps12
    go_wp2_with (fail)
    refine hsk.mono ?_
    clear hsk
    rintro x w1 ⟨rfl, H1⟩
    go_wp2_with (fail)
    go_ret
    rw [HNO.out]
    exact ⟨rfl, H1⟩
  · have h1I : ¬ (s.size : Int) ≤ 1000 := by omega
    have hno : o = false := by rw [HO.out, parseF, if_pos (by omega)]; rfl
    have HNO := Lib.hid hno; clear hno h1
    go_enter Try.func12, Try.ntmps12
    go_wp2_with (fail)
    go_ret
    rw [HNO.out]
    exact ⟨rfl, H⟩
end Go.Proofs.Ytpmhjjfcipjnoaa

/- ScoreBest: what is picked is the emptiest of equally old segments, and the oldest of equally full ones; over lists of at most 1048576 numbers. -/
import Derived.Test.YtdofeehnclobmaaScBe
namespace Go.Proofs.Ytdofeehnclobmaa.ScoreBest
open Go.RowKit Go.ChangeShapes Go.WideShapes Go.ChangeAt Go.Proofs.Ytdofeehnclobmaa

theorem infoSeg : (Try.prog.info? 28).map (fun i => (i.zero, i.size, i.bytes)) = some (some (.agg #[.int .i64 0, .int .i64 0, .int .i64 0]), 3, 24) := by kernel_rfl
theorem take_snoc {α : Type} (l : List α) (k : Nat) (x : α) (h : l[k]? = some x) : l.take (k + 1) = l.take k ++ [x] := by rw [List.take_add_one, h]; rfl
theorem mod_eq (m x : Int) (hm : 0 < m) (hm2 : m ≤ 1000) : (wrap64 (x.tmod m + m)).tmod m = x % m := by
  have h1 := Int.lt_tmod_of_pos x hm
  have h2 := Int.tmod_lt_of_pos x hm
  have hw : wrap64 (x.tmod m + m) = x.tmod m + m := by unfold wrap64; omega
  rw [hw, Int.tmod_eq_emod_of_nonneg (a := x.tmod m + m) (by omega), Int.add_emod_right]
  rcases Int.le_total 0 x with h0 | h0
  · rw [Int.tmod_eq_emod_of_nonneg h0, Int.emod_emod]
  · have := Int.tmod_eq_emod_of_nonneg (a := -x) (b := m) (by omega)
    rw [Int.neg_tmod] at this
    have e : x.tmod m = -((-x) % m) := by omega
    rw [e]
    have := Int.emod_add_mul_ediv (-x) m
    rw [show -((-x) % m) = x + m * ((-x) / m) by omega, Int.add_mul_emod_self_left]
theorem pickA {w0 w : World} {e : TypeId} {A : Option Addr} {c : Nat} {l : List Int} {F : List Assn} (H : St w0 w (Row e 3 A l.length c (flat (l.map ga)) :: F)) :
    (l.length = 0 ∧ pickN (l.map ga) l.length = -1) ∨ (0 < l.length ∧ ∃ j g o, pickN (l.map ga) l.length = (j : Nat) ∧ j < l.length ∧ A = some ⟨g, o, none⟩ ∧ w.cell? ⟨g, o + j * 3, none⟩ = some (.int .i64 (low l l.length))) := by
  rcases Nat.eq_zero_or_pos l.length with h | h
  · exact .inl ⟨h, by rw [h]; rfl⟩
  · obtain ⟨j, h1, h2, h3⟩ := pick_low l h
    obtain ⟨g, o, hA, e0, _, _⟩ := St.seg (l := l.map ga) (by rw [List.length_map]; exact H) h3
    exact .inr ⟨h, j, g, o, h2, h1, hA, e0⟩
theorem pickB {w0 w : World} {e : TypeId} {A : Option Addr} {c : Nat} {l : List Int} {F : List Assn} (H : St w0 w (Row e 3 A l.length c (flat (l.map gb)) :: F)) :
    (l.length = 0 ∧ pickN (l.map gb) l.length = -1) ∨ (0 < l.length ∧ ∃ j g o, pickN (l.map gb) l.length = (j : Nat) ∧ j < l.length ∧ A = some ⟨g, o, none⟩ ∧ w.cell? ⟨g, o + j * 3 + 2, none⟩ = some (.int .i64 (high l l.length))) := by
  rcases Nat.eq_zero_or_pos l.length with h | h
  · exact .inl ⟨h, by rw [h]; rfl⟩
  · obtain ⟨j, h1, h2, h3⟩ := pick_high l h
    obtain ⟨g, o, hA, _, _, e2⟩ := St.seg (l := l.map gb) (by rw [List.length_map]; exact H) h3
    exact .inr ⟨h, j, g, o, h2, h1, hA, e2⟩
set_option maxHeartbeats 8000000 in
theorem walk (w : World) (A : Option Addr) (n c : Nat) (l : List Int) (hrd : SlRd w A n 1 (l.map fun x => [.int .i64 x])) (hn : n ≤ 1048576) (_hs : sumW (l.map fun x => [.int .i64 x]) ≤ 1048576) (_hok : ∀ x ∈ l, -9223372036854775808 ≤ x ∧ x ≤ 9223372036854775807)
    (B : Option Addr) (m d : Nat) (q : List Int) (hrd2 : SlRd w B m 1 (q.map fun x => [.int .i64 x])) (hm : m ≤ 1048576) (_hs2 : sumW (q.map fun x => [.int .i64 x]) ≤ 1048576) (_hok2 : ∀ x ∈ q, -9223372036854775808 ≤ x ∧ x ≤ 9223372036854775807) :
    Calls Try.prog 7 #[.slice A n c, .slice B m d] w fun r w' => r = .returned (.bool true) ∧ Below w.heap.size w w' := by
  have H0 := St.init w
  have hln : n = l.length := by have := hrd.1; simpa using this.symm
  have hlm : m = q.length := by have := hrd2.1; simpa using this.symm
  subst hln hlm
  have HRD := Lib.hid hrd; have HRD2 := Lib.hid hrd2; clear hrd hrd2
  obtain ⟨i0, hi, hz0, hz1, hz2⟩ := info_parts infoSeg
  go_enter Try.func7, Try.ntmps7
  go_wp2_with (first | (go_at_call 10; refine (speaks_ok H0).mono ?_; rintro x w1 ⟨rfl, H1⟩))
  go_loopw [5, 7, 9, 10] (fun s f i _ wr => ∃ k : Nat, k ≤ l.length ∧ i = .int .i64 k ∧ f = .int .i64 (low l k) ∧ ∃ A' c', s = .slice A' k c' ∧ St w wr [Row 28 3 A' k c' (flat ((l.map ga).take k))]) (fun _ _ i _ _ => l.length - (intOf i).toNat)
  case atStart => exact ⟨0, Nat.zero_le _, rfl, rfl, none, 0, rfl, H1.nilRow _ _⟩
  case round =>
    obtain ⟨k, hk, rfl, rfl, A', c', rfl, H2⟩ := hrel
    by_cases hlt : k < l.length
    · obtain ⟨x, hx⟩ : ∃ x, l[k]? = some x := ⟨_, List.getElem?_eq_getElem hlt⟩
      obtain ⟨hl', hc⟩ := SlRd.src HRD.out H2.below
      obtain ⟨b, o, hA, c0⟩ := hc k (.int .i64 x) (by rw [List.getElem?_map, hx]; rfl)
      subst hA
      have hxd : l.getD k 0 = x := by rw [List.getD_eq_getElem?_getD, hx]; rfl
      obtain ⟨r, hr⟩ : ∃ r, r = x % 101 := ⟨_, rfl⟩
      have he := mod_eq 101 x (by decide) (by decide)
      rw [← hr] at he
      have hr0 : 0 ≤ r := by omega
      have hr1 : r ≤ 100 := by omega
      have ht : flat ((l.map ga).take (k + 1)) = flat ((l.map ga).take k) ++ [.int .i64 r, .int .i64 100, .int .i64 7] := by
        rw [take_snoc (l.map ga) k ⟨r, 100, 7⟩ (by rw [List.getElem?_map, hx, hr]; rfl), flat_snoc]; rfl
      have hlo : low l (k + 1) = if low l k < 0 ∨ r < low l k then r else low l k := by rw [low, hxd, hr]
      have HT := Lib.hid ht; have HR := Lib.hid hr
      clear hc ht hx hxd hr
      by_cases h1 : low l k < 0
      · rw [if_pos (.inl h1)] at hlo
        have hd : decide (low l k < 0) = true := decide_eq_true h1
        have HLO := Lib.hid hlo; clear hlo
        go_wp2_with (at_builtin; refine wpList_append_st (by rfl) _ _ _ (by rfl) 28 i0 (.agg #[.int .i64 0, .int .i64 0, .int .i64 0]) 3 24 Try.underlying36 hi hz0 hz1 hz2 rfl (by decide) A' k c' (flat ((l.map ga).take k)) (H2.more _) (by rfl) ⟨wr.heap.size, 0, none⟩ 1 1 [.int .i64 r, .int .i64 100, .int .i64 7] (by rfl) rfl (World.news_of_block (heap_alloc_new _ _)) (fun u hu => by simp at hu; rcases hu with rfl | rfl | rfl <;> rfl) (by unfold maxLen; omega) (by omega) ?_; intro A4 c4 w4 H4)
        go_roundw
        case rel => exact ⟨k + 1, by omega, by go_num, by rw [HLO.out], A4, c4, rfl, by rw [HT.out]; exact H4⟩
        case measure => simp [intOf]; omega
      · have hd : decide (low l k < 0) = false := decide_eq_false h1
        by_cases h2 : r < low l k
        · rw [if_pos (.inr h2)] at hlo
          have HLO := Lib.hid hlo; clear hlo
          go_wp2_with (at_builtin; refine wpList_append_st (by rfl) _ _ _ (by rfl) 28 i0 (.agg #[.int .i64 0, .int .i64 0, .int .i64 0]) 3 24 Try.underlying36 hi hz0 hz1 hz2 rfl (by decide) A' k c' (flat ((l.map ga).take k)) (H2.more _) (by rfl) ⟨wr.heap.size, 0, none⟩ 1 1 [.int .i64 r, .int .i64 100, .int .i64 7] (by rfl) rfl (World.news_of_block (heap_alloc_new _ _)) (fun u hu => by simp at hu; rcases hu with rfl | rfl | rfl <;> rfl) (by unfold maxLen; omega) (by omega) ?_; intro A4 c4 w4 H4)
          go_roundw
          case rel => exact ⟨k + 1, by omega, by go_num, by rw [HLO.out], A4, c4, rfl, by rw [HT.out]; exact H4⟩
          case measure => simp [intOf]; omega
        · rw [if_neg (by omega)] at hlo
          have HLO := Lib.hid hlo; clear hlo
          go_wp2_with (at_builtin; refine wpList_append_st (by rfl) _ _ _ (by rfl) 28 i0 (.agg #[.int .i64 0, .int .i64 0, .int .i64 0]) 3 24 Try.underlying36 hi hz0 hz1 hz2 rfl (by decide) A' k c' (flat ((l.map ga).take k)) (H2.more _) (by rfl) ⟨wr.heap.size, 0, none⟩ 1 1 [.int .i64 r, .int .i64 100, .int .i64 7] (by rfl) rfl (World.news_of_block (heap_alloc_new _ _)) (fun u hu => by simp at hu; rcases hu with rfl | rfl | rfl <;> rfl) (by unfold maxLen; omega) (by omega) ?_; intro A4 c4 w4 H4)
          go_roundw
          case rel => exact ⟨k + 1, by omega, by go_num, by rw [HLO.out], A4, c4, rfl, by rw [HT.out]; exact H4⟩
          case measure => simp [intOf]; omega
    · have hkn : k = l.length := by omega
      subst hkn
      have ht : (l.map ga).take l.length = l.map ga := List.take_of_length_le (by simp)
      rw [ht] at H2
      clear ht hlt
      go_wp2_with (fail)
      go_loopw [6, 8, 11, 12] (fun s f i _ wr => ∃ k : Nat, k ≤ q.length ∧ i = .int .i64 k ∧ f = .int .i64 (high q k) ∧ ∃ A2 c2, s = .slice A2 k c2 ∧ St w wr [Row 28 3 A2 k c2 (flat ((q.map gb).take k)), Row 28 3 A' l.length c' (flat (l.map ga))]) (fun _ _ i _ _ => q.length - (intOf i).toNat)
      case atStart => exact ⟨0, Nat.zero_le _, rfl, rfl, none, 0, rfl, H2.nilRow _ _⟩
      case round =>
        obtain ⟨k, hk, rfl, rfl, A2, c2, rfl, H3⟩ := hrel
        by_cases hlt : k < q.length
        · obtain ⟨x, hx⟩ : ∃ x, q[k]? = some x := ⟨_, List.getElem?_eq_getElem hlt⟩
          obtain ⟨hl', hc⟩ := SlRd.src HRD2.out H3.below
          obtain ⟨b, o, hA, c0⟩ := hc k (.int .i64 x) (by rw [List.getElem?_map, hx]; rfl)
          subst hA
          have hxd : q.getD k 0 = x := by rw [List.getD_eq_getElem?_getD, hx]; rfl
          obtain ⟨r, hr⟩ : ∃ r, r = x % 1000 := ⟨_, rfl⟩
          have he := mod_eq 1000 x (by decide) (by decide)
          rw [← hr] at he
          have hr0 : 0 ≤ r := by omega
          have hr1 : r ≤ 999 := by omega
          have ht : flat ((q.map gb).take (k + 1)) = flat ((q.map gb).take k) ++ [.int .i64 30, .int .i64 100, .int .i64 r] := by
            rw [take_snoc (q.map gb) k ⟨30, 100, r⟩ (by rw [List.getElem?_map, hx, hr]; rfl), flat_snoc]; rfl
          have hlo : high q (k + 1) = if r ≤ high q k then high q k else r := by rw [high, hxd, hr]
          have hmx : (if high q k < r then r else high q k) = high q (k + 1) := by
            rw [hlo]
            by_cases h : r ≤ high q k
            · rw [if_neg (by omega), if_pos h]
            · rw [if_pos (by omega), if_neg h]
          have HT := Lib.hid ht; have HR := Lib.hid hr
          clear hc ht hx hxd hr hlo
          go_wp2_with (at_builtin; refine wpList_append_st (by rfl) _ _ _ (by rfl) 28 i0 (.agg #[.int .i64 0, .int .i64 0, .int .i64 0]) 3 24 Try.underlying36 hi hz0 hz1 hz2 rfl (by decide) A2 k c2 (flat ((q.map gb).take k)) (H3.more _) (by rfl) ⟨wr.heap.size, 0, none⟩ 1 1 [.int .i64 30, .int .i64 100, .int .i64 r] (by rfl) rfl (World.news_of_block (heap_alloc_new _ _)) (fun u hu => by simp at hu; rcases hu with rfl | rfl | rfl <;> rfl) (by unfold maxLen; omega) (by omega) ?_; intro A4 c4 w4 H4)
          go_roundw
          case rel => exact ⟨k + 1, by omega, by go_num, rfl, A4, c4, rfl, by rw [HT.out]; exact H4⟩
          case measure => simp [intOf]; omega
        · have hkn : k = q.length := by omega
          subst hkn
          have ht : (q.map gb).take q.length = q.map gb := List.take_of_length_le (by simp)
          rw [ht] at H3
          clear ht hlt
          have hp1 := pick_ok A' c' (l.map ga) (w0 := w) (w := wr) (F := [Row 28 3 A2 q.length c2 (flat (q.map gb))]) (by rw [List.length_map]; omega) (by rw [List.length_map]; exact H3.r2)
          rw [List.length_map] at hp1
          have HP1 := Lib.hid hp1; clear hp1
          go_wp2_with (fail)
          refine HP1.out.mono ?_
          rintro e w5 ⟨rfl, H5⟩
          have hp2 := pick_ok A2 c2 (q.map gb) (w0 := w) (w := w5) (F := [Row 28 3 A' l.length c' (flat (l.map ga))]) (by rw [List.length_map]; omega) (by rw [List.length_map]; exact H5.r2)
          rw [List.length_map] at hp2
          have HP2 := Lib.hid hp2; clear hp2
          go_wp2_with (fail)
          refine HP2.out.mono ?_
          rintro e w6 ⟨rfl, H6⟩
          have ja := pickA H6.r2
          have jb := pickB H6
          clear H2 H3 H5
          rcases ja with ⟨z0, z1⟩ | ⟨z0, j, g, o, z1, z2, z3, z4⟩
          · rcases jb with ⟨y0, y1⟩ | ⟨y0, j', g', o', y1, y2, y3, y4⟩
            · rw [z1, y1]
              have za : ((l.length : Int) == 0) = true := by simpa using z0
              have zc := Lib.hid z0; clear z0 z1
              have ya : ((q.length : Int) == 0) = true := by simpa using y0
              have yc := Lib.hid y0; clear y0 y1
              go_wp2_with (fail)
              go_ret
              exact ⟨rfl, H6.below⟩
            · rw [z1, y1]; subst y3
              have za : ((l.length : Int) == 0) = true := by simpa using z0
              have zc := Lib.hid z0; clear z0 z1
              have ya : ((q.length : Int) == 0) = false := by rw [beq_eq_false_iff_ne]; omega
              have yb : decide ((q.length : Int) > 0) = true := decide_eq_true (by omega)
              have yb' : decide (0 < q.length) = true := decide_eq_true (by omega)
              clear y1
              go_wp2_with (fail)
              go_ret
              exact ⟨rfl, H6.below⟩
          · rcases jb with ⟨y0, y1⟩ | ⟨y0, j', g', o', y1, y2, y3, y4⟩
            · rw [z1, y1]; subst z3
              have za : ((l.length : Int) == 0) = false := by rw [beq_eq_false_iff_ne]; omega
              have zb : decide ((l.length : Int) > 0) = true := decide_eq_true (by omega)
              have zb' : decide (0 < l.length) = true := decide_eq_true (by omega)
              clear z1
              have ya : ((q.length : Int) == 0) = true := by simpa using y0
              have yc := Lib.hid y0; clear y0 y1
              go_wp2_with (fail)
              go_ret
              exact ⟨rfl, H6.below⟩
            · rw [z1, y1]; subst z3 y3
              have za : ((l.length : Int) == 0) = false := by rw [beq_eq_false_iff_ne]; omega
              have zb : decide ((l.length : Int) > 0) = true := decide_eq_true (by omega)
              have zb' : decide (0 < l.length) = true := decide_eq_true (by omega)
              clear z1
              have ya : ((q.length : Int) == 0) = false := by rw [beq_eq_false_iff_ne]; omega
              have yb : decide ((q.length : Int) > 0) = true := decide_eq_true (by omega)
              have yb' : decide (0 < q.length) = true := decide_eq_true (by omega)
              clear y1
              go_wp2_with (fail)
              go_ret
              exact ⟨rfl, H6.below⟩
theorem own : ownKnob Try.prog.godebug = none := by kernel_rfl
theorem laidOut : laidOutB Try.prog = true := by kernel_rfl
theorem readable : ∀ t ∈ Try.f7.params.toList, Try.prog.readableRec t = true ∧ t < Try.prog.types.size := by
  intro t ht
  rw [Try.params7] at ht
  simp only [List.mem_cons, List.not_mem_nil, or_false] at ht
  rcases ht with rfl | rfl
  all_goals exact ⟨by kernel_rfl, of_decide_eq_true (by kernel_rfl)⟩
theorem contract (H : Type) (enc : TypeId × Value → H) (W : World) (base : Nat) (args : Array Value) (ds gs : List (DataW H)) (before : List MemPlace)
    (hval : ∀ (j : Nat) t v, Try.f7.params[j]? = some t → args[j]? = some v → Value.okWide Try.prog W .any base t v)
    (hW : DataW.Whole enc Try.prog Try.f7.params.toList Rows.scoreBestSpec.vars false W args.toList ds gs before) (hk : Rows.uptoSmall H (ds ++ gs) = true) :
    Calls Try.prog 7 args W fun e W' => ∃ v, e = .returned v ∧ Rows.scoreBestSpec.post enc Try.prog Try.f7 false true false false W args v W' := by
  have hW' := hW
  obtain ⟨p, q, hA0, hV, rfl, _, _⟩ := hW
  have hA : DataW.TrodAll enc Try.prog W 0 (fun _ => true) true Try.f7.params.toList args.toList ds p := hA0
  rw [Try.params7] at hA hval
  obtain ⟨v0, vs0, d0, ds0, p0, q0, hargs, rfl, rfl, h0, r0⟩ := trodAll_cons hA
  obtain ⟨v1, vs1, d1, ds1, p1, q1, rfl, rfl, rfl, h1, r1⟩ := trodAll_cons r0
  obtain ⟨rfl, rfl, rfl⟩ := trodAll_nil r1
  obtain rfl : args = #[v0, v1] := by cases args; simp_all
  obtain ⟨rfl, rfl⟩ := trodVars_none hV
  clear hA0
  have hk2 : Rows.uptoBulkAll _ ≤ 1048576 := of_decide_eq_true hk
  rw [List.append_nil] at hk2
  obtain ⟨fuel0, hf0⟩ := h0
  obtain ⟨A0, n0, c0, hv0⟩ := okWide_slice Try.underlying40 (hval 0 40 v0 rfl rfl)
  subst hv0
  obtain ⟨A0', n0', c0', rows0, hc0, hn0, hrd0, hrow0, hbulk0⟩ := trod_slice_flat (ks := [.int .i64]) (m := 8) Try.underlying40 (by kernel_rfl) (by kernel_rfl) (by decide) hf0
  dsimp only at hbulk0
  obtain ⟨rfl, rfl, rfl⟩ : A0' = A0 ∧ n0' = n0 ∧ c0' = c0 := by simp [Value.cells] at hc0; simp [hc0]
  obtain ⟨l, rfl, hok0⟩ := rows_map (fun x : Int => [.int .i64 x]) (fun x : Int => -9223372036854775808 ≤ x ∧ x ≤ 9223372036854775807) rows0 (fun row hr => of_row_int row (hrow0 row hr))
  obtain ⟨fuel1, hf1⟩ := h1
  obtain ⟨A1, n1, c1, hv1⟩ := okWide_slice Try.underlying40 (hval 1 40 v1 rfl rfl)
  subst hv1
  obtain ⟨A1', n1', c1', rows1, hc1, hn1, hrd1, hrow1, hbulk1⟩ := trod_slice_flat (ks := [.int .i64]) (m := 8) Try.underlying40 (by kernel_rfl) (by kernel_rfl) (by decide) hf1
  dsimp only at hbulk1
  obtain ⟨rfl, rfl, rfl⟩ : A1' = A1 ∧ n1' = n1 ∧ c1' = c1 := by simp [Value.cells] at hc1; simp [hc1]
  obtain ⟨q, rfl, hok1⟩ := rows_map (fun x : Int => [.int .i64 x]) (fun x : Int => -9223372036854775808 ≤ x ∧ x ≤ 9223372036854775807) rows1 (fun row hr => of_row_int row (hrow1 row hr))
  refine (walk W A0' n0' c0' l hrd0 (by
    have h1 := len_le_sum (ks := [.int .i64]) _ hrow0 (by decide)
    have h2 := hrd0.1
    simp only [Rows.uptoBulkAll] at hk2
    omega) (by
    simp only [Rows.uptoBulkAll] at hk2
    omega) hok0 A1' n1' c1' q hrd1 (by
    have h1 := len_le_sum (ks := [.int .i64]) _ hrow1 (by decide)
    have h2 := hrd1.1
    simp only [Rows.uptoBulkAll] at hk2
    omega) (by
    simp only [Rows.uptoBulkAll] at hk2
    omega) hok1).mono fun e W' ⟨he, hb⟩ => ?_
  exact ⟨_, he, law_post (tb := 4) laidOut readable rfl Try.underlying4 rfl hW' rfl rfl rfl hb⟩
set_option maxRecDepth 100000 in
theorem lifted (os : Os) (started : os.Started) (H : Type) (enc : TypeId × Value → H) (F : Stop.Interp) :
    ReturnsInHanded {} Try.checked os 7 .any ((Rows.OpenSpec.upto Rows.scoreBestSpec).pre6 enc Try.prog Try.f7 Rows.scoreBestUptoRow.domain false) (((Rows.OpenSpec.upto Rows.scoreBestSpec).at F).post enc Try.prog Try.f7 false true false false) := by
  refine returnsInHanded_of_cond (C := Try.checked) (s := Rows.OpenSpec.upto Rows.scoreBestSpec) (k := Rows.uptoSmall) rfl own started (by kernel_rfl) Try.func7
    (OpenSpec.witness (enc := enc) (C := Try.checked) (s := Rows.OpenSpec.upto Rows.scoreBestSpec) (k := Rows.uptoSmall) rfl false ⟨#[], #[.slice none 0 0, .slice none 0 0], []⟩ 8 (by kernel_rfl) (by kernel_rfl) (by kernel_rfl)
      (x := ([.nil, .nil], [], [])) (by kernel_rfl) rfl (by kernel_rfl)) ?_
  intro W base args ds gs before hval hW _ hk _
  exact contract H enc W base args ds gs before hval hW hk
theorem proved : Rows.ScoreBestUptoSaid :=
  OpenClaim.holds_of_cond 7 Try.f7 rfl rfl rfl rfl rfl rfl rfl ⟨rfl, rfl, rfl, rfl, rfl⟩ rfl rfl rfl rfl rfl (by kernel_rfl) Try.func7 (by kernel_rfl)
    (of_decide_eq_true (by kernel_rfl)) (by unfold Func.isWrapper; first | (rw [if_pos (by decide +kernel)]; kernel_rfl) | (rw [if_neg (by decide +kernel)]; exact ⟨rfl, rfl⟩))
    (fun os started H enc _ F => lifted os started H enc F)
#print axioms proved

end Go.Proofs.Ytdofeehnclobmaa.ScoreBest

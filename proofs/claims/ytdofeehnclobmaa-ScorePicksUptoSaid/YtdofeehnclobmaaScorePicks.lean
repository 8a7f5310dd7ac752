/- ScorePicks: which of any segments is picked is the document's answer, and the segments stay; over lists of at most 1048576 numbers. -/
import Derived.Test.YtdofeehnclobmaaScK
namespace Go.Proofs.Ytdofeehnclobmaa.ScorePicks
open Go.RowKit Go.ChangeShapes Go.WideShapes Go.ChangeAt Go.Proofs.Ytdofeehnclobmaa

theorem infoSeg : (Try.prog.info? 28).map (fun i => (i.zero, i.size, i.bytes)) = some (some (.agg #[.int .i64 0, .int .i64 0, .int .i64 0]), 3, 24) := by kernel_rfl
theorem take_snoc {α : Type} (l : List α) (k : Nat) (x : α) (h : l[k]? = some x) : l.take (k + 1) = l.take k ++ [x] := by rw [List.take_add_one, h]; rfl
set_option maxHeartbeats 8000000 in
theorem walk (w : World) (A : Option Addr) (n c : Nat) (l : List Seg) (hrd : SlRd w A n 3 (l.map Seg.cells)) (hn : n ≤ 1048576) (_hs : sumW (l.map Seg.cells) ≤ 1048576) (_hok : ∀ x ∈ l, Seg.ok x) :
    Calls Try.prog 6 #[.slice A n c] w fun r w' => r = .returned (.bool true) ∧ Below w.heap.size w w' := by
  have H0 := St.init w
  have hln : n = l.length := by have := hrd.1; simpa using this.symm
  have HRD := Lib.hid hrd; have HN := Lib.hid hln; clear hrd hln
  obtain ⟨i0, hi, hz0, hz1, hz2⟩ := info_parts infoSeg
  go_enter Try.func6, Try.ntmps6
  go_wp2_with (first | (go_at_call 10; refine (speaks_ok H0).mono ?_; rintro x w1 ⟨rfl, H1⟩))
  go_loopw [3, 4, 5, 6, 7] (fun s b q i _ wr => ∃ k : Nat, k ≤ n ∧ i = .int .i64 k ∧ b = .int .i64 (pickN l k) ∧ (∃ f, q = .float .f64 f ∧ f < 2 ^ 64 ∧ (0 ≤ pickN l k → tkey f = bk (l.getD (pickN l k).toNat segd)))  ∧ ∃ A' c', s = .slice A' k c' ∧ St w wr [Row 28 3 A' k c' (flat (l.take k))]) (fun _ _ _ i _ _ => n - (intOf i).toNat)
  case atStart => exact ⟨0, Nat.zero_le _, rfl, rfl, ⟨0, rfl, by decide, fun h => absurd h (by show ¬ (0 : Int) ≤ -1; decide)⟩, none, 0, rfl, H1.nilRow _ _⟩
  case round =>
    obtain ⟨k, hk, rfl, rfl, ⟨f, rfl, hf1, hf2⟩, A', c', rfl, H2⟩ := hrel
    by_cases hlt : k < n
    · obtain ⟨x, hx⟩ : ∃ x, l[k]? = some x := ⟨_, List.getElem?_eq_getElem (by rw [← HN.out]; exact hlt)⟩
      obtain ⟨b, o, hA, hb, hd0, hcell⟩ := SlRd.at HRD.out H2.below (i := k) (row := x.cells) (by rw [List.getElem?_map, hx]; rfl)
      have hc0 := hd0 _ rfl
      have hc1 := hcell 1 _ rfl
      have hc2 := hcell 2 _ rfl
      subst hA
      clear hcell hd0
      have HF := Lib.hid hf2; have HX := Lib.hid hx; have H2' := Lib.hid H2; clear hf2 hx
      go_wp2_with (fail)
      have HK : ∀ w' L, St w w' L → w'.cell? ⟨b, o + k * 3, none⟩ = some (.int .i64 x.live) ∧ w'.cell? ⟨b, o + k * 3 + 1, none⟩ = some (.int .i64 x.size) ∧ w'.cell? ⟨b, o + k * 3 + 2, none⟩ = some (.int .i64 x.age) := fun w' L H =>  ⟨(H.old (a := ⟨b, o + k * 3, none⟩) hb).trans ((H2'.out.old (a := ⟨b, o + k * 3, none⟩) hb).symm.trans hc0), (H.old (a := ⟨b, o + k * 3 + 1, none⟩) hb).trans ((H2'.out.old (a := ⟨b, o + k * 3 + 1, none⟩) hb).symm.trans hc1), (H.old (a := ⟨b, o + k * 3 + 2, none⟩) hb).trans ((H2'.out.old (a := ⟨b, o + k * 3 + 2, none⟩) hb).symm.trans hc2)⟩
      have HKK := Lib.hid HK; clear HK hc0 hc1 hc2
      have H3 := (H2.alloc #[.int .i64 x.live, .int .i64 x.size, .int .i64 x.age] 28).drew
      go_region_held3 (fun w' => w'.cell? ⟨b, o + k * 3, none⟩ = some (.int .i64 x.live) ∧ w'.cell? ⟨b, o + k * 3 + 1, none⟩ = some (.int .i64 x.size) ∧ w'.cell? ⟨b, o + k * 3 + 2, none⟩ = some (.int .i64 x.age)) (first | exact HKK.out _ _ H2.drew | exact HKK.out _ _ H3 | exact HKK.out _ _ H4)  (first | (refine step_append_st (by rfl) _ _ _ (by rfl) 28 i0 (.agg #[.int .i64 0, .int .i64 0, .int .i64 0]) 3 24 Try.underlying36 hi hz0 hz1 hz2 rfl (by decide) A' k c' (flat (l.take k)) H3.r2 (by rfl) ⟨wr.heap.size, 0, none⟩ 1 1 x.cells (by rfl) rfl (World.news_of_block H3.block) (fun u hu => by simp [Seg.cells] at hu; rcases hu with rfl | rfl | rfl <;> rfl) (by unfold maxLen; omega) (by omega) ?_; intro A4 c4 w4 H4))
      have H5 := H4.r2.tail
      rw [← flat_snoc, ← take_snoc l k x HX.out] at H5
      clear H2 H3 H4
      generalize wr.heap.size = bx at *
      go_wp2_with (fail)
      go_region_held3 (fun w' => w'.cell? ⟨b, o + k * 3, none⟩ = some (.int .i64 x.live) ∧ w'.cell? ⟨b, o + k * 3 + 1, none⟩ = some (.int .i64 x.size) ∧ w'.cell? ⟨b, o + k * 3 + 2, none⟩ = some (.int .i64 x.age)) (first | exact HKK.out _ _ H5.drew | exact HKK.out _ _ (H5.drewN _))  (first | (go_at_call 14; refine (refben_ok _ _ _ _).mono ?_; rintro q w6 ⟨v, hv, rfl, m, rfl⟩; have HV := Lib.hid hv; clear hv))
      have H6 := H5.drewN (1 + m)
      generalize w4.drewN (1 + m) = w7 at *
      obtain ⟨p1, p2, p3⟩ := pickN_lt l k
      have hkd : l.getD k segd = x := by rw [List.getD_eq_getElem?_getD, HX.out]; rfl
      have hs : pickN l (k + 1) = (if pickN l k < 0 ∨ bk (l.getD (pickN l k).toNat segd) < bk x then (k : Int) else pickN l k) := by rw [pickN, hkd]
      have hk' : 0 ≤ pickN l (k + 1) → pickN l (k + 1) = k → tkey v = bk (l.getD (pickN l (k + 1)).toNat segd) := fun _ h => by rw [h, Int.toNat_natCast, hkd, HV.out.key]
      have hv64 := HV.out.lt
      by_cases hneg : pickN l k < 0
      · rw [if_pos (.inl hneg)] at hs
        have hd : decide (pickN l k < 0) = true := decide_eq_true hneg
        have HS := Lib.hid hs; have HQ := Lib.hid hk'; clear hs hk' hkd p1 p2 p3
        go_wp2_with (fail)
        go_roundw
        case rel => exact ⟨k + 1, by omega, by go_num, by rw [HS.out], ⟨v, rfl, hv64, fun h => HQ.out h HS.out⟩, A4, c4, rfl, H6⟩
        case measure => simp [intOf]; omega
      · have hd : decide (pickN l k < 0) = false := decide_eq_false hneg
        have hf : fless f v = decide (bk (l.getD (pickN l k).toNat segd) < bk x) := by unfold fless; rw [HF.out (by omega), HV.out.key]
        by_cases hlt2 : bk (l.getD (pickN l k).toNat segd) < bk x
        · rw [if_pos (.inr hlt2)] at hs
          rw [decide_eq_true hlt2] at hf
          have HS := Lib.hid hs; have HQ := Lib.hid hk'; have HL := Lib.hid hf; clear hs hk' hkd p1 p2 p3 hf hlt2
          go_wp2_with (first | (go_at_call 17; refine (refless_ok _ _ hf1 hv64 _).mono ?_; rw [HL.out]; rintro q w8 ⟨rfl, rfl⟩))
          go_roundw
          case rel => exact ⟨k + 1, by omega, by go_num, by rw [HS.out], ⟨v, rfl, hv64, fun h => HQ.out h HS.out⟩, A4, c4, rfl, H6⟩
          case measure => simp [intOf]; omega
        · rw [if_neg (by omega)] at hs
          rw [decide_eq_false hlt2] at hf
          have HS := Lib.hid hs; have HL := Lib.hid hf; clear hs hk' hkd p1 p2 p3 hf hlt2
          go_wp2_with (first | (go_at_call 17; refine (refless_ok _ _ hf1 hv64 _).mono ?_; rw [HL.out]; rintro q w8 ⟨rfl, rfl⟩))
          go_roundw
          case rel => exact ⟨k + 1, by omega, by go_num, by rw [HS.out], ⟨f, rfl, hf1, fun h => by rw [HS.out] at h ⊢; exact HF.out h⟩, A4, c4, rfl, H6⟩
          case measure => simp [intOf]; omega
    · have hkn : k = n := by omega
      subst hkn
      have ht : l.take k = l := List.take_of_length_le (by rw [← HN.out]; exact Nat.le_refl _)
      rw [ht, HN.out] at H2
      rw [HN.out]
      have hn2 : l.length ≤ 1048576 := by rw [← HN.out]; exact hn
      clear hlt hf2 hk hn ht
      have hp : (pickN l l.length != pickN l l.length) = false := by simp
      go_wp2_with (first | (go_at_call 18; refine (pick_ok _ _ _ (by omega) H2).mono ?_; rintro q w8 ⟨rfl, H3⟩))
      go_loopw [8] (fun i wr => ∃ j : Nat, j ≤ l.length ∧ i = .int .i64 j ∧ St w wr [Row 28 3 A' l.length c' (flat l)]) (fun i _ => l.length - (intOf i).toNat)
      case atStart => exact ⟨0, Nat.zero_le _, rfl, H3⟩
      case round =>
        obtain ⟨k, hk, rfl, H4⟩ := hrel
        by_cases hlt : k < l.length
        · obtain ⟨x, hx⟩ : ∃ x, l[k]? = some x := ⟨_, List.getElem?_eq_getElem hlt⟩
          obtain ⟨b, o, hA, hb, hd0, hcell⟩ := SlRd.at HRD.out H4.below (i := k) (row := x.cells) (by rw [List.getElem?_map, hx]; rfl)
          have hc0 := hd0 _ rfl
          have hc1 := hcell 1 _ rfl
          have hc2 := hcell 2 _ rfl
          subst hA
          obtain ⟨g, o', hA, e0, e1, e2⟩ := H4.seg hx
          subst hA
          have HX := Lib.hid hx; clear hcell hd0 hx
          go_wp2_with (fail)
          go_region_held3 (fun w' => w'.cell? ⟨b, o + k * 3, none⟩ = some (.int .i64 x.live) ∧ w'.cell? ⟨b, o + k * 3 + 1, none⟩ = some (.int .i64 x.size) ∧ w'.cell? ⟨b, o + k * 3 + 2, none⟩ = some (.int .i64 x.age) ∧ w'.cell? ⟨g, o' + k * 3, none⟩ = some (.int .i64 x.live) ∧ w'.cell? ⟨g, o' + k * 3 + 1, none⟩ = some (.int .i64 x.size) ∧ w'.cell? ⟨g, o' + k * 3 + 2, none⟩ = some (.int .i64 x.age)) (exact ⟨hc0, hc1, hc2, e0, e1, e2⟩) (fail)
          go_wp2_with (fail)
          go_roundw
          case rel => exact ⟨k + 1, by omega, by go_num, H4.drew⟩
          case measure => simp [intOf]; omega
        · go_wp2_with (fail)
          go_ret
          exact ⟨rfl, H4.below⟩
theorem own : ownKnob Try.prog.godebug = none := by kernel_rfl
theorem laidOut : laidOutB Try.prog = true := by kernel_rfl
theorem readable : ∀ t ∈ Try.f6.params.toList, Try.prog.readableRec t = true ∧ t < Try.prog.types.size := by
  intro t ht
  rw [Try.params6] at ht
  simp only [List.mem_cons, List.not_mem_nil, or_false] at ht
  subst ht
  exact ⟨by kernel_rfl, of_decide_eq_true (by kernel_rfl)⟩
theorem contract (H : Type) (enc : TypeId × Value → H) (W : World) (base : Nat) (args : Array Value) (ds gs : List (DataW H)) (before : List MemPlace)
    (hval : ∀ (j : Nat) t v, Try.f6.params[j]? = some t → args[j]? = some v → Value.okWide Try.prog W .any base t v)
    (hW : DataW.Whole enc Try.prog Try.f6.params.toList Rows.scorePicksSpec.vars false W args.toList ds gs before) (hk : Rows.uptoSmall H (ds ++ gs) = true) :
    Calls Try.prog 6 args W fun e W' => ∃ v, e = .returned v ∧ Rows.scorePicksSpec.post enc Try.prog Try.f6 false true false false W args v W' := by
  have hW' := hW
  obtain ⟨p, q, hA0, hV, rfl, _, _⟩ := hW
  have hA : DataW.TrodAll enc Try.prog W 0 (fun _ => true) true Try.f6.params.toList args.toList ds p := hA0
  rw [Try.params6] at hA hval
  obtain ⟨v0, vs0, d0, ds0, p0, q0, hargs, rfl, rfl, h0, r0⟩ := trodAll_cons hA
  obtain ⟨rfl, rfl, rfl⟩ := trodAll_nil r0
  obtain rfl : args = #[v0] := by cases args; simp_all
  obtain ⟨rfl, rfl⟩ := trodVars_none hV
  clear hA0
  have hk2 : Rows.uptoBulkAll _ ≤ 1048576 := of_decide_eq_true hk
  rw [List.append_nil] at hk2
  obtain ⟨fuel0, hf0⟩ := h0
  obtain ⟨A0, n0, c0, hv0⟩ := okWide_slice Try.underlying35 (hval 0 35 v0 rfl rfl)
  subst hv0
  obtain ⟨A0', n0', c0', rows0, hc0, hn0, hrd0, hrow0, hbulk0⟩ := trod_slice_flat (ks := Seg.kinds) (m := 8) Try.underlying35 (by kernel_rfl) (by kernel_rfl) (by decide) hf0
  dsimp only at hbulk0
  obtain ⟨rfl, rfl, rfl⟩ : A0' = A0 ∧ n0' = n0 ∧ c0' = c0 := by simp [Value.cells] at hc0; simp [hc0]
  obtain ⟨l, rfl, hok0⟩ := rows_map Seg.cells Seg.ok rows0 (fun row hr => Seg.of_row row (hrow0 row hr))
  refine (walk W A0' n0' c0' l hrd0 (by
    have h1 := len_le_sum (ks := Seg.kinds) _ hrow0 (by decide)
    have h2 := hrd0.1
    simp only [Rows.uptoBulkAll] at hk2
    omega) (by
    simp only [Rows.uptoBulkAll] at hk2
    omega) hok0).mono fun e W' ⟨he, hb⟩ => ?_
  exact ⟨_, he, law_post (tb := 4) laidOut readable rfl Try.underlying4 rfl hW' rfl rfl rfl hb⟩
set_option maxRecDepth 100000 in
theorem lifted (os : Os) (started : os.Started) (H : Type) (enc : TypeId × Value → H) (F : Stop.Interp) :
    ReturnsInHanded {} Try.checked os 6 .any ((Rows.OpenSpec.upto Rows.scorePicksSpec).pre6 enc Try.prog Try.f6 Rows.scorePicksUptoRow.domain false) (((Rows.OpenSpec.upto Rows.scorePicksSpec).at F).post enc Try.prog Try.f6 false true false false) := by
  refine returnsInHanded_of_cond (C := Try.checked) (s := Rows.OpenSpec.upto Rows.scorePicksSpec) (k := Rows.uptoSmall) rfl own started (by kernel_rfl) Try.func6
    (OpenSpec.witness (enc := enc) (C := Try.checked) (s := Rows.OpenSpec.upto Rows.scorePicksSpec) (k := Rows.uptoSmall) rfl false ⟨#[], #[.slice none 0 0], []⟩ 8 (by kernel_rfl) (by kernel_rfl) (by kernel_rfl)
      (x := ([.nil], [], [])) (by kernel_rfl) rfl (by kernel_rfl)) ?_
  intro W base args ds gs before hval hW _ hk _
  exact contract H enc W base args ds gs before hval hW hk
theorem proved : Rows.ScorePicksUptoSaid :=
  OpenClaim.holds_of_cond 6 Try.f6 rfl rfl rfl rfl rfl rfl rfl ⟨rfl, rfl, rfl, rfl, rfl⟩ rfl rfl rfl rfl rfl (by kernel_rfl) Try.func6 (by kernel_rfl)
    (of_decide_eq_true (by kernel_rfl)) (by unfold Func.isWrapper; first | (rw [if_pos (by decide +kernel)]; kernel_rfl) | (rw [if_neg (by decide +kernel)]; exact ⟨rfl, rfl⟩))
    (fun os started H enc _ F => lifted os started H enc F)
#print axioms proved

end Go.Proofs.Ytdofeehnclobmaa.ScorePicks

/- ScoreMeans: the mean of any floats is the document's, over lists of at most 1048576 numbers. -/
import Derived.Test.YtdofeehnclobmaaScM
namespace Go.Proofs.Ytdofeehnclobmaa.ScoreMeans
open Go.RowKit Go.ChangeShapes Go.WideShapes Go.ChangeAt Go.Proofs.Ytdofeehnclobmaa

theorem infoF : (Try.prog.info? 24).map (fun i => (i.zero, i.size, i.bytes)) = some (some (.float .f64 0), 1, 8) := by kernel_rfl
def fv (x : Int) : Value := .float .f64 x.toNat
theorem take_snoc {α : Type} (l : List α) (k : Nat) (x : α) (h : l[k]? = some x) : l.take (k + 1) = l.take k ++ [x] := by rw [List.take_add_one, h]; rfl
theorem rowF {w0 w : World} {e : TypeId} {A : Option Addr} {n c : Nat} {l : List Int} {F : List Assn} (H : St w0 w (Row e 1 A n c (l.map fv) :: F)) : RdF w A (l.map Int.toNat) := fun i x hx => by
  rw [List.getElem?_map] at hx
  obtain ⟨y, hy, rfl⟩ := Option.map_eq_some_iff.1 hx
  rcases H.row_cases with ⟨rfl, rfl, rfl, h⟩ | ⟨g, o, cur, fr, rfl, H1, hf, hnc, hcm, hfit, hxs⟩
  · have : l = [] := by simpa using h
    subst this; simp at hy
  · exact ⟨g, o, rfl, H.row_cell i (by rw [List.getElem?_map, hy]; rfl)⟩
theorem zero_zero {r : Nat} (h : FR .quo 0 (fl 0) r) : nanb r = true := by
  have e : floatBits .quo .f64 0 (fl 0) = none := by decide +kernel
  rcases h.2 with h1 | h1
  · rw [e] at h1; cases h1
  · exact h1.2
set_option maxHeartbeats 4000000 in
theorem walk (w : World) (A : Option Addr) (n c : Nat) (l : List Int) (hrd : SlRd w A n 1 (l.map fun x => [.int .u64 x])) (hn : n ≤ 1048576) (_hs : sumW (l.map fun x => [.int .u64 x]) ≤ 1048576) (hok : ∀ x ∈ l, 0 ≤ x ∧ x ≤ 18446744073709551615) :
    Calls Try.prog 8 #[.slice A n c] w fun r w' => r = .returned (.bool true) ∧ Below w.heap.size w w' := by
  have H0 := St.init w
  have hln : n = l.length := by have := hrd.1; simpa using this.symm
  subst hln
  have HRD := Lib.hid hrd; have HOK := Lib.hid hok; clear hrd hok
  obtain ⟨i0, hi, hz0, hz1, hz2⟩ := info_parts infoF
  go_enter Try.func8, Try.ntmps8
  go_wp2_with (first | (go_at_call 10; refine (speaks_ok H0).mono ?_; rintro x w1 ⟨rfl, H1⟩))
  go_loopw [3, 4] (fun s i wr => ∃ k : Nat, k ≤ l.length ∧ i = .int .i64 k ∧ ∃ A' c', s = .slice A' k c' ∧ St w wr [Row 24 1 A' k c' ((l.take k).map fv)]) (fun _ i _ => l.length - (intOf i).toNat)
  case atStart => exact ⟨0, Nat.zero_le _, rfl, none, 0, rfl, H1.nilRow _ _⟩
  case round =>
    obtain ⟨k, hk, rfl, A', c', rfl, H2⟩ := hrel
    by_cases hlt : k < l.length
    · obtain ⟨x, hx⟩ : ∃ x, l[k]? = some x := ⟨_, List.getElem?_eq_getElem hlt⟩
      obtain ⟨hl', hc⟩ := SlRd.src HRD.out H2.below
      obtain ⟨b, o, hA, c0⟩ := hc k (.int .u64 x) (by rw [List.getElem?_map, hx]; rfl)
      subst hA
      have ht : (l.take (k + 1)).map fv = (l.take k).map fv ++ [fv x] := by rw [take_snoc l k x hx, List.map_append]; rfl
      have HT := Lib.hid ht
      clear hc ht hx
      go_wp2_with (at_builtin; refine wpList_append_st (by rfl) _ _ _ (by rfl) 24 i0 (.float .f64 0) 1 8 Try.underlying43 hi hz0 hz1 hz2 rfl (by decide) A' k c' ((l.take k).map fv) (H2.more _) (by rfl) ⟨wr.heap.size, 0, none⟩ 1 1 [fv x] (by rfl) rfl (World.news_of_block (heap_alloc_new _ _)) (fun u hu => by simp at hu; subst hu; rfl) (by unfold maxLen; omega) (by omega) ?_; intro A4 c4 w4 H4)
      go_roundw
      case rel => exact ⟨k + 1, by omega, by go_num, A4, c4, rfl, by rw [HT.out]; exact H4⟩
      case measure => simp [intOf]; omega
    · have hkn : k = l.length := by omega
      subst hkn
      rw [List.take_length] at H2
      have h64 : ∀ x ∈ l.map Int.toNat, x < 2 ^ 64 := fun x hx => by
        obtain ⟨y, hy, rfl⟩ := List.mem_map.1 hx
        have := HOK.out y hy; omega
      have hlm : (l.map Int.toNat).length = l.length := List.length_map ..
      have H64 := Lib.hid h64; have HLM := Lib.hid hlm; clear h64 hlm hlt
      go_wp2_with (fail)
      have hm := mean_ok A' c' (l.map Int.toNat) (by rw [HLM.out]; omega) H64.out (fun w' H' => rowF H') H2
      rw [HLM.out] at hm
      refine hm.mono ?_
      rintro q w5 ⟨s, r, hs, hr0, hr1, rfl, H5⟩
      clear hm
      have HS := Lib.hid hs; have HR0 := Lib.hid hr0; have HR1 := Lib.hid hr1; clear hs hr0 hr1
      by_cases h0 : cntR (l.map Int.toNat) l.length = 0
      · have hr := HR0.out h0
        subst hr
        have hp : ((cntR (l.map Int.toNat) l.length : Int) == (cntR (l.map Int.toNat) l.length : Int)) = true := by simp
        have ho : (FloatKind.f64.format.order 9221120237041090561 9221120237041090561 != some .eq) = true := by decide +kernel
        have hg : decide ((cntR (l.map Int.toNat) l.length : Int) > 0) = false := decide_eq_false (by omega)
        have H0' := Lib.hid h0; clear h0
        go_wp2_with (fail)
        have hm := refmean_ok A c l (by omega) HOK.out (fun w' H' i x hx => (SlRd.src HRD.out H'.below).2 i _ (by rw [List.getElem?_map, hx]; rfl)) H5
        refine hm.mono ?_
        rintro q w6 ⟨s2, r2, hs2, hr2, rfl, H6⟩
        clear hm
        have hsame : same 9221120237041090561 r2 = true := by
          rw [H0'.out] at hr2
          have := SumR.zero _ _ hs2 H0'.out
          subst this
          exact same_of _ _ (.inl ⟨by decide +kernel, zero_zero hr2⟩)
        have HSM := Lib.hid hsame; clear hsame hs2 hr2
        go_wp2_with (first | (go_at_call 11; refine (same_ok _ _ _).mono ?_; rw [HSM.out]; rintro q w7 ⟨rfl, rfl⟩))
        go_ret
        exact ⟨rfl, H6.below⟩
      · have hr := HR1.out h0
        have hp : ((cntR (l.map Int.toNat) l.length : Int) == (cntR (l.map Int.toNat) l.length : Int)) = true := by simp
        have hg : decide ((cntR (l.map Int.toNat) l.length : Int) > 0) = true := decide_eq_true (by omega)
        have hg2 : decide (0 < (cntR (l.map Int.toNat) l.length : Int)) = true := decide_eq_true (by omega)
        have hg3 : (0 : Int) < (cntR (l.map Int.toNat) l.length : Int) := by omega
        have hg4 : 0 < cntR (l.map Int.toNat) l.length := by omega
        have HR2 := Lib.hid hr; clear hr h0
        go_wp2_with (fail)
        have hm := refmean_ok A c l (by omega) HOK.out (fun w' H' i x hx => (SlRd.src HRD.out H'.below).2 i _ (by rw [List.getElem?_map, hx]; rfl)) H5
        refine hm.mono ?_
        rintro q w6 ⟨s2, r2, hs2, hr2, rfl, H6⟩
        clear hm
        have hsame : same r r2 = true := same_of _ _ (HR2.out.eqv hr2 (HS.out.eqv _ _ hs2) (.rfl' _))
        have HSM := Lib.hid hsame; clear hsame hs2 hr2
        go_wp2_with (first | (go_at_call 11; refine (same_ok _ _ _).mono ?_; rw [HSM.out]; rintro q w7 ⟨rfl, rfl⟩))
        go_ret
        exact ⟨rfl, H6.below⟩
theorem own : ownKnob Try.prog.godebug = none := by kernel_rfl
theorem laidOut : laidOutB Try.prog = true := by kernel_rfl
theorem readable : ∀ t ∈ Try.f8.params.toList, Try.prog.readableRec t = true ∧ t < Try.prog.types.size := by
  intro t ht
  rw [Try.params8] at ht
  simp only [List.mem_cons, List.not_mem_nil, or_false] at ht
  subst ht
  exact ⟨by kernel_rfl, of_decide_eq_true (by kernel_rfl)⟩
theorem contract (H : Type) (enc : TypeId × Value → H) (W : World) (base : Nat) (args : Array Value) (ds gs : List (DataW H)) (before : List MemPlace)
    (hval : ∀ (j : Nat) t v, Try.f8.params[j]? = some t → args[j]? = some v → Value.okWide Try.prog W .any base t v)
    (hW : DataW.Whole enc Try.prog Try.f8.params.toList Rows.scoreMeansSpec.vars false W args.toList ds gs before) (hk : Rows.uptoSmall H (ds ++ gs) = true) :
    Calls Try.prog 8 args W fun e W' => ∃ v, e = .returned v ∧ Rows.scoreMeansSpec.post enc Try.prog Try.f8 false true false false W args v W' := by
  have hW' := hW
  obtain ⟨p, q, hA0, hV, rfl, _, _⟩ := hW
  have hA : DataW.TrodAll enc Try.prog W 0 (fun _ => true) true Try.f8.params.toList args.toList ds p := hA0
  rw [Try.params8] at hA hval
  obtain ⟨v0, vs0, d0, ds0, p0, q0, hargs, rfl, rfl, h0, r0⟩ := trodAll_cons hA
  obtain ⟨rfl, rfl, rfl⟩ := trodAll_nil r0
  obtain rfl : args = #[v0] := by cases args; simp_all
  obtain ⟨rfl, rfl⟩ := trodVars_none hV
  clear hA0
  have hk2 : Rows.uptoBulkAll _ ≤ 1048576 := of_decide_eq_true hk
  rw [List.append_nil] at hk2
  obtain ⟨fuel0, hf0⟩ := h0
  obtain ⟨A0, n0, c0, hv0⟩ := okWide_slice Try.underlying42 (hval 0 42 v0 rfl rfl)
  subst hv0
  obtain ⟨A0', n0', c0', rows0, hc0, hn0, hrd0, hrow0, hbulk0⟩ := trod_slice_flat (ks := [.int .u64]) (m := 8) Try.underlying42 (by kernel_rfl) (by kernel_rfl) (by decide) hf0
  dsimp only at hbulk0
  obtain ⟨rfl, rfl, rfl⟩ : A0' = A0 ∧ n0' = n0 ∧ c0' = c0 := by simp [Value.cells] at hc0; simp [hc0]
  obtain ⟨l, rfl, hok0⟩ := rows_map (fun x : Int => [.int .u64 x]) (fun x : Int => 0 ≤ x ∧ x ≤ 18446744073709551615) rows0 (fun row hr => of_row_u64 row (hrow0 row hr))
  refine (walk W A0' n0' c0' l hrd0 (by
    have h1 := len_le_sum (ks := [.int .u64]) _ hrow0 (by decide)
    have h2 := hrd0.1
    simp only [Rows.uptoBulkAll] at hk2
    omega) (by
    simp only [Rows.uptoBulkAll] at hk2
    omega) hok0).mono fun e W' ⟨he, hb⟩ => ?_
  exact ⟨_, he, law_post (tb := 4) laidOut readable rfl Try.underlying4 rfl hW' rfl rfl rfl hb⟩
set_option maxRecDepth 100000 in
theorem lifted (os : Os) (started : os.Started) (H : Type) (enc : TypeId × Value → H) (F : Stop.Interp) :
    ReturnsInHanded {} Try.checked os 8 .any ((Rows.OpenSpec.upto Rows.scoreMeansSpec).pre6 enc Try.prog Try.f8 Rows.scoreMeansUptoRow.domain false) (((Rows.OpenSpec.upto Rows.scoreMeansSpec).at F).post enc Try.prog Try.f8 false true false false) := by
  refine returnsInHanded_of_cond (C := Try.checked) (s := Rows.OpenSpec.upto Rows.scoreMeansSpec) (k := Rows.uptoSmall) rfl own started (by kernel_rfl) Try.func8
    (OpenSpec.witness (enc := enc) (C := Try.checked) (s := Rows.OpenSpec.upto Rows.scoreMeansSpec) (k := Rows.uptoSmall) rfl false ⟨#[], #[.slice none 0 0], []⟩ 8 (by kernel_rfl) (by kernel_rfl) (by kernel_rfl)
      (x := ([.nil], [], [])) (by kernel_rfl) rfl (by kernel_rfl)) ?_
  intro W base args ds gs before hval hW _ hk _
  exact contract H enc W base args ds gs before hval hW hk
theorem proved : Rows.ScoreMeansUptoSaid :=
  OpenClaim.holds_of_cond 8 Try.f8 rfl rfl rfl rfl rfl rfl rfl ⟨rfl, rfl, rfl, rfl, rfl⟩ rfl rfl rfl rfl rfl (by kernel_rfl) Try.func8 (by kernel_rfl)
    (of_decide_eq_true (by kernel_rfl)) (by unfold Func.isWrapper; first | (rw [if_pos (by decide +kernel)]; kernel_rfl) | (rw [if_neg (by decide +kernel)]; exact ⟨rfl, rfl⟩))
    (fun os started H enc _ F => lifted os started H enc F)
#print axioms proved

end Go.Proofs.Ytdofeehnclobmaa.ScoreMeans

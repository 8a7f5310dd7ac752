/- NetKind: by choices of nought all arrives as it was sent, once; nothing is late: of texts of bulk at most 1048576. -/
import Derived.Test.YtpeoajmlmkmffaaNeD
import Derived.Laws.MakeOwn
import Derived.Deep.RegionHeld3
import Derived.Deep.DeepCutAuto
namespace Go.Proofs.Ytpeoajmlmkmffaa.NetKind
open Go.RowKit Go.ChangeShapes Go.WideShapes Go.ChangeAt Go.Proofs.Ytpeoajmlmkmffaa
open Go.ChangeMaps (open_string shut_string)

theorem make_ints (K : Nat) (hK : K ≤ 1048576) (w : World) : (Instr.makeSlice 24 (.int .i64 (K : Int)) (.int .i64 (K : Int))).run Try.prog w = .ok (.slice (some ⟨w.heap.size, 0, none⟩) K K) (w.alloc (.cells (ivs (List.replicate K 0)).toArray 3)) := by
  obtain ⟨i0, hi, hz, hz1, hz2⟩ := info_parts infoInt
  have h := run_make (P := Try.prog) w 24 3 i0 (.int .i64 0) Try.underlying24 hi hz .i64 .i64 K K (by omega) (Int.le_refl _) (by rw [hz2]; omega) (by omega)
  rw [h, hz1]
  congr 3
  apply Array.ext_getElem?
  intro i
  simp only [madeCells, Nat.mul_one, Int.toNat_natCast, List.getElem?_toArray, ivs, List.map_replicate, List.getElem?_replicate, Array.getElem?_map]
  by_cases h : i < K
  · rw [Array.getElem?_range, if_pos h]; simp [Value.cells, iv, Nat.mod_one, h]
  · simp [h]
theorem fate_zeros (j : Nat) : fate (List.replicate j 0) = (0, 0) := by cases j <;> rfl
theorem zeros_ok (j : Nat) : ∀ x ∈ List.replicate j (0 : Int), inI x := fun x hx => by rw [(List.mem_replicate.1 hx).2]; unfold inI; omega
theorem carried_zeros (j : Nat) (p : Int × ByteArray) : NS.carried ⟨List.replicate j 0, [], []⟩ p = ⟨List.replicate (j - 1) 0, [], []⟩ := by
  unfold NS.carried
  dsimp only
  rw [fate_zeros, if_neg (by decide), if_neg (by decide), List.tail_replicate]
theorem str_le {l : List ByteArray} {x : ByteArray} (hx : x ∈ l) (h : sumW (l.map fun x => [Value.string x]) ≤ 1048576) : x.size ≤ 1048576 := by
  have h1 : wts [Value.string x] ≤ sumW (l.map fun x => [Value.string x]) := sumW_mem (List.mem_map.2 ⟨x, hx, rfl⟩)
  simp only [wts, wt] at h1
  omega
set_option maxRecDepth 100000 in
set_option maxHeartbeats 4000000 in
theorem walk (w : World) (A : Option Addr) (n c : Nat) (l : List ByteArray) (hrd : SlRd w A n 1 (l.map fun x => [.string x])) (hn : n ≤ 1048576) (hsum : sumW (l.map fun x => [.string x]) ≤ 1048576) (_hok : ∀ x ∈ l, x.size ≤ maxLen)
    (z : Int) (hz : -9223372036854775808 ≤ z ∧ z ≤ 9223372036854775807) :
    Calls Try.prog 4 #[.slice A n c, .int .i64 z] w fun r w' => r = .returned (.bool true) ∧ Below w.heap.size w w' := by
  have H0 := St.init w
  have hln : n = l.length := by have := hrd.1; simpa using this.symm
  subst hln
  have HRD := Lib.hid hrd; have HSM := Lib.hid hsum; clear hrd hsum
  go_enter Try.func4, Try.ntmps4
  go_upto_region 3 with (first | (go_at_call 8; refine (speaks_ok H0).mono ?_; rintro x w1 ⟨rfl, H1⟩))
  go_cut [5] (fun s wx => ∃ b K : Nat, s = .pointer (some ⟨b, 0, none⟩) ∧ St w wx [Net b ⟨List.replicate K 0, [], []⟩])
  case first =>
    by_cases h0 : z < 0
    · obtain ⟨K, hK⟩ : ∃ K : Nat, K = 0 := ⟨0, rfl⟩
      have a0 : bits .and .i64 0 63 = (K : Int) := by rw [hK]; exact i64_and_mask 0 6 (by decide)
      have hK2 : K < 64 := by omega
      have hmk := make_ints K (by omega) w1
      have H2 := H1.newRow (ivs (List.replicate K 0)).toArray 3 1 K (by simp [ivs]) (by unfold maxLen; omega)
      have HK := Lib.hid hK; clear hK
      go_wp2_with (fail)
      refine (new_ok _ K K (List.replicate K 0) (by simp) (by omega) (fun w' hb => H2.srcRow w' hb) H2).mono ?_
      rintro e w3 ⟨b, rfl, H3⟩
      go_wp2_with (fail)
      go_meet
      exact ⟨b, K, rfl, H3.r2.tail⟩
    · obtain ⟨K, hK⟩ : ∃ K : Nat, z % 64 = (K : Int) := ⟨(z % 64).toNat, by omega⟩
      have a0 : bits .and .i64 z 63 = (K : Int) := (i64_and_mask z 6 (by decide)).trans hK
      have hK2 : K < 64 := by omega
      have hmk := make_ints K (by omega) w1
      have H2 := H1.newRow (ivs (List.replicate K 0)).toArray 3 1 K (by simp [ivs]) (by unfold maxLen; omega)
      have HK := Lib.hid hK; clear hK
      go_wp2_with (fail)
      refine (new_ok _ K K (List.replicate K 0) (by simp) (by omega) (fun w' hb => H2.srcRow w' hb) H2).mono ?_
      rintro e w3 ⟨b, rfl, H3⟩
      go_wp2_with (fail)
      go_meet
      exact ⟨b, K, rfl, H3.r2.tail⟩
  case rest =>
    obtain ⟨b, K, rfl, H3⟩ := hcut
    clear H1
    go_wp2_with (fail)
    go_loopw [6] (fun i wr => ∃ k j : Nat, k ≤ l.length ∧ i = .int .i64 k ∧ St w wr [Net b ⟨List.replicate j 0, [], []⟩]) (fun i _ => l.length - (intOf i).toNat)
    case atStart => exact ⟨0, K, Nat.zero_le _, rfl, H3⟩
    case round =>
      obtain ⟨k, j, hk, rfl, H4⟩ := hrel
      by_cases hlt : k < l.length
      · obtain ⟨x, hx⟩ : ∃ x, l[k]? = some x := ⟨_, List.getElem?_eq_getElem hlt⟩
        obtain ⟨hl', hc⟩ := SlRd.src HRD.out H4.below
        obtain ⟨bx, o, hA, c0⟩ := hc k (.string x) (by rw [List.getElem?_map, hx]; rfl)
        subst hA
        have hxs := str_le (List.mem_of_getElem? hx) HSM.out
        have hcell : ∀ w' L, St w w' L → w'.cell? ⟨bx, o + k, none⟩ = some (.string x) := fun w' L H' => by
          obtain ⟨b', o', hA', c'⟩ := (SlRd.src HRD.out H'.below).2 k (.string x) (by rw [List.getElem?_map, hx]; rfl)
          injection hA' with hA'; injection hA' with e1 e2; subst e1 e2
          exact c'
        have HCL := Lib.hid hcell; have HX := Lib.hid hx; clear hc hl' hcell hx
        go_wp2_with (fail)
        refine (carry_ok b ⟨List.replicate j 0, [], []⟩ _ x (by omega) (zeros_ok j) H4).mono ?_
        dsimp only
        rw [fate_zeros, carried_zeros, show carL 0 0 x = [x] from rfl, show carOk 0 = true from rfl]
        rintro e w5 ⟨A5, c5, rfl, H5⟩
        obtain ⟨g, o5, hA⟩ := H5.row_form (by simp)
        subst hA
        have e0 := H5.row_cell 0 (u := .string x) rfl
        have d0 := HCL.out _ _ H5
        rw [Nat.add_zero] at e0
        go_wp2_with (fail)
        go_region_held3 (fun w' => w'.cell? ⟨bx, o + k, none⟩ = some (.string x) ∧ w'.cell? ⟨g, o5, none⟩ = some (.string x)) (first | exact ⟨d0, e0⟩ | go_keep | exact ⟨HCL.out _ _ H6, by have := H6.r2.row_cell 0 (u := .string x) rfl; rwa [Nat.add_zero] at this⟩ | exact ⟨HCL.out _ _ H7, by have := H7.r3.row_cell 0 (u := .string x) rfl; rwa [Nat.add_zero] at this⟩)  (first | (go_at_call 12; refine (back_ok b ⟨List.replicate (j - 1) 0, [], []⟩ x (by omega) (fun y hy => by cases hy) (Nat.zero_le _) H5.drew.r2).mono ?_; rintro e w6 ⟨rfl, H6⟩)  | (go_at_call 11; refine (late_ok b ⟨List.replicate (j - 1) 0, [], []⟩ H6).mono ?_; rintro e w7 ⟨A7, c7, rfl, H7⟩))
        go_wp2_with (fail)
        go_roundw
        case rel => exact ⟨k + 1, j - 1, by omega, by go_num, H7.tail.r2.tail⟩
        case measure => simp [intOf]; omega
      · go_wp2_with (fail)
        go_ret
        exact ⟨rfl, H4.below⟩
theorem own : ownKnob Try.prog.godebug = none := by kernel_rfl
theorem laidOut : laidOutB Try.prog = true := by kernel_rfl
theorem readable : ∀ t ∈ Try.f4.params.toList, Try.prog.readableRec t = true ∧ t < Try.prog.types.size := by
  intro t ht
  rw [Try.params4] at ht
  simp only [List.mem_cons, List.not_mem_nil, or_false] at ht
  rcases ht with rfl | rfl
  all_goals exact ⟨by kernel_rfl, of_decide_eq_true (by kernel_rfl)⟩
theorem contract (H : Type) (enc : TypeId × Value → H) (W : World) (base : Nat) (args : Array Value) (ds gs : List (DataW H)) (before : List MemPlace)
    (hval : ∀ (j : Nat) t v, Try.f4.params[j]? = some t → args[j]? = some v → Value.okWide Try.prog W .any base t v)
    (hW : DataW.Whole enc Try.prog Try.f4.params.toList Rows.netKindSpec.vars false W args.toList ds gs before) (hk : Rows.uptoSmall H (ds ++ gs) = true) :
    Calls Try.prog 4 args W fun e W' => ∃ v, e = .returned v ∧ Rows.netKindSpec.post enc Try.prog Try.f4 false true false false W args v W' := by
  have hW' := hW
  obtain ⟨p, q, hA0, hV, rfl, _, _⟩ := hW
  have hA : DataW.TrodAll enc Try.prog W 0 (fun _ => true) true Try.f4.params.toList args.toList ds p := hA0
  rw [Try.params4] at hA hval
  obtain ⟨v0, vs0, d0, ds0, p0, q0, hargs, rfl, rfl, h0, r0⟩ := trodAll_cons hA
  obtain ⟨v1, vs1, d1, ds1, p1, q1, rfl, rfl, rfl, h1, r1⟩ := trodAll_cons r0
  obtain ⟨rfl, rfl, rfl⟩ := trodAll_nil r1
  obtain rfl : args = #[v0, v1] := by cases args; simp_all
  obtain ⟨rfl, rfl⟩ := trodVars_none hV
  clear hA0
  have hk2 : Rows.uptoBulkAll _ ≤ 1048576 := of_decide_eq_true hk
  rw [List.append_nil] at hk2
  obtain ⟨fuel0, hf0⟩ := h0
  obtain ⟨A0, n0, c0, hv0⟩ := okWide_slice Try.underlying22 (hval 0 22 v0 rfl rfl)
  subst hv0
  obtain ⟨A0', n0', c0', rows0, hc0, hn0, hrd0, hrow0, hbulk0⟩ := trod_slice_flat (ks := [.str]) (m := 8) Try.underlying22 (by kernel_rfl) (by kernel_rfl) (by decide) hf0
  dsimp only at hbulk0
  obtain ⟨rfl, rfl, rfl⟩ : A0' = A0 ∧ n0' = n0 ∧ c0' = c0 := by simp [Value.cells] at hc0; simp [hc0]
  obtain ⟨l, rfl, hok0⟩ := rows_map (fun x : ByteArray => [.string x]) (fun x : ByteArray => x.size ≤ maxLen) rows0 (fun row hr => of_row_str row (hrow0 row hr))
  obtain ⟨z, rfl, rfl, rfl, wz⟩ := open_int Try.underlying3 (hval 1 3 v1 rfl rfl) h1
  refine (walk W A0' n0' c0' l hrd0 (by
    have h1 := len_le_sum (ks := [.str]) _ hrow0 (by decide)
    have h2 := hrd0.1
    simp only [Rows.uptoBulkAll, Rows.uptoBulk] at hk2
    omega) (by
    simp only [Rows.uptoBulkAll, Rows.uptoBulk] at hk2
    omega) hok0 z (wf_i64 wz)).mono fun e W' ⟨he, hb⟩ => ?_
  exact ⟨_, he, law_post (tb := 4) laidOut readable rfl Try.underlying4 rfl hW' rfl rfl rfl hb⟩
set_option maxRecDepth 100000 in
theorem lifted (os : Os) (started : os.Started) (H : Type) (enc : TypeId × Value → H) (F : Stop.Interp) :
    ReturnsInHanded {} Try.checked os 4 .any ((Rows.OpenSpec.upto Rows.netKindSpec).pre6 enc Try.prog Try.f4 Rows.netKindUptoRow.domain false) (((Rows.OpenSpec.upto Rows.netKindSpec).at F).post enc Try.prog Try.f4 false true false false) := by
  refine returnsInHanded_of_cond (C := Try.checked) (s := Rows.OpenSpec.upto Rows.netKindSpec) (k := Rows.uptoSmall) rfl own started (by kernel_rfl) Try.func4
    (OpenSpec.witness (enc := enc) (C := Try.checked) (s := Rows.OpenSpec.upto Rows.netKindSpec) (k := Rows.uptoSmall) rfl false ⟨#[], #[.slice none 0 0, .int .i64 0], []⟩ 8 (by kernel_rfl) (by kernel_rfl) (by kernel_rfl)
      (x := ([.nil, .lit (.int .i64 0)], [], [])) (by kernel_rfl) rfl (by kernel_rfl)) ?_
  intro W base args ds gs before hval hW _ hk _
  exact contract H enc W base args ds gs before hval hW hk
theorem proved : Rows.NetKindUptoSaid :=
  OpenClaim.holds_of_cond 4 Try.f4 rfl rfl rfl rfl rfl rfl rfl ⟨rfl, rfl, rfl, rfl, rfl⟩ rfl rfl rfl rfl rfl (by kernel_rfl) Try.func4 (by kernel_rfl)
    (of_decide_eq_true (by kernel_rfl)) (by unfold Func.isWrapper; first | (rw [if_pos (by decide +kernel)]; kernel_rfl) | (rw [if_neg (by decide +kernel)]; exact ⟨rfl, rfl⟩))
    (fun os started H enc _ F => lifted os started H enc F)
#print axioms proved

end Go.Proofs.Ytpeoajmlmkmffaa.NetKind

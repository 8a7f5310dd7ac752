/- DrcLatest: just the latest answers are remembered, as many as the size tells: of texts of bulk at most 1048576. -/
import Derived.Test.YtkkpcjpdpjpohaaDrF
import Derived.Test.YtkkpcjpdpjpohaaLift
import Derived.Test.YtkkpcjpdpjpohaaLiftC
import Derived.Deep.DeepCutAuto
namespace Go.Proofs.Ytkkpcjpdpjpohaa.DrcLatest
open Go.RowKit Go.ChangeShapes Go.WideShapes Go.ChangeAt Go.Proofs.Ytkkpcjpdpjpohaa
open Go.ChangeMaps (open_string shut_string)

theorem str_eq2 (x : ByteArray) : (x.toList == x.toList) = true := by simp
set_option maxRecDepth 100000 in
set_option maxHeartbeats 4000000 in
theorem walk (w : World) (size : Int) (hsz : -9223372036854775808 ≤ size ∧ size ≤ 9223372036854775807)
    (B : Option Addr) (m d : Nat) (t : List ByteArray) (hrd2 : SlRd w B m 1 (t.map fun x => [.string x])) (hm : m ≤ 1048576) (_hsum : sumW (t.map fun x => [.string x]) ≤ 1048576) (_hok2 : ∀ x ∈ t, x.size ≤ maxLen) :
    Calls Try.prog 4 #[.int .i64 size, .slice B m d] w fun r w' => r = .returned (.bool true) ∧ Below w.heap.size w w' := by
  have hlm : m = t.length := by have := hrd2.1; simpa using this.symm
  have hrs : RdS w B t := fun j x hx => by
    obtain ⟨b, o, h1, h2⟩ := (SlRd.src hrd2 (Below.refl _ _)).2 j (.string x) (by rw [List.getElem?_map, hx]; rfl)
    exact ⟨b, o, h1, h2⟩
  have HLM := Lib.hid hlm; have HRS := Lib.hid hrs
  clear hlm hrs hrd2 _hsum _hok2
  obtain ⟨rs, hrsd⟩ : ∃ rs : Nat → ByteArray, rs = fun i => t.getD i ⟨#[]⟩ := ⟨_, rfl⟩
  have HRR : Hid (∀ j, j < m → ∃ g o, B = some ⟨g, o, none⟩ ∧ w.cell? ⟨g, o + j, none⟩ = some (.string (rs j))) := fun j hj => by
    have hx : t[j]? = some (rs j) := by rw [hrsd]; show t[j]? = some (t.getD j ⟨#[]⟩); rw [List.getD_eq_getElem?_getD, List.getElem?_eq_getElem (by have := HLM.out; omega)]; rfl
    exact HRS.out j _ hx
  clear hrsd
  obtain ⟨cl, hcl⟩ : ∃ cl : ByteArray, cl = ⟨#[99, 97, 108, 108]⟩ := ⟨_, rfl⟩
  have hcz : cl.size ≤ 900 := by rw [hcl]; decide
  have HCL := Lib.hid hcl; have HCZ := Lib.hid hcz
  clear hcl hcz
  have H0 := St.init w
  go_enter Try.func4, Try.ntmps4
  go_wp2_with (fail)
  refine (speaks16_ok H0).mono ?_
  rintro x w1 ⟨rfl, H1⟩
  clear H0
  go_upto_region 3 with (fail)
  go_cut [19] (fun s wx => ∃ f : Bool, s = .bool f ∧ (f = false → 1 ≤ size ∧ size ≤ 50) ∧ w1 = wx)
  case first =>
    by_cases h1 : size < 1
    · have h1D : decide (size < 1) = true := decide_eq_true h1
      go_wp2_with (fail)
      go_meet
      exact ⟨true, rfl, (fun h => by cases h), rfl⟩
    · have h1D : decide (size < 1) = false := decide_eq_false h1
      by_cases h2 : size > 50
      · go_wp2_with (fail)
        go_meet
        exact ⟨true, rfl, (fun h => by cases h), rfl⟩
      · go_wp2_with (fail)
        go_meet
        exact ⟨false, rfl, fun _ => ⟨by omega, by omega⟩, rfl⟩
  obtain ⟨f, rfl, hf, rfl⟩ := hcut
  have HF := Lib.hid hf; clear hf
  go_upto_if 19 with (fail)
  go_cut [0] (fun s wx => ∃ n : Nat, 1 ≤ n ∧ n ≤ 50 ∧ s = .int .i64 n ∧ w1 = wx)
  case first =>
    cases f with
    | true =>
      go_wp2_with (fail)
      go_meet
      exact ⟨4, by omega, by omega, rfl, rfl⟩
    | false =>
      obtain ⟨h1, h2⟩ := HF.out rfl
      obtain ⟨n, rfl⟩ := Int.eq_ofNat_of_zero_le (show 0 ≤ size by omega)
      go_wp2_with (fail)
      go_meet
      exact ⟨n, by omega, by omega, rfl, rfl⟩
  obtain ⟨n, hn1, hn2, rfl, rfl⟩ := hcut
  clear HF hsz
  go_upto_region 5 with (fail)
  go_wp2_with (fail)
  refine (dnew_ok n H1).mono ?_
  rintro x w2 ⟨b, rfl, H2⟩
  clear H1
  go_wp2_with (fail)
  go_loopw [6] (fun iv wr => ∃ (i : Nat) (dd : DS), iv = .int .i64 i ∧ i ≤ m ∧ i ≤ 200 ∧ Hid (Lat n cl rs i dd) ∧ DcS w wr [] b dd) (fun iv _ => m - (intOf iv).toNat)
  case atStart => exact ⟨0, DS.new n, rfl, Nat.zero_le _, Nat.zero_le _, Lat.new n ⟨hn1, by omega⟩ cl rs, H2⟩
  case round =>
    clear H2
    obtain ⟨i, dd, rfl, him, hi200, HL, H⟩ := hrel
    have hlen : dd.ps.length = n := HL.out.len
    by_cases hgo : i < m ∧ i < 200
    rotate_left 1
    · have hout : Hid (¬ i < m ∨ (i < m ∧ ¬ i < 200)) := by show _ ∨ _; omega
      have hmin : Hid (((dd.count : Nat) : Int) = min (min (m : Int) 200) (n : Int)) := by
        show _ = _
        rw [HL.out.count]; omega
      have hle := dlen_ok b dd (by omega) H
      rw [hmin.out] at hle
      have HLE := Lib.hid hle
      clear hgo hle hmin hlen
      rcases hout with ho | ⟨ho, ho2⟩
      · have hoI : decide ((i : Int) < m) = false := decide_eq_false (by omega)
        have hoN : decide (i < m) = false := decide_eq_false ho
        clear ho
        go_wp2_with (fail)
        refine HLE.out.mono ?_
        rintro x w3 ⟨rfl, A3, H3⟩
        go_wp2_with (fail)
        all_goals
          go_ret
          refine ⟨?_, H3.below⟩
          show Ending.returned (Value.bool (_ == _)) = _
          congr 2
          exact beq_iff_eq.2 (by omega)
      · have hoI : decide ((i : Int) < m) = true := decide_eq_true (by omega)
        have hoN : decide (i < m) = true := decide_eq_true ho
        have ho2I : ¬ (i : Int) < 200 := by omega
        clear ho ho2
        go_wp2_with (fail)
        refine HLE.out.mono ?_
        rintro x w3 ⟨rfl, A3, H3⟩
        go_wp2_with (fail)
        all_goals
          go_ret
          refine ⟨?_, H3.below⟩
          show Ending.returned (Value.bool (_ == _)) = _
          congr 2
          exact beq_iff_eq.2 (by omega)
    obtain ⟨hi1, hi2⟩ := hgo
    have hiI : (i : Int) < m := by omega
    have hiD : decide ((i : Int) < m) = true := decide_eq_true hiI
    have hiN : decide (i < m) = true := decide_eq_true hi1
    have hi2I : (i : Int) < 200 := by omega
    obtain ⟨g, og, hB, cx⟩ := HRR.out i hi1
    have hcx : wr.cell? ⟨g, og + i, none⟩ = some (.string (rs i)) := by
      obtain ⟨A, H⟩ := H
      rw [H.old (World.block_lt_of_cell? w _ cx)]; exact cx
    obtain ⟨rz, hrz⟩ : ∃ r, r = rs i := ⟨_, rfl⟩
    rw [← hrz] at hcx
    have HRZ := Lib.hid hrz
    clear cx hrz
    subst hB
    by_cases hz : rz.size ≤ 900
    rotate_left 1
    · have hzI : (rz.size : Int) > 900 := by omega
      obtain ⟨A, H⟩ := H
      go_wp2_with (fail)
      go_ret
      exact ⟨rfl, H.below⟩
    have hzI : ¬ (rz.size : Int) > 900 := by omega
    have hp := dput_ok b dd 1 i cl rz ⟨by have := HL.out.age; omega, by have := HL.out.age; omega⟩ ⟨by decide, by decide⟩ ⟨by omega, by omega⟩ ⟨by omega, by omega⟩ H
    rw [HCL.out] at hp
    have HP := Lib.hid hp
    have HZ := Lib.hid hz
    clear hp hz
    go_wp2_with (fail)
    refine HP.out.mono ?_
    intro x w3 hx
    unfold DPutE at hx
    rw [if_pos ⟨by rw [← HCL.out]; exact HCZ.out, HZ.out⟩, ← HCL.out] at hx
    obtain ⟨rfl, A, H3⟩ := hx
    obtain ⟨key, hkey⟩ : ∃ k, k = keyB (dd.age.toNat % dd.ps.length) := ⟨_, rfl⟩
    obtain ⟨val, hval⟩ : ∃ v, v = valB (dd.age + 1) 1 i cl rz := ⟨_, rfl⟩
    rw [← hkey, ← hval]
    clear hkey hval HP hcx
    have hL2 : Lat n cl rs (i + 1) (dd.put 1 i cl rz) := by rw [HRZ.out]; exact HL.out.put hn1
    obtain ⟨dd2, hdd2⟩ : ∃ d2, d2 = dd.put 1 i cl rz := ⟨_, rfl⟩
    rw [← hdd2] at hL2 H3
    have HL2 := Lib.hid hL2
    clear hL2 hdd2 HL H hlen
    have H4 := H3.alloc #[.string key, .string val, .bool false] 28
    go_upto_region 12 with (fail)
    generalize w3.alloc (.cells #[.string key, .string val, .bool false] 28) = w4 at *
    have HD : DcS w w4 [] b dd2 := ⟨A, H4.tail⟩
    clear H3 H4
    go_wp2_with (fail)
    go_loopw [9] (fun kv wr => ∃ k : Nat, kv = .int .i64 k ∧ k ≤ i + 1 ∧ DcS w wr [] b dd2) (fun kv _ => i + 1 - (intOf kv).toNat)
    case atStart => exact ⟨0, rfl, Nat.zero_le _, HD⟩
    case round =>
      clear HD
      obtain ⟨k, rfl, hk, H⟩ := hrel
      by_cases hki : k ≤ i
      rotate_left 1
      · have hkI : ¬ (k : Int) ≤ i := by omega
        go_wp2_with (fail)
        go_roundw
        case rel => exact ⟨i + 1, dd2, by go_num, by omega, by omega, HL2.out, H⟩
        case measure => simp [intOf]; omega
      have hkI : (k : Int) ≤ i := by omega
      have hlk := HL2.out.look hn1 k (by omega)
      have hlo := dlook_ok b dd2 1 k cl (by rw [HL2.out.len]; omega) H
      obtain ⟨g', og', hB', cx⟩ := HRR.out k (by omega)
      injection hB' with hB'
      injection hB' with hg' ho'
      subst hg' ho'
      obtain ⟨A, H⟩ := H
      have hcx : wr.cell? ⟨g, og + k, none⟩ = some (.string (rs k)) := by rw [H.old (World.block_lt_of_cell? w _ cx)]; exact cx
      clear cx
      have hkm : (k : Int) < m := by omega
      rw [HCL.out] at hlo hlk
      split at hlk
      · rename_i hle
        rw [hlk.1, decide_eq_true hlk.2] at hlo
        have HLO := Lib.hid hlo
        have hdI : (i : Int) - k < n := by omega
        have hdD : decide ((i : Int) - k < n) = true := decide_eq_true hdI
        clear hlo hlk
        go_wp2_with (fail)
        refine HLO.out.mono ?_
        rintro x w5 ⟨rfl, H5⟩
        have hcx5 : w5.cell? ⟨g, og + k, none⟩ = some (.string (rs k)) := by
          obtain ⟨A5, H5⟩ := H5
          obtain ⟨g', og', hB', cx⟩ := HRR.out k (by omega)
          injection hB' with hB'
          injection hB' with hg' ho'
          subst hg' ho'
          rw [H5.old (World.block_lt_of_cell? w _ cx)]; exact cx
        have hss := str_eq2 (rs k)
        have hsn : ((rs k).toList != (rs k).toList) = false := by rw [bne, hss]; rfl
        clear HLO hcx H
        go_wp2_with (fail)
        go_roundw
        case rel => exact ⟨k + 1, by go_num, by omega, H5⟩
        case measure => simp [intOf]; omega
      · rename_i hle
        rw [hlk] at hlo
        have hlo2 : Calls Try.prog 10 #[.pointer (some ⟨b, 0, none⟩), .int .i64 1, .int .i64 k, .string ⟨#[99, 97, 108, 108]⟩] wr fun x w' => x = .returned (.tuple #[.string ⟨#[]⟩, .bool false]) ∧ DcS w w' [] b dd2 := hlo
        have HLO := Lib.hid hlo2
        have hdI : ¬ (i : Int) - k < n := by omega
        have hdD : decide ((i : Int) - k < n) = false := decide_eq_false hdI
        clear hlo hlo2 hlk
        go_wp2_with (fail)
        refine HLO.out.mono ?_
        rintro x w5 ⟨rfl, H5⟩
        clear HLO hcx H
        go_wp2_with (fail)
        go_roundw
        case rel => exact ⟨k + 1, by go_num, by omega, H5⟩
        case measure => simp [intOf]; omega
theorem own : ownKnob Try.prog.godebug = none := by kernel_rfl
theorem laidOut : laidOutB Try.prog = true := by kernel_rfl
theorem readable : ∀ t ∈ Try.f4.params.toList, Try.prog.readableRec t = true ∧ t < Try.prog.types.size := by
  intro t ht
  rw [Try.params4] at ht
  simp only [List.mem_cons, List.not_mem_nil, or_false] at ht
  rcases ht with rfl | rfl
  all_goals exact ⟨by kernel_rfl, of_decide_eq_true (by kernel_rfl)⟩
set_option maxRecDepth 100000 in
theorem contract (H : Type) (enc : TypeId × Value → H) (W : World) (base : Nat) (args : Array Value) (ds gs : List (DataW H)) (before : List MemPlace)
    (hval : ∀ (j : Nat) t v, Try.f4.params[j]? = some t → args[j]? = some v → Value.okWide Try.prog W .any base t v)
    (hW : DataW.Whole enc Try.prog Try.f4.params.toList Rows.drcLatestSpec.vars false W args.toList ds gs before) (hk : Rows.uptoSmall H (ds ++ gs) = true) :
    Calls Try.prog 4 args W fun e W' => ∃ v, e = .returned v ∧ Rows.drcLatestSpec.post enc Try.prog Try.f4 false true false false W args v W' := by
  have hW' := hW
  obtain ⟨p, q, hA0, hV, rfl, _, _⟩ := hW
  have hA : DataW.TrodAll enc Try.prog W 0 (fun _ => true) true Try.f4.params.toList args.toList ds p := hA0
  rw [Try.params4] at hA hval
  obtain ⟨v0, vs0, d0, ds0, p0, q0, hargs, rfl, rfl, h0, r0⟩ := trodAll_cons hA
  obtain ⟨v1, vs1, d1, ds1, p1, q1, rfl, rfl, rfl, h1, r1⟩ := trodAll_cons r0
  obtain ⟨rfl, rfl, rfl⟩ := trodAll_nil r1
  obtain rfl : args = #[v0, v1] := by cases args; simp_all
  obtain ⟨rfl, rfl⟩ := trodVars_none hV
  clear hA0
  have hk2 : Rows.uptoBulkAll _ ≤ 1048576 := of_decide_eq_true hk
  rw [List.append_nil] at hk2
  obtain ⟨size, rfl, rfl, rfl, wsize⟩ := open_int Try.underlying3 (hval 0 3 v0 rfl rfl) h0
  obtain ⟨fuel1, hf1⟩ := h1
  obtain ⟨A1, n1, c1, hv1⟩ := okWide_slice Try.underlying34 (hval 1 34 v1 rfl rfl)
  subst hv1
  obtain ⟨A1', n1', c1', rows1, hc1, hn1, hrd1, hrow1, hbulk1⟩ := trod_slice_flat (ks := [.str]) (m := 8) Try.underlying34 (by kernel_rfl) (by kernel_rfl) (by decide) hf1
  dsimp only at hbulk1
  obtain ⟨rfl, rfl, rfl⟩ : A1' = A1 ∧ n1' = n1 ∧ c1' = c1 := by simp [Value.cells] at hc1; simp [hc1]
  obtain ⟨t, rfl, hok1⟩ := rows_map (fun x : ByteArray => [.string x]) (fun x : ByteArray => x.size ≤ maxLen) rows1 (fun row hr => of_row_str row (hrow1 row hr))
  refine (walk W size (wf_i64 wsize) A1' n1' c1' t hrd1 (by
    have h1 := len_le_sum (ks := [.str]) _ hrow1 (by decide)
    have h2 := hrd1.1
    simp only [Rows.uptoBulkAll, Rows.uptoBulk] at hk2
    omega) (by
    simp only [Rows.uptoBulkAll, Rows.uptoBulk] at hk2
    omega) hok1).mono fun e W' ⟨he, hb⟩ => ?_
  exact ⟨_, he, law_post (tb := 4) laidOut readable rfl Try.underlying4 rfl hW' rfl rfl rfl hb⟩
set_option maxRecDepth 100000 in
theorem lifted (os : Os) (started : os.Started) (H : Type) (enc : TypeId × Value → H) (F : Stop.Interp) :
    ReturnsInHanded {} Try.checked os 4 .any ((Rows.OpenSpec.upto Rows.drcLatestSpec).pre6 enc Try.prog Try.f4 Rows.drcLatestUptoRow.domain false) (((Rows.OpenSpec.upto Rows.drcLatestSpec).at F).post enc Try.prog Try.f4 false true false false) := by
  refine returnsInHanded_of_cond (C := Try.checked) (s := Rows.OpenSpec.upto Rows.drcLatestSpec) (k := Rows.uptoSmall) rfl own started (by kernel_rfl) Try.func4
    (OpenSpec.witness (enc := enc) (C := Try.checked) (s := Rows.OpenSpec.upto Rows.drcLatestSpec) (k := Rows.uptoSmall) rfl false ⟨#[], #[.int .i64 0, .slice none 0 0], []⟩ 8 (by kernel_rfl) (by kernel_rfl) (by kernel_rfl)
      (x := ([.lit (.int .i64 0), .nil], [], [])) (by kernel_rfl) rfl (by kernel_rfl)) ?_
  intro W base args ds gs before hval hW _ hk _
  exact contract H enc W base args ds gs before hval hW hk
theorem proved : Rows.DrcLatestUptoSaid :=
  OpenClaim.holds_of_cond 4 Try.f4 rfl rfl rfl rfl rfl rfl rfl ⟨rfl, rfl, rfl, rfl, rfl⟩ rfl rfl rfl rfl rfl (by kernel_rfl) Try.func4 (by kernel_rfl)
    (of_decide_eq_true (by kernel_rfl)) (by unfold Func.isWrapper; first | (rw [if_pos (by decide +kernel)]; kernel_rfl) | (rw [if_neg (by decide +kernel)]; exact ⟨rfl, rfl⟩))
    (fun os started H enc _ F => lifted os started H enc F)
#print axioms proved

end Go.Proofs.Ytkkpcjpdpjpohaa.DrcLatest

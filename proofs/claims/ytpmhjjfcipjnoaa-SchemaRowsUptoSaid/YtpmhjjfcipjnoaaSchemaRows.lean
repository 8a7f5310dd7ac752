/- SchemaRows: two forms behind one another take what each takes, one behind the other: of texts of bulk at most 1048576. -/
import Derived.Test.YtpmhjjfcipjnoaaSmM
import Derived.Test.YtpmhjjfcipjnoaaSmZ
import Derived.Test.YtpmhjjfcipjnoaaRgl
import Derived.Test.YtpmhjjfcipjnoaaLift
import Derived.Test.YtpmhjjfcipjnoaaLiftC
import Derived.Deep.DeepCutAuto
namespace Go.Proofs.Ytpmhjjfcipjnoaa.SchemaRows
open Go.RowKit Go.ChangeShapes Go.WideShapes Go.ChangeAt Go.Proofs.Ytpmhjjfcipjnoaa
open Go.ChangeMaps (open_string shut_string)

theorem sum_str {l : List ByteArray} : (l.map fun s => 16 + s.size).sum ≤ 16 * sumW (l.map fun x => [Value.string x]) := by
  induction l with
  | nil => simp
  | cons x r ih =>
    rw [List.map_cons, List.sum_cons, List.map_cons, sumW]
    simp only [wts, wt]
    omega
theorem str_le {l : List ByteArray} {x : ByteArray} (hx : x ∈ l) (h : sumW (l.map fun x => [Value.string x]) ≤ 1048576) : x.size ≤ 1048576 := by
  have h1 : wts [Value.string x] ≤ sumW (l.map fun x => [Value.string x]) := sumW_mem (List.mem_map.2 ⟨x, hx, rfl⟩)
  simp only [wts, wt] at h1
  omega
theorem sum_part (f : ByteArray → Nat) (l : List ByteArray) (k : Nat) : ((l.take k).map f).sum ≤ (l.map f).sum ∧ ((l.drop k).map f).sum ≤ (l.map f).sum := by
  have := congrArg (fun l => (l.map f).sum) (List.take_append_drop k l)
  rw [List.map_append, List.sum_append] at this
  omega
/-- what Encode is asked for here -/
structure Fit (N : List Int) (T : List ByteArray) : Prop where
  hN : N.length ≤ 1048576
  hT : T.length ≤ 1048576
  hTs : ∀ x ∈ T, x.size ≤ 1048576
  hS : (T.map fun s => 16 + s.size).sum ≤ 16 * 1048576
theorem Fit.take {N : List Int} {T : List ByteArray} (h : Fit N T) (k j : Nat) : Fit (N.take k) (T.take j) :=
  ⟨by rw [List.length_take]; have := h.hN; omega, by rw [List.length_take]; have := h.hT; omega, fun x hx => h.hTs x (List.mem_of_mem_take hx), Nat.le_trans (sum_part _ T j).1 h.hS⟩
theorem Fit.drop {N : List Int} {T : List ByteArray} (h : Fit N T) (k j : Nat) : Fit (N.drop k) (T.drop j) :=
  ⟨by rw [List.length_drop]; have := h.hN; omega, by rw [List.length_drop]; have := h.hT; omega, fun x hx => h.hTs x (List.mem_of_mem_drop hx), Nat.le_trans (sum_part _ T j).2 h.hS⟩
theorem enc_fit {f : ByteArray} (hf : f.size ≤ 1099511627776) {N : List Int} {T : List ByteArray} (h : Fit N T) {n m : Nat} (hn : n = N.length) (hm : m = T.length) {w0 w : World} {F : List Assn} (AN : Option Addr) (cN : Nat) (AT : Option Addr) (cT : Nat) (hrN : RdI w AN N) (hrT : RdS w AT T) (H : St w0 w F) :
    Calls Try.prog 15 #[.string f, .agg #[.slice AN n cN, .slice AT m cT]] w (EncE w0 F (encodeF f N T)) := by
  rw [hn, hm]
  exact encode_ok f hf AN cN AT cT N T (by have := h.hN; omega) (by have := h.hT; omega) (fun x hx => by have := h.hTs x hx; omega) (by unfold wgt; have := h.hN; have := h.hS; dsimp only; omega) hrN hrT H
theorem own_only {base : Nat} {w : World} {A : Assn} : ∀ {L : List Assn} {hs : List PH}, Own base w L hs → A ∈ L → ∃ h, A h ∧ h.sub w ∧ ∀ i o, h i = some o → base ≤ i
  | _, _, .cons ha hs hb hd r, hm => by
    rcases List.mem_cons.1 hm with rfl | hm
    · exact ⟨_, ha, hs, hb⟩
    · exact own_only r hm
/-- one of what is owned -/
theorem st_only {w0 w : World} {L : List Assn} (H : St w0 w L) {A : Assn} (hm : A ∈ L) : St w0 w [A] := by
  obtain ⟨hb, hs, ho⟩ := H
  obtain ⟨h, h1, h2, h3⟩ := own_only ho hm
  exact ⟨hb, [h], .cons h1 h2 h3 (fun k hk => by cases hk) .nil⟩
-- a new slice: §1 the world, §2 the new one, §3 H, §4 the new H, §5 the block, §6 the type
-- an append of ints: §1 H (the row ahead), §2 the new H, §3 the new world
-- the end: §1 H, §2 build's place, §3 the call's, §4 the first and §5 the last behind it, §6 the form, §7 the numbers, §8 how many, §9 how the cut is met
-- §1 ints' make, §2 ints' append, §3 texts' make, §4 texts' append, §5 the end's rest
set_option maxRecDepth 100000 in
set_option maxHeartbeats 8000000 in
theorem walk (w : World) (f0 : ByteArray) (hf0 : f0.size ≤ 1048576) (f1 : ByteArray) (hf1 : f1.size ≤ 1048576)
    (A : Option Addr) (n c : Nat) (l : List Int) (hrd : SlRd w A n 1 (l.map fun x => [.int .i64 x])) (hn : n ≤ 1048576) (_hs1 : sumW (l.map fun x => [.int .i64 x]) ≤ 1048576) (_hok : ∀ x ∈ l, -9223372036854775808 ≤ x ∧ x ≤ 9223372036854775807) (hcap : n ≤ c ∧ c ≤ maxLen)
    (B : Option Addr) (m d : Nat) (t : List ByteArray) (hrd2 : SlRd w B m 1 (t.map fun x => [.string x])) (hm : m ≤ 1048576) (hsum : sumW (t.map fun x => [.string x]) ≤ 1048576) (_hok2 : ∀ x ∈ t, x.size ≤ maxLen) (hcap2 : m ≤ d ∧ d ≤ maxLen) :
    Calls Try.prog 8 #[.agg #[.string f0, .string f1], .slice A n c, .slice B m d] w fun r w' => r = .returned (.bool true) ∧ Below w.heap.size w w' := by
  have hln : n = l.length := by have := hrd.1; simpa using this.symm
  have hlm : m = t.length := by have := hrd2.1; simpa using this.symm
  have hri : RdI w A l := fun j x hx => by
    obtain ⟨b, o, h1, h2⟩ := (SlRd.src hrd (Below.refl _ _)).2 j (.int .i64 x) (by rw [List.getElem?_map, hx]; rfl)
    exact ⟨b, o, h1, h2⟩
  have hrs : RdS w B t := fun j x hx => by
    obtain ⟨b, o, h1, h2⟩ := (SlRd.src hrd2 (Below.refl _ _)).2 j (.string x) (by rw [List.getElem?_map, hx]; rfl)
    exact ⟨b, o, h1, h2⟩
  have hft : Fit l t := ⟨by omega, by omega, fun x hx => str_le hx hsum, Nat.le_trans sum_str (Nat.mul_le_mul_left _ hsum)⟩
  obtain ⟨hc1, hc2⟩ := hcap
  obtain ⟨hd1, hd2⟩ := hcap2
  have HLN := Lib.hid hln; have HLM := Lib.hid hlm; have HRI := Lib.hid hri; have HRS := Lib.hid hrs; have HFT := Lib.hid hft
  clear hln hlm hri hrs hft hrd hrd2 _hs1 hsum _hok _hok2
  have H0 := (St.init w).alloc #[.string f0, .string f1] 44
  obtain ⟨b3, hb3⟩ : ∃ b, b = w.heap.size := ⟨_, rfl⟩
  go_enter Try.func8, Try.ntmps8
  go_upto_region 1 with (fail)
  rw [← hb3] at H0 ⊢
  generalize w.alloc (.cells #[.string f0, .string f1] 44) = w1 at *
  clear hb3
  go_wp2_with (fail)
  refine (speaks_ok H0).mono ?_
  rintro x w2 ⟨rfl, H1⟩
  clear H0
  have q0 := H1.cell 0 rfl
  go_wp2_with (fail)
  refine (check_ok f0 (by omega) H1).mono ?_
  rintro x w3 ⟨rfl, H2⟩
  clear H1 q0
  have q1 := H2.cell 1 (v := .string f1) rfl
  have q0 := H2.cell 0 (v := .string f0) rfl
  cases hp0 : (parseF f0).isSome with
  | false =>
    go_wp2_with (fail)
    go_ret
    exact ⟨rfl, H2.below⟩
  | true =>
  have HP0 := Lib.hid hp0; clear hp0
  go_wp2_with (fail)
  refine (check_ok f1 (by omega) H2).mono ?_
  rintro x w4 ⟨rfl, H3⟩
  clear H2 q0 q1
  have q1 := H3.cell 1 (v := .string f1) rfl
  have q0 := H3.cell 0 (v := .string f0) rfl
  cases hp1 : (parseF f1).isSome with
  | false =>
    go_wp2_with (fail)
    go_ret
    exact ⟨rfl, H3.below⟩
  | true =>
  have HP1 := Lib.hid hp1; clear hp1
  by_cases hz : f0.size + f1.size ≤ 1000
  rotate_left 1
  · have hzI : (f0.size : Int) + f1.size > 1000 := by omega
    go_wp2_with (fail)
    go_ret
    exact ⟨rfl, H3.below⟩
  have hzI : ¬ (f0.size : Int) + f1.size > 1000 := by omega
  have HZ := Lib.hid hz
  go_upto_region 6 with (fail)
  clear q0 q1 hzI hz
  go_loopw [7] (fun kv wr => ∃ k : Nat, k ≤ n + 1 ∧ kv = .int .i64 k ∧ St w wr [Pt b3 #[.string f0, .string f1] 44]) (fun kv _ => n + 1 - (intOf kv).toNat)
  case atStart => exact ⟨0, by omega, rfl, H3⟩
  case round =>
    obtain ⟨k, hk, rfl, H4⟩ := hrel
    clear H3
    by_cases hkn : k ≤ n
    rotate_left 1
    · have hknI : ¬ (k : Int) ≤ n := by omega
      go_wp2_with (fail)
      go_ret
      exact ⟨rfl, H4.below⟩
    have hknI : (k : Int) ≤ n := by omega
    have hkcI : (k : Int) ≤ c := by omega
    go_upto_region 9 with (fail)
    go_loopw [8] (fun jv wr => ∃ j : Nat, j ≤ m + 1 ∧ jv = .int .i64 j ∧ St w wr [Pt b3 #[.string f0, .string f1] 44]) (fun jv _ => m + 1 - (intOf jv).toNat)
    case atStart => exact ⟨0, by omega, rfl, H4⟩
    case round =>
      obtain ⟨j, hj, rfl, H5⟩ := hrel
      clear H4
      by_cases hjm : j ≤ m ∧ j < 9
      rotate_left 1
      · have hout : Hid (¬ j ≤ m ∨ (j ≤ m ∧ ¬ j < 9)) := by show _ ∨ _; omega
        clear hjm
        by_cases hk20 : 20 < k
        · have hk20I : (k : Int) > 20 := by omega
          rcases hout with ho | ⟨ho, ho9⟩
          · have hoI : decide ((j : Int) ≤ m) = false := decide_eq_false (by omega)
            have hoN : decide (j ≤ m) = false := decide_eq_false ho
            clear ho
            go_wp2_with (fail)
            go_ret
            exact ⟨rfl, H5.below⟩
          · have hoI : decide ((j : Int) ≤ m) = true := decide_eq_true (by omega)
            have hoN : decide (j ≤ m) = true := decide_eq_true ho
            have ho9I : ¬ (j : Int) < 9 := by omega
            clear ho ho9
            go_wp2_with (fail)
            go_ret
            exact ⟨rfl, H5.below⟩
        · have hk20I : ¬ (k : Int) > 20 := by omega
          rcases hout with ho | ⟨ho, ho9⟩
          · have hoI : decide ((j : Int) ≤ m) = false := decide_eq_false (by omega)
            have hoN : decide (j ≤ m) = false := decide_eq_false ho
            clear ho
            go_wp2_with (fail)
            go_roundw
            case rel => exact ⟨k + 1, by omega, by go_num, H5⟩
            case measure => simp [intOf]; omega
          · have hoI : decide ((j : Int) ≤ m) = true := decide_eq_true (by omega)
            have hoN : decide (j ≤ m) = true := decide_eq_true ho
            have ho9I : ¬ (j : Int) < 9 := by omega
            clear ho ho9
            go_wp2_with (fail)
            go_roundw
            case rel => exact ⟨k + 1, by omega, by go_num, H5⟩
            case measure => simp [intOf]; omega
      obtain ⟨hjm, hj9⟩ := hjm
      have hjmI : decide ((j : Int) ≤ m) = true := decide_eq_true (by omega)
      have hjmN : decide (j ≤ m) = true := decide_eq_true hjm
      have hj9I : (j : Int) < 9 := by omega
      have hjdI : (j : Int) ≤ d := by omega
      go_upto_region 11 with (fail)
      go_cut [9, 10] (fun v e wx => ∃ va ea, v = .string va ∧ e = .int .i64 ea ∧ ((ea = 0 ∧ encodeF f0 (l.take k) (t.take j) = .ok va) ∨ (ea ≠ 0 ∧ encodeF f0 (l.take k) (t.take j) = .error ea ∧ va = ⟨#[]⟩)) ∧ va.size ≤ 65536 ∧ St w wx [Pt b3 #[.string f0, .string f1] 44])
      case first =>
        have HS3 : ∀ (L : Array Bool) (w' : World) (G : List Assn), St w w' G → Pt b3 #[.string f0, .string f1] 44 ∈ G → Keep [(13, fun w' => w'.cell? ⟨b3, 0, none⟩ = some (.string f0))] L w' := fun L w' G H hm => Keep.on (H.memc hm 0 rfl) trivial
        have H' := H5.drew
        obtain ⟨i0, hi, hz0, hz1, hz2⟩ := info_parts infoInt
        obtain ⟨j0, hj, hy0, hy1, hy2⟩ := info_parts infoStr
        refine wp_region_L [(13, fun w' => w'.cell? ⟨b3, 0, none⟩ = some (.string f0))] (by kernel_rfl) (HS3 _ _ _ H' (by simp only [List.mem_cons, true_or, or_true])) (fun hKeep => ?_)
        generalize wr.drew = wa at *
        clear H5
        refine rgl_take (i := 0) (v := ?_) [] rfl (by kernel_rfl) (by kernel_rfl) (by decide +kernel) (fun _ _ _ h => h) (by kernel_rfl) (by kernel_rfl) (Or.inl ⟨by kernel_rfl, ?_⟩) hKeep ?_
        rotate_left 1
        · rintro w' -
          go_simp
          first | done | with_reducible rfl
        intro hKeep'
        clear hKeep
        have hKeep := hKeep'
        clear hKeep'
        try simp only [Act.put, List.setIfInBounds_toArray, List.set_cons_zero, List.set_cons_succ]
        refine rgl_take (i := 1) (v := ?_) [13] rfl (by kernel_rfl) (by kernel_rfl) (by decide +kernel) (fun _ _ _ h => h) (by kernel_rfl) (by kernel_rfl) (Or.inl ⟨by kernel_rfl, ?_⟩) hKeep ?_
        rotate_left 1
        · rintro w' ⟨L, hL, hSw⟩
          have q := Keep.hd hSw (hL 13 (by simp))
          try dsimp only at q
          clear hSw hL
          go_simp
          first | done | with_reducible rfl
        intro hKeep'
        clear hKeep
        have hKeep := hKeep'
        clear hKeep'
        try simp only [Act.put, List.setIfInBounds_toArray, List.set_cons_zero, List.set_cons_succ]
        refine rgl_take (i := 3) (v := ?_) [] rfl (by kernel_rfl) (by kernel_rfl) (by decide +kernel) (fun _ _ _ h => h) (by kernel_rfl) (by kernel_rfl) (Or.inl ⟨by kernel_rfl, ?_⟩) hKeep ?_
        rotate_left 1
        · rintro w' -
          go_simp
          first | done | with_reducible rfl
        intro hKeep'
        clear hKeep
        have hKeep := hKeep'
        clear hKeep'
        try simp only [Act.put, List.setIfInBounds_toArray, List.set_cons_zero, List.set_cons_succ]
        refine rgl_take (i := 4) (v := ?_) [] rfl (by kernel_rfl) (by kernel_rfl) (by decide +kernel) (fun _ _ _ h => h) (by kernel_rfl) (by kernel_rfl) (Or.inl ⟨by kernel_rfl, ?_⟩) hKeep ?_
        rotate_left 1
        · rintro w' -
          go_simp
          first | done | with_reducible rfl
        intro hKeep'
        clear hKeep
        have hKeep := hKeep'
        clear hKeep'
        try simp only [Act.put, List.setIfInBounds_toArray, List.set_cons_zero, List.set_cons_succ]
        refine rgl_take (i := 5) (v := ?_) [] rfl (by kernel_rfl) (by kernel_rfl) (by decide +kernel) (fun _ _ _ h => h) (by kernel_rfl) (by kernel_rfl) (Or.inl ⟨by kernel_rfl, ?_⟩) hKeep ?_
        rotate_left 1
        · rintro w' -
          go_simp
          first | done | with_reducible rfl
        intro hKeep'
        clear hKeep
        have hKeep := hKeep'
        clear hKeep'
        try simp only [Act.put, List.setIfInBounds_toArray, List.set_cons_zero, List.set_cons_succ]
        refine rgl_take (i := 8) (v := ?_) [] rfl (by kernel_rfl) (by kernel_rfl) (by decide +kernel) (fun _ _ _ h => h) (by kernel_rfl) (by kernel_rfl) (Or.inl ⟨by kernel_rfl, ?_⟩) hKeep ?_
        rotate_left 1
        · rintro w' -
          go_simp
          first | done | with_reducible rfl
        intro hKeep'
        clear hKeep
        have hKeep := hKeep'
        clear hKeep'
        try simp only [Act.put, List.setIfInBounds_toArray, List.set_cons_zero, List.set_cons_succ]
        refine rgl_take (i := 9) (v := ?_) [] rfl (by kernel_rfl) (by kernel_rfl) (by decide +kernel) (fun _ _ _ h => h) (by kernel_rfl) (by kernel_rfl) (Or.inl ⟨by kernel_rfl, ?_⟩) hKeep ?_
        rotate_left 1
        · rintro w' -
          go_simp
          first | done | with_reducible rfl
        intro hKeep'
        clear hKeep
        have hKeep := hKeep'
        clear hKeep'
        try simp only [Act.put, List.setIfInBounds_toArray, List.set_cons_zero, List.set_cons_succ]
        refine rgl_take (i := 10) (v := ?_) [] rfl (by kernel_rfl) (by kernel_rfl) (by decide +kernel) (fun _ _ _ h => h) (by kernel_rfl) (by kernel_rfl) (Or.inl ⟨by kernel_rfl, ?_⟩) hKeep ?_
        rotate_left 1
        · rintro w' -
          go_simp
          first | done | with_reducible rfl
        intro hKeep'
        clear hKeep
        have hKeep := hKeep'
        clear hKeep'
        try simp only [Act.put, List.setIfInBounds_toArray, List.set_cons_zero, List.set_cons_succ]
        have hni : k = (l.take k).length := by rw [List.length_take]; have := HLN.out; omega
        have hns : j = (t.take j).length := by rw [List.length_take]; have := HLM.out; omega
        have HNI := Lib.hid hni; have HNS := Lib.hid hns; have HFIT := Lib.hid (HFT.out.take k j)
        have HRI := Lib.hid (HRI.out.firsts k); have HRS := Lib.hid (HRS.out.firsts j)
        clear hni hns
        refine rgl_ready (rs := [2, 7]) (by decide +kernel) (by simp) ?_
        refine rgl_cons rfl (fun K hK => ?_) (rgl_cons rfl (fun K hK => ?_) AllReadyL.nil)
        · have Hb := St.emptyRow (size := 1) ((H').alloc #[] 3)
          go_simp
          refine hK.out _ _ (HS3 _ _ _ Hb (by simp only [List.mem_cons, true_or, or_true])) (fun hKeep' => ?_)
          clear hK hKeep
          have hKeep := hKeep'
          clear hKeep'
          try simp only [Act.put, List.setIfInBounds_toArray, List.set_cons_zero, List.set_cons_succ]
          generalize (wa).heap.size = b5 at *
          generalize (wa).alloc (.cells #[] 3) = wb at *
          refine rgl_ready (rs := [6, 7]) (by decide +kernel) (by simp) ?_
          refine rgl_cons rfl (fun K hK => ?_) (rgl_cons rfl (fun K hK => ?_) AllReadyL.nil)
          · refine step_append_any (by rfl) _ _ _ (by rfl) 3 i0 (.int .i64 0) 1 8 Try.underlying23 hi hz0 hz1 hz2 rfl (by decide) _ 0 0 [] (Hb) (by rfl) _ _ _ _ (by rfl) (by rw [ivs_length, ← HNI.out, Nat.mul_one]) (RdI.src HNI.out (HRI.out.keep (Hb))) (ivs_one _) (by unfold maxLen; omega) (by omega) ?_
            rw [List.nil_append, Nat.zero_add]
            intro A5 c5 wc Hc
            refine hK.out _ _ (HS3 _ _ _ Hc (by simp only [List.mem_cons, true_or, or_true])) (fun hKeep' => ?_)
            clear hK hKeep
            have hKeep := hKeep'
            clear hKeep'
            try simp only [Act.put, List.setIfInBounds_toArray, List.set_cons_zero, List.set_cons_succ]
            refine rgl_ready (rs := [7]) (by decide +kernel) (by simp) ?_
            refine rgl_cons rfl (fun K hK => ?_) AllReadyL.nil
            have Hd := St.emptyRow (size := 1) ((Hc).alloc #[] 9)
            go_simp
            refine hK.out _ _ (HS3 _ _ _ Hd (by simp only [List.mem_cons, true_or, or_true])) (fun hKeep' => ?_)
            clear hK hKeep
            have hKeep := hKeep'
            clear hKeep'
            try simp only [Act.put, List.setIfInBounds_toArray, List.set_cons_zero, List.set_cons_succ]
            generalize (wc).heap.size = b6 at *
            generalize (wc).alloc (.cells #[] 9) = wd at *
            refine rgl_ready (rs := [11]) (by decide +kernel) (by simp) ?_
            refine rgl_cons rfl (fun K hK => ?_) AllReadyL.nil
            refine step_append_any (by rfl) _ _ _ (by rfl) 9 j0 (.string ByteArray.empty) 1 16 Try.underlying24 hj hy0 hy1 hy2 rfl (by decide) _ 0 0 [] (Hd) (by rfl) _ _ _ _ (by rfl) (by rw [svs_length, ← HNS.out, Nat.mul_one]) (RdS.src HNS.out (HRS.out.keep (Hd))) (svs_one _) (by unfold maxLen; omega) (by omega) ?_
            rw [List.nil_append, Nat.zero_add]
            intro A6 c6 we He
            refine hK.out _ _ (HS3 _ _ _ He (by simp only [List.mem_cons, true_or, or_true])) (fun hKeep' => ?_)
            clear hK hKeep
            have hKeep := hKeep'
            clear hKeep'
            try simp only [Act.put, List.setIfInBounds_toArray, List.set_cons_zero, List.set_cons_succ]
            refine rgl_take (i := 12) (v := ?_) [] rfl (by kernel_rfl) (by kernel_rfl) (by decide +kernel) (fun _ _ _ h => h) (by kernel_rfl) (by kernel_rfl) (Or.inl ⟨by kernel_rfl, ?_⟩) hKeep ?_
            rotate_left 1
            · rintro w' -
              go_simp
              first | done | with_reducible rfl
            intro hKeep'
            clear hKeep
            have hKeep := hKeep'
            clear hKeep'
            try simp only [Act.put, List.setIfInBounds_toArray, List.set_cons_zero, List.set_cons_succ]
            refine rgl_ready (rs := [13]) (by decide +kernel) (by simp) ?_
            refine rgl_cons rfl (fun K hK => ?_) AllReadyL.nil
            have hrN := RdI.row (st_only He (A := Row 3 1 A5 k c5 (ivs (l.take k))) (by simp only [List.mem_cons, true_or, or_true]))
            have hrT := RdS.row (st_only He (A := Row 9 1 A6 j c6 (svs (t.take j))) (by simp only [List.mem_cons, true_or, or_true]))
            have hcall := enc_fit (f := f0) (by omega) HFIT.out HNI.out HNS.out A5 c5 A6 c6 hrN hrT He
            go_simp
            refine hcall.mono ?_
            clear hcall hrN hrT
            intro x w9 hx
            obtain ⟨va, ea, rfl, he, hvz, H9⟩ := hx.ans
            refine hK.out _ _ (HS3 _ _ _ H9 (by simp only [List.mem_cons, true_or, or_true])) (fun hKeep' => ?_)
            clear hK hKeep
            have hKeep := hKeep'
            clear hKeep'
            try simp only [Act.put, List.setIfInBounds_toArray, List.set_cons_zero, List.set_cons_succ]
            refine rgl_take (i := 14) (v := ?_) [] rfl (by kernel_rfl) (by kernel_rfl) (by decide +kernel) (fun _ _ _ h => h) (by kernel_rfl) (by kernel_rfl) (Or.inl ⟨by kernel_rfl, ?_⟩) hKeep ?_
            rotate_left 1
            · rintro w' -
              go_simp
              first | done | with_reducible rfl
            intro hKeep'
            clear hKeep
            have hKeep := hKeep'
            clear hKeep'
            try simp only [Act.put, List.setIfInBounds_toArray, List.set_cons_zero, List.set_cons_succ]
            refine rgl_take (i := 15) (v := ?_) [] rfl (by kernel_rfl) (by kernel_rfl) (by decide +kernel) (fun _ _ _ h => h) (by kernel_rfl) (by kernel_rfl) (Or.inl ⟨by kernel_rfl, ?_⟩) hKeep ?_
            rotate_left 1
            · rintro w' -
              go_simp
              first | done | with_reducible rfl
            intro hKeep'
            clear hKeep
            have hKeep := hKeep'
            clear hKeep'
            try simp only [Act.put, List.setIfInBounds_toArray, List.set_cons_zero, List.set_cons_succ]
            refine rgl_take (i := 16) (v := ?_) [] rfl (by kernel_rfl) (by kernel_rfl) (by decide +kernel) (fun _ _ _ h => h) (by kernel_rfl) (by kernel_rfl) (Or.inl ⟨by kernel_rfl, ?_⟩) hKeep ?_
            rotate_left 1
            · rintro w' -
              go_simp
              first | done | with_reducible rfl
            intro hKeep'
            clear hKeep
            have hKeep := hKeep'
            clear hKeep'
            try simp only [Act.put, List.setIfInBounds_toArray, List.set_cons_zero, List.set_cons_succ]
            refine rgl_take (i := 17) (v := ?_) [] rfl (by kernel_rfl) (by kernel_rfl) (by decide +kernel) (fun _ _ _ h => h) (by kernel_rfl) (by kernel_rfl) (Or.inl ⟨by kernel_rfl, ?_⟩) hKeep ?_
            rotate_left 1
            · rintro w' -
              go_simp
              first | done | with_reducible rfl
            intro hKeep'
            clear hKeep
            have hKeep := hKeep'
            clear hKeep'
            try simp only [Act.put, List.setIfInBounds_toArray, List.set_cons_zero, List.set_cons_succ]
            refine rgl_take (i := 18) (v := ?_) [] rfl (by kernel_rfl) (by kernel_rfl) (by decide +kernel) (fun _ _ _ h => h) (by kernel_rfl) (by kernel_rfl) (Or.inl ⟨by kernel_rfl, ?_⟩) hKeep ?_
            rotate_left 1
            · rintro w' -
              go_simp
              first | done | with_reducible rfl
            intro hKeep'
            clear hKeep
            have hKeep := hKeep'
            clear hKeep'
            try simp only [Act.put, List.setIfInBounds_toArray, List.set_cons_zero, List.set_cons_succ]
            refine rgl_done (by decide +kernel) ?_ _
            go_wp2_with (fail)
            go_meet
            exact ⟨_, _, rfl, rfl, he, hvz, st_only H9 (by simp only [List.mem_cons, true_or, or_true])⟩
          · have Hc := St.emptyRow (size := 1) ((Hb).alloc #[] 9)
            go_simp
            refine hK.out _ _ (HS3 _ _ _ Hc (by simp only [List.mem_cons, true_or, or_true])) (fun hKeep' => ?_)
            clear hK hKeep
            have hKeep := hKeep'
            clear hKeep'
            try simp only [Act.put, List.setIfInBounds_toArray, List.set_cons_zero, List.set_cons_succ]
            generalize (wb).heap.size = b6 at *
            generalize (wb).alloc (.cells #[] 9) = wc at *
            refine rgl_ready (rs := [6]) (by decide +kernel) (by simp) ?_
            refine rgl_cons rfl (fun K hK => ?_) AllReadyL.nil
            refine step_append_any (by rfl) _ _ _ (by rfl) 3 i0 (.int .i64 0) 1 8 Try.underlying23 hi hz0 hz1 hz2 rfl (by decide) _ 0 0 [] (Hc.r2) (by rfl) _ _ _ _ (by rfl) (by rw [ivs_length, ← HNI.out, Nat.mul_one]) (RdI.src HNI.out (HRI.out.keep (Hc.r2))) (ivs_one _) (by unfold maxLen; omega) (by omega) ?_
            rw [List.nil_append, Nat.zero_add]
            intro A5 c5 wd Hd
            refine hK.out _ _ (HS3 _ _ _ Hd (by simp only [List.mem_cons, true_or, or_true])) (fun hKeep' => ?_)
            clear hK hKeep
            have hKeep := hKeep'
            clear hKeep'
            try simp only [Act.put, List.setIfInBounds_toArray, List.set_cons_zero, List.set_cons_succ]
            refine rgl_ready (rs := [11]) (by decide +kernel) (by simp) ?_
            refine rgl_cons rfl (fun K hK => ?_) AllReadyL.nil
            refine step_append_any (by rfl) _ _ _ (by rfl) 9 j0 (.string ByteArray.empty) 1 16 Try.underlying24 hj hy0 hy1 hy2 rfl (by decide) _ 0 0 [] (Hd.r2) (by rfl) _ _ _ _ (by rfl) (by rw [svs_length, ← HNS.out, Nat.mul_one]) (RdS.src HNS.out (HRS.out.keep (Hd.r2))) (svs_one _) (by unfold maxLen; omega) (by omega) ?_
            rw [List.nil_append, Nat.zero_add]
            intro A6 c6 we He
            refine hK.out _ _ (HS3 _ _ _ He (by simp only [List.mem_cons, true_or, or_true])) (fun hKeep' => ?_)
            clear hK hKeep
            have hKeep := hKeep'
            clear hKeep'
            try simp only [Act.put, List.setIfInBounds_toArray, List.set_cons_zero, List.set_cons_succ]
            refine rgl_take (i := 12) (v := ?_) [] rfl (by kernel_rfl) (by kernel_rfl) (by decide +kernel) (fun _ _ _ h => h) (by kernel_rfl) (by kernel_rfl) (Or.inl ⟨by kernel_rfl, ?_⟩) hKeep ?_
            rotate_left 1
            · rintro w' -
              go_simp
              first | done | with_reducible rfl
            intro hKeep'
            clear hKeep
            have hKeep := hKeep'
            clear hKeep'
            try simp only [Act.put, List.setIfInBounds_toArray, List.set_cons_zero, List.set_cons_succ]
            refine rgl_ready (rs := [13]) (by decide +kernel) (by simp) ?_
            refine rgl_cons rfl (fun K hK => ?_) AllReadyL.nil
            have hrN := RdI.row (st_only He (A := Row 3 1 A5 k c5 (ivs (l.take k))) (by simp only [List.mem_cons, true_or, or_true]))
            have hrT := RdS.row (st_only He (A := Row 9 1 A6 j c6 (svs (t.take j))) (by simp only [List.mem_cons, true_or, or_true]))
            have hcall := enc_fit (f := f0) (by omega) HFIT.out HNI.out HNS.out A5 c5 A6 c6 hrN hrT He
            go_simp
            refine hcall.mono ?_
            clear hcall hrN hrT
            intro x w9 hx
            obtain ⟨va, ea, rfl, he, hvz, H9⟩ := hx.ans
            refine hK.out _ _ (HS3 _ _ _ H9 (by simp only [List.mem_cons, true_or, or_true])) (fun hKeep' => ?_)
            clear hK hKeep
            have hKeep := hKeep'
            clear hKeep'
            try simp only [Act.put, List.setIfInBounds_toArray, List.set_cons_zero, List.set_cons_succ]
            refine rgl_take (i := 14) (v := ?_) [] rfl (by kernel_rfl) (by kernel_rfl) (by decide +kernel) (fun _ _ _ h => h) (by kernel_rfl) (by kernel_rfl) (Or.inl ⟨by kernel_rfl, ?_⟩) hKeep ?_
            rotate_left 1
            · rintro w' -
              go_simp
              first | done | with_reducible rfl
            intro hKeep'
            clear hKeep
            have hKeep := hKeep'
            clear hKeep'
            try simp only [Act.put, List.setIfInBounds_toArray, List.set_cons_zero, List.set_cons_succ]
            refine rgl_take (i := 15) (v := ?_) [] rfl (by kernel_rfl) (by kernel_rfl) (by decide +kernel) (fun _ _ _ h => h) (by kernel_rfl) (by kernel_rfl) (Or.inl ⟨by kernel_rfl, ?_⟩) hKeep ?_
            rotate_left 1
            · rintro w' -
              go_simp
              first | done | with_reducible rfl
            intro hKeep'
            clear hKeep
            have hKeep := hKeep'
            clear hKeep'
            try simp only [Act.put, List.setIfInBounds_toArray, List.set_cons_zero, List.set_cons_succ]
            refine rgl_take (i := 16) (v := ?_) [] rfl (by kernel_rfl) (by kernel_rfl) (by decide +kernel) (fun _ _ _ h => h) (by kernel_rfl) (by kernel_rfl) (Or.inl ⟨by kernel_rfl, ?_⟩) hKeep ?_
            rotate_left 1
            · rintro w' -
              go_simp
              first | done | with_reducible rfl
            intro hKeep'
            clear hKeep
            have hKeep := hKeep'
            clear hKeep'
            try simp only [Act.put, List.setIfInBounds_toArray, List.set_cons_zero, List.set_cons_succ]
            refine rgl_take (i := 17) (v := ?_) [] rfl (by kernel_rfl) (by kernel_rfl) (by decide +kernel) (fun _ _ _ h => h) (by kernel_rfl) (by kernel_rfl) (Or.inl ⟨by kernel_rfl, ?_⟩) hKeep ?_
            rotate_left 1
            · rintro w' -
              go_simp
              first | done | with_reducible rfl
            intro hKeep'
            clear hKeep
            have hKeep := hKeep'
            clear hKeep'
            try simp only [Act.put, List.setIfInBounds_toArray, List.set_cons_zero, List.set_cons_succ]
            refine rgl_take (i := 18) (v := ?_) [] rfl (by kernel_rfl) (by kernel_rfl) (by decide +kernel) (fun _ _ _ h => h) (by kernel_rfl) (by kernel_rfl) (Or.inl ⟨by kernel_rfl, ?_⟩) hKeep ?_
            rotate_left 1
            · rintro w' -
              go_simp
              first | done | with_reducible rfl
            intro hKeep'
            clear hKeep
            have hKeep := hKeep'
            clear hKeep'
            try simp only [Act.put, List.setIfInBounds_toArray, List.set_cons_zero, List.set_cons_succ]
            refine rgl_done (by decide +kernel) ?_ _
            go_wp2_with (fail)
            go_meet
            exact ⟨_, _, rfl, rfl, he, hvz, st_only H9 (by simp only [List.mem_cons, true_or, or_true])⟩
        · have Hb := St.emptyRow (size := 1) ((H').alloc #[] 9)
          go_simp
          refine hK.out _ _ (HS3 _ _ _ Hb (by simp only [List.mem_cons, true_or, or_true])) (fun hKeep' => ?_)
          clear hK hKeep
          have hKeep := hKeep'
          clear hKeep'
          try simp only [Act.put, List.setIfInBounds_toArray, List.set_cons_zero, List.set_cons_succ]
          generalize (wa).heap.size = b6 at *
          generalize (wa).alloc (.cells #[] 9) = wb at *
          refine rgl_ready (rs := [2]) (by decide +kernel) (by simp) ?_
          refine rgl_cons rfl (fun K hK => ?_) AllReadyL.nil
          have Hc := St.emptyRow (size := 1) ((Hb).alloc #[] 3)
          go_simp
          refine hK.out _ _ (HS3 _ _ _ Hc (by simp only [List.mem_cons, true_or, or_true])) (fun hKeep' => ?_)
          clear hK hKeep
          have hKeep := hKeep'
          clear hKeep'
          try simp only [Act.put, List.setIfInBounds_toArray, List.set_cons_zero, List.set_cons_succ]
          generalize (wb).heap.size = b5 at *
          generalize (wb).alloc (.cells #[] 3) = wc at *
          refine rgl_ready (rs := [6]) (by decide +kernel) (by simp) ?_
          refine rgl_cons rfl (fun K hK => ?_) AllReadyL.nil
          refine step_append_any (by rfl) _ _ _ (by rfl) 3 i0 (.int .i64 0) 1 8 Try.underlying23 hi hz0 hz1 hz2 rfl (by decide) _ 0 0 [] (Hc) (by rfl) _ _ _ _ (by rfl) (by rw [ivs_length, ← HNI.out, Nat.mul_one]) (RdI.src HNI.out (HRI.out.keep (Hc))) (ivs_one _) (by unfold maxLen; omega) (by omega) ?_
          rw [List.nil_append, Nat.zero_add]
          intro A5 c5 wd Hd
          refine hK.out _ _ (HS3 _ _ _ Hd (by simp only [List.mem_cons, true_or, or_true])) (fun hKeep' => ?_)
          clear hK hKeep
          have hKeep := hKeep'
          clear hKeep'
          try simp only [Act.put, List.setIfInBounds_toArray, List.set_cons_zero, List.set_cons_succ]
          refine rgl_ready (rs := [11]) (by decide +kernel) (by simp) ?_
          refine rgl_cons rfl (fun K hK => ?_) AllReadyL.nil
          refine step_append_any (by rfl) _ _ _ (by rfl) 9 j0 (.string ByteArray.empty) 1 16 Try.underlying24 hj hy0 hy1 hy2 rfl (by decide) _ 0 0 [] (Hd.r2) (by rfl) _ _ _ _ (by rfl) (by rw [svs_length, ← HNS.out, Nat.mul_one]) (RdS.src HNS.out (HRS.out.keep (Hd.r2))) (svs_one _) (by unfold maxLen; omega) (by omega) ?_
          rw [List.nil_append, Nat.zero_add]
          intro A6 c6 we He
          refine hK.out _ _ (HS3 _ _ _ He (by simp only [List.mem_cons, true_or, or_true])) (fun hKeep' => ?_)
          clear hK hKeep
          have hKeep := hKeep'
          clear hKeep'
          try simp only [Act.put, List.setIfInBounds_toArray, List.set_cons_zero, List.set_cons_succ]
          refine rgl_take (i := 12) (v := ?_) [] rfl (by kernel_rfl) (by kernel_rfl) (by decide +kernel) (fun _ _ _ h => h) (by kernel_rfl) (by kernel_rfl) (Or.inl ⟨by kernel_rfl, ?_⟩) hKeep ?_
          rotate_left 1
          · rintro w' -
            go_simp
            first | done | with_reducible rfl
          intro hKeep'
          clear hKeep
          have hKeep := hKeep'
          clear hKeep'
          try simp only [Act.put, List.setIfInBounds_toArray, List.set_cons_zero, List.set_cons_succ]
          refine rgl_ready (rs := [13]) (by decide +kernel) (by simp) ?_
          refine rgl_cons rfl (fun K hK => ?_) AllReadyL.nil
          have hrN := RdI.row (st_only He (A := Row 3 1 A5 k c5 (ivs (l.take k))) (by simp only [List.mem_cons, true_or, or_true]))
          have hrT := RdS.row (st_only He (A := Row 9 1 A6 j c6 (svs (t.take j))) (by simp only [List.mem_cons, true_or, or_true]))
          have hcall := enc_fit (f := f0) (by omega) HFIT.out HNI.out HNS.out A5 c5 A6 c6 hrN hrT He
          go_simp
          refine hcall.mono ?_
          clear hcall hrN hrT
          intro x w9 hx
          obtain ⟨va, ea, rfl, he, hvz, H9⟩ := hx.ans
          refine hK.out _ _ (HS3 _ _ _ H9 (by simp only [List.mem_cons, true_or, or_true])) (fun hKeep' => ?_)
          clear hK hKeep
          have hKeep := hKeep'
          clear hKeep'
          try simp only [Act.put, List.setIfInBounds_toArray, List.set_cons_zero, List.set_cons_succ]
          refine rgl_take (i := 14) (v := ?_) [] rfl (by kernel_rfl) (by kernel_rfl) (by decide +kernel) (fun _ _ _ h => h) (by kernel_rfl) (by kernel_rfl) (Or.inl ⟨by kernel_rfl, ?_⟩) hKeep ?_
          rotate_left 1
          · rintro w' -
            go_simp
            first | done | with_reducible rfl
          intro hKeep'
          clear hKeep
          have hKeep := hKeep'
          clear hKeep'
          try simp only [Act.put, List.setIfInBounds_toArray, List.set_cons_zero, List.set_cons_succ]
          refine rgl_take (i := 15) (v := ?_) [] rfl (by kernel_rfl) (by kernel_rfl) (by decide +kernel) (fun _ _ _ h => h) (by kernel_rfl) (by kernel_rfl) (Or.inl ⟨by kernel_rfl, ?_⟩) hKeep ?_
          rotate_left 1
          · rintro w' -
            go_simp
            first | done | with_reducible rfl
          intro hKeep'
          clear hKeep
          have hKeep := hKeep'
          clear hKeep'
          try simp only [Act.put, List.setIfInBounds_toArray, List.set_cons_zero, List.set_cons_succ]
          refine rgl_take (i := 16) (v := ?_) [] rfl (by kernel_rfl) (by kernel_rfl) (by decide +kernel) (fun _ _ _ h => h) (by kernel_rfl) (by kernel_rfl) (Or.inl ⟨by kernel_rfl, ?_⟩) hKeep ?_
          rotate_left 1
          · rintro w' -
            go_simp
            first | done | with_reducible rfl
          intro hKeep'
          clear hKeep
          have hKeep := hKeep'
          clear hKeep'
          try simp only [Act.put, List.setIfInBounds_toArray, List.set_cons_zero, List.set_cons_succ]
          refine rgl_take (i := 17) (v := ?_) [] rfl (by kernel_rfl) (by kernel_rfl) (by decide +kernel) (fun _ _ _ h => h) (by kernel_rfl) (by kernel_rfl) (Or.inl ⟨by kernel_rfl, ?_⟩) hKeep ?_
          rotate_left 1
          · rintro w' -
            go_simp
            first | done | with_reducible rfl
          intro hKeep'
          clear hKeep
          have hKeep := hKeep'
          clear hKeep'
          try simp only [Act.put, List.setIfInBounds_toArray, List.set_cons_zero, List.set_cons_succ]
          refine rgl_take (i := 18) (v := ?_) [] rfl (by kernel_rfl) (by kernel_rfl) (by decide +kernel) (fun _ _ _ h => h) (by kernel_rfl) (by kernel_rfl) (Or.inl ⟨by kernel_rfl, ?_⟩) hKeep ?_
          rotate_left 1
          · rintro w' -
            go_simp
            first | done | with_reducible rfl
          intro hKeep'
          clear hKeep
          have hKeep := hKeep'
          clear hKeep'
          try simp only [Act.put, List.setIfInBounds_toArray, List.set_cons_zero, List.set_cons_succ]
          refine rgl_done (by decide +kernel) ?_ _
          go_wp2_with (fail)
          go_meet
          exact ⟨_, _, rfl, rfl, he, hvz, st_only H9 (by simp only [List.mem_cons, true_or, or_true])⟩
      obtain ⟨va, ea, rfl, rfl, hea, hvaz, H6⟩ := hcut
      have HEA := Lib.hid hea
      clear hea H5
      go_upto_region 12 with (fail)
      go_cut [11, 12] (fun v e wx => ∃ vb eb, v = .string vb ∧ e = .int .i64 eb ∧ ((eb = 0 ∧ encodeF f1 (l.drop k) (t.drop j) = .ok vb) ∨ (eb ≠ 0 ∧ encodeF f1 (l.drop k) (t.drop j) = .error eb ∧ vb = ⟨#[]⟩)) ∧ vb.size ≤ 65536 ∧ St w wx [Pt b3 #[.string f0, .string f1] 44])
      case first =>
        have HS3 : ∀ (L : Array Bool) (w' : World) (G : List Assn), St w w' G → Pt b3 #[.string f0, .string f1] 44 ∈ G → Keep [(13, fun w' => w'.cell? ⟨b3, 1, none⟩ = some (.string f1))] L w' := fun L w' G H hm => Keep.on (H.memc hm 1 rfl) trivial
        have H' := H6.drew
        obtain ⟨i0, hi, hz0, hz1, hz2⟩ := info_parts infoInt
        obtain ⟨j0, hj, hy0, hy1, hy2⟩ := info_parts infoStr
        refine wp_region_L [(13, fun w' => w'.cell? ⟨b3, 1, none⟩ = some (.string f1))] (by kernel_rfl) (HS3 _ _ _ H' (by simp only [List.mem_cons, true_or, or_true])) (fun hKeep => ?_)
        generalize World.drew _ = wa at *
        clear H6
        refine rgl_take (i := 0) (v := ?_) [] rfl (by kernel_rfl) (by kernel_rfl) (by decide +kernel) (fun _ _ _ h => h) (by kernel_rfl) (by kernel_rfl) (Or.inl ⟨by kernel_rfl, ?_⟩) hKeep ?_
        rotate_left 1
        · rintro w' -
          go_simp
          first | done | with_reducible rfl
        intro hKeep'
        clear hKeep
        have hKeep := hKeep'
        clear hKeep'
        try simp only [Act.put, List.setIfInBounds_toArray, List.set_cons_zero, List.set_cons_succ]
        refine rgl_take (i := 1) (v := ?_) [13] rfl (by kernel_rfl) (by kernel_rfl) (by decide +kernel) (fun _ _ _ h => h) (by kernel_rfl) (by kernel_rfl) (Or.inl ⟨by kernel_rfl, ?_⟩) hKeep ?_
        rotate_left 1
        · rintro w' ⟨L, hL, hSw⟩
          have q := Keep.hd hSw (hL 13 (by simp))
          try dsimp only at q
          clear hSw hL
          go_simp
          first | done | with_reducible rfl
        intro hKeep'
        clear hKeep
        have hKeep := hKeep'
        clear hKeep'
        try simp only [Act.put, List.setIfInBounds_toArray, List.set_cons_zero, List.set_cons_succ]
        refine rgl_take (i := 3) (v := ?_) [] rfl (by kernel_rfl) (by kernel_rfl) (by decide +kernel) (fun _ _ _ h => h) (by kernel_rfl) (by kernel_rfl) (Or.inl ⟨by kernel_rfl, ?_⟩) hKeep ?_
        rotate_left 1
        · rintro w' -
          go_simp
          first | done | with_reducible rfl
        intro hKeep'
        clear hKeep
        have hKeep := hKeep'
        clear hKeep'
        try simp only [Act.put, List.setIfInBounds_toArray, List.set_cons_zero, List.set_cons_succ]
        refine rgl_take (i := 4) (v := ?_) [] rfl (by kernel_rfl) (by kernel_rfl) (by decide +kernel) (fun _ _ _ h => h) (by kernel_rfl) (by kernel_rfl) (Or.inl ⟨by kernel_rfl, ?_⟩) hKeep ?_
        rotate_left 1
        · rintro w' -
          go_simp
          first | done | with_reducible rfl
        intro hKeep'
        clear hKeep
        have hKeep := hKeep'
        clear hKeep'
        try simp only [Act.put, List.setIfInBounds_toArray, List.set_cons_zero, List.set_cons_succ]
        refine rgl_take (i := 5) (v := ?_) [] rfl (by kernel_rfl) (by kernel_rfl) (by decide +kernel) (fun _ _ _ h => h) (by kernel_rfl) (by kernel_rfl) (Or.inl ⟨by kernel_rfl, ?_⟩) hKeep ?_
        rotate_left 1
        · rintro w' -
          go_simp
          first | done | with_reducible rfl
        intro hKeep'
        clear hKeep
        have hKeep := hKeep'
        clear hKeep'
        try simp only [Act.put, List.setIfInBounds_toArray, List.set_cons_zero, List.set_cons_succ]
        refine rgl_take (i := 8) (v := ?_) [] rfl (by kernel_rfl) (by kernel_rfl) (by decide +kernel) (fun _ _ _ h => h) (by kernel_rfl) (by kernel_rfl) (Or.inl ⟨by kernel_rfl, ?_⟩) hKeep ?_
        rotate_left 1
        · rintro w' -
          go_simp
          first | done | with_reducible rfl
        intro hKeep'
        clear hKeep
        have hKeep := hKeep'
        clear hKeep'
        try simp only [Act.put, List.setIfInBounds_toArray, List.set_cons_zero, List.set_cons_succ]
        refine rgl_take (i := 9) (v := ?_) [] rfl (by kernel_rfl) (by kernel_rfl) (by decide +kernel) (fun _ _ _ h => h) (by kernel_rfl) (by kernel_rfl) (Or.inl ⟨by kernel_rfl, ?_⟩) hKeep ?_
        rotate_left 1
        · rintro w' -
          go_simp
          first | done | with_reducible rfl
        intro hKeep'
        clear hKeep
        have hKeep := hKeep'
        clear hKeep'
        try simp only [Act.put, List.setIfInBounds_toArray, List.set_cons_zero, List.set_cons_succ]
        refine rgl_take (i := 10) (v := ?_) [] rfl (by kernel_rfl) (by kernel_rfl) (by decide +kernel) (fun _ _ _ h => h) (by kernel_rfl) (by kernel_rfl) (Or.inl ⟨by kernel_rfl, ?_⟩) hKeep ?_
        rotate_left 1
        · rintro w' -
          go_simp
          first | done | with_reducible rfl
        intro hKeep'
        clear hKeep
        have hKeep := hKeep'
        clear hKeep'
        try simp only [Act.put, List.setIfInBounds_toArray, List.set_cons_zero, List.set_cons_succ]
        have hni : n - k = (l.drop k).length := by rw [List.length_drop]; have := HLN.out; omega
        have hns : m - j = (t.drop j).length := by rw [List.length_drop]; have := HLM.out; omega
        have hri : RdI w (if c = k then A else Option.map (fun x => x.add k) A) (l.drop k) := by
          split
          · have : l.drop k = [] := List.drop_eq_nil_of_le (by have := HLN.out; omega)
            rw [this]; exact fun j x hx => by simp at hx
          · exact HRI.out.skip k
        have hrs : RdS w (if d = j then B else Option.map (fun x => x.add j) B) (t.drop j) := by
          split
          · have : t.drop j = [] := List.drop_eq_nil_of_le (by have := HLM.out; omega)
            rw [this]; exact fun j x hx => by simp at hx
          · exact HRS.out.skip j
        have HNI := Lib.hid hni; have HNS := Lib.hid hns; have HFIT := Lib.hid (HFT.out.drop k j)
        have HRI := Lib.hid hri; have HRS := Lib.hid hrs
        clear hni hns hri hrs
        generalize (if c = k then A else Option.map (fun x => x.add k) A) = A2 at *
        generalize (if d = j then B else Option.map (fun x => x.add j) B) = B2 at *
        refine rgl_ready (rs := [2, 7]) (by decide +kernel) (by simp) ?_
        refine rgl_cons rfl (fun K hK => ?_) (rgl_cons rfl (fun K hK => ?_) AllReadyL.nil)
        · have Hb := St.emptyRow (size := 1) ((H').alloc #[] 3)
          go_simp
          refine hK.out _ _ (HS3 _ _ _ Hb (by simp only [List.mem_cons, true_or, or_true])) (fun hKeep' => ?_)
          clear hK hKeep
          have hKeep := hKeep'
          clear hKeep'
          try simp only [Act.put, List.setIfInBounds_toArray, List.set_cons_zero, List.set_cons_succ]
          generalize (wa).heap.size = b5 at *
          generalize (wa).alloc (.cells #[] 3) = wb at *
          refine rgl_ready (rs := [6, 7]) (by decide +kernel) (by simp) ?_
          refine rgl_cons rfl (fun K hK => ?_) (rgl_cons rfl (fun K hK => ?_) AllReadyL.nil)
          · refine step_append_any (by rfl) _ _ _ (by rfl) 3 i0 (.int .i64 0) 1 8 Try.underlying23 hi hz0 hz1 hz2 rfl (by decide) _ 0 0 [] (Hb) (by rfl) _ _ _ _ (by rfl) (by rw [ivs_length, ← HNI.out, Nat.mul_one]) (RdI.src HNI.out (HRI.out.keep (Hb))) (ivs_one _) (by unfold maxLen; omega) (by omega) ?_
            rw [List.nil_append, Nat.zero_add]
            intro A5 c5 wc Hc
            refine hK.out _ _ (HS3 _ _ _ Hc (by simp only [List.mem_cons, true_or, or_true])) (fun hKeep' => ?_)
            clear hK hKeep
            have hKeep := hKeep'
            clear hKeep'
            try simp only [Act.put, List.setIfInBounds_toArray, List.set_cons_zero, List.set_cons_succ]
            refine rgl_ready (rs := [7]) (by decide +kernel) (by simp) ?_
            refine rgl_cons rfl (fun K hK => ?_) AllReadyL.nil
            have Hd := St.emptyRow (size := 1) ((Hc).alloc #[] 9)
            go_simp
            refine hK.out _ _ (HS3 _ _ _ Hd (by simp only [List.mem_cons, true_or, or_true])) (fun hKeep' => ?_)
            clear hK hKeep
            have hKeep := hKeep'
            clear hKeep'
            try simp only [Act.put, List.setIfInBounds_toArray, List.set_cons_zero, List.set_cons_succ]
            generalize (wc).heap.size = b6 at *
            generalize (wc).alloc (.cells #[] 9) = wd at *
            refine rgl_ready (rs := [11]) (by decide +kernel) (by simp) ?_
            refine rgl_cons rfl (fun K hK => ?_) AllReadyL.nil
            refine step_append_any (by rfl) _ _ _ (by rfl) 9 j0 (.string ByteArray.empty) 1 16 Try.underlying24 hj hy0 hy1 hy2 rfl (by decide) _ 0 0 [] (Hd) (by rfl) _ _ _ _ (by rfl) (by rw [svs_length, ← HNS.out, Nat.mul_one]) (RdS.src HNS.out (HRS.out.keep (Hd))) (svs_one _) (by unfold maxLen; omega) (by omega) ?_
            rw [List.nil_append, Nat.zero_add]
            intro A6 c6 we He
            refine hK.out _ _ (HS3 _ _ _ He (by simp only [List.mem_cons, true_or, or_true])) (fun hKeep' => ?_)
            clear hK hKeep
            have hKeep := hKeep'
            clear hKeep'
            try simp only [Act.put, List.setIfInBounds_toArray, List.set_cons_zero, List.set_cons_succ]
            refine rgl_take (i := 12) (v := ?_) [] rfl (by kernel_rfl) (by kernel_rfl) (by decide +kernel) (fun _ _ _ h => h) (by kernel_rfl) (by kernel_rfl) (Or.inl ⟨by kernel_rfl, ?_⟩) hKeep ?_
            rotate_left 1
            · rintro w' -
              go_simp
              first | done | with_reducible rfl
            intro hKeep'
            clear hKeep
            have hKeep := hKeep'
            clear hKeep'
            try simp only [Act.put, List.setIfInBounds_toArray, List.set_cons_zero, List.set_cons_succ]
            refine rgl_ready (rs := [13]) (by decide +kernel) (by simp) ?_
            refine rgl_cons rfl (fun K hK => ?_) AllReadyL.nil
            have hrN := RdI.row (st_only He (A := Row 3 1 A5 (n - k) c5 (ivs (l.drop k))) (by simp only [List.mem_cons, true_or, or_true]))
            have hrT := RdS.row (st_only He (A := Row 9 1 A6 (m - j) c6 (svs (t.drop j))) (by simp only [List.mem_cons, true_or, or_true]))
            have hcall := enc_fit (f := f1) (by omega) HFIT.out HNI.out HNS.out A5 c5 A6 c6 hrN hrT He
            go_simp
            refine hcall.mono ?_
            clear hcall hrN hrT
            intro x w9 hx
            obtain ⟨va, ea, rfl, he, hvz, H9⟩ := hx.ans
            refine hK.out _ _ (HS3 _ _ _ H9 (by simp only [List.mem_cons, true_or, or_true])) (fun hKeep' => ?_)
            clear hK hKeep
            have hKeep := hKeep'
            clear hKeep'
            try simp only [Act.put, List.setIfInBounds_toArray, List.set_cons_zero, List.set_cons_succ]
            refine rgl_take (i := 14) (v := ?_) [] rfl (by kernel_rfl) (by kernel_rfl) (by decide +kernel) (fun _ _ _ h => h) (by kernel_rfl) (by kernel_rfl) (Or.inl ⟨by kernel_rfl, ?_⟩) hKeep ?_
            rotate_left 1
            · rintro w' -
              go_simp
              first | done | with_reducible rfl
            intro hKeep'
            clear hKeep
            have hKeep := hKeep'
            clear hKeep'
            try simp only [Act.put, List.setIfInBounds_toArray, List.set_cons_zero, List.set_cons_succ]
            refine rgl_take (i := 15) (v := ?_) [] rfl (by kernel_rfl) (by kernel_rfl) (by decide +kernel) (fun _ _ _ h => h) (by kernel_rfl) (by kernel_rfl) (Or.inl ⟨by kernel_rfl, ?_⟩) hKeep ?_
            rotate_left 1
            · rintro w' -
              go_simp
              first | done | with_reducible rfl
            intro hKeep'
            clear hKeep
            have hKeep := hKeep'
            clear hKeep'
            try simp only [Act.put, List.setIfInBounds_toArray, List.set_cons_zero, List.set_cons_succ]
            refine rgl_take (i := 16) (v := ?_) [] rfl (by kernel_rfl) (by kernel_rfl) (by decide +kernel) (fun _ _ _ h => h) (by kernel_rfl) (by kernel_rfl) (Or.inl ⟨by kernel_rfl, ?_⟩) hKeep ?_
            rotate_left 1
            · rintro w' -
              go_simp
              first | done | with_reducible rfl
            intro hKeep'
            clear hKeep
            have hKeep := hKeep'
            clear hKeep'
            try simp only [Act.put, List.setIfInBounds_toArray, List.set_cons_zero, List.set_cons_succ]
            refine rgl_take (i := 17) (v := ?_) [] rfl (by kernel_rfl) (by kernel_rfl) (by decide +kernel) (fun _ _ _ h => h) (by kernel_rfl) (by kernel_rfl) (Or.inl ⟨by kernel_rfl, ?_⟩) hKeep ?_
            rotate_left 1
            · rintro w' -
              go_simp
              first | done | with_reducible rfl
            intro hKeep'
            clear hKeep
            have hKeep := hKeep'
            clear hKeep'
            try simp only [Act.put, List.setIfInBounds_toArray, List.set_cons_zero, List.set_cons_succ]
            refine rgl_take (i := 18) (v := ?_) [] rfl (by kernel_rfl) (by kernel_rfl) (by decide +kernel) (fun _ _ _ h => h) (by kernel_rfl) (by kernel_rfl) (Or.inl ⟨by kernel_rfl, ?_⟩) hKeep ?_
            rotate_left 1
            · rintro w' -
              go_simp
              first | done | with_reducible rfl
            intro hKeep'
            clear hKeep
            have hKeep := hKeep'
            clear hKeep'
            try simp only [Act.put, List.setIfInBounds_toArray, List.set_cons_zero, List.set_cons_succ]
            refine rgl_done (by decide +kernel) ?_ _
            go_wp2_with (fail)
            go_meet
            exact ⟨_, _, rfl, rfl, he, hvz, st_only H9 (by simp only [List.mem_cons, true_or, or_true])⟩
          · have Hc := St.emptyRow (size := 1) ((Hb).alloc #[] 9)
            go_simp
            refine hK.out _ _ (HS3 _ _ _ Hc (by simp only [List.mem_cons, true_or, or_true])) (fun hKeep' => ?_)
            clear hK hKeep
            have hKeep := hKeep'
            clear hKeep'
            try simp only [Act.put, List.setIfInBounds_toArray, List.set_cons_zero, List.set_cons_succ]
            generalize (wb).heap.size = b6 at *
            generalize (wb).alloc (.cells #[] 9) = wc at *
            refine rgl_ready (rs := [6]) (by decide +kernel) (by simp) ?_
            refine rgl_cons rfl (fun K hK => ?_) AllReadyL.nil
            refine step_append_any (by rfl) _ _ _ (by rfl) 3 i0 (.int .i64 0) 1 8 Try.underlying23 hi hz0 hz1 hz2 rfl (by decide) _ 0 0 [] (Hc.r2) (by rfl) _ _ _ _ (by rfl) (by rw [ivs_length, ← HNI.out, Nat.mul_one]) (RdI.src HNI.out (HRI.out.keep (Hc.r2))) (ivs_one _) (by unfold maxLen; omega) (by omega) ?_
            rw [List.nil_append, Nat.zero_add]
            intro A5 c5 wd Hd
            refine hK.out _ _ (HS3 _ _ _ Hd (by simp only [List.mem_cons, true_or, or_true])) (fun hKeep' => ?_)
            clear hK hKeep
            have hKeep := hKeep'
            clear hKeep'
            try simp only [Act.put, List.setIfInBounds_toArray, List.set_cons_zero, List.set_cons_succ]
            refine rgl_ready (rs := [11]) (by decide +kernel) (by simp) ?_
            refine rgl_cons rfl (fun K hK => ?_) AllReadyL.nil
            refine step_append_any (by rfl) _ _ _ (by rfl) 9 j0 (.string ByteArray.empty) 1 16 Try.underlying24 hj hy0 hy1 hy2 rfl (by decide) _ 0 0 [] (Hd.r2) (by rfl) _ _ _ _ (by rfl) (by rw [svs_length, ← HNS.out, Nat.mul_one]) (RdS.src HNS.out (HRS.out.keep (Hd.r2))) (svs_one _) (by unfold maxLen; omega) (by omega) ?_
            rw [List.nil_append, Nat.zero_add]
            intro A6 c6 we He
            refine hK.out _ _ (HS3 _ _ _ He (by simp only [List.mem_cons, true_or, or_true])) (fun hKeep' => ?_)
            clear hK hKeep
            have hKeep := hKeep'
            clear hKeep'
            try simp only [Act.put, List.setIfInBounds_toArray, List.set_cons_zero, List.set_cons_succ]
            refine rgl_take (i := 12) (v := ?_) [] rfl (by kernel_rfl) (by kernel_rfl) (by decide +kernel) (fun _ _ _ h => h) (by kernel_rfl) (by kernel_rfl) (Or.inl ⟨by kernel_rfl, ?_⟩) hKeep ?_
            rotate_left 1
            · rintro w' -
              go_simp
              first | done | with_reducible rfl
            intro hKeep'
            clear hKeep
            have hKeep := hKeep'
            clear hKeep'
            try simp only [Act.put, List.setIfInBounds_toArray, List.set_cons_zero, List.set_cons_succ]
            refine rgl_ready (rs := [13]) (by decide +kernel) (by simp) ?_
            refine rgl_cons rfl (fun K hK => ?_) AllReadyL.nil
            have hrN := RdI.row (st_only He (A := Row 3 1 A5 (n - k) c5 (ivs (l.drop k))) (by simp only [List.mem_cons, true_or, or_true]))
            have hrT := RdS.row (st_only He (A := Row 9 1 A6 (m - j) c6 (svs (t.drop j))) (by simp only [List.mem_cons, true_or, or_true]))
            have hcall := enc_fit (f := f1) (by omega) HFIT.out HNI.out HNS.out A5 c5 A6 c6 hrN hrT He
            go_simp
            refine hcall.mono ?_
            clear hcall hrN hrT
            intro x w9 hx
            obtain ⟨va, ea, rfl, he, hvz, H9⟩ := hx.ans
            refine hK.out _ _ (HS3 _ _ _ H9 (by simp only [List.mem_cons, true_or, or_true])) (fun hKeep' => ?_)
            clear hK hKeep
            have hKeep := hKeep'
            clear hKeep'
            try simp only [Act.put, List.setIfInBounds_toArray, List.set_cons_zero, List.set_cons_succ]
            refine rgl_take (i := 14) (v := ?_) [] rfl (by kernel_rfl) (by kernel_rfl) (by decide +kernel) (fun _ _ _ h => h) (by kernel_rfl) (by kernel_rfl) (Or.inl ⟨by kernel_rfl, ?_⟩) hKeep ?_
            rotate_left 1
            · rintro w' -
              go_simp
              first | done | with_reducible rfl
            intro hKeep'
            clear hKeep
            have hKeep := hKeep'
            clear hKeep'
            try simp only [Act.put, List.setIfInBounds_toArray, List.set_cons_zero, List.set_cons_succ]
            refine rgl_take (i := 15) (v := ?_) [] rfl (by kernel_rfl) (by kernel_rfl) (by decide +kernel) (fun _ _ _ h => h) (by kernel_rfl) (by kernel_rfl) (Or.inl ⟨by kernel_rfl, ?_⟩) hKeep ?_
            rotate_left 1
            · rintro w' -
              go_simp
              first | done | with_reducible rfl
            intro hKeep'
            clear hKeep
            have hKeep := hKeep'
            clear hKeep'
            try simp only [Act.put, List.setIfInBounds_toArray, List.set_cons_zero, List.set_cons_succ]
            refine rgl_take (i := 16) (v := ?_) [] rfl (by kernel_rfl) (by kernel_rfl) (by decide +kernel) (fun _ _ _ h => h) (by kernel_rfl) (by kernel_rfl) (Or.inl ⟨by kernel_rfl, ?_⟩) hKeep ?_
            rotate_left 1
            · rintro w' -
              go_simp
              first | done | with_reducible rfl
            intro hKeep'
            clear hKeep
            have hKeep := hKeep'
            clear hKeep'
            try simp only [Act.put, List.setIfInBounds_toArray, List.set_cons_zero, List.set_cons_succ]
            refine rgl_take (i := 17) (v := ?_) [] rfl (by kernel_rfl) (by kernel_rfl) (by decide +kernel) (fun _ _ _ h => h) (by kernel_rfl) (by kernel_rfl) (Or.inl ⟨by kernel_rfl, ?_⟩) hKeep ?_
            rotate_left 1
            · rintro w' -
              go_simp
              first | done | with_reducible rfl
            intro hKeep'
            clear hKeep
            have hKeep := hKeep'
            clear hKeep'
            try simp only [Act.put, List.setIfInBounds_toArray, List.set_cons_zero, List.set_cons_succ]
            refine rgl_take (i := 18) (v := ?_) [] rfl (by kernel_rfl) (by kernel_rfl) (by decide +kernel) (fun _ _ _ h => h) (by kernel_rfl) (by kernel_rfl) (Or.inl ⟨by kernel_rfl, ?_⟩) hKeep ?_
            rotate_left 1
            · rintro w' -
              go_simp
              first | done | with_reducible rfl
            intro hKeep'
            clear hKeep
            have hKeep := hKeep'
            clear hKeep'
            try simp only [Act.put, List.setIfInBounds_toArray, List.set_cons_zero, List.set_cons_succ]
            refine rgl_done (by decide +kernel) ?_ _
            go_wp2_with (fail)
            go_meet
            exact ⟨_, _, rfl, rfl, he, hvz, st_only H9 (by simp only [List.mem_cons, true_or, or_true])⟩
        · have Hb := St.emptyRow (size := 1) ((H').alloc #[] 9)
          go_simp
          refine hK.out _ _ (HS3 _ _ _ Hb (by simp only [List.mem_cons, true_or, or_true])) (fun hKeep' => ?_)
          clear hK hKeep
          have hKeep := hKeep'
          clear hKeep'
          try simp only [Act.put, List.setIfInBounds_toArray, List.set_cons_zero, List.set_cons_succ]
          generalize (wa).heap.size = b6 at *
          generalize (wa).alloc (.cells #[] 9) = wb at *
          refine rgl_ready (rs := [2]) (by decide +kernel) (by simp) ?_
          refine rgl_cons rfl (fun K hK => ?_) AllReadyL.nil
          have Hc := St.emptyRow (size := 1) ((Hb).alloc #[] 3)
          go_simp
          refine hK.out _ _ (HS3 _ _ _ Hc (by simp only [List.mem_cons, true_or, or_true])) (fun hKeep' => ?_)
          clear hK hKeep
          have hKeep := hKeep'
          clear hKeep'
          try simp only [Act.put, List.setIfInBounds_toArray, List.set_cons_zero, List.set_cons_succ]
          generalize (wb).heap.size = b5 at *
          generalize (wb).alloc (.cells #[] 3) = wc at *
          refine rgl_ready (rs := [6]) (by decide +kernel) (by simp) ?_
          refine rgl_cons rfl (fun K hK => ?_) AllReadyL.nil
          refine step_append_any (by rfl) _ _ _ (by rfl) 3 i0 (.int .i64 0) 1 8 Try.underlying23 hi hz0 hz1 hz2 rfl (by decide) _ 0 0 [] (Hc) (by rfl) _ _ _ _ (by rfl) (by rw [ivs_length, ← HNI.out, Nat.mul_one]) (RdI.src HNI.out (HRI.out.keep (Hc))) (ivs_one _) (by unfold maxLen; omega) (by omega) ?_
          rw [List.nil_append, Nat.zero_add]
          intro A5 c5 wd Hd
          refine hK.out _ _ (HS3 _ _ _ Hd (by simp only [List.mem_cons, true_or, or_true])) (fun hKeep' => ?_)
          clear hK hKeep
          have hKeep := hKeep'
          clear hKeep'
          try simp only [Act.put, List.setIfInBounds_toArray, List.set_cons_zero, List.set_cons_succ]
          refine rgl_ready (rs := [11]) (by decide +kernel) (by simp) ?_
          refine rgl_cons rfl (fun K hK => ?_) AllReadyL.nil
          refine step_append_any (by rfl) _ _ _ (by rfl) 9 j0 (.string ByteArray.empty) 1 16 Try.underlying24 hj hy0 hy1 hy2 rfl (by decide) _ 0 0 [] (Hd.r2) (by rfl) _ _ _ _ (by rfl) (by rw [svs_length, ← HNS.out, Nat.mul_one]) (RdS.src HNS.out (HRS.out.keep (Hd.r2))) (svs_one _) (by unfold maxLen; omega) (by omega) ?_
          rw [List.nil_append, Nat.zero_add]
          intro A6 c6 we He
          refine hK.out _ _ (HS3 _ _ _ He (by simp only [List.mem_cons, true_or, or_true])) (fun hKeep' => ?_)
          clear hK hKeep
          have hKeep := hKeep'
          clear hKeep'
          try simp only [Act.put, List.setIfInBounds_toArray, List.set_cons_zero, List.set_cons_succ]
          refine rgl_take (i := 12) (v := ?_) [] rfl (by kernel_rfl) (by kernel_rfl) (by decide +kernel) (fun _ _ _ h => h) (by kernel_rfl) (by kernel_rfl) (Or.inl ⟨by kernel_rfl, ?_⟩) hKeep ?_
          rotate_left 1
          · rintro w' -
            go_simp
            first | done | with_reducible rfl
          intro hKeep'
          clear hKeep
          have hKeep := hKeep'
          clear hKeep'
          try simp only [Act.put, List.setIfInBounds_toArray, List.set_cons_zero, List.set_cons_succ]
          refine rgl_ready (rs := [13]) (by decide +kernel) (by simp) ?_
          refine rgl_cons rfl (fun K hK => ?_) AllReadyL.nil
          have hrN := RdI.row (st_only He (A := Row 3 1 A5 (n - k) c5 (ivs (l.drop k))) (by simp only [List.mem_cons, true_or, or_true]))
          have hrT := RdS.row (st_only He (A := Row 9 1 A6 (m - j) c6 (svs (t.drop j))) (by simp only [List.mem_cons, true_or, or_true]))
          have hcall := enc_fit (f := f1) (by omega) HFIT.out HNI.out HNS.out A5 c5 A6 c6 hrN hrT He
          go_simp
          refine hcall.mono ?_
          clear hcall hrN hrT
          intro x w9 hx
          obtain ⟨va, ea, rfl, he, hvz, H9⟩ := hx.ans
          refine hK.out _ _ (HS3 _ _ _ H9 (by simp only [List.mem_cons, true_or, or_true])) (fun hKeep' => ?_)
          clear hK hKeep
          have hKeep := hKeep'
          clear hKeep'
          try simp only [Act.put, List.setIfInBounds_toArray, List.set_cons_zero, List.set_cons_succ]
          refine rgl_take (i := 14) (v := ?_) [] rfl (by kernel_rfl) (by kernel_rfl) (by decide +kernel) (fun _ _ _ h => h) (by kernel_rfl) (by kernel_rfl) (Or.inl ⟨by kernel_rfl, ?_⟩) hKeep ?_
          rotate_left 1
          · rintro w' -
            go_simp
            first | done | with_reducible rfl
          intro hKeep'
          clear hKeep
          have hKeep := hKeep'
          clear hKeep'
          try simp only [Act.put, List.setIfInBounds_toArray, List.set_cons_zero, List.set_cons_succ]
          refine rgl_take (i := 15) (v := ?_) [] rfl (by kernel_rfl) (by kernel_rfl) (by decide +kernel) (fun _ _ _ h => h) (by kernel_rfl) (by kernel_rfl) (Or.inl ⟨by kernel_rfl, ?_⟩) hKeep ?_
          rotate_left 1
          · rintro w' -
            go_simp
            first | done | with_reducible rfl
          intro hKeep'
          clear hKeep
          have hKeep := hKeep'
          clear hKeep'
          try simp only [Act.put, List.setIfInBounds_toArray, List.set_cons_zero, List.set_cons_succ]
          refine rgl_take (i := 16) (v := ?_) [] rfl (by kernel_rfl) (by kernel_rfl) (by decide +kernel) (fun _ _ _ h => h) (by kernel_rfl) (by kernel_rfl) (Or.inl ⟨by kernel_rfl, ?_⟩) hKeep ?_
          rotate_left 1
          · rintro w' -
            go_simp
            first | done | with_reducible rfl
          intro hKeep'
          clear hKeep
          have hKeep := hKeep'
          clear hKeep'
          try simp only [Act.put, List.setIfInBounds_toArray, List.set_cons_zero, List.set_cons_succ]
          refine rgl_take (i := 17) (v := ?_) [] rfl (by kernel_rfl) (by kernel_rfl) (by decide +kernel) (fun _ _ _ h => h) (by kernel_rfl) (by kernel_rfl) (Or.inl ⟨by kernel_rfl, ?_⟩) hKeep ?_
          rotate_left 1
          · rintro w' -
            go_simp
            first | done | with_reducible rfl
          intro hKeep'
          clear hKeep
          have hKeep := hKeep'
          clear hKeep'
          try simp only [Act.put, List.setIfInBounds_toArray, List.set_cons_zero, List.set_cons_succ]
          refine rgl_take (i := 18) (v := ?_) [] rfl (by kernel_rfl) (by kernel_rfl) (by decide +kernel) (fun _ _ _ h => h) (by kernel_rfl) (by kernel_rfl) (Or.inl ⟨by kernel_rfl, ?_⟩) hKeep ?_
          rotate_left 1
          · rintro w' -
            go_simp
            first | done | with_reducible rfl
          intro hKeep'
          clear hKeep
          have hKeep := hKeep'
          clear hKeep'
          try simp only [Act.put, List.setIfInBounds_toArray, List.set_cons_zero, List.set_cons_succ]
          refine rgl_done (by decide +kernel) ?_ _
          go_wp2_with (fail)
          go_meet
          exact ⟨_, _, rfl, rfl, he, hvz, st_only H9 (by simp only [List.mem_cons, true_or, or_true])⟩
      obtain ⟨vb, eb, rfl, rfl, heb, hvbz, H7⟩ := hcut
      have HEB := Lib.hid heb
      clear heb H6
      by_cases hea : ea = 0 ∧ eb = 0 ∧ va.size + vb.size ≤ 65536
      rotate_left 1
      · by_cases h1 : ea = 0
        rotate_left 1
        · have hne : (ea != 0) = true := bne_iff_ne.2 h1
          go_wp2_with (fail)
          go_roundw
          case rel => exact ⟨j + 1, by omega, by go_num, H7⟩
          case measure => simp [intOf]; omega
        have hne : (ea != 0) = false := by rw [h1]; rfl
        by_cases h2 : eb = 0
        rotate_left 1
        · have hnf : (eb != 0) = true := bne_iff_ne.2 h2
          go_wp2_with (fail)
          go_roundw
          case rel => exact ⟨j + 1, by omega, by go_num, H7⟩
          case measure => simp [intOf]; omega
        have hnf : (eb != 0) = false := by rw [h2]; rfl
        have hzz : (va.size : Int) + vb.size > 65536 := by omega
        clear h1 h2 hea
        go_wp2_with (fail)
        go_roundw
        case rel => exact ⟨j + 1, by omega, by go_num, H7⟩
        case measure => simp [intOf]; omega
      obtain ⟨rfl, rfl, hzz⟩ := hea
      have hzzI : ¬ (va.size : Int) + vb.size > 65536 := by omega
      have hea : encodeF f0 (l.take k) (t.take j) = .ok va := by
        rcases HEA.out with ⟨_, h⟩ | ⟨h, _⟩
        · exact h
        · exact absurd rfl h
      have heb : encodeF f1 (l.drop k) (t.drop j) = .ok vb := by
        rcases HEB.out with ⟨_, h⟩ | ⟨h, _⟩
        · exact h
        · exact absurd rfl h
      have hec := enc_rows hea heb HZ.out hzz
      rw [List.take_append_drop, List.take_append_drop] at hec
      have HEC := Lib.hid hec
      clear hea heb hec HEA HEB
      go_upto_region 14 with (fail)
      clear hzzI
      go_cut [13, 14] (fun v e wx => v = .string (va ++ vb) ∧ e = .int .i64 0 ∧ St w wx [Pt b3 #[.string f0, .string f1] 44])
      case first =>
        have HS3 : ∀ (L : Array Bool) (w' : World) (G : List Assn), St w w' G → Pt b3 #[.string f0, .string f1] 44 ∈ G → Keep [(17, fun w' => w'.cell? ⟨b3, 0, none⟩ = some (.string f0)), (17, fun w' => w'.cell? ⟨b3, 1, none⟩ = some (.string f1))] L w' := fun L w' G H hm => Keep.on (H.memc hm 0 rfl) (Keep.on (H.memc hm 1 rfl) trivial)
        have H' := H7.drew
        obtain ⟨i0, hi, hz0, hz1, hz2⟩ := info_parts infoInt
        obtain ⟨j0, hj, hy0, hy1, hy2⟩ := info_parts infoStr
        have hff : ¬ 9223372036854775807 < f0.size + f1.size := by have := HZ.out; omega
        have hfz : (f0 ++ f1).size ≤ 1099511627776 := by rw [ByteArray.size_append]; have := HZ.out; omega
        refine wp_region_L [(17, fun w' => w'.cell? ⟨b3, 0, none⟩ = some (.string f0)), (17, fun w' => w'.cell? ⟨b3, 1, none⟩ = some (.string f1))] (by kernel_rfl) (HS3 _ _ _ H' (by simp only [List.mem_cons, true_or, or_true])) (fun hKeep => ?_)
        generalize World.drew _ = wa at *
        clear H7
        refine rgl_take (i := 0) (v := ?_) [] rfl (by kernel_rfl) (by kernel_rfl) (by decide +kernel) (fun _ _ _ h => h) (by kernel_rfl) (by kernel_rfl) (Or.inl ⟨by kernel_rfl, ?_⟩) hKeep ?_
        rotate_left 1
        · rintro w' -
          go_simp
          first | done | with_reducible rfl
        intro hKeep'
        clear hKeep
        have hKeep := hKeep'
        clear hKeep'
        try simp only [Act.put, List.setIfInBounds_toArray, List.set_cons_zero, List.set_cons_succ]
        refine rgl_take (i := 1) (v := ?_) [17] rfl (by kernel_rfl) (by kernel_rfl) (by decide +kernel) (fun _ _ _ h => h) (by kernel_rfl) (by kernel_rfl) (Or.inl ⟨by kernel_rfl, ?_⟩) hKeep ?_
        rotate_left 1
        · rintro w' ⟨L, hL, hSw⟩
          have q := Keep.hd hSw (hL 17 (by simp))
          try dsimp only at q
          clear hSw hL
          go_simp
          first | done | with_reducible rfl
        intro hKeep'
        clear hKeep
        have hKeep := hKeep'
        clear hKeep'
        try simp only [Act.put, List.setIfInBounds_toArray, List.set_cons_zero, List.set_cons_succ]
        refine rgl_take (i := 2) (v := ?_) [] rfl (by kernel_rfl) (by kernel_rfl) (by decide +kernel) (fun _ _ _ h => h) (by kernel_rfl) (by kernel_rfl) (Or.inl ⟨by kernel_rfl, ?_⟩) hKeep ?_
        rotate_left 1
        · rintro w' -
          go_simp
          first | done | with_reducible rfl
        intro hKeep'
        clear hKeep
        have hKeep := hKeep'
        clear hKeep'
        try simp only [Act.put, List.setIfInBounds_toArray, List.set_cons_zero, List.set_cons_succ]
        refine rgl_take (i := 3) (v := ?_) [17] rfl (by kernel_rfl) (by kernel_rfl) (by decide +kernel) (fun _ _ _ h => h) (by kernel_rfl) (by kernel_rfl) (Or.inl ⟨by kernel_rfl, ?_⟩) hKeep ?_
        rotate_left 1
        · rintro w' ⟨L, hL, hSw⟩
          have q := Keep.hd (Keep.tl hSw) (hL 17 (by simp))
          try dsimp only at q
          clear hSw hL
          go_simp
          first | done | with_reducible rfl
        intro hKeep'
        clear hKeep
        have hKeep := hKeep'
        clear hKeep'
        try simp only [Act.put, List.setIfInBounds_toArray, List.set_cons_zero, List.set_cons_succ]
        refine rgl_take (i := 4) (v := ?_) [] rfl (by kernel_rfl) (by kernel_rfl) (by decide +kernel) (fun _ _ _ h => h) (by kernel_rfl) (by kernel_rfl) (Or.inl ⟨by kernel_rfl, ?_⟩) hKeep ?_
        rotate_left 1
        · rintro w' -
          go_simp
          first | done | with_reducible rfl
        intro hKeep'
        clear hKeep
        have hKeep := hKeep'
        clear hKeep'
        try simp only [Act.put, List.setIfInBounds_toArray, List.set_cons_zero, List.set_cons_succ]
        refine rgl_take (i := 6) (v := ?_) [] rfl (by kernel_rfl) (by kernel_rfl) (by decide +kernel) (fun _ _ _ h => h) (by kernel_rfl) (by kernel_rfl) (Or.inl ⟨by kernel_rfl, ?_⟩) hKeep ?_
        rotate_left 1
        · rintro w' -
          go_simp
          first | done | with_reducible rfl
        intro hKeep'
        clear hKeep
        have hKeep := hKeep'
        clear hKeep'
        try simp only [Act.put, List.setIfInBounds_toArray, List.set_cons_zero, List.set_cons_succ]
        refine rgl_take (i := 9) (v := ?_) [] rfl (by kernel_rfl) (by kernel_rfl) (by decide +kernel) (fun _ _ _ h => h) (by kernel_rfl) (by kernel_rfl) (Or.inl ⟨by kernel_rfl, ?_⟩) hKeep ?_
        rotate_left 1
        · rintro w' -
          go_simp
          first | done | with_reducible rfl
        intro hKeep'
        clear hKeep
        have hKeep := hKeep'
        clear hKeep'
        try simp only [Act.put, List.setIfInBounds_toArray, List.set_cons_zero, List.set_cons_succ]
        have HNI := HLN; have HNS := HLM; have HFIT := HFT
        refine rgl_ready (rs := [5, 8]) (by decide +kernel) (by simp) ?_
        refine rgl_cons rfl (fun K hK => ?_) (rgl_cons rfl (fun K hK => ?_) AllReadyL.nil)
        · have Hb := St.emptyRow (size := 1) ((H').alloc #[] 3)
          go_simp
          refine hK.out _ _ (HS3 _ _ _ Hb (by simp only [List.mem_cons, true_or, or_true])) (fun hKeep' => ?_)
          clear hK hKeep
          have hKeep := hKeep'
          clear hKeep'
          try simp only [Act.put, List.setIfInBounds_toArray, List.set_cons_zero, List.set_cons_succ]
          generalize (wa).heap.size = b5 at *
          generalize (wa).alloc (.cells #[] 3) = wb at *
          refine rgl_ready (rs := [7, 8]) (by decide +kernel) (by simp) ?_
          refine rgl_cons rfl (fun K hK => ?_) (rgl_cons rfl (fun K hK => ?_) AllReadyL.nil)
          · refine step_append_any (by rfl) _ _ _ (by rfl) 3 i0 (.int .i64 0) 1 8 Try.underlying23 hi hz0 hz1 hz2 rfl (by decide) _ 0 0 [] (Hb) (by rfl) _ _ _ _ (by rfl) (by rw [ivs_length, ← HNI.out, Nat.mul_one]) (RdI.src HNI.out (HRI.out.keep (Hb))) (ivs_one _) (by unfold maxLen; omega) (by omega) ?_
            rw [List.nil_append, Nat.zero_add]
            intro A5 c5 wc Hc
            refine hK.out _ _ (HS3 _ _ _ Hc (by simp only [List.mem_cons, true_or, or_true])) (fun hKeep' => ?_)
            clear hK hKeep
            have hKeep := hKeep'
            clear hKeep'
            try simp only [Act.put, List.setIfInBounds_toArray, List.set_cons_zero, List.set_cons_succ]
            refine rgl_ready (rs := [8]) (by decide +kernel) (by simp) ?_
            refine rgl_cons rfl (fun K hK => ?_) AllReadyL.nil
            have Hd := St.emptyRow (size := 1) ((Hc).alloc #[] 9)
            go_simp
            refine hK.out _ _ (HS3 _ _ _ Hd (by simp only [List.mem_cons, true_or, or_true])) (fun hKeep' => ?_)
            clear hK hKeep
            have hKeep := hKeep'
            clear hKeep'
            try simp only [Act.put, List.setIfInBounds_toArray, List.set_cons_zero, List.set_cons_succ]
            generalize (wc).heap.size = b6 at *
            generalize (wc).alloc (.cells #[] 9) = wd at *
            refine rgl_ready (rs := [10]) (by decide +kernel) (by simp) ?_
            refine rgl_cons rfl (fun K hK => ?_) AllReadyL.nil
            refine step_append_any (by rfl) _ _ _ (by rfl) 9 j0 (.string ByteArray.empty) 1 16 Try.underlying24 hj hy0 hy1 hy2 rfl (by decide) _ 0 0 [] (Hd) (by rfl) _ _ _ _ (by rfl) (by rw [svs_length, ← HNS.out, Nat.mul_one]) (RdS.src HNS.out (HRS.out.keep (Hd))) (svs_one _) (by unfold maxLen; omega) (by omega) ?_
            rw [List.nil_append, Nat.zero_add]
            intro A6 c6 we He
            refine hK.out _ _ (HS3 _ _ _ He (by simp only [List.mem_cons, true_or, or_true])) (fun hKeep' => ?_)
            clear hK hKeep
            have hKeep := hKeep'
            clear hKeep'
            try simp only [Act.put, List.setIfInBounds_toArray, List.set_cons_zero, List.set_cons_succ]
            refine rgl_take (i := 11) (v := ?_) [] rfl (by kernel_rfl) (by kernel_rfl) (by decide +kernel) (fun _ _ _ h => h) (by kernel_rfl) (by kernel_rfl) (Or.inl ⟨by kernel_rfl, ?_⟩) hKeep ?_
            rotate_left 1
            · rintro w' -
              go_simp
              first | done | with_reducible rfl
            intro hKeep'
            clear hKeep
            have hKeep := hKeep'
            clear hKeep'
            try simp only [Act.put, List.setIfInBounds_toArray, List.set_cons_zero, List.set_cons_succ]
            refine rgl_ready (rs := [12]) (by decide +kernel) (by simp) ?_
            refine rgl_cons rfl (fun K hK => ?_) AllReadyL.nil
            have hrN := RdI.row (st_only He (A := Row 3 1 A5 n c5 (ivs l)) (by simp only [List.mem_cons, true_or, or_true]))
            have hrT := RdS.row (st_only He (A := Row 9 1 A6 m c6 (svs t)) (by simp only [List.mem_cons, true_or, or_true]))
            have hcall := enc_fit (f := f0 ++ f1) hfz HFIT.out HNI.out HNS.out A5 c5 A6 c6 hrN hrT He
            rw [HEC.out] at hcall
            go_simp
            refine hcall.mono ?_
            clear hcall hrN hrT
            rintro x w9 ⟨rfl, H9⟩
            refine hK.out _ _ (HS3 _ _ _ H9 (by simp only [List.mem_cons, true_or, or_true])) (fun hKeep' => ?_)
            clear hK hKeep
            have hKeep := hKeep'
            clear hKeep'
            try simp only [Act.put, List.setIfInBounds_toArray, List.set_cons_zero, List.set_cons_succ]
            refine rgl_take (i := 13) (v := ?_) [] rfl (by kernel_rfl) (by kernel_rfl) (by decide +kernel) (fun _ _ _ h => h) (by kernel_rfl) (by kernel_rfl) (Or.inl ⟨by kernel_rfl, ?_⟩) hKeep ?_
            rotate_left 1
            · rintro w' -
              go_simp
              first | done | with_reducible rfl
            intro hKeep'
            clear hKeep
            have hKeep := hKeep'
            clear hKeep'
            try simp only [Act.put, List.setIfInBounds_toArray, List.set_cons_zero, List.set_cons_succ]
            refine rgl_take (i := 14) (v := ?_) [] rfl (by kernel_rfl) (by kernel_rfl) (by decide +kernel) (fun _ _ _ h => h) (by kernel_rfl) (by kernel_rfl) (Or.inl ⟨by kernel_rfl, ?_⟩) hKeep ?_
            rotate_left 1
            · rintro w' -
              go_simp
              first | done | with_reducible rfl
            intro hKeep'
            clear hKeep
            have hKeep := hKeep'
            clear hKeep'
            try simp only [Act.put, List.setIfInBounds_toArray, List.set_cons_zero, List.set_cons_succ]
            refine rgl_take (i := 15) (v := ?_) [] rfl (by kernel_rfl) (by kernel_rfl) (by decide +kernel) (fun _ _ _ h => h) (by kernel_rfl) (by kernel_rfl) (Or.inl ⟨by kernel_rfl, ?_⟩) hKeep ?_
            rotate_left 1
            · rintro w' -
              go_simp
              first | done | with_reducible rfl
            intro hKeep'
            clear hKeep
            have hKeep := hKeep'
            clear hKeep'
            try simp only [Act.put, List.setIfInBounds_toArray, List.set_cons_zero, List.set_cons_succ]
            refine rgl_take (i := 16) (v := ?_) [] rfl (by kernel_rfl) (by kernel_rfl) (by decide +kernel) (fun _ _ _ h => h) (by kernel_rfl) (by kernel_rfl) (Or.inl ⟨by kernel_rfl, ?_⟩) hKeep ?_
            rotate_left 1
            · rintro w' -
              go_simp
              first | done | with_reducible rfl
            intro hKeep'
            clear hKeep
            have hKeep := hKeep'
            clear hKeep'
            try simp only [Act.put, List.setIfInBounds_toArray, List.set_cons_zero, List.set_cons_succ]
            refine rgl_ready (rs := [17]) (by decide +kernel) (by simp) ?_
            refine rgl_cons rfl (fun K hK => ?_) AllReadyL.nil
            go_simp
            refine hK.out _ _ (HS3 _ _ _ H9 (by simp only [List.mem_cons, true_or, or_true])) (fun hKeep' => ?_)
            clear hK hKeep hKeep'
            refine rgl_done (by decide +kernel) ?_ _
            go_wp2_with (fail)
            go_meet
            exact ⟨rfl, rfl, st_only H9 (by simp only [List.mem_cons, true_or, or_true])⟩
          · have Hc := St.emptyRow (size := 1) ((Hb).alloc #[] 9)
            go_simp
            refine hK.out _ _ (HS3 _ _ _ Hc (by simp only [List.mem_cons, true_or, or_true])) (fun hKeep' => ?_)
            clear hK hKeep
            have hKeep := hKeep'
            clear hKeep'
            try simp only [Act.put, List.setIfInBounds_toArray, List.set_cons_zero, List.set_cons_succ]
            generalize (wb).heap.size = b6 at *
            generalize (wb).alloc (.cells #[] 9) = wc at *
            refine rgl_ready (rs := [7]) (by decide +kernel) (by simp) ?_
            refine rgl_cons rfl (fun K hK => ?_) AllReadyL.nil
            refine step_append_any (by rfl) _ _ _ (by rfl) 3 i0 (.int .i64 0) 1 8 Try.underlying23 hi hz0 hz1 hz2 rfl (by decide) _ 0 0 [] (Hc.r2) (by rfl) _ _ _ _ (by rfl) (by rw [ivs_length, ← HNI.out, Nat.mul_one]) (RdI.src HNI.out (HRI.out.keep (Hc.r2))) (ivs_one _) (by unfold maxLen; omega) (by omega) ?_
            rw [List.nil_append, Nat.zero_add]
            intro A5 c5 wd Hd
            refine hK.out _ _ (HS3 _ _ _ Hd (by simp only [List.mem_cons, true_or, or_true])) (fun hKeep' => ?_)
            clear hK hKeep
            have hKeep := hKeep'
            clear hKeep'
            try simp only [Act.put, List.setIfInBounds_toArray, List.set_cons_zero, List.set_cons_succ]
            refine rgl_ready (rs := [10]) (by decide +kernel) (by simp) ?_
            refine rgl_cons rfl (fun K hK => ?_) AllReadyL.nil
            refine step_append_any (by rfl) _ _ _ (by rfl) 9 j0 (.string ByteArray.empty) 1 16 Try.underlying24 hj hy0 hy1 hy2 rfl (by decide) _ 0 0 [] (Hd.r2) (by rfl) _ _ _ _ (by rfl) (by rw [svs_length, ← HNS.out, Nat.mul_one]) (RdS.src HNS.out (HRS.out.keep (Hd.r2))) (svs_one _) (by unfold maxLen; omega) (by omega) ?_
            rw [List.nil_append, Nat.zero_add]
            intro A6 c6 we He
            refine hK.out _ _ (HS3 _ _ _ He (by simp only [List.mem_cons, true_or, or_true])) (fun hKeep' => ?_)
            clear hK hKeep
            have hKeep := hKeep'
            clear hKeep'
            try simp only [Act.put, List.setIfInBounds_toArray, List.set_cons_zero, List.set_cons_succ]
            refine rgl_take (i := 11) (v := ?_) [] rfl (by kernel_rfl) (by kernel_rfl) (by decide +kernel) (fun _ _ _ h => h) (by kernel_rfl) (by kernel_rfl) (Or.inl ⟨by kernel_rfl, ?_⟩) hKeep ?_
            rotate_left 1
            · rintro w' -
              go_simp
              first | done | with_reducible rfl
            intro hKeep'
            clear hKeep
            have hKeep := hKeep'
            clear hKeep'
            try simp only [Act.put, List.setIfInBounds_toArray, List.set_cons_zero, List.set_cons_succ]
            refine rgl_ready (rs := [12]) (by decide +kernel) (by simp) ?_
            refine rgl_cons rfl (fun K hK => ?_) AllReadyL.nil
            have hrN := RdI.row (st_only He (A := Row 3 1 A5 n c5 (ivs l)) (by simp only [List.mem_cons, true_or, or_true]))
            have hrT := RdS.row (st_only He (A := Row 9 1 A6 m c6 (svs t)) (by simp only [List.mem_cons, true_or, or_true]))
            have hcall := enc_fit (f := f0 ++ f1) hfz HFIT.out HNI.out HNS.out A5 c5 A6 c6 hrN hrT He
            rw [HEC.out] at hcall
            go_simp
            refine hcall.mono ?_
            clear hcall hrN hrT
            rintro x w9 ⟨rfl, H9⟩
            refine hK.out _ _ (HS3 _ _ _ H9 (by simp only [List.mem_cons, true_or, or_true])) (fun hKeep' => ?_)
            clear hK hKeep
            have hKeep := hKeep'
            clear hKeep'
            try simp only [Act.put, List.setIfInBounds_toArray, List.set_cons_zero, List.set_cons_succ]
            refine rgl_take (i := 13) (v := ?_) [] rfl (by kernel_rfl) (by kernel_rfl) (by decide +kernel) (fun _ _ _ h => h) (by kernel_rfl) (by kernel_rfl) (Or.inl ⟨by kernel_rfl, ?_⟩) hKeep ?_
            rotate_left 1
            · rintro w' -
              go_simp
              first | done | with_reducible rfl
            intro hKeep'
            clear hKeep
            have hKeep := hKeep'
            clear hKeep'
            try simp only [Act.put, List.setIfInBounds_toArray, List.set_cons_zero, List.set_cons_succ]
            refine rgl_take (i := 14) (v := ?_) [] rfl (by kernel_rfl) (by kernel_rfl) (by decide +kernel) (fun _ _ _ h => h) (by kernel_rfl) (by kernel_rfl) (Or.inl ⟨by kernel_rfl, ?_⟩) hKeep ?_
            rotate_left 1
            · rintro w' -
              go_simp
              first | done | with_reducible rfl
            intro hKeep'
            clear hKeep
            have hKeep := hKeep'
            clear hKeep'
            try simp only [Act.put, List.setIfInBounds_toArray, List.set_cons_zero, List.set_cons_succ]
            refine rgl_take (i := 15) (v := ?_) [] rfl (by kernel_rfl) (by kernel_rfl) (by decide +kernel) (fun _ _ _ h => h) (by kernel_rfl) (by kernel_rfl) (Or.inl ⟨by kernel_rfl, ?_⟩) hKeep ?_
            rotate_left 1
            · rintro w' -
              go_simp
              first | done | with_reducible rfl
            intro hKeep'
            clear hKeep
            have hKeep := hKeep'
            clear hKeep'
            try simp only [Act.put, List.setIfInBounds_toArray, List.set_cons_zero, List.set_cons_succ]
            refine rgl_take (i := 16) (v := ?_) [] rfl (by kernel_rfl) (by kernel_rfl) (by decide +kernel) (fun _ _ _ h => h) (by kernel_rfl) (by kernel_rfl) (Or.inl ⟨by kernel_rfl, ?_⟩) hKeep ?_
            rotate_left 1
            · rintro w' -
              go_simp
              first | done | with_reducible rfl
            intro hKeep'
            clear hKeep
            have hKeep := hKeep'
            clear hKeep'
            try simp only [Act.put, List.setIfInBounds_toArray, List.set_cons_zero, List.set_cons_succ]
            refine rgl_ready (rs := [17]) (by decide +kernel) (by simp) ?_
            refine rgl_cons rfl (fun K hK => ?_) AllReadyL.nil
            go_simp
            refine hK.out _ _ (HS3 _ _ _ H9 (by simp only [List.mem_cons, true_or, or_true])) (fun hKeep' => ?_)
            clear hK hKeep hKeep'
            refine rgl_done (by decide +kernel) ?_ _
            go_wp2_with (fail)
            go_meet
            exact ⟨rfl, rfl, st_only H9 (by simp only [List.mem_cons, true_or, or_true])⟩
        · have Hb := St.emptyRow (size := 1) ((H').alloc #[] 9)
          go_simp
          refine hK.out _ _ (HS3 _ _ _ Hb (by simp only [List.mem_cons, true_or, or_true])) (fun hKeep' => ?_)
          clear hK hKeep
          have hKeep := hKeep'
          clear hKeep'
          try simp only [Act.put, List.setIfInBounds_toArray, List.set_cons_zero, List.set_cons_succ]
          generalize (wa).heap.size = b6 at *
          generalize (wa).alloc (.cells #[] 9) = wb at *
          refine rgl_ready (rs := [5]) (by decide +kernel) (by simp) ?_
          refine rgl_cons rfl (fun K hK => ?_) AllReadyL.nil
          have Hc := St.emptyRow (size := 1) ((Hb).alloc #[] 3)
          go_simp
          refine hK.out _ _ (HS3 _ _ _ Hc (by simp only [List.mem_cons, true_or, or_true])) (fun hKeep' => ?_)
          clear hK hKeep
          have hKeep := hKeep'
          clear hKeep'
          try simp only [Act.put, List.setIfInBounds_toArray, List.set_cons_zero, List.set_cons_succ]
          generalize (wb).heap.size = b5 at *
          generalize (wb).alloc (.cells #[] 3) = wc at *
          refine rgl_ready (rs := [7]) (by decide +kernel) (by simp) ?_
          refine rgl_cons rfl (fun K hK => ?_) AllReadyL.nil
          refine step_append_any (by rfl) _ _ _ (by rfl) 3 i0 (.int .i64 0) 1 8 Try.underlying23 hi hz0 hz1 hz2 rfl (by decide) _ 0 0 [] (Hc) (by rfl) _ _ _ _ (by rfl) (by rw [ivs_length, ← HNI.out, Nat.mul_one]) (RdI.src HNI.out (HRI.out.keep (Hc))) (ivs_one _) (by unfold maxLen; omega) (by omega) ?_
          rw [List.nil_append, Nat.zero_add]
          intro A5 c5 wd Hd
          refine hK.out _ _ (HS3 _ _ _ Hd (by simp only [List.mem_cons, true_or, or_true])) (fun hKeep' => ?_)
          clear hK hKeep
          have hKeep := hKeep'
          clear hKeep'
          try simp only [Act.put, List.setIfInBounds_toArray, List.set_cons_zero, List.set_cons_succ]
          refine rgl_ready (rs := [10]) (by decide +kernel) (by simp) ?_
          refine rgl_cons rfl (fun K hK => ?_) AllReadyL.nil
          refine step_append_any (by rfl) _ _ _ (by rfl) 9 j0 (.string ByteArray.empty) 1 16 Try.underlying24 hj hy0 hy1 hy2 rfl (by decide) _ 0 0 [] (Hd.r2) (by rfl) _ _ _ _ (by rfl) (by rw [svs_length, ← HNS.out, Nat.mul_one]) (RdS.src HNS.out (HRS.out.keep (Hd.r2))) (svs_one _) (by unfold maxLen; omega) (by omega) ?_
          rw [List.nil_append, Nat.zero_add]
          intro A6 c6 we He
          refine hK.out _ _ (HS3 _ _ _ He (by simp only [List.mem_cons, true_or, or_true])) (fun hKeep' => ?_)
          clear hK hKeep
          have hKeep := hKeep'
          clear hKeep'
          try simp only [Act.put, List.setIfInBounds_toArray, List.set_cons_zero, List.set_cons_succ]
          refine rgl_take (i := 11) (v := ?_) [] rfl (by kernel_rfl) (by kernel_rfl) (by decide +kernel) (fun _ _ _ h => h) (by kernel_rfl) (by kernel_rfl) (Or.inl ⟨by kernel_rfl, ?_⟩) hKeep ?_
          rotate_left 1
          · rintro w' -
            go_simp
            first | done | with_reducible rfl
          intro hKeep'
          clear hKeep
          have hKeep := hKeep'
          clear hKeep'
          try simp only [Act.put, List.setIfInBounds_toArray, List.set_cons_zero, List.set_cons_succ]
          refine rgl_ready (rs := [12]) (by decide +kernel) (by simp) ?_
          refine rgl_cons rfl (fun K hK => ?_) AllReadyL.nil
          have hrN := RdI.row (st_only He (A := Row 3 1 A5 n c5 (ivs l)) (by simp only [List.mem_cons, true_or, or_true]))
          have hrT := RdS.row (st_only He (A := Row 9 1 A6 m c6 (svs t)) (by simp only [List.mem_cons, true_or, or_true]))
          have hcall := enc_fit (f := f0 ++ f1) hfz HFIT.out HNI.out HNS.out A5 c5 A6 c6 hrN hrT He
          rw [HEC.out] at hcall
          go_simp
          refine hcall.mono ?_
          clear hcall hrN hrT
          rintro x w9 ⟨rfl, H9⟩
          refine hK.out _ _ (HS3 _ _ _ H9 (by simp only [List.mem_cons, true_or, or_true])) (fun hKeep' => ?_)
          clear hK hKeep
          have hKeep := hKeep'
          clear hKeep'
          try simp only [Act.put, List.setIfInBounds_toArray, List.set_cons_zero, List.set_cons_succ]
          refine rgl_take (i := 13) (v := ?_) [] rfl (by kernel_rfl) (by kernel_rfl) (by decide +kernel) (fun _ _ _ h => h) (by kernel_rfl) (by kernel_rfl) (Or.inl ⟨by kernel_rfl, ?_⟩) hKeep ?_
          rotate_left 1
          · rintro w' -
            go_simp
            first | done | with_reducible rfl
          intro hKeep'
          clear hKeep
          have hKeep := hKeep'
          clear hKeep'
          try simp only [Act.put, List.setIfInBounds_toArray, List.set_cons_zero, List.set_cons_succ]
          refine rgl_take (i := 14) (v := ?_) [] rfl (by kernel_rfl) (by kernel_rfl) (by decide +kernel) (fun _ _ _ h => h) (by kernel_rfl) (by kernel_rfl) (Or.inl ⟨by kernel_rfl, ?_⟩) hKeep ?_
          rotate_left 1
          · rintro w' -
            go_simp
            first | done | with_reducible rfl
          intro hKeep'
          clear hKeep
          have hKeep := hKeep'
          clear hKeep'
          try simp only [Act.put, List.setIfInBounds_toArray, List.set_cons_zero, List.set_cons_succ]
          refine rgl_take (i := 15) (v := ?_) [] rfl (by kernel_rfl) (by kernel_rfl) (by decide +kernel) (fun _ _ _ h => h) (by kernel_rfl) (by kernel_rfl) (Or.inl ⟨by kernel_rfl, ?_⟩) hKeep ?_
          rotate_left 1
          · rintro w' -
            go_simp
            first | done | with_reducible rfl
          intro hKeep'
          clear hKeep
          have hKeep := hKeep'
          clear hKeep'
          try simp only [Act.put, List.setIfInBounds_toArray, List.set_cons_zero, List.set_cons_succ]
          refine rgl_take (i := 16) (v := ?_) [] rfl (by kernel_rfl) (by kernel_rfl) (by decide +kernel) (fun _ _ _ h => h) (by kernel_rfl) (by kernel_rfl) (Or.inl ⟨by kernel_rfl, ?_⟩) hKeep ?_
          rotate_left 1
          · rintro w' -
            go_simp
            first | done | with_reducible rfl
          intro hKeep'
          clear hKeep
          have hKeep := hKeep'
          clear hKeep'
          try simp only [Act.put, List.setIfInBounds_toArray, List.set_cons_zero, List.set_cons_succ]
          refine rgl_ready (rs := [17]) (by decide +kernel) (by simp) ?_
          refine rgl_cons rfl (fun K hK => ?_) AllReadyL.nil
          go_simp
          refine hK.out _ _ (HS3 _ _ _ H9 (by simp only [List.mem_cons, true_or, or_true])) (fun hKeep' => ?_)
          clear hK hKeep hKeep'
          refine rgl_done (by decide +kernel) ?_ _
          go_wp2_with (fail)
          go_meet
          exact ⟨rfl, rfl, st_only H9 (by simp only [List.mem_cons, true_or, or_true])⟩
      obtain ⟨rfl, rfl, H8⟩ := hcut
      have hvv : va.size + vb.size ≤ 9223372036854775807 := by omega
      have hss : ((va ++ vb).toList == (va ++ vb).toList) = true := by simp
      go_wp2_with (fail)
      go_ret
      exact ⟨rfl, H8.below⟩
theorem own : ownKnob Try.prog.godebug = none := by kernel_rfl
theorem laidOut : laidOutB Try.prog = true := by kernel_rfl
theorem readable : ∀ t ∈ Try.f8.params.toList, Try.prog.readableRec t = true ∧ t < Try.prog.types.size := by
  intro t ht
  rw [Try.params8] at ht
  simp only [List.mem_cons, List.not_mem_nil, or_false] at ht
  rcases ht with rfl | rfl | rfl
  all_goals exact ⟨by kernel_rfl, of_decide_eq_true (by kernel_rfl)⟩
set_option maxRecDepth 100000 in
theorem contract (H : Type) (enc : TypeId × Value → H) (W : World) (base : Nat) (args : Array Value) (ds gs : List (DataW H)) (before : List MemPlace)
    (hval : ∀ (j : Nat) t v, Try.f8.params[j]? = some t → args[j]? = some v → Value.okWide Try.prog W .any base t v)
    (hW : DataW.Whole enc Try.prog Try.f8.params.toList Rows.schemaRowsSpec.vars false W args.toList ds gs before) (hk : Rows.uptoSmall H (ds ++ gs) = true) :
    Calls Try.prog 8 args W fun e W' => ∃ v, e = .returned v ∧ Rows.schemaRowsSpec.post enc Try.prog Try.f8 false true false false W args v W' := by
  have hW' := hW
  obtain ⟨p, q, hA0, hV, rfl, _, _⟩ := hW
  have hA : DataW.TrodAll enc Try.prog W 0 (fun _ => true) true Try.f8.params.toList args.toList ds p := hA0
  rw [Try.params8] at hA hval
  obtain ⟨v0, vs0, d0, ds0, p0, q0, hargs, rfl, rfl, h0, r0⟩ := trodAll_cons hA
  obtain ⟨v1, vs1, d1, ds1, p1, q1, rfl, rfl, rfl, h1, r1⟩ := trodAll_cons r0
  obtain ⟨v2, vs2, d2, ds2, p2, q2, rfl, rfl, rfl, h2, r2⟩ := trodAll_cons r1
  obtain ⟨rfl, rfl, rfl⟩ := trodAll_nil r2
  obtain rfl : args = #[v0, v1, v2] := by cases args; simp_all
  obtain ⟨rfl, rfl⟩ := trodVars_none hV
  clear hA0
  have hk2 : Rows.uptoBulkAll _ ≤ 1048576 := of_decide_eq_true hk
  rw [List.append_nil] at hk2
  obtain ⟨cs0, hv0, hsz0⟩ := okWide_array Try.underlying44 (hval 0 44 v0 rfl rfl)
  subst hv0
  rw [show Try.prog.cellsOf 44 = 2 by kernel_rfl] at hsz0
  obtain ⟨l0⟩ := cs0
  obtain ⟨fuel0, hf0⟩ := h0
  obtain ⟨hrow0, hbulk0⟩ := trod_flat 8 44 [.str, .str] (by kernel_rfl) _ _ _ hf0
  simp only [Value.cells] at hrow0 hbulk0
  match l0, hsz0, hrow0, hbulk0, hval, hf0, hW', hk2 with
  | [c0_0, c0_1], _, hrow0, hbulk0, hval, hf0, hW', hk2 =>
  obtain ⟨⟨f0, rfl, _⟩, ⟨f1, rfl, _⟩, _⟩ := hrow0
  obtain ⟨fuel1, hf1⟩ := h1
  obtain ⟨A1, n1, c1, hv1⟩ := okWide_slice Try.underlying23 (hval 1 23 v1 rfl rfl)
  subst hv1
  obtain ⟨A1', n1', c1', rows1, hc1, hn1, hrd1, hrow1, hbulk1⟩ := trod_slice_flat (ks := [.int .i64]) (m := 8) Try.underlying23 (by kernel_rfl) (by kernel_rfl) (by decide) hf1
  dsimp only at hbulk1
  obtain ⟨rfl, rfl, rfl⟩ : A1' = A1 ∧ n1' = n1 ∧ c1' = c1 := by simp [Value.cells] at hc1; simp [hc1]
  obtain ⟨n, rfl, hok1⟩ := rows_map (fun x : Int => [.int .i64 x]) (fun x : Int => -9223372036854775808 ≤ x ∧ x ≤ 9223372036854775807) rows1 (fun row hr => of_row_int row (hrow1 row hr))
  obtain ⟨fuel2, hf2⟩ := h2
  obtain ⟨A2, n2, c2, hv2⟩ := okWide_slice Try.underlying24 (hval 2 24 v2 rfl rfl)
  subst hv2
  obtain ⟨A2', n2', c2', rows2, hc2, hn2, hrd2, hrow2, hbulk2⟩ := trod_slice_flat (ks := [.str]) (m := 8) Try.underlying24 (by kernel_rfl) (by kernel_rfl) (by decide) hf2
  dsimp only at hbulk2
  obtain ⟨rfl, rfl, rfl⟩ : A2' = A2 ∧ n2' = n2 ∧ c2' = c2 := by simp [Value.cells] at hc2; simp [hc2]
  obtain ⟨t, rfl, hok2⟩ := rows_map (fun x : ByteArray => [.string x]) (fun x : ByteArray => x.size ≤ maxLen) rows2 (fun row hr => of_row_str row (hrow2 row hr))
  refine (walk W f0 (by simp only [Rows.uptoBulkAll] at hk2; simp only [wts, wt, Array.toList] at hbulk0; omega) f1 (by simp only [Rows.uptoBulkAll] at hk2; simp only [wts, wt, Array.toList] at hbulk0; omega) A1' n1' c1' n hrd1 (by
    have h1 := len_le_sum (ks := [.int .i64]) _ hrow1 (by decide)
    have h2 := hrd1.1
    simp only [Rows.uptoBulkAll] at hk2
    omega) (by
    simp only [Rows.uptoBulkAll] at hk2
    omega) hok1 (trod_cap Try.underlying23 hf1 _ _ _ hc1) A2' n2' c2' t hrd2 (by
    have h1 := len_le_sum (ks := [.str]) _ hrow2 (by decide)
    have h2 := hrd2.1
    simp only [Rows.uptoBulkAll] at hk2
    omega) (by
    simp only [Rows.uptoBulkAll] at hk2
    omega) hok2 (trod_cap Try.underlying24 hf2 _ _ _ hc2)).mono fun e W' ⟨he, hb⟩ => ?_
  exact ⟨_, he, law_post (tb := 4) laidOut readable rfl Try.underlying4 rfl hW' rfl rfl rfl hb⟩
set_option maxRecDepth 100000 in
theorem lifted (os : Os) (started : os.Started) (H : Type) (enc : TypeId × Value → H) (F : Stop.Interp) :
    ReturnsInHanded {} Try.checked os 8 .any ((Rows.OpenSpec.upto Rows.schemaRowsSpec).pre6 enc Try.prog Try.f8 Rows.schemaRowsUptoRow.domain false) (((Rows.OpenSpec.upto Rows.schemaRowsSpec).at F).post enc Try.prog Try.f8 false true false false) := by
  refine returnsInHanded_of_cond (C := Try.checked) (s := Rows.OpenSpec.upto Rows.schemaRowsSpec) (k := Rows.uptoSmall) rfl own started (by kernel_rfl) Try.func8
    (OpenSpec.witness (enc := enc) (C := Try.checked) (s := Rows.OpenSpec.upto Rows.schemaRowsSpec) (k := Rows.uptoSmall) rfl false ⟨#[], #[.agg #[.string .empty, .string .empty], .slice none 0 0, .slice none 0 0], []⟩ 8 (by kernel_rfl) (by kernel_rfl) (by kernel_rfl)
      (x := ([.agg [.lit (.string []), .lit (.string [])], .nil, .nil], [], [])) (by kernel_rfl) rfl (by kernel_rfl)) ?_
  intro W base args ds gs before hval hW _ hk _
  exact contract H enc W base args ds gs before hval hW hk
theorem proved : Rows.SchemaRowsUptoSaid :=
  OpenClaim.holds_of_cond 8 Try.f8 rfl rfl rfl rfl rfl rfl rfl ⟨rfl, rfl, rfl, rfl, rfl⟩ rfl rfl rfl rfl rfl (by kernel_rfl) Try.func8 (by kernel_rfl)
    (of_decide_eq_true (by kernel_rfl)) (by unfold Func.isWrapper; first | (rw [if_pos (by decide +kernel)]; kernel_rfl) | (rw [if_neg (by decide +kernel)]; exact ⟨rfl, rfl⟩))
    (fun os started H enc _ F => lifted os started H enc F)
#print axioms proved

end Go.Proofs.Ytpmhjjfcipjnoaa.SchemaRows

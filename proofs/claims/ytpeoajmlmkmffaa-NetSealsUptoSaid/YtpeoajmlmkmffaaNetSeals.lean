/- NetSeals: every datagram sealed and opened; with one bit turned it isn't opened; any text is opened only if it is a seal: texts of at most 1048576 bytes. -/
import Derived.Test.YtpeoajmlmkmffaaNeT
import Derived.Test.YtpeoajmlmkmffaaLift
namespace Go.Proofs.Ytpeoajmlmkmffaa.NetSeals
open Go.RowKit Go.ChangeShapes Go.WideShapes Go.ChangeAt Go.Proofs.Ytpeoajmlmkmffaa
open Go.ChangeMaps (open_string shut_string)

theorem openB_le (s : ByteArray) : (openB s).1.size ≤ s.size := by
  unfold openB
  split
  · exact Nat.zero_le _
  · split
    · show (s.extract 0 (s.size - 2)).size ≤ _
      rw [ByteArray.size_extract]; omega
    · exact Nat.zero_le _
set_option maxHeartbeats 4000000 in
theorem walk (w : World) (s : ByteArray) (hs : s.size ≤ 1048576) (bit : Int) (hb : -9223372036854775808 ≤ bit ∧ bit ≤ 9223372036854775807) (other : ByteArray) (ho : other.size ≤ 1048576) :
    Calls Try.prog 7 #[.string s, .int .i64 bit, .string other] w fun r w' => r = .returned (.bool true) ∧ Below w.heap.size w w' := by
  have H0 := St.init w
  go_enter Try.func7, Try.ntmps7
  go_wp2_with (first | (go_at_call 8; refine (speaks_ok H0).mono ?_; rintro x w1 ⟨rfl, H1⟩))
  go_loop [7, 8, 9] (fun n i _ => ∃ k : Nat, k ≤ s.size ∧ i = .int .i64 k ∧ n = .int .i64 (csum (bl s) k)) (fun _ i _ => s.size - (intOf i).toNat)
  case atStart => exact ⟨0, Nat.zero_le _, rfl, rfl⟩
  case round =>
    obtain ⟨k, hk, rfl, rfl⟩ := hrel
    obtain ⟨c1, c2⟩ := csum_range (bl s) k
    by_cases hlt : k < s.size
    · obtain ⟨y, hy⟩ : ∃ y, s[k] = y := ⟨_, rfl⟩
      have hyl := y.toNat_lt
      obtain ⟨R, hR⟩ : ∃ R, R = csum (bl s) (k + 1) := ⟨_, rfl⟩
      have hR1 := csum_range (bl s) (k + 1)
      rw [← hR] at hR1
      by_cases hk2 : k % 2 = 0
      · have hm : ((k : Int) % 2 == 0) = true := by rw [beq_iff_eq]; omega
        have hv : R = rnd (csum (bl s) k) ((y.toNat : Int) * 256) := by rw [hR, csum, getD_get s k hlt, hy]; unfold wgt; rw [if_pos hk2]
        obtain ⟨v, hvv⟩ : ∃ v, v = (y.toNat : Int) * 256 := ⟨_, rfl⟩
        rw [← hvv] at hv
        have hv0 : 0 ≤ v := by omega
        have hv1 : v ≤ 65280 := by omega
        have hr1 : csum (bl s) k + v ≤ 65535 → csum (bl s) k + v = R := fun h => by rw [hv]; unfold rnd; rw [if_pos h]
        have hr2 : 65535 < csum (bl s) k + v → (csum (bl s) k + v) % 65536 + (csum (bl s) k + v) / 65536 = R := fun h => by rw [hv]; unfold rnd; rw [if_neg (by omega)]; omega
        have HR := Lib.hid hR; have H1R := Lib.hid hr1; have H2R := Lib.hid hr2; clear hR hr1 hr2 hv hk2
        generalize csum (bl s) k = q at *
        subst hvv
        go_wp2_with (fail)
        go_loop [7] (fun n => ∃ x : Int, 0 ≤ x ∧ x ≤ 131000 ∧ n = .int .i64 x ∧ (x ≤ 65535 → x = R) ∧ (65535 < x → x % 65536 + x / 65536 = R)) (fun n => (intOf n).toNat)
        case atStart => exact ⟨q + (y.toNat : Int) * 256, by omega, by omega, rfl, H1R.out, H2R.out⟩
        case round =>
          obtain ⟨x, hx0, hx1, rfl, hx2, hx3⟩ := hrel
          by_cases hgt : x > 65535
          · have he := hx3 (by omega)
            have HE := Lib.hid he; clear he hx2 hx3
            go_wp2_with (fail)
            go_round
            case rel => exact ⟨R, by omega, by omega, by rw [HE.out], fun _ => rfl, fun h => by omega⟩
            case measure => rw [HE.out]; simp [intOf]; omega
          · have he := hx2 (by omega)
            subst he
            clear hx2 hx3
            go_wp2_with (fail)
            go_round
            case rel => exact ⟨k + 1, by omega, by go_num, by rw [HR.out]⟩
            case measure => simp [intOf]; omega
      · have hm : ((k : Int) % 2 == 0) = false := by rw [beq_eq_false_iff_ne]; omega
        have hv : R = rnd (csum (bl s) k) (y.toNat : Int) := by rw [hR, csum, getD_get s k hlt, hy]; unfold wgt; rw [if_neg hk2]
        obtain ⟨v, hvv⟩ : ∃ v, v = (y.toNat : Int) := ⟨_, rfl⟩
        rw [← hvv] at hv
        have hv0 : 0 ≤ v := by omega
        have hv1 : v ≤ 65280 := by omega
        have hr1 : csum (bl s) k + v ≤ 65535 → csum (bl s) k + v = R := fun h => by rw [hv]; unfold rnd; rw [if_pos h]
        have hr2 : 65535 < csum (bl s) k + v → (csum (bl s) k + v) % 65536 + (csum (bl s) k + v) / 65536 = R := fun h => by rw [hv]; unfold rnd; rw [if_neg (by omega)]; omega
        have HR := Lib.hid hR; have H1R := Lib.hid hr1; have H2R := Lib.hid hr2; clear hR hr1 hr2 hv hk2
        generalize csum (bl s) k = q at *
        subst hvv
        go_wp2_with (fail)
        go_loop [7] (fun n => ∃ x : Int, 0 ≤ x ∧ x ≤ 131000 ∧ n = .int .i64 x ∧ (x ≤ 65535 → x = R) ∧ (65535 < x → x % 65536 + x / 65536 = R)) (fun n => (intOf n).toNat)
        case atStart => exact ⟨q + (y.toNat : Int), by omega, by omega, rfl, H1R.out, H2R.out⟩
        case round =>
          obtain ⟨x, hx0, hx1, rfl, hx2, hx3⟩ := hrel
          by_cases hgt : x > 65535
          · have he := hx3 (by omega)
            have HE := Lib.hid he; clear he hx2 hx3
            go_wp2_with (fail)
            go_round
            case rel => exact ⟨R, by omega, by omega, by rw [HE.out], fun _ => rfl, fun h => by omega⟩
            case measure => rw [HE.out]; simp [intOf]; omega
          · have he := hx2 (by omega)
            subst he
            clear hx2 hx3
            go_wp2_with (fail)
            go_round
            case rel => exact ⟨k + 1, by omega, by go_num, by rw [HR.out]⟩
            case measure => simp [intOf]; omega
    · obtain rfl : k = s.size := by omega
      have hsm : 65535 - csum (bl s) s.size = sumB s := rfl
      obtain ⟨q, hq⟩ : ∃ q, q = sumB s := ⟨_, rfl⟩
      obtain ⟨q0, q1⟩ := sumB_range s
      rw [← hq] at q0 q1 hsm
      have hx : sealB s = s ++ mkb (be q 2) := by rw [hq, sealB, ← mkb_append, mkb_bl]
      have hxs := sealB_size s
      have hz := be2_size q
      have hos := open_seal s
      obtain ⟨x, hxx⟩ : ∃ x, x = sealB s := ⟨_, rfl⟩
      rw [← hxx] at hx hxs hos
      have HX := Lib.hid hxx; have HXE := Lib.hid hx; have HOS := Lib.hid hos; have HQ := Lib.hid hq; clear hxx hx hos hq c1 c2
      go_wp2_with (fail)
      refine (seal_ok s (by omega) H1).mono ?_
      rw [← HX.out]
      rintro e w2 ⟨rfl, H2⟩
      go_wp2_with (fail)
      refine (open_ok x (by omega) H2).mono ?_
      rw [HOS.out]
      rintro e w3 ⟨rfl, H3⟩
      have hcv := two_bytes q q0 q1 H3
      have hxe := HXE.out.symm
      have H4 := (H3.alloc #[.int .u8 (q / 256), .int .u8 (q % 256)] 5).tail
      by_cases hneg : bit < 0
      · go_wp2_with (fail)
        refine (refturn_ok x (0) (by omega) (by omega) (by omega) H4).mono ?_
        rintro e w5 ⟨rfl, H5⟩
        go_wp2_with (fail)
        refine (open_ok _ (by rw [turnB_size]; omega) H5).mono ?_
        rw [HX.out, open_turn s (0)]
        rintro e w6 ⟨rfl, H6⟩
        go_wp2_with (fail)
        refine (open_ok other (by omega) H6).mono ?_
        have hob := open_back other
        have hol := openB_le other
        generalize openB other = z at *
        obtain ⟨v, was⟩ := z
        dsimp only at hob hol ⊢
        rintro e w7 ⟨rfl, H7⟩
        rcases hob with ⟨rfl, hv⟩ | ⟨rfl, rfl⟩
        · have HV := Lib.hid hv; clear hv
          go_wp2_with (fail)
          refine (seal_ok v (by omega) H7).mono ?_
          rw [HV.out]
          rintro e w8 ⟨rfl, H8⟩
          go_wp2_with (fail)
          go_ret
          exact ⟨rfl, H8.below⟩
        · go_wp2_with (fail)
          go_ret
          exact ⟨rfl, H7.below⟩
      · go_wp2_with (fail)
        refine (refturn_ok x (bit) (by omega) (by omega) (by omega) H4).mono ?_
        rintro e w5 ⟨rfl, H5⟩
        go_wp2_with (fail)
        refine (open_ok _ (by rw [turnB_size]; omega) H5).mono ?_
        rw [HX.out, open_turn s (bit)]
        rintro e w6 ⟨rfl, H6⟩
        go_wp2_with (fail)
        refine (open_ok other (by omega) H6).mono ?_
        have hob := open_back other
        have hol := openB_le other
        generalize openB other = z at *
        obtain ⟨v, was⟩ := z
        dsimp only at hob hol ⊢
        rintro e w7 ⟨rfl, H7⟩
        rcases hob with ⟨rfl, hv⟩ | ⟨rfl, rfl⟩
        · have HV := Lib.hid hv; clear hv
          go_wp2_with (fail)
          refine (seal_ok v (by omega) H7).mono ?_
          rw [HV.out]
          rintro e w8 ⟨rfl, H8⟩
          go_wp2_with (fail)
          go_ret
          exact ⟨rfl, H8.below⟩
        · go_wp2_with (fail)
          go_ret
          exact ⟨rfl, H7.below⟩
theorem own : ownKnob Try.prog.godebug = none := by kernel_rfl
theorem laidOut : laidOutB Try.prog = true := by kernel_rfl
theorem readable : ∀ t ∈ Try.f7.params.toList, Try.prog.readableRec t = true ∧ t < Try.prog.types.size := by
  intro t ht
  rw [Try.params7] at ht
  simp only [List.mem_cons, List.not_mem_nil, or_false] at ht
  rcases ht with rfl | rfl | rfl
  all_goals exact ⟨by kernel_rfl, of_decide_eq_true (by kernel_rfl)⟩
theorem contract (H : Type) (enc : TypeId × Value → H) (W : World) (base : Nat) (args : Array Value) (ds gs : List (DataW H)) (before : List MemPlace)
    (hval : ∀ (j : Nat) t v, Try.f7.params[j]? = some t → args[j]? = some v → Value.okWide Try.prog W .any base t v)
    (hW : DataW.Whole enc Try.prog Try.f7.params.toList Rows.netSealsSpec.vars false W args.toList ds gs before) (hk : Rows.uptoSmall H (ds ++ gs) = true) :
    Calls Try.prog 7 args W fun e W' => ∃ v, e = .returned v ∧ Rows.netSealsSpec.post enc Try.prog Try.f7 false true false false W args v W' := by
  have hW' := hW
  obtain ⟨p, q, hA0, hV, rfl, _, _⟩ := hW
  have hA : DataW.TrodAll enc Try.prog W 0 (fun _ => true) true Try.f7.params.toList args.toList ds p := hA0
  rw [Try.params7] at hA hval
  obtain ⟨v0, vs0, d0, ds0, p0, q0, hargs, rfl, rfl, h0, r0⟩ := trodAll_cons hA
  obtain ⟨v1, vs1, d1, ds1, p1, q1, rfl, rfl, rfl, h1, r1⟩ := trodAll_cons r0
  obtain ⟨v2, vs2, d2, ds2, p2, q2, rfl, rfl, rfl, h2, r2⟩ := trodAll_cons r1
  obtain ⟨rfl, rfl, rfl⟩ := trodAll_nil r2
  obtain rfl : args = #[v0, v1, v2] := by cases args; simp_all
  obtain ⟨rfl, rfl⟩ := trodVars_none hV
  clear hA0
  have hk2 : Rows.uptoBulkAll _ ≤ 1048576 := of_decide_eq_true hk
  rw [List.append_nil] at hk2
  obtain ⟨s, rfl, rfl, rfl, ws⟩ := open_string Try.underlying9 (hval 0 9 v0 rfl rfl) h0
  obtain ⟨bit, rfl, rfl, rfl, wbit⟩ := open_int Try.underlying3 (hval 1 3 v1 rfl rfl) h1
  obtain ⟨other, rfl, rfl, rfl, wother⟩ := open_string Try.underlying9 (hval 2 9 v2 rfl rfl) h2
  refine (walk W s (by
    have hz : (s.data.toList).length = s.size := bl_length s
    simp only [Rows.uptoBulkAll, Rows.uptoBulk] at hk2
    omega) bit (wf_i64 wbit) other (by
    have hz : (other.data.toList).length = other.size := bl_length other
    simp only [Rows.uptoBulkAll, Rows.uptoBulk] at hk2
    omega)).mono fun e W' ⟨he, hb⟩ => ?_
  exact ⟨_, he, law_post (tb := 4) laidOut readable rfl Try.underlying4 rfl hW' rfl rfl rfl hb⟩
set_option maxRecDepth 100000 in
theorem lifted (os : Os) (started : os.Started) (H : Type) (enc : TypeId × Value → H) (F : Stop.Interp) :
    ReturnsInHanded {} Try.checked os 7 .any ((Rows.OpenSpec.upto Rows.netSealsSpec).pre6 enc Try.prog Try.f7 Rows.netSealsUptoRow.domain false) (((Rows.OpenSpec.upto Rows.netSealsSpec).at F).post enc Try.prog Try.f7 false true false false) := by
  refine returnsInHanded_of_cond (C := Try.checked) (s := Rows.OpenSpec.upto Rows.netSealsSpec) (k := Rows.uptoSmall) rfl own started (by kernel_rfl) Try.func7
    (OpenSpec.witness (enc := enc) (C := Try.checked) (s := Rows.OpenSpec.upto Rows.netSealsSpec) (k := Rows.uptoSmall) rfl false ⟨#[], #[.string .empty, .int .i64 0, .string .empty], []⟩ 8 (by kernel_rfl) (by kernel_rfl) (by kernel_rfl)
      (x := ([.lit (.string []), .lit (.int .i64 0), .lit (.string [])], [], [])) (by kernel_rfl) rfl (by kernel_rfl)) ?_
  intro W base args ds gs before hval hW _ hk _
  exact contract H enc W base args ds gs before hval hW hk
theorem proved : Rows.NetSealsUptoSaid :=
  OpenClaim.holds_of_cond 7 Try.f7 rfl rfl rfl rfl rfl rfl rfl ⟨rfl, rfl, rfl, rfl, rfl⟩ rfl rfl rfl rfl rfl (by kernel_rfl) Try.func7 (by kernel_rfl)
    (of_decide_eq_true (by kernel_rfl)) (by unfold Func.isWrapper; first | (rw [if_pos (by decide +kernel)]; kernel_rfl) | (rw [if_neg (by decide +kernel)]; exact ⟨rfl, rfl⟩))
    (fun os started H enc _ F => lifted os started H enc F)
#print axioms proved

end Go.Proofs.Ytpeoajmlmkmffaa.NetSeals

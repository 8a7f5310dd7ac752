/- Layer 2: what the parser's small functions do. -/
import Derived.Test.YtkkpcjpdpjpohaaSmH
import Derived.Test.YtkkpcjpdpjpohaaSLW
import Derived.Test.YtkkpcjpdpjpohaaProg
import Derived.Deep.QuietTactic
import Derived.BigQuiet
import Derived.Deep.DeepCutAuto
namespace Go.Proofs.Ytkkpcjpdpjpohaa
open Go.RowKit

abbrev Psr (b : Nat) (s : ByteArray) (at_ : Nat) : Assn := Pt b #[.string s, .int .i64 at_] 104
abbrev threw (e : Int) : Value := .iface 108 (.int .i64 e)
theorem peek_ok (b : Nat) (s : ByteArray) (at_ : Nat) (hs : s.size ≤ 1099511627776) {w0 w : World} {F : List Assn} (H : St w0 w (Psr b s at_ :: F)) :
    Calls Try.prog 64 #[.pointer (some ⟨b, 0, none⟩)] w fun x w' => x = .returned (.int .u8 (pk s at_)) ∧ St w0 w' (Psr b s at_ :: F) := by
  have c0 := H.cell 0 rfl
  have c1 := H.cell 1 rfl
  by_cases hlt : at_ < s.size
  · have hI : (at_ : Int) < s.size := by omega
    rw [pk_in hlt]
    go_enter Try.func64, Try.ntmps64
    go_wp2_with fail
    go_quiet (fail)
    go_wp2_with fail
    go_quiet (fail)
    go_wp2_with fail
    go_ret
    exact ⟨rfl, (H.drewN _).drewN _⟩
  · have hI : ¬ (at_ : Int) < s.size := by omega
    rw [pk_out hlt]
    go_enter Try.func64, Try.ntmps64
    go_wp2_with fail
    go_quiet (fail)
    go_wp2_with fail
    go_ret
    exact ⟨rfl, H.drewN _⟩
/-- how 'want' ends -/
def Want (w0 : World) (F : List Assn) (b : Nat) (s : ByteArray) (at_ : Nat) (ok : Bool) (x : Ending) (w' : World) : Prop := match ok with
  | true => x = .returned (.tuple #[]) ∧ St w0 w' (Psr b s (at_ + 1) :: F)
  | false => x = .panicked [{ v := threw 1, recovered := false }] ∧ St w0 w' (Psr b s at_ :: F)
theorem want_ok (b : Nat) (s : ByteArray) (at_ : Nat) (c : Nat) (hs : s.size ≤ 1099511627776) (ha : at_ ≤ s.size) {w0 w : World} {F : List Assn} (H : St w0 w (Psr b s at_ :: F)) :
    Calls Try.prog 66 #[.pointer (some ⟨b, 0, none⟩), .int .u8 c] w (Want w0 F b s at_ (pk s at_ == c)) := by
  by_cases hc : pk s at_ = c
  · have hc' : ((pk s at_ : Int) != (c : Int)) = false := by rw [hc]; exact bne_self_eq_false _
    rw [show (pk s at_ == c) = true from beq_iff_eq.2 hc]
    clear hc
    go_enter Try.func66, Try.ntmps66
    go_wp2_with fail
    refine (peek_ok b s at_ hs H).mono ?_
    rintro x w1 ⟨rfl, H1⟩
    clear H
    have c1 := H1.cell 1 rfl
    have f1 := H1.frozen 1
    go_wp2_with fail
    go_end0
    exact ⟨rfl, H1.set 1 _⟩
  · have hc' : ((pk s at_ : Int) != (c : Int)) = true := bne_iff_ne.2 (by omega)
    rw [show (pk s at_ == c) = false from beq_eq_false_iff_ne.2 hc]
    clear hc
    go_enter Try.func66, Try.ntmps66
    go_wp2_with fail
    refine (peek_ok b s at_ hs H).mono ?_
    rintro x w1 ⟨rfl, H1⟩
    go_wp2_with fail
    exact ⟨rfl, rfl, H1⟩
theorem scan_bound (s : ByteArray) : ∀ k at_ n, (scan s k at_ n).1 + 1 ≤ (n + 1) * 10 ^ k
  | 0, _, n => by simp [scan]
  | k + 1, at_, n => by
    rw [scan]
    split
    · have := scan_bound s k (at_ + 1) (10 * n + (pk s at_ - 48))
      refine Nat.le_trans this ?_
      rw [Nat.pow_succ', ← Nat.mul_assoc]
      exact Nat.mul_le_mul_right _ (by omega)
    · exact Nat.le_mul_of_pos_right _ (Nat.pow_pos (by decide))
def atOf (b : Nat) (w : World) : Nat := match w.cell? ⟨b, 1, none⟩ with | some (.int _ z) => z.toNat | _ => 0
/-- how 'number' ends -/
def NumE (w0 : World) (F : List Assn) (b : Nat) (s : ByteArray) (o : Option (Nat × Nat)) (x : Ending) (w' : World) : Prop := match o with
  | none => x = .panicked [{ v := threw 1, recovered := false }] ∧ ∃ at_, St w0 w' (Psr b s at_ :: F)
  | some r => x = .returned (.int .i64 r.1) ∧ St w0 w' (Psr b s r.2 :: F)
set_option maxHeartbeats 2000000 in
theorem pnumber_ok (b : Nat) (s : ByteArray) (at_ : Nat) (hs : s.size ≤ 1099511627776) (ha : at_ ≤ s.size) {w0 w : World} {F : List Assn} (H : St w0 w (Psr b s at_ :: F)) :
    Calls Try.prog 65 #[.pointer (some ⟨b, 0, none⟩)] w (NumE w0 F b s (numF s at_)) := by
  have c1 := H.cell 1 rfl
  obtain ⟨r, hr⟩ : ∃ r, r = scan s 6 at_ 0 := ⟨_, rfl⟩
  have hb := scan_bound s 6 at_ 0
  have hrg := scan_range s 6 at_ 0
  rw [← hr] at hb hrg
  have HR := Lib.hid hr; clear hr
  obtain ⟨rn, re⟩ := r
  dsimp only at hb hrg
  obtain ⟨hg1, hg2, hg3⟩ := hrg
  have hg3 := hg3 ha
  obtain ⟨o, ho⟩ : ∃ o, o = numF s at_ := ⟨_, rfl⟩
  rw [← ho]
  have HO := Lib.hid ho; clear ho
  go_enter Try.func65, Try.ntmps65
  go_wp2_with fail
  refine (peek_ok b s at_ hs H).mono ?_
  rintro x w1 ⟨rfl, H1⟩
  clear H c1
  go_wp2_with fail
  have h0 := H1.cell 1 rfl
  go_loopw [4, 5] (fun n c wr => ∃ (k m q : Nat), k ≤ 6 ∧ Hid (scan s (6 - k) q m = (rn, re)) ∧ m + 1 ≤ 10 ^ k ∧ n = .int .i64 m ∧ q = at_ + k ∧ q ≤ s.size ∧ c = .int .u8 (pk s q) ∧ St w0 wr (Psr b s q :: F)) (fun _ _ wr => s.size - atOf b wr)
  case atStart => exact ⟨0, 0, at_, by omega, HR.out.symm, by omega, rfl, rfl, ha, rfl, H1⟩
  case round =>
    clear H1 h0
    obtain ⟨k, m, q, hk, HS, hm, rfl, hq, hqs, rfl, H1⟩ := hrel
    have c1 := H1.cell 1 rfl
    have c0 := H1.cell 0 rfl
    have f1 := H1.frozen 1
    have ha0 : atOf b wr = q := by unfold atOf; rw [c1]; rfl
    have HA := Lib.hid ha0; clear ha0
    have hpb := pk_byte s q
    have hq6 : q ≤ at_ + 6 := by omega
    have hq0 : at_ ≤ q := by omega
    have HQ := Lib.hid hq; clear hq
    by_cases hd : 48 ≤ pk s q ∧ pk s q ≤ 57
    rotate_left 1
    · obtain ⟨rfl, rfl⟩ : m = rn ∧ q = re := by
        have := HS.out
        cases h6 : 6 - k with
        | zero => rw [h6, scan] at this; injection this with h1 h2; exact ⟨h1, h2⟩
        | succ j => rw [h6, scan, if_neg hd] at this; injection this with h1 h2; exact ⟨h1, h2⟩
      by_cases hd1 : pk s q < 48
      · have hz : ¬ (48 : Int) ≤ (pk s q : Int) := by omega
        by_cases e1 : q = at_
        · have z1 : (q : Int) - at_ < 1 := by omega
          have hN : numF s at_ = none := by unfold numF; rw [← HR.out]; exact if_pos (.inl e1)
          clear e1
          clear HR HS
          have HN := Lib.hid hN; clear hN
          go_wp2_with (fail)
          refine ⟨rfl, ?_⟩
          rw [HO.out, HN.out]
          exact ⟨rfl, q, H1⟩
        have z1 : ¬ (q : Int) - at_ < 1 := by omega
        by_cases e2 : at_ + 5 < q
        · have z2 : (q : Int) - at_ > 5 := by omega
          have hN : numF s at_ = none := by unfold numF; rw [← HR.out]; exact if_pos (.inr (.inl e2))
          clear HR HS
          have HN := Lib.hid hN; clear hN
          go_wp2_with (fail)
          refine ⟨rfl, ?_⟩
          rw [HO.out, HN.out]
          exact ⟨rfl, q, H1⟩
        have z2 : ¬ (q : Int) - at_ > 5 := by omega
        by_cases e3 : at_ + 1 < q
        · have z3 : (q : Int) - at_ > 1 := by omega
          have hal : at_ < s.size := by omega
          have halI : (at_ : Int) < s.size := by omega
          have hpa := pk_in hal
          by_cases e4 : pk s at_ = 48
          · have hN : numF s at_ = none := by unfold numF; rw [← HR.out]; exact if_pos (.inr (.inr ⟨e3, e4⟩))
            have z4 : ((s[at_].toNat : Int) == 48) = true := by rw [← hpa, e4]; rfl
            clear e4 hpa
            clear HR HS
            have HN := Lib.hid hN; clear hN
            go_wp2_with (fail)
            refine ⟨rfl, ?_⟩
            rw [HO.out, HN.out]
            exact ⟨rfl, q, H1⟩
          · have hN : numF s at_ = some (m, q) := by unfold numF; rw [← HR.out]; exact if_neg (by dsimp only; omega)
            have z4 : ((s[at_].toNat : Int) == 48) = false := by rw [← hpa]; exact beq_eq_false_iff_ne.2 (by omega)
            clear e4 hpa
            clear HR HS
            have HN := Lib.hid hN; clear hN
            go_wp2_with (fail)
            go_ret
            rw [HO.out, HN.out]
            exact ⟨rfl, H1⟩
        · have z3 : ¬ (q : Int) - at_ > 1 := by omega
          have hN : numF s at_ = some (m, q) := by unfold numF; rw [← HR.out]; exact if_neg (by dsimp only; omega)
          clear HR HS
          have HN := Lib.hid hN; clear hN
          go_wp2_with (fail)
          go_ret
          rw [HO.out, HN.out]
          exact ⟨rfl, H1⟩
      · have hz : ¬ (pk s q : Int) ≤ 57 := by omega
        have hz' : (48 : Int) ≤ (pk s q : Int) := by omega
        by_cases e1 : q = at_
        · have z1 : (q : Int) - at_ < 1 := by omega
          have hN : numF s at_ = none := by unfold numF; rw [← HR.out]; exact if_pos (.inl e1)
          clear e1
          clear HR HS
          have HN := Lib.hid hN; clear hN
          go_wp2_with (fail)
          refine ⟨rfl, ?_⟩
          rw [HO.out, HN.out]
          exact ⟨rfl, q, H1⟩
        have z1 : ¬ (q : Int) - at_ < 1 := by omega
        by_cases e2 : at_ + 5 < q
        · have z2 : (q : Int) - at_ > 5 := by omega
          have hN : numF s at_ = none := by unfold numF; rw [← HR.out]; exact if_pos (.inr (.inl e2))
          clear HR HS
          have HN := Lib.hid hN; clear hN
          go_wp2_with (fail)
          refine ⟨rfl, ?_⟩
          rw [HO.out, HN.out]
          exact ⟨rfl, q, H1⟩
        have z2 : ¬ (q : Int) - at_ > 5 := by omega
        by_cases e3 : at_ + 1 < q
        · have z3 : (q : Int) - at_ > 1 := by omega
          have hal : at_ < s.size := by omega
          have halI : (at_ : Int) < s.size := by omega
          have hpa := pk_in hal
          by_cases e4 : pk s at_ = 48
          · have hN : numF s at_ = none := by unfold numF; rw [← HR.out]; exact if_pos (.inr (.inr ⟨e3, e4⟩))
            have z4 : ((s[at_].toNat : Int) == 48) = true := by rw [← hpa, e4]; rfl
            clear e4 hpa
            clear HR HS
            have HN := Lib.hid hN; clear hN
            go_wp2_with (fail)
            refine ⟨rfl, ?_⟩
            rw [HO.out, HN.out]
            exact ⟨rfl, q, H1⟩
          · have hN : numF s at_ = some (m, q) := by unfold numF; rw [← HR.out]; exact if_neg (by dsimp only; omega)
            have z4 : ((s[at_].toNat : Int) == 48) = false := by rw [← hpa]; exact beq_eq_false_iff_ne.2 (by omega)
            clear e4 hpa
            clear HR HS
            have HN := Lib.hid hN; clear hN
            go_wp2_with (fail)
            go_ret
            rw [HO.out, HN.out]
            exact ⟨rfl, H1⟩
        · have z3 : ¬ (q : Int) - at_ > 1 := by omega
          have hN : numF s at_ = some (m, q) := by unfold numF; rw [← HR.out]; exact if_neg (by dsimp only; omega)
          clear HR HS
          have HN := Lib.hid hN; clear hN
          go_wp2_with (fail)
          go_ret
          rw [HO.out, HN.out]
          exact ⟨rfl, H1⟩
    have hd1 : (48 : Int) ≤ (pk s q : Int) := by omega
    have hd2 : (pk s q : Int) ≤ 57 := by omega
    by_cases h6 : k = 6
    · subst h6
      obtain ⟨rfl, rfl⟩ : m = rn ∧ q = re := by
        have := HS.out
        rw [Nat.sub_self, scan] at this; injection this with h1 h2; exact ⟨h1, h2⟩
      have hz : ¬ (q : Int) - at_ < 6 := by have := HQ.out; omega
      clear hk hm
      go_upto_region 7 with (fail)
      clear hd hd1 hd2 hz
      by_cases e1 : q = at_
      · have z1 : (q : Int) - at_ < 1 := by omega
        have hN : numF s at_ = none := by unfold numF; rw [← HR.out]; exact if_pos (.inl e1)
        clear e1
        clear HR HS
        have HN := Lib.hid hN; clear hN
        go_wp2_with (fail)
        refine ⟨rfl, ?_⟩
        rw [HO.out, HN.out]
        exact ⟨rfl, q, H1⟩
      have z1 : ¬ (q : Int) - at_ < 1 := by omega
      by_cases e2 : at_ + 5 < q
      · have z2 : (q : Int) - at_ > 5 := by omega
        have hN : numF s at_ = none := by unfold numF; rw [← HR.out]; exact if_pos (.inr (.inl e2))
        clear HR HS
        have HN := Lib.hid hN; clear hN
        go_wp2_with (fail)
        refine ⟨rfl, ?_⟩
        rw [HO.out, HN.out]
        exact ⟨rfl, q, H1⟩
      have z2 : ¬ (q : Int) - at_ > 5 := by omega
      by_cases e3 : at_ + 1 < q
      · have z3 : (q : Int) - at_ > 1 := by omega
        have hal : at_ < s.size := by omega
        have halI : (at_ : Int) < s.size := by omega
        have hpa := pk_in hal
        by_cases e4 : pk s at_ = 48
        · have hN : numF s at_ = none := by unfold numF; rw [← HR.out]; exact if_pos (.inr (.inr ⟨e3, e4⟩))
          have z4 : ((s[at_].toNat : Int) == 48) = true := by rw [← hpa, e4]; rfl
          clear e4 hpa
          clear HR HS
          have HN := Lib.hid hN; clear hN
          go_wp2_with (fail)
          refine ⟨rfl, ?_⟩
          rw [HO.out, HN.out]
          exact ⟨rfl, q, H1⟩
        · have hN : numF s at_ = some (m, q) := by unfold numF; rw [← HR.out]; exact if_neg (by dsimp only; omega)
          have z4 : ((s[at_].toNat : Int) == 48) = false := by rw [← hpa]; exact beq_eq_false_iff_ne.2 (by omega)
          clear e4 hpa
          clear HR HS
          have HN := Lib.hid hN; clear hN
          go_wp2_with (fail)
          go_ret
          rw [HO.out, HN.out]
          exact ⟨rfl, H1⟩
      · have z3 : ¬ (q : Int) - at_ > 1 := by omega
        have hN : numF s at_ = some (m, q) := by unfold numF; rw [← HR.out]; exact if_neg (by dsimp only; omega)
        clear HR HS
        have HN := Lib.hid hN; clear hN
        go_wp2_with (fail)
        go_ret
        rw [HO.out, HN.out]
        exact ⟨rfl, H1⟩
    · have hz : (q : Int) - at_ < 6 := by have := HQ.out; omega
      have hql := pk_lt (s := s) (i := q) (by omega)
      have hm2 : m + 1 ≤ 1000000 := Nat.le_trans hm (Nat.pow_le_pow_right (by decide) hk)
      have hv : (10 * (m : Int) + ((pk s q : Int) - 48)) = ((10 * m + (pk s q - 48) : Nat) : Int) := by omega
      have H2 := H1.set 1 (.int .i64 ((q + 1 : Nat) : Int))
      have hp2 := peek_ok b s (q + 1) hs H2
      have HV := Lib.hid hv; have HP := Lib.hid hp2
      have HD := Lib.hid hd; have H6 := Lib.hid h6
      clear hv hp2 hd h6
      go_wp2_with (fail)
      refine HP.out.mono ?_
      rintro x w3 ⟨rfl, H3⟩
      have c3 := H3.cell 1 rfl
      go_wp2_with (fail)
      go_roundw
      case rel =>
        have h6 := H6.out
        have hsc := HS.out
        rw [show 6 - k = (6 - (k + 1)) + 1 by omega, scan, if_pos HD.out] at hsc
        exact ⟨k + 1, 10 * m + (pk s q - 48), q + 1, by omega, hsc, by rw [Nat.pow_succ]; omega, by rw [← HV.out], by have := HQ.out; omega, hql, rfl, H3⟩
      case measure =>
        rw [HA.out]
        have : atOf b w3 = q + 1 := by unfold atOf; rw [c3]; rfl
        omega
end Go.Proofs.Ytkkpcjpdpjpohaa

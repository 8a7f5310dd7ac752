/- Layer 2's reference: which texts are forms. -/
import Derived.Test.YtpmhjjfcipjnoaaSmI
namespace Go.Proofs.Ytpmhjjfcipjnoaa
open Go.RowKit

def digI (s : ByteArray) (at_ : Nat) : Int := match numF s at_ with
  | none => -1
  | some r => r.1
-- §1 is there a number, §2 its facts
set_option maxHeartbeats 2000000 in
theorem digits_ok (s : ByteArray) (at_ : Nat) (hs : s.size ≤ 1099511627776) (ha : at_ ≤ s.size) (w : World) :
    Calls Try.prog 40 #[.string s, .int .i64 at_] w fun x w' => x = .returned (.tuple #[.int .i64 (digI s at_), .int .i64 (scan s 6 at_ 0).2]) ∧ w = w' := by
  obtain ⟨r, hr⟩ : ∃ r, r = scan s 6 at_ 0 := ⟨_, rfl⟩
  have hb := scan_bound s 6 at_ 0
  have hrg := scan_range s 6 at_ 0
  rw [← hr] at hb hrg ⊢
  have HR := Lib.hid hr; clear hr
  obtain ⟨rn, re⟩ := r
  dsimp only at hb hrg ⊢
  obtain ⟨hg1, hg2, hg3⟩ := hrg
  have hg3 := hg3 ha
  obtain ⟨o, ho⟩ : ∃ o, o = digI s at_ := ⟨_, rfl⟩
  rw [← ho]
  have HO := Lib.hid ho; clear ho
  go_enter Try.func40, Try.ntmps40
  go_wp2_with fail
  go_loop [6, 7] (fun n c => ∃ (k m q : Nat), k ≤ 6 ∧ Hid (scan s (6 - k) q m = (rn, re)) ∧ m + 1 ≤ 10 ^ k ∧ n = .int .i64 m ∧ q = at_ + k ∧ q ≤ s.size ∧ c = .int .i64 q) (fun _ c => s.size - (intOf c).toNat)
  case atStart => exact ⟨0, 0, at_, by omega, HR.out.symm, by omega, rfl, rfl, ha, rfl⟩
  case round =>
    obtain ⟨k, m, q, hk, HS, hm, rfl, hq, hqs, rfl⟩ := hrel
    have hpb := pk_byte s q
    have hq6 : q ≤ at_ + 6 := by omega
    have hq0 : at_ ≤ q := by omega
    have HQ := Lib.hid hq; clear hq
    by_cases hd : 48 ≤ pk s q ∧ pk s q ≤ 57
    rotate_left 1
    · obtain ⟨rfl, rfl⟩ : m = rn ∧ q = re := by
        have := HS.out
        cases h6 : 6 - k with
        | zero => rw [h6, scan] at this; injection this with h1 h2; exact ⟨h1, h2⟩
        | succ j => rw [h6, scan, if_neg hd] at this; injection this with h1 h2; exact ⟨h1, h2⟩
      by_cases hql : q < s.size
      · have hqI : (q : Int) < s.size := by omega
        have hpq := pk_in hql
        by_cases hd1 : pk s q < 48
        · have hz : ¬ (48 : Int) ≤ (s[q].toNat : Int) := by rw [← hpq]; omega
          clear hpq hd1 hd
          go_upto_region 5 with (fail)
          clear hz
          by_cases e1 : q = at_
          · have z1 : ((q : Int) == at_) = true := by rw [e1]; exact beq_self_eq_true _
            have hN : numF s at_ = none := by unfold numF; rw [← HR.out]; exact if_pos (.inl e1)
            clear e1
            clear HR HS
            have HN := Lib.hid hN; clear hN
            go_wp2_with (fail)
            go_ret2
            rw [HO.out]
            exact ⟨by unfold digI; rw [HN.out]; rfl, rfl⟩
          have z1 : ((q : Int) == at_) = false := beq_eq_false_iff_ne.2 (by omega)
          have hal : at_ < s.size := by omega
          have halI : (at_ : Int) < s.size := by omega
          have hpa := pk_in hal
          by_cases e2 : at_ + 5 < q
          · have z2 : (q : Int) - at_ > 5 := by omega
            have hN : numF s at_ = none := by unfold numF; rw [← HR.out]; exact if_pos (.inr (.inl e2))
            clear hpa e1 e2
            clear HR HS
            have HN := Lib.hid hN; clear hN
            go_wp2_with (fail)
            go_ret2
            rw [HO.out]
            exact ⟨by unfold digI; rw [HN.out]; rfl, rfl⟩
          have z2 : ¬ (q : Int) - at_ > 5 := by omega
          by_cases e4 : pk s at_ = 48
          · have z4 : ((s[at_].toNat : Int) == 48) = true := by rw [← hpa, e4]; rfl
            by_cases e3 : at_ + 1 < q
            · have z3 : (q : Int) - at_ > 1 := by omega
              have hN : numF s at_ = none := by unfold numF; rw [← HR.out]; exact if_pos (.inr (.inr ⟨e3, e4⟩))
              clear hpa e1 e4 e2 e3
              clear HR HS
              have HN := Lib.hid hN; clear hN
              go_wp2_with (fail)
              go_ret2
              rw [HO.out]
              exact ⟨by unfold digI; rw [HN.out]; rfl, rfl⟩
            · have z3 : ¬ (q : Int) - at_ > 1 := by omega
              have hN : numF s at_ = some (m, q) := by unfold numF; rw [← HR.out]; exact if_neg (by dsimp only; omega)
              clear hpa e1 e4 e2 e3
              clear HR HS
              have HN := Lib.hid hN; clear hN
              go_wp2_with (fail)
              go_ret2
              rw [HO.out]
              exact ⟨by unfold digI; rw [HN.out]; rfl, rfl⟩
          · have z4 : ((s[at_].toNat : Int) == 48) = false := by rw [← hpa]; exact beq_eq_false_iff_ne.2 (by omega)
            have hN : numF s at_ = some (m, q) := by unfold numF; rw [← HR.out]; exact if_neg (by dsimp only; omega)
            clear hpa e1 e4 e2
            clear HR HS
            have HN := Lib.hid hN; clear hN
            go_wp2_with (fail)
            go_ret2
            rw [HO.out]
            exact ⟨by unfold digI; rw [HN.out]; rfl, rfl⟩
        · have hz : ¬ (s[q].toNat : Int) ≤ 57 := by rw [← hpq]; omega
          have hz' : (48 : Int) ≤ (s[q].toNat : Int) := by rw [← hpq]; omega
          clear hpq hd1 hd
          go_upto_region 5 with (fail)
          clear hz hz'
          by_cases e1 : q = at_
          · have z1 : ((q : Int) == at_) = true := by rw [e1]; exact beq_self_eq_true _
            have hN : numF s at_ = none := by unfold numF; rw [← HR.out]; exact if_pos (.inl e1)
            clear e1
            clear HR HS
            have HN := Lib.hid hN; clear hN
            go_wp2_with (fail)
            go_ret2
            rw [HO.out]
            exact ⟨by unfold digI; rw [HN.out]; rfl, rfl⟩
          have z1 : ((q : Int) == at_) = false := beq_eq_false_iff_ne.2 (by omega)
          have hal : at_ < s.size := by omega
          have halI : (at_ : Int) < s.size := by omega
          have hpa := pk_in hal
          by_cases e2 : at_ + 5 < q
          · have z2 : (q : Int) - at_ > 5 := by omega
            have hN : numF s at_ = none := by unfold numF; rw [← HR.out]; exact if_pos (.inr (.inl e2))
            clear hpa e1 e2
            clear HR HS
            have HN := Lib.hid hN; clear hN
            go_wp2_with (fail)
            go_ret2
            rw [HO.out]
            exact ⟨by unfold digI; rw [HN.out]; rfl, rfl⟩
          have z2 : ¬ (q : Int) - at_ > 5 := by omega
          by_cases e4 : pk s at_ = 48
          · have z4 : ((s[at_].toNat : Int) == 48) = true := by rw [← hpa, e4]; rfl
            by_cases e3 : at_ + 1 < q
            · have z3 : (q : Int) - at_ > 1 := by omega
              have hN : numF s at_ = none := by unfold numF; rw [← HR.out]; exact if_pos (.inr (.inr ⟨e3, e4⟩))
              clear hpa e1 e4 e2 e3
              clear HR HS
              have HN := Lib.hid hN; clear hN
              go_wp2_with (fail)
              go_ret2
              rw [HO.out]
              exact ⟨by unfold digI; rw [HN.out]; rfl, rfl⟩
            · have z3 : ¬ (q : Int) - at_ > 1 := by omega
              have hN : numF s at_ = some (m, q) := by unfold numF; rw [← HR.out]; exact if_neg (by dsimp only; omega)
              clear hpa e1 e4 e2 e3
              clear HR HS
              have HN := Lib.hid hN; clear hN
              go_wp2_with (fail)
              go_ret2
              rw [HO.out]
              exact ⟨by unfold digI; rw [HN.out]; rfl, rfl⟩
          · have z4 : ((s[at_].toNat : Int) == 48) = false := by rw [← hpa]; exact beq_eq_false_iff_ne.2 (by omega)
            have hN : numF s at_ = some (m, q) := by unfold numF; rw [← HR.out]; exact if_neg (by dsimp only; omega)
            clear hpa e1 e4 e2
            clear HR HS
            have HN := Lib.hid hN; clear hN
            go_wp2_with (fail)
            go_ret2
            rw [HO.out]
            exact ⟨by unfold digI; rw [HN.out]; rfl, rfl⟩
      · have hqI : ¬ (q : Int) < s.size := by omega
        clear hd
        go_upto_region 5 with (fail)
        clear hqI
        by_cases e1 : q = at_
        · have z1 : ((q : Int) == at_) = true := by rw [e1]; exact beq_self_eq_true _
          have hN : numF s at_ = none := by unfold numF; rw [← HR.out]; exact if_pos (.inl e1)
          clear e1
          clear HR HS
          have HN := Lib.hid hN; clear hN
          go_wp2_with (fail)
          go_ret2
          rw [HO.out]
          exact ⟨by unfold digI; rw [HN.out]; rfl, rfl⟩
        have z1 : ((q : Int) == at_) = false := beq_eq_false_iff_ne.2 (by omega)
        have hal : at_ < s.size := by omega
        have halI : (at_ : Int) < s.size := by omega
        have hpa := pk_in hal
        by_cases e2 : at_ + 5 < q
        · have z2 : (q : Int) - at_ > 5 := by omega
          have hN : numF s at_ = none := by unfold numF; rw [← HR.out]; exact if_pos (.inr (.inl e2))
          clear hpa e1 e2
          clear HR HS
          have HN := Lib.hid hN; clear hN
          go_wp2_with (fail)
          go_ret2
          rw [HO.out]
          exact ⟨by unfold digI; rw [HN.out]; rfl, rfl⟩
        have z2 : ¬ (q : Int) - at_ > 5 := by omega
        by_cases e4 : pk s at_ = 48
        · have z4 : ((s[at_].toNat : Int) == 48) = true := by rw [← hpa, e4]; rfl
          by_cases e3 : at_ + 1 < q
          · have z3 : (q : Int) - at_ > 1 := by omega
            have hN : numF s at_ = none := by unfold numF; rw [← HR.out]; exact if_pos (.inr (.inr ⟨e3, e4⟩))
            clear hpa e1 e4 e2 e3
            clear HR HS
            have HN := Lib.hid hN; clear hN
            go_wp2_with (fail)
            go_ret2
            rw [HO.out]
            exact ⟨by unfold digI; rw [HN.out]; rfl, rfl⟩
          · have z3 : ¬ (q : Int) - at_ > 1 := by omega
            have hN : numF s at_ = some (m, q) := by unfold numF; rw [← HR.out]; exact if_neg (by dsimp only; omega)
            clear hpa e1 e4 e2 e3
            clear HR HS
            have HN := Lib.hid hN; clear hN
            go_wp2_with (fail)
            go_ret2
            rw [HO.out]
            exact ⟨by unfold digI; rw [HN.out]; rfl, rfl⟩
        · have z4 : ((s[at_].toNat : Int) == 48) = false := by rw [← hpa]; exact beq_eq_false_iff_ne.2 (by omega)
          have hN : numF s at_ = some (m, q) := by unfold numF; rw [← HR.out]; exact if_neg (by dsimp only; omega)
          clear hpa e1 e4 e2
          clear HR HS
          have HN := Lib.hid hN; clear hN
          go_wp2_with (fail)
          go_ret2
          rw [HO.out]
          exact ⟨by unfold digI; rw [HN.out]; rfl, rfl⟩
    have hql := pk_lt (s := s) (i := q) (by omega)
    have hqI : (q : Int) < s.size := by omega
    have hpq := pk_in hql
    have hd1 : (48 : Int) ≤ (s[q].toNat : Int) := by rw [← hpq]; omega
    have hd2 : (s[q].toNat : Int) ≤ 57 := by rw [← hpq]; omega
    by_cases h6 : k = 6
    · subst h6
      obtain ⟨rfl, rfl⟩ : m = rn ∧ q = re := by
        have := HS.out
        rw [Nat.sub_self, scan] at this; injection this with h1 h2; exact ⟨h1, h2⟩
      have hz : ¬ (q : Int) - at_ < 6 := by have := HQ.out; omega
      clear hk hm hpq hd
      go_upto_region 5 with (fail)
      clear hd1 hd2 hz
      by_cases e1 : q = at_
      · have z1 : ((q : Int) == at_) = true := by rw [e1]; exact beq_self_eq_true _
        have hN : numF s at_ = none := by unfold numF; rw [← HR.out]; exact if_pos (.inl e1)
        clear e1
        clear HR HS
        have HN := Lib.hid hN; clear hN
        go_wp2_with (fail)
        go_ret2
        rw [HO.out]
        exact ⟨by unfold digI; rw [HN.out]; rfl, rfl⟩
      have z1 : ((q : Int) == at_) = false := beq_eq_false_iff_ne.2 (by omega)
      have hal : at_ < s.size := by omega
      have halI : (at_ : Int) < s.size := by omega
      have hpa := pk_in hal
      by_cases e2 : at_ + 5 < q
      · have z2 : (q : Int) - at_ > 5 := by omega
        have hN : numF s at_ = none := by unfold numF; rw [← HR.out]; exact if_pos (.inr (.inl e2))
        clear hpa e1 e2
        clear HR HS
        have HN := Lib.hid hN; clear hN
        go_wp2_with (fail)
        go_ret2
        rw [HO.out]
        exact ⟨by unfold digI; rw [HN.out]; rfl, rfl⟩
      have z2 : ¬ (q : Int) - at_ > 5 := by omega
      by_cases e4 : pk s at_ = 48
      · have z4 : ((s[at_].toNat : Int) == 48) = true := by rw [← hpa, e4]; rfl
        by_cases e3 : at_ + 1 < q
        · have z3 : (q : Int) - at_ > 1 := by omega
          have hN : numF s at_ = none := by unfold numF; rw [← HR.out]; exact if_pos (.inr (.inr ⟨e3, e4⟩))
          clear hpa e1 e4 e2 e3
          clear HR HS
          have HN := Lib.hid hN; clear hN
          go_wp2_with (fail)
          go_ret2
          rw [HO.out]
          exact ⟨by unfold digI; rw [HN.out]; rfl, rfl⟩
        · have z3 : ¬ (q : Int) - at_ > 1 := by omega
          have hN : numF s at_ = some (m, q) := by unfold numF; rw [← HR.out]; exact if_neg (by dsimp only; omega)
          clear hpa e1 e4 e2 e3
          clear HR HS
          have HN := Lib.hid hN; clear hN
          go_wp2_with (fail)
          go_ret2
          rw [HO.out]
          exact ⟨by unfold digI; rw [HN.out]; rfl, rfl⟩
      · have z4 : ((s[at_].toNat : Int) == 48) = false := by rw [← hpa]; exact beq_eq_false_iff_ne.2 (by omega)
        have hN : numF s at_ = some (m, q) := by unfold numF; rw [← HR.out]; exact if_neg (by dsimp only; omega)
        clear hpa e1 e4 e2
        clear HR HS
        have HN := Lib.hid hN; clear hN
        go_wp2_with (fail)
        go_ret2
        rw [HO.out]
        exact ⟨by unfold digI; rw [HN.out]; rfl, rfl⟩
    · have hz : (q : Int) - at_ < 6 := by have := HQ.out; omega
      have hm2 : m + 1 ≤ 1000000 := Nat.le_trans hm (Nat.pow_le_pow_right (by decide) hk)
      have hv : (10 * (m : Int) + ((s[q].toNat : Int) - 48)) = ((10 * m + (pk s q - 48) : Nat) : Int) := by rw [← hpq]; omega
      have HV := Lib.hid hv; have HD := Lib.hid hd; have H6 := Lib.hid h6
      clear hv hd h6 hpq
      go_wp2_with (fail)
      go_round
      case rel =>
        have h6 := H6.out
        have hsc := HS.out
        rw [show 6 - k = (6 - (k + 1)) + 1 by omega, scan, if_pos HD.out] at hsc
        have hd9 := HD.out
        exact ⟨k + 1, 10 * m + (pk s q - 48), q + 1, by omega, hsc, by rw [Nat.pow_succ]; omega, by rw [← HV.out], by have := HQ.out; omega, hql, by go_num⟩
      case measure => simp [intOf]; omega

def skI (o : Option (Tr × Nat)) : Int := match o with
  | none => -1
  | some r => r.2
def arI (s : ByteArray) (o : Option (Tr × Nat)) : Int := match o with
  | none => -1
  | some r => if pk s r.2 = 62 then (r.2 : Int) + 1 else -1
theorem pr_empty (s : ByteArray) (k d at_ : Nat) (ks : List Nat) (r : Tr × Nat) (h : pr s k false d at_ ks = some r) : r.1.len = 0 ↔ r.2 = at_ := by
  cases k with
  | zero => cases h
  | succ k =>
    have hr : ∀ (q : Tr × Nat) (m : Bool) (d' a' : Nat) (ks' : List Nat), pr s k m d' a' ks' = some q → a' ≤ q.2 := fun q m d' a' ks' hq => (pr_range s k m d' a' ks' q hq).1
    rw [pr] at h
    split at h
    · obtain ⟨q, hq, rfl⟩ := Option.map_eq_some_iff.1 h
      have := hr _ _ _ _ _ hq
      simp only [Tr.len]; omega
    split at h
    · obtain ⟨n, hn, h⟩ := Option.bind_eq_some_iff.1 h
      obtain ⟨q, hq, rfl⟩ := Option.map_eq_some_iff.1 h
      have := hr _ _ _ _ _ hq
      have := numF_range hn
      simp only [Tr.len]; omega
    split at h
    · split at h
      · cases h
      obtain ⟨f, hf, h⟩ := Option.bind_eq_some_iff.1 h
      split at h
      · cases h
      obtain ⟨q, hq, rfl⟩ := Option.map_eq_some_iff.1 h
      have := hr _ _ _ _ _ hq
      have := hr _ _ _ _ _ hf
      simp only [Tr.len]; omega
    split at h
    · obtain ⟨f, hf, h⟩ := Option.bind_eq_some_iff.1 h
      split at h
      · cases h
      obtain ⟨q, hq, rfl⟩ := Option.map_eq_some_iff.1 h
      have := hr _ _ _ _ _ hq
      have := hr _ _ _ _ _ hf
      simp only [Tr.len]; omega
    · injection h with h; subst h
      simp [Tr.len]
theorem skI_map (o : Option (Tr × Nat)) (f : Tr → Tr) : skI (o.map fun r => (f r.1, r.2)) = skI o := by cases o <;> rfl
def SkipOK (s : ByteArray) (k : Nat) : Prop := ∀ (d at_ : Nat) (w0 w : World) (F : List Assn), s.size - at_ < k → at_ ≤ s.size → d ≤ 1000 → St w0 w F →
  Calls Try.prog 23 #[.string s, .int .i64 at_, .int .i64 d] w fun x w' => x = .returned (.int .i64 (skI (if 16 < d then none else pr s k false d at_ []))) ∧ St w0 w' F
def RArmsOK (s : ByteArray) (k : Nat) : Prop := ∀ (d at_ : Nat) (w0 w : World) (F : List Assn), s.size - at_ < k → at_ ≤ s.size → d ≤ 1000 → St w0 w F →
  Calls Try.prog 41 #[.string s, .int .i64 at_, .int .i64 d] w fun x w' => x = .returned (.int .i64 (arI s (pr s k true d at_ []))) ∧ St w0 w' F
-- the result is -1: §1 why, §2 H
-- it goes on at a place: §1 the place, §2 why, §3 H
set_option maxRecDepth 100000 in
set_option maxHeartbeats 8000000 in
theorem skip_step (s : ByteArray) (hs : s.size ≤ 1099511627776) (k : Nat) (IH : ∀ j, j < k → SkipOK s j ∧ RArmsOK s j) : SkipOK s k := by
  intro d at_ w0 w F hk ha hd H
  obtain ⟨o, ho⟩ : ∃ o, o = skI (if 16 < d then none else pr s k false d at_ []) := ⟨_, rfl⟩
  rw [← ho]
  by_cases h16 : 16 < d
  · rw [if_pos h16] at ho
    have HO := Lib.hid ho; clear ho
    have hdI : (d : Int) > 16 := by omega
    go_enter Try.func23, Try.ntmps23
    go_wp2_with (fail)
    go_ret
    rw [HO.out]
    exact ⟨rfl, H⟩
  rw [if_neg h16] at ho
  have hdI : ¬ (d : Int) > 16 := by omega
  have HO := Lib.hid ho; clear ho
  go_enter Try.func23, Try.ntmps23
  go_wp2_with (fail)
  go_loopw [1] (fun a wr => ∃ (j q : Nat), j ≤ k ∧ s.size - q < j ∧ q ≤ s.size ∧ Hid (o = skI (pr s j false d q [])) ∧ a = .int .i64 q ∧ St w0 wr F) (fun a _ => s.size - (intOf a).toNat)
  case atStart => exact ⟨k, at_, Nat.le_refl _, hk, ha, HO.out, rfl, H⟩
  case round =>
    clear H HO
    obtain ⟨j, q, hjk, hqj, hqs, HO, rfl, H⟩ := hrel
    obtain ⟨j, rfl⟩ : ∃ i, j = i + 1 := ⟨j - 1, by omega⟩
    by_cases hlt : q < s.size
    rotate_left 1
    · have hz : ¬ (q : Int) < s.size := by omega
      have hOn : o = q := by
        have hpk := pk_out hlt
        rw [HO.out, pr, hpk, if_neg (by omega), if_neg (by omega), if_neg (by omega), if_neg (by omega)]; rfl
      have HOn := Lib.hid hOn; clear hOn
      go_wp2_with (fail)
      go_ret
      rw [HOn.out]
      exact ⟨rfl, H⟩
    have hltI : (q : Int) < s.size := by omega
    obtain ⟨ci, hci⟩ : ∃ ci : Int, ci = (s[q].toNat : Int) := ⟨_, rfl⟩
    have hpk : (pk s q : Int) = ci := by rw [hci, pk_in hlt]
    have HPK := Lib.hid hpk
    have hix : ∀ (h : q < s.size), (s[q].toNat : Int) = ci := fun _ => hci.symm
    have HCI := Lib.hid hci; clear hci hpk
    by_cases e117 : ci = 117
    · subst e117
      have hOn : o = skI (pr s j false d (q + 1) []) := by
        rw [HO.out, pr]
        rw [if_pos (by have := HPK.out; omega)]; exact skI_map _ (fun t => .sign _ 0 .nil t)
      have HOn := Lib.hid hOn; clear hOn
      go_wp2_with (fail)
      go_roundw
      case rel => exact ⟨j, q + 1, by omega, by omega, by omega, HOn.out, by go_num, H⟩
      case measure => simp [intOf]; omega
    by_cases e113 : ci = 113
    · subst e113
      have hOn : o = skI (pr s j false d (q + 1) []) := by
        rw [HO.out, pr]
        rw [if_pos (by have := HPK.out; omega)]; exact skI_map _ (fun t => .sign _ 0 .nil t)
      have HOn := Lib.hid hOn; clear hOn
      go_wp2_with (fail)
      go_roundw
      case rel => exact ⟨j, q + 1, by omega, by omega, by omega, HOn.out, by go_num, H⟩
      case measure => simp [intOf]; omega
    by_cases e98 : ci = 98
    · subst e98
      have hOn : o = skI (pr s j false d (q + 1) []) := by
        rw [HO.out, pr]
        rw [if_pos (by have := HPK.out; omega)]; exact skI_map _ (fun t => .sign _ 0 .nil t)
      have HOn := Lib.hid hOn; clear hOn
      go_wp2_with (fail)
      go_roundw
      case rel => exact ⟨j, q + 1, by omega, by omega, by omega, HOn.out, by go_num, H⟩
      case measure => simp [intOf]; omega
    by_cases e111 : ci = 111
    · subst e111
      have hdg := digits_ok s (q + 1) hs hlt
      obtain ⟨on, hon⟩ : ∃ on, on = numF s (q + 1) := ⟨_, rfl⟩
      cases on with
      | none =>
        have hdi : digI s (q + 1) = -1 := by unfold digI; rw [← hon]
        rw [hdi] at hdg
        obtain ⟨ke, hke⟩ : ∃ x, x = (scan s 6 (q + 1) 0).2 := ⟨_, rfl⟩
        rw [← hke] at hdg
        have HON := Lib.hid hon
        clear hdi hke hon
        go_wp2_with (go_at_call 40; refine (hdg _).mono ?_; rintro x w1 ⟨rfl, rfl⟩)
        have hno : o = -1 := by
          rw [HO.out, pr]
          rw [if_neg (by have := HPK.out; omega), if_pos (by have := HPK.out; omega), ← HON.out]; rfl
        have HNO := Lib.hid hno; clear hno
        go_ret
        rw [HNO.out]
        exact ⟨rfl, H⟩
      | some r =>
        obtain ⟨n, e⟩ := r
        have hdi : digI s (q + 1) = n := by unfold digI; rw [← hon]
        have hke : (scan s 6 (q + 1) 0).2 = e := by
          have h := hon
          unfold numF at h
          split at h
          · cases h
          · injection h with h; rw [← h]
        rw [hdi, hke] at hdg
        have hrg := numF_range hon.symm
        dsimp only at hrg
        have hn0 : ¬ (n : Int) < 0 := by omega
        have he1 : q < e := by omega
        have he2 : e ≤ s.size := hrg.2.2 (by omega)
        have HON := Lib.hid hon
        clear hdi hke hon hrg
        go_wp2_with (go_at_call 40; refine (hdg _).mono ?_; rintro x w1 ⟨rfl, rfl⟩)
        have hOn : o = skI (pr s j false d (e) []) := by
          rw [HO.out, pr]
          rw [if_neg (by have := HPK.out; omega), if_pos (by have := HPK.out; omega), ← HON.out]; exact skI_map _ (fun t => .sign _ n .nil t)
        have HOn := Lib.hid hOn; clear hOn
        go_roundw
        case rel => exact ⟨j, e, by omega, by omega, by omega, HOn.out, by go_num, H⟩
        case measure => simp [intOf]; omega
    by_cases e102 : ci = 102
    · subst e102
      have hdg := digits_ok s (q + 1) hs hlt
      obtain ⟨on, hon⟩ : ∃ on, on = numF s (q + 1) := ⟨_, rfl⟩
      cases on with
      | none =>
        have hdi : digI s (q + 1) = -1 := by unfold digI; rw [← hon]
        rw [hdi] at hdg
        obtain ⟨ke, hke⟩ : ∃ x, x = (scan s 6 (q + 1) 0).2 := ⟨_, rfl⟩
        rw [← hke] at hdg
        have HON := Lib.hid hon
        clear hdi hke hon
        go_wp2_with (go_at_call 40; refine (hdg _).mono ?_; rintro x w1 ⟨rfl, rfl⟩)
        have hno : o = -1 := by
          rw [HO.out, pr]
          rw [if_neg (by have := HPK.out; omega), if_pos (by have := HPK.out; omega), ← HON.out]; rfl
        have HNO := Lib.hid hno; clear hno
        go_ret
        rw [HNO.out]
        exact ⟨rfl, H⟩
      | some r =>
        obtain ⟨n, e⟩ := r
        have hdi : digI s (q + 1) = n := by unfold digI; rw [← hon]
        have hke : (scan s 6 (q + 1) 0).2 = e := by
          have h := hon
          unfold numF at h
          split at h
          · cases h
          · injection h with h; rw [← h]
        rw [hdi, hke] at hdg
        have hrg := numF_range hon.symm
        dsimp only at hrg
        have hn0 : ¬ (n : Int) < 0 := by omega
        have he1 : q < e := by omega
        have he2 : e ≤ s.size := hrg.2.2 (by omega)
        have HON := Lib.hid hon
        clear hdi hke hon hrg
        go_wp2_with (go_at_call 40; refine (hdg _).mono ?_; rintro x w1 ⟨rfl, rfl⟩)
        have hOn : o = skI (pr s j false d (e) []) := by
          rw [HO.out, pr]
          rw [if_neg (by have := HPK.out; omega), if_pos (by have := HPK.out; omega), ← HON.out]; exact skI_map _ (fun t => .sign _ n .nil t)
        have HOn := Lib.hid hOn; clear hOn
        go_roundw
        case rel => exact ⟨j, e, by omega, by omega, by omega, HOn.out, by go_num, H⟩
        case measure => simp [intOf]; omega
    by_cases e63 : ci = 63
    · subst e63
      by_cases h40 : pk s (q + 1) = 40
      rotate_left 1
      · by_cases hl1 : q + 1 < s.size
        · have hl1I : (q : Int) + 1 < s.size := by omega
          have hl1J : ¬ (s.size : Int) ≤ (q : Int) + 1 := by omega
          have hx1 : ∀ (h : q + 1 < s.size), ((s[q + 1].toNat : Int) != 40) = true := fun h => by rw [← pk_in h]; exact bne_iff_ne.2 (by omega)
          have H40 := Lib.hid h40; clear h40
          have hno : o = -1 := by
            rw [HO.out, pr]
            rw [if_neg (by have := HPK.out; omega), if_neg (by have := HPK.out; omega), if_pos (by have := HPK.out; omega), if_pos (.inl H40.out)]; rfl
          have HNO := Lib.hid hno; clear hno
          go_wp2_with (fail)
          go_ret
          rw [HNO.out]
          exact ⟨rfl, H⟩
        · have hl1J : (s.size : Int) ≤ (q : Int) + 1 := by omega
          have H40 := Lib.hid h40; clear h40
          have hno : o = -1 := by
            rw [HO.out, pr]
            rw [if_neg (by have := HPK.out; omega), if_neg (by have := HPK.out; omega), if_pos (by have := HPK.out; omega), if_pos (.inl H40.out)]; rfl
          have HNO := Lib.hid hno; clear hno
          go_wp2_with (fail)
          go_ret
          rw [HNO.out]
          exact ⟨rfl, H⟩
      have hl1 := pk_lt (s := s) (i := q + 1) (by omega)
      have hl1I : (q : Int) + 1 < s.size := by omega
      have hl1J : ¬ (s.size : Int) ≤ (q : Int) + 1 := by omega
      have hx1 : ∀ (h : q + 1 < s.size), ((s[q + 1].toNat : Int) != 40) = false := fun h => by rw [← pk_in h, h40]; rfl
      have H40 := Lib.hid h40; clear h40
      have hsk := (IH j (by omega)).1 (d + 1) (q + 2) w0 _ F (by omega) (by omega) (by omega) H
      obtain ⟨fo, hfo⟩ : ∃ fo, fo = if 16 < d + 1 then none else pr s j false (d + 1) (q + 2) [] := ⟨_, rfl⟩
      rw [← hfo] at hsk
      have HFO := Lib.hid hfo; clear hfo
      go_wp2_with (fail)
      refine hsk.mono ?_
      clear hsk H
      rintro x w1 ⟨rfl, H⟩
      cases fo with
      | none =>
        have hsi : skI none = -1 := rfl
        have hno : o = -1 := by
          rw [HO.out, pr]
          rw [if_neg (by have := HPK.out; omega), if_neg (by have := HPK.out; omega), if_pos (by have := HPK.out; omega)]; by_cases hh : 16 < d + 1; (rw [if_pos (.inr hh)]; rfl); (have hfo := HFO.out; rw [if_neg hh] at hfo; rw [if_neg (fun h => h.elim (fun h => h H40.out) hh), ← hfo]; rfl)
        have HNO := Lib.hid hno; clear hno
        go_wp2_with (fail)
        go_ret
        rw [HNO.out]
        exact ⟨rfl, H⟩
      | some r =>
        obtain ⟨f, e⟩ := r
        have h16b : ¬ 16 < d + 1 := fun h => by have hfo := HFO.out; rw [if_pos h] at hfo; cases hfo
        have hfo := HFO.out
        rw [if_neg h16b] at hfo
        have hrg := pr_range s j false (d + 1) (q + 2) [] _ hfo.symm
        have hem := pr_empty s j (d + 1) (q + 2) [] _ hfo.symm
        dsimp only at hrg hem
        have he2 : e ≤ s.size := hrg.2 (by omega)
        have he1 : q + 2 ≤ e := hrg.1
        have H16b := Lib.hid h16b
        have HFO' := Lib.hid hfo; have HEM := Lib.hid hem
        clear hfo hrg h16b HFO hem
        have hsi : skI (some (f, e)) = e := rfl
        rw [hsi]
        clear hsi
        have he0 : ¬ (e : Int) < 0 := by omega
        by_cases h41 : pk s e = 41
        rotate_left 1
        · by_cases hle : e < s.size
          · have hleI : (e : Int) < s.size := by omega
            have hleJ : ¬ (s.size : Int) ≤ (e : Int) := by omega
            have hx1 : ∀ (h : e < s.size), ((s[e].toNat : Int) != 41) = true := fun h => by rw [← pk_in h]; exact bne_iff_ne.2 (by omega)
            have H41 := Lib.hid h41; clear h41
            have hno : o = -1 := by
              rw [HO.out, pr]
              rw [if_neg (by have := HPK.out; omega), if_neg (by have := HPK.out; omega), if_pos (by have := HPK.out; omega), if_neg (fun h => h.elim (fun h => h H40.out) H16b.out), ← HFO'.out, Option.bind_some, if_pos (.inl H41.out)]; rfl
            have HNO := Lib.hid hno; clear hno
            go_wp2_with (fail)
            go_ret
            rw [HNO.out]
            exact ⟨rfl, H⟩
          · have hleJ : (s.size : Int) ≤ (e : Int) := by omega
            have H41 := Lib.hid h41; clear h41
            have hno : o = -1 := by
              rw [HO.out, pr]
              rw [if_neg (by have := HPK.out; omega), if_neg (by have := HPK.out; omega), if_pos (by have := HPK.out; omega), if_neg (fun h => h.elim (fun h => h H40.out) H16b.out), ← HFO'.out, Option.bind_some, if_pos (.inl H41.out)]; rfl
            have HNO := Lib.hid hno; clear hno
            go_wp2_with (fail)
            go_ret
            rw [HNO.out]
            exact ⟨rfl, H⟩
        have hle := pk_lt (s := s) (i := e) (by omega)
        have hleI : (e : Int) < s.size := by omega
        have hleJ : ¬ (s.size : Int) ≤ (e : Int) := by omega
        have hx1 : ∀ (h : e < s.size), ((s[e].toNat : Int) != 41) = false := fun h => by rw [← pk_in h, h41]; rfl
        have H41 := Lib.hid h41; clear h41
        have hOn : o = skI (pr s j false d (e + 1) []) := by
          rw [HO.out, pr]
          rw [if_neg (by have := HPK.out; omega), if_neg (by have := HPK.out; omega), if_pos (by have := HPK.out; omega), if_neg (fun h => h.elim (fun h => h H40.out) H16b.out), ← HFO'.out, Option.bind_some, if_neg (fun h => h.elim (fun h => h H41.out) (fun h => by have := HPK.out; omega))]; exact skI_map _ (fun t => .sign _ 0 (.arm 0 false f .nil) t)
        have HOn := Lib.hid hOn; clear hOn
        go_wp2_with (fail)
        go_roundw
        case rel => exact ⟨j, e + 1, by omega, by omega, by omega, HOn.out, by go_num, H⟩
        case measure => simp [intOf]; omega
    by_cases e42 : ci = 42
    · subst e42
      by_cases h40 : pk s (q + 1) = 40
      rotate_left 1
      · by_cases hl1 : q + 1 < s.size
        · have hl1I : (q : Int) + 1 < s.size := by omega
          have hl1J : ¬ (s.size : Int) ≤ (q : Int) + 1 := by omega
          have hx1 : ∀ (h : q + 1 < s.size), ((s[q + 1].toNat : Int) != 40) = true := fun h => by rw [← pk_in h]; exact bne_iff_ne.2 (by omega)
          have H40 := Lib.hid h40; clear h40
          have hno : o = -1 := by
            rw [HO.out, pr]
            rw [if_neg (by have := HPK.out; omega), if_neg (by have := HPK.out; omega), if_pos (by have := HPK.out; omega), if_pos (.inl H40.out)]; rfl
          have HNO := Lib.hid hno; clear hno
          go_wp2_with (fail)
          go_ret
          rw [HNO.out]
          exact ⟨rfl, H⟩
        · have hl1J : (s.size : Int) ≤ (q : Int) + 1 := by omega
          have H40 := Lib.hid h40; clear h40
          have hno : o = -1 := by
            rw [HO.out, pr]
            rw [if_neg (by have := HPK.out; omega), if_neg (by have := HPK.out; omega), if_pos (by have := HPK.out; omega), if_pos (.inl H40.out)]; rfl
          have HNO := Lib.hid hno; clear hno
          go_wp2_with (fail)
          go_ret
          rw [HNO.out]
          exact ⟨rfl, H⟩
      have hl1 := pk_lt (s := s) (i := q + 1) (by omega)
      have hl1I : (q : Int) + 1 < s.size := by omega
      have hl1J : ¬ (s.size : Int) ≤ (q : Int) + 1 := by omega
      have hx1 : ∀ (h : q + 1 < s.size), ((s[q + 1].toNat : Int) != 40) = false := fun h => by rw [← pk_in h, h40]; rfl
      have H40 := Lib.hid h40; clear h40
      have hsk := (IH j (by omega)).1 (d + 1) (q + 2) w0 _ F (by omega) (by omega) (by omega) H
      obtain ⟨fo, hfo⟩ : ∃ fo, fo = if 16 < d + 1 then none else pr s j false (d + 1) (q + 2) [] := ⟨_, rfl⟩
      rw [← hfo] at hsk
      have HFO := Lib.hid hfo; clear hfo
      go_wp2_with (fail)
      refine hsk.mono ?_
      clear hsk H
      rintro x w1 ⟨rfl, H⟩
      cases fo with
      | none =>
        have hsi : skI none = -1 := rfl
        have hno : o = -1 := by
          rw [HO.out, pr]
          rw [if_neg (by have := HPK.out; omega), if_neg (by have := HPK.out; omega), if_pos (by have := HPK.out; omega)]; by_cases hh : 16 < d + 1; (rw [if_pos (.inr hh)]; rfl); (have hfo := HFO.out; rw [if_neg hh] at hfo; rw [if_neg (fun h => h.elim (fun h => h H40.out) hh), ← hfo]; rfl)
        have HNO := Lib.hid hno; clear hno
        go_wp2_with (fail)
        go_ret
        rw [HNO.out]
        exact ⟨rfl, H⟩
      | some r =>
        obtain ⟨f, e⟩ := r
        have h16b : ¬ 16 < d + 1 := fun h => by have hfo := HFO.out; rw [if_pos h] at hfo; cases hfo
        have hfo := HFO.out
        rw [if_neg h16b] at hfo
        have hrg := pr_range s j false (d + 1) (q + 2) [] _ hfo.symm
        have hem := pr_empty s j (d + 1) (q + 2) [] _ hfo.symm
        dsimp only at hrg hem
        have he2 : e ≤ s.size := hrg.2 (by omega)
        have he1 : q + 2 ≤ e := hrg.1
        have H16b := Lib.hid h16b
        have HFO' := Lib.hid hfo; have HEM := Lib.hid hem
        clear hfo hrg h16b HFO hem
        have hsi : skI (some (f, e)) = e := rfl
        rw [hsi]
        clear hsi
        have he0 : ¬ (e : Int) < 0 := by omega
        by_cases h41 : pk s e = 41
        rotate_left 1
        · by_cases hle : e < s.size
          · have hleI : (e : Int) < s.size := by omega
            have hleJ : ¬ (s.size : Int) ≤ (e : Int) := by omega
            have hx1 : ∀ (h : e < s.size), ((s[e].toNat : Int) != 41) = true := fun h => by rw [← pk_in h]; exact bne_iff_ne.2 (by omega)
            have H41 := Lib.hid h41; clear h41
            have hno : o = -1 := by
              rw [HO.out, pr]
              rw [if_neg (by have := HPK.out; omega), if_neg (by have := HPK.out; omega), if_pos (by have := HPK.out; omega), if_neg (fun h => h.elim (fun h => h H40.out) H16b.out), ← HFO'.out, Option.bind_some, if_pos (.inl H41.out)]; rfl
            have HNO := Lib.hid hno; clear hno
            go_wp2_with (fail)
            go_ret
            rw [HNO.out]
            exact ⟨rfl, H⟩
          · have hleJ : (s.size : Int) ≤ (e : Int) := by omega
            have H41 := Lib.hid h41; clear h41
            have hno : o = -1 := by
              rw [HO.out, pr]
              rw [if_neg (by have := HPK.out; omega), if_neg (by have := HPK.out; omega), if_pos (by have := HPK.out; omega), if_neg (fun h => h.elim (fun h => h H40.out) H16b.out), ← HFO'.out, Option.bind_some, if_pos (.inl H41.out)]; rfl
            have HNO := Lib.hid hno; clear hno
            go_wp2_with (fail)
            go_ret
            rw [HNO.out]
            exact ⟨rfl, H⟩
        have hle := pk_lt (s := s) (i := e) (by omega)
        have hleI : (e : Int) < s.size := by omega
        have hleJ : ¬ (s.size : Int) ≤ (e : Int) := by omega
        have hx1 : ∀ (h : e < s.size), ((s[e].toNat : Int) != 41) = false := fun h => by rw [← pk_in h, h41]; rfl
        have H41 := Lib.hid h41; clear h41
        by_cases hee : e = q + 2
        · have hz : ((e : Int) == (q : Int) + 2) = true := beq_iff_eq.2 (by omega)
          have HE := Lib.hid (HEM.out.2 hee); clear hee
          have hno : o = -1 := by
            rw [HO.out, pr]
            rw [if_neg (by have := HPK.out; omega), if_neg (by have := HPK.out; omega), if_pos (by have := HPK.out; omega), if_neg (fun h => h.elim (fun h => h H40.out) H16b.out), ← HFO'.out, Option.bind_some, if_pos (.inr ⟨by have := HPK.out; omega, HE.out⟩)]; rfl
          have HNO := Lib.hid hno; clear hno
          go_wp2_with (fail)
          go_ret
          rw [HNO.out]
          exact ⟨rfl, H⟩
        · have hz : ((e : Int) == (q : Int) + 2) = false := beq_eq_false_iff_ne.2 (by omega)
          have HE := Lib.hid (fun h => hee (HEM.out.1 h)); clear hee
          have hOn : o = skI (pr s j false d (e + 1) []) := by
            rw [HO.out, pr]
            rw [if_neg (by have := HPK.out; omega), if_neg (by have := HPK.out; omega), if_pos (by have := HPK.out; omega), if_neg (fun h => h.elim (fun h => h H40.out) H16b.out), ← HFO'.out, Option.bind_some, if_neg (fun h => h.elim (fun h => h H41.out) (fun h => HE.out h.2))]; exact skI_map _ (fun t => .sign _ 0 (.arm 0 false f .nil) t)
          have HOn := Lib.hid hOn; clear hOn
          go_wp2_with (fail)
          go_roundw
          case rel => exact ⟨j, e + 1, by omega, by omega, by omega, HOn.out, by go_num, H⟩
          case measure => simp [intOf]; omega
    by_cases e60 : ci = 60
    · subst e60
      have hsk := (IH j (by omega)).2 (d + 1) (q + 1) w0 _ F (by omega) (by omega) (by omega) H
      obtain ⟨fo, hfo⟩ : ∃ fo, fo = pr s j true (d + 1) (q + 1) [] := ⟨_, rfl⟩
      rw [← hfo] at hsk
      have HFO := Lib.hid hfo; clear hfo
      go_wp2_with (fail)
      refine hsk.mono ?_
      clear hsk H
      rintro x w1 ⟨rfl, H⟩
      cases fo with
      | none =>
        have hsi : arI s none = -1 := rfl
        have hno : o = -1 := by
          rw [HO.out, pr]
          rw [if_neg (by have := HPK.out; omega), if_neg (by have := HPK.out; omega), if_neg (by have := HPK.out; omega), if_pos (by have := HPK.out; omega), ← HFO.out]; rfl
        have HNO := Lib.hid hno; clear hno
        go_wp2_with (fail)
        go_ret
        rw [HNO.out]
        exact ⟨rfl, H⟩
      | some r =>
        obtain ⟨f, e⟩ := r
        have hrg := pr_range s j true (d + 1) (q + 1) [] _ HFO.out.symm
        dsimp only at hrg
        have he2 : e ≤ s.size := hrg.2 (by omega)
        have he1 : q + 1 ≤ e := hrg.1
        clear hrg
        by_cases h62 : pk s e = 62
        · have hsi : arI s (some (f, e)) = (e : Int) + 1 := if_pos h62
          rw [hsi]
          have hle := pk_lt (s := s) (i := e) (by omega)
          have he0 : ¬ (e : Int) + 1 < 0 := by omega
          have H62 := Lib.hid h62; clear h62 hsi
          have hOn : o = skI (pr s j false d (e + 1) []) := by
            rw [HO.out, pr]
            rw [if_neg (by have := HPK.out; omega), if_neg (by have := HPK.out; omega), if_neg (by have := HPK.out; omega), if_pos (by have := HPK.out; omega), ← HFO.out, Option.bind_some, if_neg (fun h => h H62.out)]; exact skI_map _ (fun t => .sign _ 0 f t)
          have HOn := Lib.hid hOn; clear hOn
          go_wp2_with (fail)
          go_roundw
          case rel => exact ⟨j, e + 1, by omega, by omega, by omega, HOn.out, by go_num, H⟩
          case measure => simp [intOf]; omega
        · have hsi : arI s (some (f, e)) = -1 := if_neg h62
          rw [hsi]
          have H62 := Lib.hid h62; clear h62 hsi
          have hno : o = -1 := by
            rw [HO.out, pr]
            rw [if_neg (by have := HPK.out; omega), if_neg (by have := HPK.out; omega), if_neg (by have := HPK.out; omega), if_pos (by have := HPK.out; omega), ← HFO.out, Option.bind_some, if_pos H62.out]; rfl
          have HNO := Lib.hid hno; clear hno
          go_wp2_with (fail)
          go_ret
          rw [HNO.out]
          exact ⟨rfl, H⟩
    have z117 : (ci == 117) = false := beq_eq_false_iff_ne.2 e117
    have z113 : (ci == 113) = false := beq_eq_false_iff_ne.2 e113
    have z98 : (ci == 98) = false := beq_eq_false_iff_ne.2 e98
    have z111 : (ci == 111) = false := beq_eq_false_iff_ne.2 e111
    have z102 : (ci == 102) = false := beq_eq_false_iff_ne.2 e102
    have z63 : (ci == 63) = false := beq_eq_false_iff_ne.2 e63
    have z42 : (ci == 42) = false := beq_eq_false_iff_ne.2 e42
    have z60 : (ci != 60) = true := bne_iff_ne.2 e60
    have hOn : o = q := by
      have := HPK.out
      rw [HO.out, pr, if_neg (by omega), if_neg (by omega), if_neg (by omega), if_neg (by omega)]; rfl
    have HOn := Lib.hid hOn
    clear hOn e117 e113 e98 e111 e102 e63 e42 e60
    go_wp2_with (fail)
    go_ret
    rw [HOn.out]
    exact ⟨rfl, H⟩
end Go.Proofs.Ytpmhjjfcipjnoaa

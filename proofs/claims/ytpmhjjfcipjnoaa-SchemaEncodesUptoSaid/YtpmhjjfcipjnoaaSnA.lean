/- Layer 2's reference: a choice's arm, found by place. -/
import Derived.Test.YtpmhjjfcipjnoaaSmS
namespace Go.Proofs.Ytpmhjjfcipjnoaa
open Go.RowKit

theorem flag_ok (b : Bool) (w : World) : Calls Try.prog 43 #[.bool b] w fun x w' => x = .returned (.int .i64 (bitI b)) ∧ w = w' := by
  cases b
  · go_enter Try.func43, Try.ntmps43
    go_wp2_with (fail)
    go_ret
    exact ⟨rfl, rfl⟩
  · go_enter Try.func43, Try.ntmps43
    go_wp2_with (fail)
    go_ret
    exact ⟨rfl, rfl⟩
def Fnd (s : ByteArray) (p : Int) (a : Tr) (n : Int) (tot : Option Tr) : Prop := (p < 0 ∧ p = -1 ∧ pickT a n = tot) ∨ (0 ≤ p ∧ FoundAt s p tot)
/-- behind an arm: §1 the form's place, §2 the tail's arms -/
theorem Fnd.next {s : ByteArray} {p n : Int} {tot : Option Tr} {k : Nat} {y : Bool} {f a : Tr} {P j d e : Nat} (h : Fnd s p (.arm k y f a) n tot) (hj : s.size - P < j) (hP : P ≤ s.size) (hf : pr s j false d P [] = some (f, e)) :
    Fnd s (if p < 0 ∧ (y = true ∨ (k : Int) = n) then (P : Int) else p) a n tot := by
  rcases h with ⟨h1, h2, h3⟩ | ⟨h1, h2⟩
  · by_cases hc : y = true ∨ (k : Int) = n
    · rw [if_pos ⟨h1, hc⟩]
      rw [pickT, if_pos hc] at h3
      subst h3
      exact .inr ⟨by omega, P, j, d, e, rfl, hj, hP, hf⟩
    · rw [if_neg (fun h => hc h.2)]
      rw [pickT, if_neg hc] at h3
      exact .inl ⟨h1, h2, h3⟩
  · rw [if_neg (fun h => by omega)]
    exact .inr ⟨h1, h2⟩
theorem Fnd.done {s : ByteArray} {p n : Int} {tot : Option Tr} (h : Fnd s p .nil n tot) : FoundAt s p tot := by
  rcases h with ⟨h1, h2, h3⟩ | ⟨h1, h2⟩
  · rw [pickT] at h3
    · subst h3; exact h2
    · exact fun _ _ _ _ h => by cases h
  · exact h2
-- behind the guard: §1 the new place found, §2 why it is so
set_option maxRecDepth 100000 in
set_option maxHeartbeats 8000000 in
theorem choose_ok (s : ByteArray) (hs : s.size ≤ 1099511627776) (k d q e : Nat) (ks : List Nat) (a : Tr) (n : Int) (hk : s.size - q < k) (hq : q ≤ s.size) (hp : pr s k true d q ks = some (a, e)) (he : pk s e = 62) {w0 w : World} {F : List Assn} (H : St w0 w F) :
    Calls Try.prog 47 #[.string s, .int .i64 q, .int .i64 n] w fun x w' => ∃ p, x = .returned (.tuple #[.int .i64 p, .int .i64 ((e : Int) + 1)]) ∧ FoundAt s p (pickT a n) ∧ St w0 w' F := by
  obtain ⟨tot, htot⟩ : ∃ o, o = pickT a n := ⟨_, rfl⟩
  rw [← htot]
  have HT := Lib.hid htot; have HP := Lib.hid hp; have HE := Lib.hid he
  clear htot hp he
  go_enter Try.func47, Try.ntmps47
  go_wp2_with (fail)
  go_loopw [1, 8] (fun at_ fd wr => ∃ (j q : Nat) (a1 : Tr) (ks : List Nat) (p : Int), s.size - q < j ∧ q ≤ s.size ∧ Hid (pr s j true d q ks = some (a1, e)) ∧ Hid (Fnd s p a1 n tot) ∧ at_ = .int .i64 q ∧ fd = .int .i64 p ∧ St w0 wr F) (fun at_ _ _ => s.size - (intOf at_).toNat)
  case atStart => exact ⟨k, q, a, ks, -1, hk, hq, HP.out, .inl ⟨by decide, rfl, HT.out.symm⟩, rfl, rfl, H⟩
  case round =>
    clear H HP HT hk hq
    obtain ⟨j, q, a1, ks, p, hqj, hqs, HP, HFN, rfl, rfl, H⟩ := hrel
    obtain ⟨j, rfl⟩ : ∃ i, j = i + 1 := ⟨j - 1, by omega⟩
    obtain ⟨nm, f, e2, hn, h58, hd, hf, htl⟩ := pr_arm HP.out HE.out
    obtain ⟨kn, nn⟩ := nm
    dsimp only at hn h58 hf htl
    have hl58 := pk_lt (s := s) (i := nn) (by omega)
    have hrg := pr_range s j false d (nn + 1) [] _ hf
    dsimp only at hrg
    have he2 : e2 ≤ s.size := hrg.2 (by omega)
    have he1 : nn + 1 ≤ e2 := hrg.1
    have hle2 : e2 < s.size := by
      rcases htl with ⟨h, _⟩ | ⟨_, h, _⟩ <;> exact pk_lt (by omega)
    have hqn : q < nn := by
      rcases hn with ⟨_, h⟩ | ⟨_, h⟩
      · injection h with h1 h2; omega
      · have := numF_range h; dsimp only at this; omega
    have hlt : q < s.size := by omega
    have hltI : (q : Int) < s.size := by omega
    obtain ⟨yy, hyy⟩ : ∃ y, y = (pk s q == 45) := ⟨_, rfl⟩
    obtain ⟨a2, ha2, htl2⟩ : ∃ a2, a1 = .arm kn yy f a2 ∧ ((pk s e2 = 62 → e2 = e ∧ a2 = .nil) ∧ (¬ pk s e2 = 62 → ∃ ks', pr s j true d (e2 + 1) ks' = some (a2, e))) := by
      rcases htl with ⟨h1, h2, h3⟩ | ⟨h1, h2, t, ks', h3, h4⟩
      · exact ⟨.nil, by rw [hyy]; exact h3, fun _ => ⟨h2, rfl⟩, fun h => absurd h1 h⟩
      · exact ⟨t, by rw [hyy, beq_eq_false_iff_ne.2 h1]; exact h4, fun h => absurd (h2.symm.trans h) (by decide), fun _ => ⟨_, h3⟩⟩
    subst ha2
    have HTL := Lib.hid htl2; have HFP := Lib.hid hf; have H58 := Lib.hid h58
    clear htl htl2 hf hrg h58 HP
    have hle2I : (e2 : Int) < s.size := by omega
    have hnnI : (nn : Int) < s.size := by omega
    have hx : ∀ (h : q < s.size), ((s[q].toNat : Int) == 45) = yy := fun h => by
      rw [← pk_in h, hyy, Bool.eq_iff_iff, beq_iff_eq, beq_iff_eq]; omega
    have hky : Hid ((yy = true ∧ kn = 0 ∧ nn = q + 1) ∨ (yy = false ∧ numF s q = some (kn, nn))) := by
      rcases hn with ⟨h45, hnm⟩ | ⟨h45, hnm⟩
      · injection hnm with h1 h2; exact .inl ⟨by rw [hyy, h45]; rfl, h1, h2⟩
      · exact .inr ⟨by rw [hyy]; exact beq_eq_false_iff_ne.2 h45, hnm⟩
    clear hyy hn
    go_upto_if 15 with (fail)
    clear hx
    go_cut [1, 10] (fun at_ key wx => at_ = .int .i64 nn ∧ key = .int .i64 kn ∧ wr = wx)
    case first =>
      rcases hky with ⟨rfl, rfl, rfl⟩ | ⟨rfl, hnm⟩
      · go_wp2_with (fail)
        go_meet
        exact ⟨rfl, rfl, rfl⟩
      · have hdg := digits_ok s q hs hqs
        obtain ⟨hd1, hd2⟩ := digI_some hnm
        rw [hd1, hd2] at hdg
        clear hd1 hd2 hnm
        go_wp2_with (go_at_call 40; refine (hdg _).mono ?_; rintro x w1 ⟨rfl, rfl⟩)
        go_meet
        exact ⟨rfl, rfl, rfl⟩
    obtain ⟨rfl, rfl, rfl⟩ := hcut
    clear hky
    by_cases hp0 : p < 0
    · have hdp : decide (p < 0) = true := decide_eq_true hp0
      cases yy with
      | true =>
        have hfn : Fnd s ((nn : Int) + 1) a2 n tot := by have := HFN.out.next (P := nn + 1) (by omega) (by omega) HFP.out; rwa [if_pos ⟨hp0, .inl rfl⟩] at this
        have HFN2 := Lib.hid hfn; clear hfn HFN
        go_wp2_with (fail)
        refine (skip0_ok s hs j d (nn + 1) (f, e2) (by omega) (by omega) HFP.out H).mono ?_
        rintro x w2 ⟨rfl, H2⟩
        clear H
        by_cases h62 : pk s e2 = 62
        · have hx2 : ∀ (h : e2 < s.size), (s[e2].toNat : Int) = 62 := fun h => by rw [← pk_in h, h62]; rfl
          have hend : e2 = e ∧ a2 = .nil := HTL.out.1 h62
          obtain ⟨rfl, rfl⟩ := hend
          clear h62
          go_wp2_with (fail)
          go_ret2
          exact ⟨_, rfl, HFN2.out.done, H2⟩
        · have hx2 : ∀ (h : e2 < s.size), ((s[e2].toNat : Int) == 62) = false := fun h => by rw [← pk_in h]; exact beq_eq_false_iff_ne.2 (by omega)
          obtain ⟨ks', hp2⟩ := HTL.out.2 h62
          have HP2 := Lib.hid hp2; clear hp2 h62
          go_wp2_with (fail)
          go_roundw
          case rel => exact ⟨j, e2 + 1, a2, ks', _, by omega, by omega, HP2.out, HFN2.out, by go_num, rfl, H2⟩
          case measure => simp [intOf]; omega
      | false =>
        by_cases hkn : (kn : Int) = n
        · have hkb : ((kn : Int) == n) = true := beq_iff_eq.2 hkn
          have HKN := Lib.hid hkn; clear hkn
          have hfn : Fnd s ((nn : Int) + 1) a2 n tot := by have := HFN.out.next (P := nn + 1) (by omega) (by omega) HFP.out; rwa [if_pos ⟨hp0, .inr HKN.out⟩] at this
          have HFN2 := Lib.hid hfn; clear hfn HFN
          go_wp2_with (fail)
          refine (skip0_ok s hs j d (nn + 1) (f, e2) (by omega) (by omega) HFP.out H).mono ?_
          rintro x w2 ⟨rfl, H2⟩
          clear H
          by_cases h62 : pk s e2 = 62
          · have hx2 : ∀ (h : e2 < s.size), (s[e2].toNat : Int) = 62 := fun h => by rw [← pk_in h, h62]; rfl
            have hend : e2 = e ∧ a2 = .nil := HTL.out.1 h62
            obtain ⟨rfl, rfl⟩ := hend
            clear h62
            go_wp2_with (fail)
            go_ret2
            exact ⟨_, rfl, HFN2.out.done, H2⟩
          · have hx2 : ∀ (h : e2 < s.size), ((s[e2].toNat : Int) == 62) = false := fun h => by rw [← pk_in h]; exact beq_eq_false_iff_ne.2 (by omega)
            obtain ⟨ks', hp2⟩ := HTL.out.2 h62
            have HP2 := Lib.hid hp2; clear hp2 h62
            go_wp2_with (fail)
            go_roundw
            case rel => exact ⟨j, e2 + 1, a2, ks', _, by omega, by omega, HP2.out, HFN2.out, by go_num, rfl, H2⟩
            case measure => simp [intOf]; omega
        · have hkb : ((kn : Int) == n) = false := beq_eq_false_iff_ne.2 hkn
          have HKN := Lib.hid hkn; clear hkn
          have hfn : Fnd s (p) a2 n tot := by have := HFN.out.next (P := nn + 1) (by omega) (by omega) HFP.out; rwa [if_neg (fun h => h.2.elim (fun h => by cases h) HKN.out)] at this
          have HFN2 := Lib.hid hfn; clear hfn HFN
          go_wp2_with (fail)
          refine (skip0_ok s hs j d (nn + 1) (f, e2) (by omega) (by omega) HFP.out H).mono ?_
          rintro x w2 ⟨rfl, H2⟩
          clear H
          by_cases h62 : pk s e2 = 62
          · have hx2 : ∀ (h : e2 < s.size), (s[e2].toNat : Int) = 62 := fun h => by rw [← pk_in h, h62]; rfl
            have hend : e2 = e ∧ a2 = .nil := HTL.out.1 h62
            obtain ⟨rfl, rfl⟩ := hend
            clear h62
            go_wp2_with (fail)
            go_ret2
            exact ⟨_, rfl, HFN2.out.done, H2⟩
          · have hx2 : ∀ (h : e2 < s.size), ((s[e2].toNat : Int) == 62) = false := fun h => by rw [← pk_in h]; exact beq_eq_false_iff_ne.2 (by omega)
            obtain ⟨ks', hp2⟩ := HTL.out.2 h62
            have HP2 := Lib.hid hp2; clear hp2 h62
            go_wp2_with (fail)
            go_roundw
            case rel => exact ⟨j, e2 + 1, a2, ks', _, by omega, by omega, HP2.out, HFN2.out, by go_num, rfl, H2⟩
            case measure => simp [intOf]; omega
    · have hdp : decide (p < 0) = false := decide_eq_false hp0
      have hfn : Fnd s (p) a2 n tot := by have := HFN.out.next (P := nn + 1) (by omega) (by omega) HFP.out; rwa [if_neg (fun h => hp0 h.1)] at this
      have HFN2 := Lib.hid hfn; clear hfn HFN
      go_wp2_with (fail)
      refine (skip0_ok s hs j d (nn + 1) (f, e2) (by omega) (by omega) HFP.out H).mono ?_
      rintro x w2 ⟨rfl, H2⟩
      clear H
      by_cases h62 : pk s e2 = 62
      · have hx2 : ∀ (h : e2 < s.size), (s[e2].toNat : Int) = 62 := fun h => by rw [← pk_in h, h62]; rfl
        have hend : e2 = e ∧ a2 = .nil := HTL.out.1 h62
        obtain ⟨rfl, rfl⟩ := hend
        clear h62
        go_wp2_with (fail)
        go_ret2
        exact ⟨_, rfl, HFN2.out.done, H2⟩
      · have hx2 : ∀ (h : e2 < s.size), ((s[e2].toNat : Int) == 62) = false := fun h => by rw [← pk_in h]; exact beq_eq_false_iff_ne.2 (by omega)
        obtain ⟨ks', hp2⟩ := HTL.out.2 h62
        have HP2 := Lib.hid hp2; clear hp2 h62
        go_wp2_with (fail)
        go_roundw
        case rel => exact ⟨j, e2 + 1, a2, ks', _, by omega, by omega, HP2.out, HFN2.out, by go_num, rfl, H2⟩
        case measure => simp [intOf]; omega
end Go.Proofs.Ytpmhjjfcipjnoaa

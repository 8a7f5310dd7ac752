/- Layer 3: what was got is put as just these bytes. No program here. -/
import Derived.Test.YtkpcnklhboemcaaRpL
import Derived.Test.YtkpcnklhboemcaaXdrV
import Derived.Test.YtkpcnklhboemcaaRpF
namespace Go.Proofs.Ytkpcnklhboemcaa
open Go.RowKit

theorem isW_nat4 (r : RS) : isW (r.nat 4).1 = true := by unfold isW; rw [decide_eq_true_eq]; exact r.nat4
theorem nats_e0 {r : RS} : ∀ {n : Nat}, (nats r n).2.e = 0 → r.e = 0
  | 0, h => h
  | n + 1, h => nats_e0 (n := n) (RS.nat_e0 h)
theorem nats_inv {r : RS} : ∀ {n : Nat}, (nats r n).2.e = 0 → bl r.s = wl (nats r n).1 ++ bl (nats r n).2.s ∧ (nats r n).1.all isW = true
  | 0, _ => ⟨by simp [nats, wl], rfl⟩
  | n + 1, h => by
    have h1 : ((nats r n).2.nat 4).2.e = 0 := h
    obtain ⟨h2, h3⟩ := nats_inv (n := n) (RS.nat_e0 h1)
    have h4 := RS.nat4_inv h1
    refine ⟨?_, ?_⟩
    · rw [nats, wl_snoc, h2, h4, List.append_assoc]
    · rw [nats, List.all_append, h3]; simp [isW_nat4]
theorem fin0 {r : RS} (h : r.fin = 0) : r.e = 0 ∧ bl r.s = [] := by
  unfold RS.fin at h
  split at h
  · rename_i he
    split at h
    · rename_i hz
      exact ⟨he, List.eq_nil_of_length_eq_zero (by rw [bl_length, hz])⟩
    · cases h
  · rename_i he; exact absurd h he
theorem open_inv {b : ByteArray} {k : Cre} (h : Cre.open b = some k) : bl b = be k.stamp 4 ++ opaq (bl k.mach) ++ be k.uid 4 ++ be k.gid 4 ++ be k.groups.length 4 ++ wl k.groups ∧
    (isW k.stamp = true ∧ isW k.uid = true ∧ isW k.gid = true ∧ k.groups.all isW = true) ∧ k.mach.size ≤ 255 ∧ k.groups.length ≤ 16 := by
  unfold Cre.open at h
  dsimp only at h
  split at h
  · cases h
  rename_i hn
  split at h
  · rename_i hf
    injection h with h
    obtain ⟨he, hz⟩ := fin0 hf
    obtain ⟨i6, w6⟩ := nats_inv he
    have e5 := nats_e0 he
    have i5 := RS.nat4_inv e5
    have e4 := RS.nat_e0 e5
    have i4 := RS.nat4_inv e4
    have e3 := RS.nat_e0 e4
    have i3 := RS.nat4_inv e3
    have e2 := RS.nat_e0 e3
    obtain ⟨i2, m2⟩ := RS.opqe_inv e2
    have e1 := RS.opqe_e0 e2
    have i1 := RS.nat4_inv e1
    have hb := RS.nat4 ((((((⟨b, 0⟩ : RS).nat 4).2.opqe 255).2.nat 4).2.nat 4).2)
    subst h
    dsimp only
    refine ⟨?_, ⟨isW_nat4 _, isW_nat4 _, isW_nat4 _, w6⟩, by omega, by rw [nats_len]; omega⟩
    have i1' : bl b = _ := i1
    rw [i1', i2, i3, i4, i5, i6, hz, nats_len, List.append_nil]
    simp only [List.append_assoc]
    rw [Int.toNat_of_nonneg hb.1]
  · cases h
theorem fill_inv {x : Int} {r : RS} {c : Cal} {r' : RS} (hx : isW x = true) (h : fillC x r = .inr (c, r')) (pre : List UInt8) (hpre : pre = be x 4 ++ be 0 4) :
    pre ++ bl r.s = c.head ++ bl r'.s ∧ c.good ∧ r'.s.size % 4 = 0 ∧ c.args = ⟨#[]⟩ := by
  unfold fillC at h
  dsimp only at h
  split at h
  · cases h
  rename_i g1
  split at h
  · cases h
  rename_i g2
  split at h
  · cases h
  rename_i g3
  split at h
  · cases h
  rename_i g4
  split at h
  · cases h
  rename_i k hk
  split at h
  · cases h
  rename_i g5
  injection h with h
  injection h with h hr'
  subst hr'
  have n1 := (not_or.1 g1)
  have n5 := (not_or.1 g5)
  have n6 := (not_or.1 n5.2)
  have n7 := (not_or.1 n6.2)
  have e10 := Decidable.not_not.1 n5.1
  have i10 := (RS.opqe_inv e10).1
  have e9 := RS.opqe_e0 e10
  have i9 := RS.nat4_inv e9
  have e8 := Decidable.not_not.1 g3
  obtain ⟨i8, _⟩ := RS.opqe_inv e8
  have e7 := RS.opqe_e0 e8
  have i7 := RS.nat4_inv e7
  have e6 := Decidable.not_not.1 g2
  have i6 := RS.nat4_inv e6
  have e5 := RS.nat_e0 e6
  have i5 := RS.nat4_inv e5
  have e4 := RS.nat_e0 e5
  have i4 := RS.nat4_inv e4
  have e3 := Decidable.not_not.1 n1.1
  have i3 := RS.nat4_inv e3
  have hv2 := Decidable.not_not.1 n1.2
  have hy0 := Decidable.not_not.1 n6.1
  have hz0 := Decidable.not_not.1 n7.1
  have hm4 := Decidable.not_not.1 n7.2
  have hf := RS.nat4 ((((((r.nat 4).2.nat 4).2.nat 4).2).nat 4).2)
  rw [i3, i4, i5, i6, i7, i8, i9, i10, hv2, hy0, hz0, hpre]
  subst h
  by_cases hu : ((((((r.nat 4).2.nat 4).2.nat 4).2).nat 4).2.nat 4).1 = 1
  · rw [if_pos hu] at hk
    obtain ⟨j1, ⟨j2, j3, j4, j5⟩, j6, j7⟩ := open_inv hk
    refine ⟨?_, ?_, hm4, rfl⟩
    · unfold Cal.head Cal.credB
      dsimp only
      rw [decide_eq_true hu, if_pos rfl, hu, ← j1]
      simp [List.append_assoc, bl]
    · refine ⟨⟨?_, j5⟩, ⟨j6, j7⟩, .inl (decide_eq_true hu)⟩
      simp [Cal.words, hx, isW_nat4, j2, j3, j4]
  · rw [if_neg hu] at hk
    split at hk
    · rename_i hb
      injection hk with hk
      subst hk
      have hu0 : ((((((r.nat 4).2.nat 4).2.nat 4).2).nat 4).2.nat 4).1 = 0 := by omega
      refine ⟨?_, ?_, hm4, rfl⟩
      · unfold Cal.head
        dsimp only
        rw [decide_eq_false hu, if_neg (by decide), hu0, hb]
        simp [List.append_assoc, bl]
      · refine ⟨⟨?_, rfl⟩, ⟨Nat.zero_le _, Nat.zero_le _⟩, .inr ⟨rfl, rfl, rfl, rfl, rfl⟩⟩
        simp [Cal.words, hx, isW_nat4]
        decide
    · cases hk
theorem put_got {s : ByteArray} (h : (Cal.get s).2.2 = 0) : (Cal.get s).1.put = (s, 0) ∧ (Cal.get s).2.1 = ⟨#[]⟩ := by
  unfold Cal.get at h ⊢
  split
  · rename_i h1; rw [if_pos h1] at h; cases h
  rename_i h1
  rw [if_neg h1] at h
  split
  · rename_i h2; rw [if_pos h2] at h; cases h
  rename_i h2
  rw [if_neg h2] at h
  dsimp only at h ⊢
  split
  · rename_i h3; rw [if_pos h3] at h; cases h
  rename_i h3
  rw [if_neg h3] at h
  have h3 := Decidable.not_not.1 h3
  split
  · rename_i t ht
    rw [ht] at h; cases h
  · rename_i c hc
    refine ⟨?_, rfl⟩
    clear h
    obtain ⟨c, r'⟩ := c
    obtain ⟨f1, f2, f3, f4⟩ := fill_inv (isW_nat4 _) hc _ rfl
    have hle := fillC_le hc
    have hex : (((⟨s, 0⟩ : RS).nat 4).2.nat 4).2.e = 0 := by
      have := nat4_e s (by omega)
      unfold fillC at hc
      dsimp only at hc
      split at hc
      · cases hc
      rename_i g1
      exact RS.nat_e0 (Decidable.not_not.1 (not_or.1 g1).1)
    have i2 := RS.nat4_inv hex
    have i1 := RS.nat4_inv (RS.nat_e0 hex)
    have i1' : bl s = _ := i1
    rw [h3] at i2
    have hs : bl s = c.head ++ bl r'.s := by rw [i1', i2, ← List.append_assoc]; exact f1
    have hsz : s.size = c.head.length + r'.s.size := by rw [← bl_length, hs, List.length_append, bl_length]
    dsimp only
    have ha : s.extract (s.size - r'.s.size) s.size = r'.s := by
      apply bl_inj
      rw [bl_extract, hs, hsz, Nat.add_sub_cancel, List.drop_left, List.take_of_length_le (by rw [bl_length]; omega)]
    rw [ha]
    have hg : Cal.good { c with args := r'.s } := f2
    rw [Cal.put_ok hg ⟨f3, by show c.head.length + r'.s.size ≤ 65536; omega⟩]
    refine Prod.ext ?_ rfl
    show mkb c.head ++ r'.s = s
    apply bl_inj
    rw [bl_append, bl_mkb, hs]
end Go.Proofs.Ytkpcnklhboemcaa

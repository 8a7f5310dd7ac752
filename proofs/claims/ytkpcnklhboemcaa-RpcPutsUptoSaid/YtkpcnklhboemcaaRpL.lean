/- Layer 3: a call that was put is taken; cut short it is none. No program here. -/
import Derived.Test.YtkpcnklhboemcaaRpK
import Derived.Test.YtkpcnklhboemcaaRpE
namespace Go.Proofs.Ytkpcnklhboemcaa
open Go.RowKit

theorem Cal.put_eq {c : Cal} {s : ByteArray} (h : c.put = (s, 0)) : c.good ∧ (c.args.size % 4 = 0 ∧ c.head.length + c.args.size ≤ 65536) ∧ s = mkb (c.head ++ bl c.args) := by
  unfold Cal.put at h
  split at h
  · rename_i hg
    split at h
    · rename_i h2
      injection h with h3 _
      refine ⟨hg, h2, ?_⟩
      rw [← h3]; apply bl_inj; rw [bl_append, bl_mkb, bl_mkb]
    · injection h with _ h; cases h
  · injection h with _ h; cases h
theorem nats_wl (l : List Int) (h : l.all isW = true) : ∀ k, k ≤ l.length → nats (rs (wl l)) k = (l.take k, rs (wl (l.drop k)))
  | 0, _ => by simp [nats]
  | k + 1, hk => by
    have hx : l[k]? = some l[k] := List.getElem?_eq_getElem (by omega)
    have hw : isW l[k] = true := List.all_eq_true.1 h _ (List.getElem_mem _)
    rw [nats, nats_wl l h k (by omega)]
    dsimp only
    rw [List.drop_eq_getElem_cons (show k < l.length by omega)]
    rw [show wl (l[k] :: l.drop (k + 1)) = be l[k] 4 ++ wl (l.drop (k + 1)) from rfl, rs_nat4]
    dsimp only
    rw [isW_mod hw, List.take_add_one, hx]; rfl
theorem words_parts {c : Cal} (h : c.words = true) : isW c.xid = true ∧ isW c.prog = true ∧ isW c.vers = true ∧ isW c.proc = true ∧ isW c.stamp = true ∧ isW c.uid = true ∧ isW c.gid = true := by
  unfold Cal.words at h
  simpa using h
theorem rs_opaq0 (l : List UInt8) (most : Int) (h : 0 ≤ most) : (rs (opaq [] ++ l)).opqe most = (⟨#[]⟩, rs l) := rs_opaq [] l most h (by decide)
theorem open_cred (c : Cal) (h : c.good) : Cre.open (mkb c.credB) = some ⟨c.stamp, c.mach, c.uid, c.gid, c.groups⟩ := by
  obtain ⟨⟨hw, hg⟩, ⟨hm, hl⟩, _⟩ := h
  obtain ⟨_, _, _, _, w5, w6, w7⟩ := words_parts hw
  obtain ⟨xid, prog, vers, proc, unix, stamp, mach, uid, gid, groups, args⟩ := c
  dsimp only at *
  have e : (⟨mkb (Cal.credB ⟨xid, prog, vers, proc, unix, stamp, mach, uid, gid, groups, args⟩), 0⟩ : RS) = rs (be stamp 4 ++ (opaq (bl mach) ++ (be uid 4 ++ (be gid 4 ++ (be groups.length 4 ++ wl groups))))) := by
    simp [Cal.credB, rs, List.append_assoc]
  unfold Cre.open
  rw [e]
  have ho := rs_opaq (bl mach) (be uid 4 ++ (be gid 4 ++ (be groups.length 4 ++ wl groups))) 255 (by rw [bl_length]; omega) (by rw [bl_length]; omega)
  simp only [rs_nat4, ho, mkb_bl]
  rw [isW_mod w5, isW_mod w6, isW_mod w7, show (groups.length : Int) % 4294967296 = groups.length by omega, if_neg (by omega), Int.toNat_natCast, nats_wl groups hg _ (Nat.le_refl _), List.take_length, List.drop_length]
  rfl
theorem cutR_e (l : List UInt8) (m : Int) : (cutR l m).e = if m < 0 then 5 else 0 := by unfold cutR; split <;> rfl
theorem rs_e (l : List UInt8) : (rs l).e = 0 := rfl
theorem get_put_u {c : Cal} {s : ByteArray} (h : c.put = (s, 0)) (hu : c.unix = true) : Cal.get s = (c, ⟨#[]⟩, 0) := by
  obtain ⟨hg, ⟨h4, hz⟩, hs⟩ := Cal.put_eq h
  have hc := open_cred c hg
  obtain ⟨⟨hw, _⟩, ⟨hm, hl⟩, _⟩ := hg
  have hcl := c.credB_len hm hl
  obtain ⟨w1, w2, w3, w4, _⟩ := words_parts hw
  have hsz : s.size = c.head.length + c.args.size := by rw [hs, mkb_size, List.length_append, bl_length]
  obtain ⟨xid, prog, vers, proc, unix, stamp, mach, uid, gid, groups, args⟩ := c
  dsimp only at *
  subst hu
  obtain ⟨C, hC⟩ : ∃ C, C = Cal.credB ⟨xid, prog, vers, proc, true, stamp, mach, uid, gid, groups, args⟩ := ⟨_, rfl⟩
  rw [← hC] at hc hcl
  have eh : Cal.head ⟨xid, prog, vers, proc, true, stamp, mach, uid, gid, groups, args⟩ = be xid 4 ++ (be 0 4 ++ (be 2 4 ++ (be prog 4 ++ (be vers 4 ++ (be proc 4 ++ (be 1 4 ++ (opaq C ++ (be 0 4 ++ opaq [])))))))) := by
    simp [Cal.head, ← hC, List.append_assoc]
  have e : (⟨s, 0⟩ : RS) = rs (be xid 4 ++ (be 0 4 ++ (be 2 4 ++ (be prog 4 ++ (be vers 4 ++ (be proc 4 ++ (be 1 4 ++ (opaq C ++ (be 0 4 ++ (opaq [] ++ bl args)))))))))) := by
    rw [hs, eh]; simp [rs, List.append_assoc]
  have hh : 40 ≤ (Cal.head ⟨xid, prog, vers, proc, true, stamp, mach, uid, gid, groups, args⟩).length := by rw [eh]; simp only [List.length_append, be_length, opaq, fixed]; omega
  have ho := rs_opaq C (be 0 4 ++ (opaq [] ++ bl args)) 400 (by omega) (by omega)
  have hf : fillC xid (rs (be 2 4 ++ (be prog 4 ++ (be vers 4 ++ (be proc 4 ++ (be 1 4 ++ (opaq C ++ (be 0 4 ++ (opaq [] ++ bl args))))))))) = .inr (⟨xid, prog, vers, proc, true, stamp, mach, uid, gid, groups, ⟨#[]⟩⟩, rs (bl args)) := by
    unfold fillC
    simp only [rs_nat4, ho, rs_opaq0 _ 400 (by decide), rs_e, isW_mod w2, isW_mod w3, isW_mod w4]
    rw [if_neg (by decide), if_neg (by decide), if_neg (by decide), if_neg (by decide), if_pos (by decide), hc]
    dsimp only
    rw [if_neg (by
      rintro (h | h | h | h)
      · exact h rfl
      · exact h (by decide)
      · exact h rfl
      · have : (rs (bl args)).s.size = args.size := by show (mkb (bl args)).size = _; rw [mkb_bl]
        rw [this] at h; exact h h4)]
    rfl
  have hb : s.extract (s.size - (rs (bl args)).s.size) s.size = args := by
    rw [show (rs (bl args)).s.size = args.size from by show (mkb (bl args)).size = _; rw [mkb_bl], hsz, Nat.add_sub_cancel]
    have := mkb_drop (Cal.head ⟨xid, prog, vers, proc, true, stamp, mach, uid, gid, groups, args⟩) (bl args) _ rfl
    rw [← hs, hsz, mkb_bl] at this
    exact this
  unfold Cal.get
  rw [if_neg (by omega), if_neg (by omega), e]
  simp only [rs_nat4, isW_mod w1]
  rw [if_neg (by decide), hf]
  dsimp only
  rw [hb]
theorem nonunix {c : Cal} (h : c.good) (hu : c.unix = false) : c.stamp = 0 ∧ c.mach = ByteArray.empty ∧ c.uid = 0 ∧ c.gid = 0 ∧ c.groups = [] := by
  obtain ⟨h1, h2, h3, h4, h5⟩ := h.2.2.resolve_left (by rw [hu]; decide)
  exact ⟨h1, h2, h3, h4, List.eq_nil_of_length_eq_zero h5⟩
theorem cutR_opaq0 (rest : List UInt8) (m : Int) : (cutR (opaq [] ++ rest) m).opqe 400 = (⟨#[]⟩, cutR rest (m - 4)) := by
  rw [cutR_opaq [] rest m 400 (by decide) (by decide)]
  congr 1
  split <;> rfl
theorem get_cut {c : Cal} {s : ByteArray} (h : c.put = (s, 0)) (hu : c.unix = false) (q : Nat) (hq : q ≤ s.size) :
    (40 ≤ q → q % 4 = 0 → Cal.get (s.extract 0 q) = ({ c with args := c.args.extract 0 (q - 40) }, ⟨#[]⟩, 0)) ∧ ((q < 40 ∨ q % 4 ≠ 0) → (Cal.get (s.extract 0 q)).2.2 ≠ 0 ∧ (Cal.get (s.extract 0 q)).1 = Cal.zero) ∧ s.size = 40 + c.args.size := by
  obtain ⟨hg, ⟨h4, hz⟩, hs⟩ := Cal.put_eq h
  obtain ⟨n1, n2, n3, n4, n5⟩ := nonunix hg hu
  obtain ⟨w1, w2, w3, w4, _⟩ := words_parts hg.1.1
  have hsz : s.size = c.head.length + c.args.size := by rw [hs, mkb_size, List.length_append, bl_length]
  obtain ⟨xid, prog, vers, proc, unix, stamp, mach, uid, gid, groups, args⟩ := c
  dsimp only at *
  subst hu n1 n2 n3 n4 n5
  have eh : Cal.head ⟨xid, prog, vers, proc, false, 0, ByteArray.empty, 0, 0, [], args⟩ = be xid 4 ++ (be 0 4 ++ (be 2 4 ++ (be prog 4 ++ (be vers 4 ++ (be proc 4 ++ (be 0 4 ++ (opaq [] ++ (be 0 4 ++ opaq [])))))))) := by
    simp [Cal.head, List.append_assoc]
  have hl : (Cal.head ⟨xid, prog, vers, proc, false, 0, ByteArray.empty, 0, 0, [], args⟩).length = 40 := by rw [eh]; simp [be_length, opaq, fixed, zeros, padn]
  rw [hl] at hsz hz
  have hS : (s.extract 0 q).size = q := by rw [ByteArray.size_extract]; omega
  have e : (⟨s.extract 0 q, 0⟩ : RS) = cutR (be xid 4 ++ (be 0 4 ++ (be 2 4 ++ (be prog 4 ++ (be vers 4 ++ (be proc 4 ++ (be 0 4 ++ (opaq [] ++ (be 0 4 ++ (opaq [] ++ bl args)))))))))) (q : Int) := by
    rw [cutR_pos _ _ (by omega), hs, eh, mkb_extract, List.drop_zero, Nat.sub_zero, Int.toNat_natCast]
    simp only [List.append_assoc]
  refine ⟨?_, ?_, hsz⟩
  · intro hq40 hq4
    have hf : fillC xid (cutR (be 2 4 ++ (be prog 4 ++ (be vers 4 ++ (be proc 4 ++ (be 0 4 ++ (opaq [] ++ (be 0 4 ++ (opaq [] ++ bl args)))))))) ((q : Int) - 4 - 4)) = .inr (⟨xid, prog, vers, proc, false, 0, ⟨#[]⟩, 0, 0, [], ⟨#[]⟩⟩, cutR (bl args) ((q : Int) - 40)) := by
      unfold fillC
      simp only [cutR_nat4, cutR_opaq0, cutR_e]
      rw [if_neg (by rw [if_neg (by omega), if_pos (by omega)]; decide), if_neg (by rw [if_neg (by omega)]; decide), if_neg (by rw [if_neg (by omega)]; decide), if_neg (by rw [if_pos (by omega)]; decide),
        if_neg (by rw [if_pos (by omega)]; decide), if_pos (show (⟨#[]⟩ : ByteArray) = ByteArray.empty from rfl)]
      dsimp only
      have ec : cutR (bl args) ((q : Int) - 4 - 4 - 4 - 4 - 4 - 4 - 4 - 4 - 4 - 4) = cutR (bl args) ((q : Int) - 40) := by congr 1; omega
      have es : (cutR (bl args) ((q : Int) - 40)).s.size = q - 40 := by
        rw [cutR_pos _ _ (by omega)]; show (mkb _).size = _; rw [mkb_size, List.length_take, bl_length]; omega
      rw [ec, if_neg (by
        rintro (h | h | h | h)
        · rw [if_neg (by omega)] at h; exact h rfl
        · rw [if_pos (by omega)] at h; exact h (by decide)
        · exact h rfl
        · rw [es] at h; omega), if_pos (by omega), if_pos (by omega), if_pos (by omega), if_pos (by omega)]
      rw [isW_mod w2, isW_mod w3, isW_mod w4]
      rfl
    have hb : (s.extract 0 q).extract ((s.extract 0 q).size - (cutR (bl args) ((q : Int) - 40)).s.size) (s.extract 0 q).size = args.extract 0 (q - 40) := by
      have es : (cutR (bl args) ((q : Int) - 40)).s.size = q - 40 := by
        rw [cutR_pos _ _ (by omega)]; show (mkb _).size = _; rw [mkb_size, List.length_take, bl_length]; omega
      rw [es, hS]
      apply bl_inj
      rw [bl_extract, bl_extract, bl_extract, hs, bl_mkb, List.drop_zero, Nat.sub_zero, List.drop_zero, Nat.sub_zero, List.drop_take, show q - (q - 40) = 40 by omega, List.drop_left' hl, List.take_take]
      congr 1
      omega
    unfold Cal.get
    rw [if_neg (by omega), if_neg (by omega), e]
    simp only [cutR_nat4]
    rw [if_neg (by rw [if_pos (by omega)]; decide), if_pos (by omega), isW_mod w1, hf]
    dsimp only
    rw [hb]
    rfl
  · intro hbad
    have zz : ∀ (o : (Int × Int × Int) ⊕ (Cal × RS)) (x : Int) (t : Int × Int × Int), o = .inl t → ((match o with
      | .inl t => (Cal.zero, (Rep.put ⟨x, t.1, t.2.1, t.2.2, ⟨#[]⟩⟩).1, 62)
      | .inr c => ({ c.1 with args := (s.extract 0 q).extract ((s.extract 0 q).size - c.2.s.size) (s.extract 0 q).size }, ⟨#[]⟩, 0) : Cal × ByteArray × Int)).2.2 ≠ 0 ∧ ((match o with
      | .inl t => (Cal.zero, (Rep.put ⟨x, t.1, t.2.1, t.2.2, ⟨#[]⟩⟩).1, 62)
      | .inr c => ({ c.1 with args := (s.extract 0 q).extract ((s.extract 0 q).size - c.2.s.size) (s.extract 0 q).size }, ⟨#[]⟩, 0) : Cal × ByteArray × Int)).1 = Cal.zero := by
      intro o x t ho; subst ho; exact ⟨by dsimp only; decide, rfl⟩
    unfold Cal.get
    rw [if_neg (by omega)]
    by_cases h8 : q < 8
    · rw [if_pos (by omega)]; exact ⟨by dsimp only; decide, rfl⟩
    rw [if_neg (by omega), e]
    simp only [cutR_nat4]
    rw [if_neg (by rw [if_pos (by omega)]; decide)]
    have hf : ∃ t, fillC (if (4 : Int) ≤ q then xid % 4294967296 else 0) (cutR (be 2 4 ++ (be prog 4 ++ (be vers 4 ++ (be proc 4 ++ (be 0 4 ++ (opaq [] ++ (be 0 4 ++ (opaq [] ++ bl args)))))))) ((q : Int) - 4 - 4)) = .inl t := by
      unfold fillC
      simp only [cutR_nat4, cutR_opaq0, cutR_e]
      by_cases h12 : q < 12
      · exact ⟨_, by rw [if_pos (.inl (by rw [if_pos (by omega)]; decide))]⟩
      rw [if_neg (by rw [if_neg (by omega), if_pos (by omega)]; decide)]
      by_cases h24 : q < 24
      · exact ⟨_, by rw [if_pos (by rw [if_pos (by omega)]; decide)]⟩
      rw [if_neg (by rw [if_neg (by omega)]; decide)]
      by_cases h32 : q < 32
      · exact ⟨_, by rw [if_pos (by rw [if_pos (by omega)]; decide)]⟩
      rw [if_neg (by rw [if_neg (by omega)]; decide), if_neg (by rw [if_pos (by omega)]; decide), if_neg (by rw [if_pos (by omega)]; decide), if_pos (show (⟨#[]⟩ : ByteArray) = ByteArray.empty from rfl)]
      dsimp only
      have ec : cutR (bl args) ((q : Int) - 4 - 4 - 4 - 4 - 4 - 4 - 4 - 4 - 4 - 4) = cutR (bl args) ((q : Int) - 40) := by congr 1; omega
      refine ⟨_, if_pos ?_⟩
      by_cases h40 : q < 40
      · exact .inl (by rw [if_pos (by omega)]; decide)
      · refine .inr (.inr (.inr ?_))
        rw [ec, cutR_pos _ _ (by omega)]
        show ¬ (mkb _).size % 4 = 0
        rw [mkb_size, List.length_take, bl_length]
        omega
    obtain ⟨t, ht⟩ := hf
    exact zz _ _ t ht
theorem get_put {c : Cal} {s : ByteArray} (h : c.put = (s, 0)) : Cal.get s = (c, ⟨#[]⟩, 0) := by
  cases hu : c.unix
  · obtain ⟨h1, _, h3⟩ := get_cut h hu s.size (Nat.le_refl _)
    obtain ⟨_, ⟨h4, _⟩, _⟩ := Cal.put_eq h
    have := h1 (by omega) (by omega)
    rw [ByteArray.extract_zero_size, h3, Nat.add_sub_cancel_left, ByteArray.extract_zero_size] at this
    exact this
  · exact get_put_u h hu
end Go.Proofs.Ytkpcnklhboemcaa

/- Layer 3's reference: any bytes as a reply. -/
import Derived.Test.YtkpcnklhboemcaaRpB
import Derived.Test.YtkpcnklhboemcaaRpD
import Derived.Test.YtkpcnklhboemcaaXdrF
namespace Go.Proofs.Ytkpcnklhboemcaa
open Go.RowKit

def atv (v : Int) : Nat := if v ≤ 5 then 24 else 16
def cand (s : ByteArray) (v : Int) : Rep :=
  ⟨((⟨s, 0⟩ : RS).nat 4).1, v, if v = 2 ∨ v = 6 ∨ v = 7 then ((⟨s.extract (atv v) s.size, 0⟩ : RS).nat 4).1 else 0,
    if v = 2 ∨ v = 6 then (((⟨s.extract (atv v) s.size, 0⟩ : RS).nat 4).2.nat 4).1 else 0, if v = 0 then s.extract 24 s.size else ⟨#[]⟩⟩
def hit (s : ByteArray) (v : Int) : Prop := atv v ≤ s.size ∧ s.size ≤ 65536 ∧ (cand s v).put = (s, 0)
theorem get_hit {s : ByteArray} {v : Int} (h : hit s v) : Rep.get s = (cand s v, 0) := by
  obtain ⟨_, h2, h3⟩ := h
  unfold Rep.get
  rw [if_neg (by omega), Rep.parse_put h3]
  dsimp only
  rw [if_pos h3]
theorem mkb_drop (a l : List UInt8) (n : Nat) (h : a.length = n) : (mkb (a ++ l)).extract n (mkb (a ++ l)).size = mkb l := by
  rw [mkb_extract, mkb_size, List.length_append, h, Nat.add_sub_cancel_left, List.drop_left' h, List.take_of_length_le (Nat.le_refl _)]
theorem cand_of_put {r : Rep} {s : ByteArray} (h : r.put = (s, 0)) : hit s r.v ∧ cand s r.v = r := by
  have key : cand s r.v = r ∧ atv r.v ≤ s.size ∧ s.size ≤ 65536 := by
    obtain ⟨hg, ⟨_, hz⟩, hs⟩ := Rep.put_eq h
    obtain ⟨xid, v, low, high, body⟩ := r
    obtain ⟨⟨v0, v7⟩, ⟨gx, gl, gh⟩, g5, g6, g7⟩ := hg
    dsimp only at *
    have hsz : s.size = (Rep.head ⟨xid, v, low, high, body⟩).length + body.size := by rw [hs, mkb_size, List.length_append, bl_length]
    have hx : v = 0 ∨ (v = 1 ∨ v = 3 ∨ v = 4 ∨ v = 5) ∨ v = 2 ∨ v = 6 ∨ v = 7 := by omega
    rcases hx with rfl | hx | rfl | rfl | rfl
    · obtain rfl : low = 0 := by omega
      obtain rfl : high = 0 := by omega
      have e : Rep.head ⟨xid, 0, 0, 0, body⟩ ++ bl body = (be xid 4 ++ be 1 4 ++ be 0 4 ++ be 0 4 ++ opaq [] ++ be 0 4) ++ bl body := by simp [Rep.head, List.append_assoc]
      have e1 : (⟨s, 0⟩ : RS) = rs (be xid 4 ++ (be 1 4 ++ be 0 4 ++ be 0 4 ++ opaq [] ++ be 0 4 ++ bl body)) := by rw [hs, e]; simp [rs, List.append_assoc]
      refine ⟨?_, ?_, by omega⟩
      · unfold cand
        rw [e1, rs_nat4]
        have hb : s.extract 24 s.size = body := by rw [hs, e, mkb_drop _ _ 24 (by simp [be_length, opaq, fixed, zeros, padn]), mkb_bl]
        simp [isW_mod gx, hb]
      · rw [hsz]; simp [atv, Rep.head, be_length, opaq, fixed, zeros, padn]
    · obtain rfl : low = 0 := by omega
      obtain rfl : high = 0 := by omega
      obtain rfl : body = ByteArray.empty := g7.resolve_left (by omega)
      have e : Rep.head ⟨xid, v, 0, 0, ByteArray.empty⟩ ++ bl ByteArray.empty = be xid 4 ++ (be 1 4 ++ be 0 4 ++ be 0 4 ++ opaq [] ++ be v 4) := by
        simp [Rep.head, List.append_assoc, show v ≤ 5 by omega, show ¬ (v = 2 ∨ v = 6 ∨ v = 7) by omega, show ¬ (v = 2 ∨ v = 6) by omega, bl]
      have e1 : (⟨s, 0⟩ : RS) = rs (be xid 4 ++ (be 1 4 ++ be 0 4 ++ be 0 4 ++ opaq [] ++ be v 4)) := by rw [hs, e]; rfl
      refine ⟨?_, ?_, by omega⟩
      · unfold cand
        rw [e1, rs_nat4, if_neg (by omega), if_neg (by omega), if_neg (by omega)]
        simp [isW_mod gx]; rfl
      · rw [hsz]; simp [atv, Rep.head, be_length, opaq, fixed, zeros, padn, show v ≤ 5 by omega]; omega
    · obtain rfl : body = ByteArray.empty := g7.resolve_left (by omega)
      have e : Rep.head ⟨xid, 2, low, high, ByteArray.empty⟩ ++ bl ByteArray.empty = (be xid 4 ++ be 1 4 ++ be 0 4 ++ be 0 4 ++ opaq [] ++ be 2 4) ++ (be low 4 ++ (be high 4 ++ [])) := by
        simp [Rep.head, List.append_assoc, bl]
      have e1 : (⟨s, 0⟩ : RS) = rs (be xid 4 ++ (be 1 4 ++ be 0 4 ++ be 0 4 ++ opaq [] ++ be 2 4 ++ (be low 4 ++ (be high 4 ++ [])))) := by rw [hs, e]; simp [rs, List.append_assoc]
      have e2 : (⟨s.extract (atv 2) s.size, 0⟩ : RS) = rs (be low 4 ++ (be high 4 ++ [])) := by
        rw [hs, e, show atv 2 = 24 from rfl, mkb_drop _ _ 24 (by simp [be_length, opaq, fixed, zeros, padn])]; rfl
      refine ⟨?_, ?_, by omega⟩
      · unfold cand
        rw [e2, e1]
        simp only [rs_nat4]
        simp [isW_mod gx, isW_mod gl, isW_mod gh]; rfl
      · rw [hsz]; simp [atv, Rep.head, be_length, opaq, fixed, zeros, padn]
    · obtain rfl : body = ByteArray.empty := g7.resolve_left (by omega)
      have e : Rep.head ⟨xid, 6, low, high, ByteArray.empty⟩ ++ bl ByteArray.empty = (be xid 4 ++ be 1 4 ++ be 1 4 ++ be 0 4) ++ (be low 4 ++ (be high 4 ++ [])) := by
        simp [Rep.head, List.append_assoc, bl]
      have e1 : (⟨s, 0⟩ : RS) = rs (be xid 4 ++ (be 1 4 ++ be 1 4 ++ be 0 4 ++ (be low 4 ++ (be high 4 ++ [])))) := by rw [hs, e]; simp [rs, List.append_assoc]
      have e2 : (⟨s.extract (atv 6) s.size, 0⟩ : RS) = rs (be low 4 ++ (be high 4 ++ [])) := by
        rw [hs, e, show atv 6 = 16 from rfl, mkb_drop _ _ 16 (by simp [be_length])]; rfl
      refine ⟨?_, ?_, by omega⟩
      · unfold cand
        rw [e2, e1]
        simp only [rs_nat4]
        simp [isW_mod gx, isW_mod gl, isW_mod gh]; rfl
      · rw [hsz]; simp [atv, Rep.head, be_length]
    · obtain rfl : body = ByteArray.empty := g7.resolve_left (by omega)
      obtain rfl : high = 0 := by omega
      have e : Rep.head ⟨xid, 7, low, 0, ByteArray.empty⟩ ++ bl ByteArray.empty = (be xid 4 ++ be 1 4 ++ be 1 4 ++ be 1 4) ++ (be low 4 ++ []) := by
        simp [Rep.head, List.append_assoc, bl]
      have e1 : (⟨s, 0⟩ : RS) = rs (be xid 4 ++ (be 1 4 ++ be 1 4 ++ be 1 4 ++ (be low 4 ++ []))) := by rw [hs, e]; simp [rs, List.append_assoc]
      have e2 : (⟨s.extract (atv 7) s.size, 0⟩ : RS) = rs (be low 4 ++ []) := by
        rw [hs, e, show atv 7 = 16 from rfl, mkb_drop _ _ 16 (by simp [be_length])]; rfl
      refine ⟨?_, ?_, by omega⟩
      · unfold cand
        rw [e2, e1]
        simp only [rs_nat4]
        simp [isW_mod gx, isW_mod gl]; rfl
      · rw [hsz]; simp [atv, Rep.head, be_length]
  exact ⟨⟨key.2.1, key.2.2, by rw [key.1]; exact h⟩, key.1⟩
theorem get_none {s : ByteArray} (h : ∀ j : Nat, j < 8 → ¬ hit s j) : (Rep.get s).1 = Rep.zero ∧ (Rep.get s).2 ≠ 0 := by
  unfold Rep.get
  split
  · exact ⟨rfl, by decide⟩
  · split
    · exact ⟨rfl, by decide⟩
    · rename_i r _
      split
      · rename_i hp
        obtain ⟨hg, _⟩ := Rep.put_eq hp
        have hv := hg.1
        have := h r.v.toNat (by omega)
        rw [show ((r.v.toNat : Nat) : Int) = r.v by omega] at this
        exact absurd (cand_of_put hp).1 this
      · exact ⟨rfl, by decide⟩
end Go.Proofs.Ytkpcnklhboemcaa

/- Layer 3: any bytes as a reply. -/
import Derived.Test.YtkpcnklhboemcaaRpA
import Derived.Test.YtkpcnklhboemcaaXdrL
namespace Go.Proofs.Ytkpcnklhboemcaa
open Go.RowKit

/-! ### the plain side -/
def rs (l : List UInt8) : RS := ⟨mkb l, 0⟩
theorem rs_cut (l : List UInt8) : rs l = cutR l l.length := (cutR_all l l.length (Int.le_refl _)).symm
theorem rs_nat4 (n : Int) (l : List UInt8) : (rs (be n 4 ++ l)).nat 4 = (n % 4294967296, rs l) := by
  rw [rs_cut, cutR_nat4, if_pos (by rw [List.length_append, be_length]; omega), rs_cut l]
  congr 2
  rw [List.length_append, be_length]; omega
theorem rs_opaq (s l : List UInt8) (most : Int) (hm : (s.length : Int) ≤ most) (hs : s.length < 4294967296) : (rs (opaq s ++ l)).opqe most = (mkb s, rs l) := by
  rw [rs_cut, cutR_opaq s l _ most hm hs, if_pos (by rw [List.length_append]; omega), rs_cut l]
  congr 2
  rw [List.length_append]; omega
theorem isW_mod {n : Int} (h : isW n = true) : n % 4294967296 = n := by
  unfold isW at h; rw [decide_eq_true_eq] at h; omega
/-- a reply, as it is taken; none: its verdict is none -/
def Rep.parse (s : ByteArray) : Option Rep :=
  let x := (⟨s, 0⟩ : RS).nat 4
  let k := (x.2.nat 4).2.nat 4
  if k.1 = 0 then
    let v := ((k.2.nat 4).2.opqe 0).2.nat 4
    if 5 < v.1 then none
    else if v.1 = 0 then some ⟨x.1, 0, 0, 0, s.extract (s.size - v.2.s.size) s.size⟩
    else if v.1 = 2 then some ⟨x.1, 2, (v.2.nat 4).1, ((v.2.nat 4).2.nat 4).1, ByteArray.empty⟩
    else some ⟨x.1, v.1, 0, 0, ByteArray.empty⟩
  else
    let v := k.2.nat 4
    if 1 < v.1 then none
    else if v.1 = 0 then some ⟨x.1, 6, (v.2.nat 4).1, ((v.2.nat 4).2.nat 4).1, ByteArray.empty⟩
    else some ⟨x.1, 7, (v.2.nat 4).1, 0, ByteArray.empty⟩
def Rep.zero : Rep := ⟨0, 0, 0, 0, ByteArray.empty⟩
def Rep.get (s : ByteArray) : Rep × Int :=
  if 65536 < s.size then (Rep.zero, 2) else match Rep.parse s with
    | none => (Rep.zero, 4)
    | some r => if r.put = (s, 0) then (r, 0) else (Rep.zero, 4)
theorem Rep.put_eq {r : Rep} {s : ByteArray} (h : r.put = (s, 0)) : r.good ∧ (r.body.size % 4 = 0 ∧ r.head.length + r.body.size ≤ 65536) ∧ s = mkb (r.head ++ bl r.body) := by
  unfold Rep.put at h
  split at h
  · rename_i hg
    split at h
    · rename_i h2
      injection h with h3 _
      refine ⟨hg, h2, ?_⟩
      rw [← h3]; apply bl_inj; rw [bl_append, bl_mkb, bl_mkb]
    · injection h with _ h; cases h
  · injection h with _ h; cases h
/-- what is put is taken -/
theorem Rep.parse_put {r : Rep} {s : ByteArray} (h : r.put = (s, 0)) : Rep.parse s = some r := by
  obtain ⟨hg, _, hs⟩ := Rep.put_eq h
  obtain ⟨xid, v, low, high, body⟩ := r
  obtain ⟨⟨v0, v7⟩, ⟨gx, gl, gh⟩, g5, g6, g7⟩ := hg
  dsimp only at *
  have hx : v = 0 ∨ (v = 1 ∨ v = 3 ∨ v = 4 ∨ v = 5) ∨ v = 2 ∨ v = 6 ∨ v = 7 := by omega
  have hl2 : ∀ l, rs l = ⟨mkb l, 0⟩ := fun _ => rfl
  rcases hx with rfl | hx | rfl | rfl | rfl
  · obtain rfl : low = 0 := by omega
    obtain rfl : high = 0 := by omega
    have e : Rep.head ⟨xid, 0, 0, 0, body⟩ ++ bl body = be xid 4 ++ (be 1 4 ++ (be 0 4 ++ (be 0 4 ++ (opaq [] ++ (be 0 4 ++ bl body))))) := by simp [Rep.head, List.append_assoc]
    have hb : s.extract (s.size - (rs (bl body)).s.size) s.size = body := by
      rw [hs, e]
      show (mkb _).extract _ _ = _
      rw [show (rs (bl body)).s.size = body.size from by show (mkb (bl body)).size = _; rw [mkb_bl], mkb_extract, mkb_size]
      apply bl_inj
      rw [bl_mkb]
      simp only [List.length_append, be_length, bl_length, opaq, fixed, zeros, List.length_replicate, List.length_nil]
      rw [show ∀ z : Nat, 4 + (4 + (4 + (4 + (4 + (0 + padn 0) + (4 + z))))) - z = 24 by intro z; simp [padn]; omega]
      rw [List.take_of_length_le (by simp [be_length, bl_length, padn])]
      rfl
    unfold Rep.parse
    rw [show (⟨s, 0⟩ : RS) = rs (be xid 4 ++ (be 1 4 ++ (be 0 4 ++ (be 0 4 ++ (opaq [] ++ (be 0 4 ++ bl body)))))) by rw [hs, e]; rfl]
    simp only [rs_nat4, rs_opaq [] _ 0 (by decide) (by decide), hb]
    simp [isW_mod gx]
  · obtain rfl : low = 0 := by omega
    obtain rfl : high = 0 := by omega
    obtain rfl : body = ByteArray.empty := g7.resolve_left (by omega)
    have e : Rep.head ⟨xid, v, 0, 0, ByteArray.empty⟩ ++ bl ByteArray.empty = be xid 4 ++ (be 1 4 ++ (be 0 4 ++ (be 0 4 ++ (opaq [] ++ (be v 4 ++ []))))) := by
      simp [Rep.head, List.append_assoc, show v ≤ 5 by omega, show ¬ (v = 2 ∨ v = 6 ∨ v = 7) by omega, show ¬ (v = 2 ∨ v = 6) by omega, bl]
    unfold Rep.parse
    rw [show (⟨s, 0⟩ : RS) = rs (be xid 4 ++ (be 1 4 ++ (be 0 4 ++ (be 0 4 ++ (opaq [] ++ (be v 4 ++ [])))))) by rw [hs, e]; rfl]
    simp only [rs_nat4, rs_opaq [] _ 0 (by decide) (by decide)]
    rw [show v % 4294967296 = v by omega]
    simp [isW_mod gx, show ¬ 5 < v by omega, show ¬ v = 0 by omega, show ¬ v = 2 by omega]
  · obtain rfl : body = ByteArray.empty := g7.resolve_left (by omega)
    have e : Rep.head ⟨xid, 2, low, high, ByteArray.empty⟩ ++ bl ByteArray.empty = be xid 4 ++ (be 1 4 ++ (be 0 4 ++ (be 0 4 ++ (opaq [] ++ (be 2 4 ++ (be low 4 ++ (be high 4 ++ []))))))) := by
      simp [Rep.head, List.append_assoc, bl]
    unfold Rep.parse
    rw [show (⟨s, 0⟩ : RS) = rs (be xid 4 ++ (be 1 4 ++ (be 0 4 ++ (be 0 4 ++ (opaq [] ++ (be 2 4 ++ (be low 4 ++ (be high 4 ++ [])))))))) by rw [hs, e]; rfl]
    simp only [rs_nat4, rs_opaq [] _ 0 (by decide) (by decide)]
    simp [isW_mod gx, isW_mod gl, isW_mod gh]
  · obtain rfl : body = ByteArray.empty := g7.resolve_left (by omega)
    have e : Rep.head ⟨xid, 6, low, high, ByteArray.empty⟩ ++ bl ByteArray.empty = be xid 4 ++ (be 1 4 ++ (be 1 4 ++ (be 0 4 ++ (be low 4 ++ (be high 4 ++ []))))) := by
      simp [Rep.head, List.append_assoc, bl]
    unfold Rep.parse
    rw [show (⟨s, 0⟩ : RS) = rs (be xid 4 ++ (be 1 4 ++ (be 1 4 ++ (be 0 4 ++ (be low 4 ++ (be high 4 ++ [])))))) by rw [hs, e]; rfl]
    simp only [rs_nat4]
    simp [isW_mod gx, isW_mod gl, isW_mod gh]
  · obtain rfl : body = ByteArray.empty := g7.resolve_left (by omega)
    obtain rfl : high = 0 := by omega
    have e : Rep.head ⟨xid, 7, low, 0, ByteArray.empty⟩ ++ bl ByteArray.empty = be xid 4 ++ (be 1 4 ++ (be 1 4 ++ (be 1 4 ++ (be low 4 ++ [])))) := by
      simp [Rep.head, List.append_assoc, bl]
    unfold Rep.parse
    rw [show (⟨s, 0⟩ : RS) = rs (be xid 4 ++ (be 1 4 ++ (be 1 4 ++ (be 1 4 ++ (be low 4 ++ []))))) by rw [hs, e]; rfl]
    simp only [rs_nat4]
    simp [isW_mod gx, isW_mod gl]
end Go.Proofs.Ytkpcnklhboemcaa

/- Layer 2: what is read of a row; how Encode ends, in one form. -/
import Derived.Test.YtpmhjjfcipjnoaaSmO
import Derived.Test.YtpmhjjfcipjnoaaSmR
import Derived.Test.YtpmhjjfcipjnoaaSLA
namespace Go.Proofs.Ytpmhjjfcipjnoaa
open Go Go.RowKit

/-- the reading of a row that is owned -/
theorem RdS.row {w0 w : World} {A : Option Addr} {n c : Nat} {l : List ByteArray} {F : List Assn} (H : St w0 w (Row 9 1 A n c (svs l) :: F)) : RdS w A l := fun j x hx => by
  have hl := H.row_length
  rw [svs_length, Nat.mul_one] at hl
  have hj : j < l.length := (List.getElem?_eq_some_iff.1 hx).1
  obtain ⟨g, o, rfl⟩ := H.row_form (by omega)
  exact ⟨g, o, rfl, H.row_cell j (by rw [svs, List.getElem?_map, hx]; rfl)⟩
theorem RdI.row {w0 w : World} {A : Option Addr} {n c : Nat} {l : List Int} {F : List Assn} (H : St w0 w (Row 3 1 A n c (ivs l) :: F)) : RdI w A l := fun j x hx => by
  have hl := H.row_length
  rw [ivs_length, Nat.mul_one] at hl
  have hj : j < l.length := (List.getElem?_eq_some_iff.1 hx).1
  obtain ⟨g, o, rfl⟩ := H.row_form (by omega)
  exact ⟨g, o, rfl, H.row_cell j (by rw [ivs, List.getElem?_map, hx]; rfl)⟩
theorem RdS.src {w : World} {A : Option Addr} {l : List ByteArray} {n : Nat} (hn : n = l.length) (h : RdS w A l) : Src w A n (svs l) :=
  Src.of (by rw [svs_length, hn]) fun j u hu => by
    rw [svs, List.getElem?_map] at hu
    obtain ⟨x, hx, rfl⟩ := Option.map_eq_some_iff.1 hu
    exact h j x hx
theorem RdI.src {w : World} {A : Option Addr} {l : List Int} {n : Nat} (hn : n = l.length) (h : RdI w A l) : Src w A n (ivs l) :=
  Src.of (by rw [ivs_length, hn]) fun j u hu => by
    rw [ivs, List.getElem?_map] at hu
    obtain ⟨x, hx, rfl⟩ := Option.map_eq_some_iff.1 hu
    exact h j x hx
theorem ivs_one (l : List Int) : ∀ u ∈ ivs l, u.oneCell' = true := fun u hu => by
  obtain ⟨x, _, rfl⟩ := List.mem_map.1 hu; rfl
theorem svs_one (l : List ByteArray) : ∀ u ∈ svs l, u.oneCell' = true := fun u hu => by
  obtain ⟨x, _, rfl⟩ := List.mem_map.1 hu; rfl
theorem RdS.firsts {w : World} {A : Option Addr} {l : List ByteArray} (h : RdS w A l) (k : Nat) : RdS w A (l.take k) := fun j x hx => by
  rw [List.getElem?_take] at hx
  split at hx
  · exact h j x hx
  · cases hx
theorem RdI.firsts {w : World} {A : Option Addr} {l : List Int} (h : RdI w A l) (k : Nat) : RdI w A (l.take k) := fun j x hx => by
  rw [List.getElem?_take] at hx
  split at hx
  · exact h j x hx
  · cases hx
theorem EncE.ans {w0 w' : World} {F : List Assn} {f : ByteArray} {N : List Int} {T : List ByteArray} {x : Ending} (h : EncE w0 F (encodeF f N T) x w') :
    ∃ v e, x = .returned (.tuple #[.string v, .int .i64 e]) ∧ ((e = 0 ∧ encodeF f N T = .ok v) ∨ (e ≠ 0 ∧ encodeF f N T = .error e ∧ v = ⟨#[]⟩)) ∧ v.size ≤ 65536 ∧ St w0 w' F := by
  cases ho : encodeF f N T with
  | error e =>
    rw [ho] at h
    refine ⟨_, e, h.1, .inr ⟨?_, rfl, rfl⟩, by decide, h.2⟩
    rcases encodeF_err ho with h | h | h <;> omega
  | ok s =>
    rw [ho] at h
    exact ⟨_, _, h.1, .inl ⟨rfl, rfl⟩, encodeF_size ho, h.2⟩
theorem Own.mem {base : Nat} {w : World} {A : Assn} : ∀ {L : List Assn} {hs : List PH}, Own base w L hs → A ∈ L → ∃ h, A h ∧ h.sub w
  | _, _, .cons ha hs hb hd r, hm => by
    rcases List.mem_cons.1 hm with rfl | hm
    · exact ⟨_, ha, hs⟩
    · exact r.mem hm
/-- a cell of a block that is owned, wherever it stands in the list -/
theorem St.memc {w0 w : World} {L : List Assn} (H : St w0 w L) {b : Nat} {cs : Array Value} {t : TypeId} (hm : Pt b cs t ∈ L) (o : Nat) {v : Value} (h : cs[o]? = some v) : w.cell? ⟨b, o, none⟩ = some v := by
  obtain ⟨hb, hs, ho⟩ := H
  obtain ⟨p, hp, hsub⟩ := ho.mem hm
  have := hsub _ _ hp
  simp only [World.cell?, this]
  simpa using h
theorem RdI.skip {w : World} {A : Option Addr} {l : List Int} (h : RdI w A l) (k : Nat) : RdI w (A.map fun a => a.add k) (l.drop k) := fun j x hx => by
  rw [List.getElem?_drop] at hx
  obtain ⟨g, o, rfl, hc⟩ := h _ _ hx
  refine ⟨g, o + k, ?_, by rw [show o + k + j = o + (k + j) by omega]; exact hc⟩
  show some ((⟨g, o, none⟩ : Addr).add k) = _
  unfold Addr.add; split <;> simp_all
theorem RdS.skip {w : World} {A : Option Addr} {l : List ByteArray} (h : RdS w A l) (k : Nat) : RdS w (A.map fun a => a.add k) (l.drop k) := fun j x hx => by
  rw [List.getElem?_drop] at hx
  obtain ⟨g, o, rfl, hc⟩ := h _ _ hx
  refine ⟨g, o + k, ?_, by rw [show o + k + j = o + (k + j) by omega]; exact hc⟩
  show some ((⟨g, o, none⟩ : Addr).add k) = _
  unfold Addr.add; split <;> simp_all
end Go.Proofs.Ytpmhjjfcipjnoaa

/- Layer 21: the guard that all statements share; the document's functions. -/
import Derived.Test.YtaifncebakbinaaNeC
import Derived.Test.YtaifncebakbinaaLift
namespace Go.Proofs.Ytaifncebakbinaa
open Go.RowKit

theorem St.srcPt {w0 w : World} {b : Nat} {vs : Array Value} {T : TypeId} {L : List Assn} (H : St w0 w (Pt b vs T :: L)) (w' : World) (hb : Below w.heap.size w w') : Src w' (some ⟨b, 0, none⟩) vs.size vs.toList :=
  .inl ⟨_, rfl, fun j u hu => by
    have := (H.keep hb).cell j (v := u) (by simpa using hu)
    rwa [addr_add, Nat.zero_add]⟩
theorem St.srcRow {w0 w : World} {e : TypeId} {A : Option Addr} {n c : Nat} {xs : List Value} {L : List Assn} (H : St w0 w (Row e 1 A n c xs :: L)) (w' : World) (hb : Below w.heap.size w w') : Src w' A n xs := by
  have H' := H.keep hb
  rcases H'.row_cases with ⟨rfl, rfl, rfl, h⟩ | ⟨g, o, cur, fr, rfl, _⟩
  · exact .inr ⟨rfl, rfl⟩
  · exact .inl ⟨_, rfl, fun j u hu => by rw [addr_add]; exact H'.row_cell j hu⟩
/-- a late one's cells -/
theorem St.late {w0 w : World} {e : TypeId} {A : Option Addr} {c : Nat} {l : List (Int × ByteArray)} {F : List Assn} (H : St w0 w (Row e 2 A l.length c (lateV l) :: F)) {i : Nat} {p : Int × ByteArray} (h : l[i]? = some p) :
    ∃ g o, A = some ⟨g, o, none⟩ ∧ w.cell? ⟨g, o + i * 2, none⟩ = some (.int .i64 p.1) ∧ w.cell? ⟨g, o + i * 2 + 1, none⟩ = some (.string p.2) := by
  obtain ⟨e0, e1⟩ := lateV_get l i p h
  rcases H.row_cases with ⟨rfl, h0, _, _⟩ | ⟨g, o, cur, fr, rfl, _⟩
  · have := (List.getElem?_eq_some_iff.1 h).1; omega
  · exact ⟨g, o, rfl, H.row_cell _ e0, by rw [Nat.add_assoc]; exact H.row_cell _ e1⟩
end Go.Proofs.Ytaifncebakbinaa

/- Layer 21: the guard that all statements share; the document's functions. -/
import Derived.Test.YtpeoajmlmkmffaaNeC
import Derived.Test.YtpeoajmlmkmffaaLift
namespace Go.Proofs.Ytpeoajmlmkmffaa
open Go.RowKit

theorem St.srcPt {w0 w : World} {b : Nat} {vs : Array Value} {T : TypeId} {L : List Assn} (H : St w0 w (Pt b vs T :: L)) (w' : World) (hb : Below w.heap.size w w') : Src w' (some ⟨b, 0, none⟩) vs.size vs.toList :=
  .inl ⟨_, rfl, fun j u hu => by
    have := (H.keep hb).cell j (v := u) (by simpa using hu)
    rwa [addr_add, Nat.zero_add]⟩
theorem St.srcRow {w0 w : World} {e : TypeId} {A : Option Addr} {n c : Nat} {xs : List Value} {L : List Assn} (H : St w0 w (Row e 1 A n c xs :: L)) (w' : World) (hb : Below w.heap.size w w') : Src w' A n xs := by
  have H' := H.keep hb
  rcases H'.row_cases with ⟨rfl, rfl, rfl, h⟩ | ⟨g, o, cur, fr, rfl, _⟩
  · exact .inr ⟨rfl, rfl⟩
  · exact .inl ⟨_, rfl, fun j u hu => by rw [addr_add]; exact H'.row_cell j hu⟩
/-- a late one's cells -/
theorem St.late {w0 w : World} {e : TypeId} {A : Option Addr} {c : Nat} {l : List (Int × ByteArray)} {F : List Assn} (H : St w0 w (Row e 2 A l.length c (lateV l) :: F)) {i : Nat} {p : Int × ByteArray} (h : l[i]? = some p) :
    ∃ g o, A = some ⟨g, o, none⟩ ∧ w.cell? ⟨g, o + i * 2, none⟩ = some (.int .i64 p.1) ∧ w.cell? ⟨g, o + i * 2 + 1, none⟩ = some (.string p.2) := by
  obtain ⟨e0, e1⟩ := lateV_get l i p h
  rcases H.row_cases with ⟨rfl, h0, _, _⟩ | ⟨g, o, cur, fr, rfl, _⟩
  · have := (List.getElem?_eq_some_iff.1 h).1; omega
  · exact ⟨g, o, rfl, H.row_cell _ e0, by rw [Nat.add_assoc]; exact H.row_cell _ e1⟩
theorem speaks_ok {w0 w : World} {F : List Assn} (H : St w0 w F) :
    Calls Try.prog 8 #[] w fun r w' => r = .returned (.bool true) ∧ St w0 w' F := by
  have H1 := H.alloc #[.int .i64 4, .int .i64 0] 3
  go_enter Try.func8, Try.ntmps8
  go_wp2_with (fail)
  refine (new_ok _ 2 2 [4, 0] rfl (by decide) (fun w' hb => H1.srcPt w' hb) H1).mono ?_
  rintro e w2 ⟨b, rfl, H2⟩
  go_wp2_with (fail)
  refine (carry_ok b ⟨[4, 0], [], []⟩ 1 ⟨#[97]⟩ (by decide) (by intro x hx; simp at hx; rcases hx with rfl | rfl <;> (unfold inI; omega)) H2).mono ?_
  rintro e w3 ⟨A, c, rfl, H3⟩
  have e1 : carL (fate [4, 0]).1 (fate [4, 0]).2 ⟨#[97]⟩ = [] := rfl
  have e2 : carOk (fate [4, 0]).1 = false := rfl
  have e3 : NS.carried ⟨[4, 0], [], []⟩ (1, ⟨#[97]⟩) = ⟨[0], [(1, ⟨#[97]⟩)], []⟩ := rfl
  dsimp only at H3 ⊢
  rw [e1, e3] at H3
  rw [e1, e2]
  clear e1 e2 e3
  go_wp2_with (fail)
  refine (late_ok b ⟨[0], [(1, ⟨#[97]⟩)], []⟩ H3.r2).mono ?_
  rintro e w4 ⟨A2, c2, rfl, H4⟩
  obtain ⟨g, o, hA, c0, c1⟩ := St.late (l := [(1, ⟨#[97]⟩)]) H4 (i := 0) rfl
  subst hA
  go_wp2_with (fail)
  go_ret
  exact ⟨rfl, H4.tail.tail.tail.tail⟩
theorem reffate_ok (x : Int) (h : inI x) (w : World) : Calls Try.prog 14 #[.int .i64 x] w fun r w' => r = .returned (.tuple #[.int .i64 (fate1 x % 8), .int .i64 (fate1 x / 8)]) ∧ w' = w := by
  obtain ⟨h1, h2⟩ := h
  by_cases hx : x < 0
  · obtain ⟨q1, q2⟩ := fate_neg x hx h1
    have Q1 := Lib.hid q1; have Q2 := Lib.hid q2; clear q1 q2
    go_enter Try.func14, Try.ntmps14
    go_wp2_with (fail)
    go_ret2
    exact ⟨ret2 Q1.out.symm Q2.out.symm, rfl⟩
  · obtain ⟨q1, q2⟩ := fate_pos x hx
    have Q1 := Lib.hid q1; have Q2 := Lib.hid q2; clear q1 q2
    go_enter Try.func14, Try.ntmps14
    go_wp2_with (fail)
    go_ret2
    exact ⟨ret2 Q1.out.symm Q2.out.symm, rfl⟩
end Go.Proofs.Ytpeoajmlmkmffaa

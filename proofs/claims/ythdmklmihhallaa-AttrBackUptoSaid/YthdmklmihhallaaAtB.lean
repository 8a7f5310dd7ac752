/- Layer 9: May, here and in the document. -/
import Derived.Test.YthdmklmihhallaaAtA
namespace Go.Proofs.Ythdmklmihhallaa
open Go.RowKit

abbrev attrC (mode uid gid : Int) : Array Value := #[.int .i64 0, .int .i64 mode, .int .i64 0, .int .i64 uid, .int .i64 gid, .int .i64 0, .int .i64 0, .int .i64 0, .int .i64 0, .int .i64 0, .int .i64 0, .int .i64 0, .int .i64 0, .int .i64 0, .int .i64 0, .int .i64 0, .int .i64 0]
abbrev attrV (mode uid gid : Int) : Value := .agg (attrC mode uid gid)
theorem attr_cells {mode own grp : Int} {b : Nat} {T : TypeId} {w0 w : World} {F : List Assn} (H : St w0 w (Pt b (attrC mode own grp) T :: F)) :
    w.cell? ⟨b, 0, none⟩ = some (.int .i64 0) ∧ w.cell? ⟨b, 1, none⟩ = some (.int .i64 mode) ∧ w.cell? ⟨b, 2, none⟩ = some (.int .i64 0) ∧ w.cell? ⟨b, 3, none⟩ = some (.int .i64 own) ∧ w.cell? ⟨b, 4, none⟩ = some (.int .i64 grp) ∧ w.cell? ⟨b, 5, none⟩ = some (.int .i64 0) ∧ w.cell? ⟨b, 6, none⟩ = some (.int .i64 0) ∧ w.cell? ⟨b, 7, none⟩ = some (.int .i64 0) ∧ w.cell? ⟨b, 8, none⟩ = some (.int .i64 0) ∧ w.cell? ⟨b, 9, none⟩ = some (.int .i64 0) ∧ w.cell? ⟨b, 10, none⟩ = some (.int .i64 0) ∧ w.cell? ⟨b, 11, none⟩ = some (.int .i64 0) ∧ w.cell? ⟨b, 12, none⟩ = some (.int .i64 0) ∧ w.cell? ⟨b, 13, none⟩ = some (.int .i64 0) ∧ w.cell? ⟨b, 14, none⟩ = some (.int .i64 0) ∧ w.cell? ⟨b, 15, none⟩ = some (.int .i64 0) ∧ w.cell? ⟨b, 16, none⟩ = some (.int .i64 0) :=
  ⟨H.cell 0 rfl, H.cell 1 rfl, H.cell 2 rfl, H.cell 3 rfl, H.cell 4 rfl, H.cell 5 rfl, H.cell 6 rfl, H.cell 7 rfl, H.cell 8 rfl, H.cell 9 rfl, H.cell 10 rfl, H.cell 11 rfl, H.cell 12 rfl, H.cell 13 rfl, H.cell 14 rfl, H.cell 15 rfl, H.cell 16 rfl⟩
def grant (m : Int) (bits_ : Int) : Bool := bits .and .i64 m (bits_ % 8) == bits_ % 8
def may (mode own grp uid gid : Int) (l : List Int) (bits_ : Int) : Bool :=
  if uid == 0 then true else if uid == own then grant (mode / 64) bits_ else if gid == grp || l.contains grp then grant (mode / 8) bits_ else grant mode bits_
theorem and7 (x : Int) : bits .and .i64 x 7 = x % 8 := i64_and_mask x 3 (by decide)
theorem may_ok (mode own grp uid gid : Int) (A : Option Addr) (c : Nat) (l : List Int) (bits_ : Int) {w0 w : World} {F : List Assn}
    (hr : ∀ o, Rd (w.alloc o) A l) (hl : l.length ≤ 281474976710656) (H : St w0 w F) :
    Calls Try.prog 9 #[attrV mode own grp, .int .i64 uid, .int .i64 gid, .slice A l.length c, .int .i64 bits_] w fun r w' => r = .returned (.bool (may mode own grp uid gid l bits_)) ∧ St w0 w' F := by
  have H1 := H.alloc (attrC mode own grp) 29
  have c1 := H1.cell 1 rfl
  have c3 := H1.cell 3 rfl
  have c4 := H1.cell 4 rfl
  have HR := Lib.hid (hr (.cells (attrC mode own grp) 29)); clear hr
  have a7 := and7 bits_
  obtain ⟨res, e⟩ : ∃ r, may mode own grp uid gid l bits_ = r := ⟨_, rfl⟩
  rw [e]
  unfold may at e
  cases h0 : (uid == 0) <;> rw [h0] at e
  · cases h1 : (uid == own) <;> rw [h1] at e
    · cases h2 : (gid == grp) <;> rw [h2] at e
      · cases h3 : l.contains grp <;> rw [h3] at e
        · have E := Lib.hid e; clear e; have HC := Lib.hid h3; clear h3
          go_enter Try.func9, Try.ntmps9
          go_wp2_with (first | (go_at_call 19; refine (contains_ok _ _ _ _ _ HR.out hl).mono ?_; rw [HC.out]; rintro x w1 ⟨rfl, rfl⟩))
          go_ret
          rw [← E.out]; exact ⟨rfl, H1.tail⟩
        · have E := Lib.hid e; clear e; have HC := Lib.hid h3; clear h3
          go_enter Try.func9, Try.ntmps9
          go_wp2_with (first | (go_at_call 19; refine (contains_ok _ _ _ _ _ HR.out hl).mono ?_; rw [HC.out]; rintro x w1 ⟨rfl, rfl⟩))
          go_ret
          rw [← E.out]; exact ⟨rfl, H1.tail⟩
      · have E := Lib.hid e; clear e
        go_enter Try.func9, Try.ntmps9
        go_wp2_with (first | (go_at_call 19; refine (contains_ok _ _ _ _ _ HR.out hl).mono ?_; rw [HC.out]; rintro x w1 ⟨rfl, rfl⟩))
        go_ret
        rw [← E.out]; exact ⟨rfl, H1.tail⟩
    · have E := Lib.hid e; clear e
      go_enter Try.func9, Try.ntmps9
      go_wp2_with (first | (go_at_call 19; refine (contains_ok _ _ _ _ _ HR.out hl).mono ?_; rw [HC.out]; rintro x w1 ⟨rfl, rfl⟩))
      go_ret
      rw [← E.out]; exact ⟨rfl, H1.tail⟩
  · have E := Lib.hid e; clear e
    go_enter Try.func9, Try.ntmps9
    go_wp2_with (first | (go_at_call 19; refine (contains_ok _ _ _ _ _ HR.out hl).mono ?_; rw [HC.out]; rintro x w1 ⟨rfl, rfl⟩))
    go_ret
    rw [← E.out]; exact ⟨rfl, H1.tail⟩
end Go.Proofs.Ythdmklmihhallaa

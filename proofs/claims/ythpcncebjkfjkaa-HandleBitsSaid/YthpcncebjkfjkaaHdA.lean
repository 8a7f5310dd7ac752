/- Layer 14: what its functions do, and the document's. -/
import Derived.Test.YthpcncebjkfjkaaHdB
import Derived.Test.YthpcncebjkfjkaaXdrG
import Derived.Test.YthpcncebjkfjkaaXdrF
import Derived.Test.YthpcncebjkfjkaaXdrW
import Derived.Test.YthpcncebjkfjkaaXdrS
import Derived.Outline
namespace Go.Proofs.Ythpcncebjkfjkaa
open Go.RowKit

def markB : ByteArray := ⟨#[99, 111, 114, 97]⟩
theorem fixed_mark : fixed (bl ⟨#[99, 111, 114, 97]⟩) = mark := by decide +kernel
theorem hput_ok (f id gen : Int) {w0 w : World} {F : List Assn} (H : St w0 w F) :
    Calls Try.prog 12 #[.int .i64 f, .int .i64 id, .int .i64 gen] w fun r w' => r = .returned (.string (mkb (hb f id gen))) ∧ St w0 w' F := by
  have H0 := (H.alloc #[.slice none 0 0] 48).newWr
  go_enter Try.func12, Try.ntmps12
  go_wp2_with (fail)
  refine (wfixed_ok _ _ mk_one _ [] ⟨#[99, 111, 114, 97]⟩ (by decide) (by decide) H0).mono ?_
  rw [fixed_mark, List.nil_append]
  rintro e w1 ⟨rfl, H1⟩
  go_wp2_with (fail)
  refine (whyper_ok _ _ mk_one _ _ f (by decide) H1).mono ?_
  rintro e w2 ⟨rfl, H2⟩
  go_wp2_with (fail)
  refine (whyper_ok _ _ mk_one _ _ id (by rw [List.length_append, be_length]; decide) H2).mono ?_
  rintro e w3 ⟨rfl, H3⟩
  go_wp2_with (fail)
  refine (whyper_ok _ _ mk_one _ _ gen (by rw [List.length_append, List.length_append, be_length, be_length]; decide) H3).mono ?_
  rintro e w4 ⟨rfl, H4⟩
  go_wp2_with (fail)
  refine (bytes_ok _ _ mk_one _ _ H4).mono ?_
  rintro e w5 ⟨rfl, rfl⟩
  go_wp2_with (fail)
  go_ret
  exact ⟨rfl, H4.tail⟩
theorem verifier_ok (f : Int) {w0 w : World} {F : List Assn} (H : St w0 w F) :
    Calls Try.prog 14 #[.int .i64 f] w fun r w' => r = .returned (.string (mkb (be f 8))) ∧ St w0 w' F := by
  have H0 := (H.alloc #[.slice none 0 0] 48).newWr
  go_enter Try.func14, Try.ntmps14
  go_wp2_with (fail)
  refine (whyper_ok _ _ mk_one _ [] f (by decide) H0).mono ?_
  rw [List.nil_append]
  rintro e w2 ⟨rfl, H2⟩
  go_wp2_with (fail)
  refine (bytes_ok _ _ mk_one _ _ H2).mono ?_
  rintro e w5 ⟨rfl, rfl⟩
  go_wp2_with (fail)
  go_ret
  exact ⟨rfl, H2.tail⟩
theorem refhput_ok (f id gen : Int) {w0 w : World} {F : List Assn} (H : St w0 w F) :
    Calls Try.prog 13 #[.int .i64 f, .int .i64 id, .int .i64 gen] w fun r w' => r = .returned (.string (mkb (hb f id gen))) ∧ St w0 w' F := by
  have z : ∀ x, (mkb (be x 8)).size ≤ 8 := fun x => by rw [mkb_size, be_length]; exact Nat.le_refl _
  have z1 := z f; have z2 := z id; have z3 := z gen
  have e : mkb (hb f id gen) = ⟨#[99, 111, 114, 97]⟩ ++ mkb (be f 8) ++ mkb (be id 8) ++ mkb (be gen 8) := by
    rw [hb, ← mkb_append, ← mkb_append, ← mkb_append]; rfl
  rw [e]
  have z4 : (⟨#[99, 111, 114, 97]⟩ ++ mkb (be f 8) : ByteArray).size ≤ 12 := by rw [ByteArray.size_append]; exact Nat.add_le_add_left z1 4
  have z5 : (⟨#[99, 111, 114, 97]⟩ ++ mkb (be f 8) ++ mkb (be id 8) : ByteArray).size ≤ 20 := by rw [ByteArray.size_append]; omega
  clear z e
  go_enter Try.func13, Try.ntmps13
  go_wp2_with (fail)
  refine (refhyper_ok f H).mono ?_
  rintro e w1 ⟨rfl, H1⟩
  go_wp2_with (fail)
  refine (refhyper_ok id H1).mono ?_
  rintro e w2 ⟨rfl, H2⟩
  go_wp2_with (fail)
  refine (refhyper_ok gen H2).mono ?_
  rintro e w3 ⟨rfl, H3⟩
  go_wp2_with (fail)
  go_ret
  exact ⟨rfl, H3⟩
end Go.Proofs.Ythpcncebjkfjkaa

/- Layer 6: what cleaning brings, and the guard that all statements share. -/
import Derived.Test.YtdofeehnclobmaaScF
namespace Go.Proofs.Ytdofeehnclobmaa
open Go.RowKit

theorem ben_ok (l s a : Int) {w0 w : World} {F : List Assn} (H : St w0 w F) :
    Calls Try.prog 13 #[.agg #[.int .i64 l, .int .i64 s, .int .i64 a]] w fun r w' => ∃ x, Ben l s a x ∧ r = .returned (.float .f64 x) ∧ St w0 w' F := by
  have H1 := H.alloc #[.int .i64 l, .int .i64 s, .int .i64 a] 28
  go_enter Try.func13, Try.ntmps13
  have c0 := H1.cell 0 rfl
  have c1 := H1.cell 1 rfl
  have c2 := H1.cell 2 rfl
  go_wp2_with (first | (go_at_call 12; refine (ratio_ok _ _ _).mono ?_; rintro x w2 ⟨u, hu, rfl, n, rfl⟩))
  go_ret
  exact ⟨_, ⟨_, _, _, _, hu, fbits_FR _ _ _ _, fbits_FR _ _ _ _, fbits_FR _ _ _ _, fbits_FR _ _ _ _⟩, rfl, (H1.drewN _).tail⟩
theorem ben_five {r : Nat} (h : Ben 0 10 5 r) : r = 4617315517961601024 := by
  obtain ⟨u, a, b, c, h1, h2, h3, h4, h5⟩ := h
  have := h1.fix (s := 0) (by decide +kernel); subst this
  have := h2.fix (s := f1) (by decide +kernel); subst this
  have := h3.fix (s := 4617315517961601024) (by decide +kernel); subst this
  have := h4.fix (s := f1) (by decide +kernel); subst this
  exact h5.fix (by decide +kernel)
theorem speaks_ok {w0 w : World} {F : List Assn} (H : St w0 w F) :
    Calls Try.prog 10 #[] w fun r w' => r = .returned (.bool true) ∧ St w0 w' F := by
  have e : (FloatKind.f64.format.order 4617315517961601024 4617315517961601024 == some .eq) = true := by decide +kernel
  go_enter Try.func10, Try.ntmps10
  go_wp2_with (first | (go_at_call 13; refine (ben_ok _ _ _ H).mono ?_; rintro x w2 ⟨u, hu, rfl, H1⟩; have hu5 := ben_five hu; subst hu5; clear hu))
  go_ret
  exact ⟨rfl, H1⟩
end Go.Proofs.Ytdofeehnclobmaa

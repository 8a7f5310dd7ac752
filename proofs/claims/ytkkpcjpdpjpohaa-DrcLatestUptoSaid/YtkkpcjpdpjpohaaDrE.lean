/- Layer 16: what is the best of a cache; the guard that all of the layer's statements share. -/
import Derived.Test.YtkkpcjpdpjpohaaDrD
namespace Go.Proofs.Ytkkpcjpdpjpohaa
open Go.RowKit

theorem better_zero (c x : Int) (k : ByteArray) (b : An) (h : 0 ≤ b.age) : better c x k b An.zero = b := by
  unfold better
  rw [if_neg]
  intro hh
  have := hh.1
  simp only [An.zero] at this
  omega
theorem fold_zeros (c x : Int) (k : ByteArray) (b : An) (h : 0 ≤ b.age) : ∀ m, (List.replicate m An.zero).foldl (better c x k) b = b
  | 0 => rfl
  | m + 1 => by rw [List.replicate_succ, List.foldl_cons, better_zero c x k b h, fold_zeros c x k b h m]
theorem new_len (size : Int) (h : 1 ≤ size ∧ size ≤ 256) : (DS.new size).ps.length = size.toNat := by
  unfold DS.new
  rw [List.length_replicate, show min (max size 1) 256 = size by omega]
theorem new_len2 (size : Int) : 1 ≤ (DS.new size).ps.length ∧ (DS.new size).ps.length ≤ 256 := by
  unfold DS.new
  rw [List.length_replicate]
  omega
/-- one answer in a new cache -/
theorem best_one (size a b : Int) (c : ByteArray) (r : ByteArray) (a' b' : Int) (c' : ByteArray) : ((DS.new size).put a b c r).best a' b' c' = if a = a' ∧ b = b' ∧ c = c' then ⟨1, a, b, c, r⟩ else An.zero := by
  have hl := new_len2 size
  unfold DS.best DS.put
  have h0 : (DS.new size).age = 0 := rfl
  rw [h0]
  dsimp only
  obtain ⟨n, hn⟩ : ∃ n, (DS.new size).ps = List.replicate (n + 1) An.zero := by
    unfold DS.new at hl ⊢
    rw [List.length_replicate] at hl
    exact ⟨(min (max size 1) 256).toNat - 1, by dsimp only; congr 1; omega⟩
  rw [hn, List.length_replicate, show (0 : Int).toNat % (n + 1) = 0 from Nat.zero_mod _, List.replicate_succ, List.set_cons_zero, List.foldl_cons]
  by_cases h : a = a' ∧ b = b' ∧ c = c'
  · rw [if_pos h, show better a' b' c' An.zero ⟨0 + 1, a, b, c, r⟩ = ⟨1, a, b, c, r⟩ by unfold better; rw [if_pos ⟨by simp [An.zero], h.1, h.2.1, h.2.2⟩]; rfl]
    exact fold_zeros _ _ _ _ (show (0 : Int) ≤ 1 by decide) _
  · rw [if_neg h, show better a' b' c' An.zero ⟨0 + 1, a, b, c, r⟩ = An.zero by unfold better; rw [if_neg (fun hh => h hh.2)]]
    exact fold_zeros _ _ _ _ (by decide) _
theorem DcS.drop {w0 w : World} {F : List Assn} {b : Nat} {d : DS} (H : DcS w0 w F b d) : St w0 w F := by
  obtain ⟨A, H⟩ := H
  exact H.tail.tail
set_option maxRecDepth 100000 in
set_option maxHeartbeats 4000000 in
theorem speaks16_ok {w0 w : World} {F : List Assn} (H0 : St w0 w F) :
    Calls Try.prog 7 #[] w fun r w' => r = .returned (.bool true) ∧ St w0 w' F := by
  go_enter Try.func7, Try.ntmps7
  go_wp2_with (fail)
  refine (dnew_ok 2 H0).mono ?_
  rintro x w1 ⟨b, rfl, H1⟩
  clear H0
  have hp := dput_ok b (DS.new 2) 1 5 ⟨#[97]⟩ ⟨#[120]⟩ ⟨by decide, by decide⟩ ⟨by decide, by decide⟩ ⟨by decide, by decide⟩ (new_len2 2) H1
  have HP := Lib.hid hp; clear hp H1
  go_wp2_with (fail)
  refine HP.out.mono ?_
  intro x w2 hx
  unfold DPutE at hx
  rw [if_pos ⟨by decide, by decide⟩] at hx
  obtain ⟨rfl, H2⟩ := hx
  clear HP
  obtain ⟨key, hkey⟩ : ∃ k, k = keyB ((DS.new 2).age.toNat % (DS.new 2).ps.length) := ⟨_, rfl⟩
  obtain ⟨val, hval⟩ : ∃ v, v = valB ((DS.new 2).age + 1) 1 5 ⟨#[97]⟩ ⟨#[120]⟩ := ⟨_, rfl⟩
  rw [← hkey, ← hval]
  clear hkey hval
  obtain ⟨A, H2⟩ := H2
  have H3 := H2.alloc #[.string key, .string val, .bool false] 28
  go_upto_region 3 with (fail)
  generalize w2.alloc (.cells #[.string key, .string val, .bool false] 28) = w3 at *
  have H4 : DcS w0 w3 F b ((DS.new 2).put 1 5 ⟨#[97]⟩ ⟨#[120]⟩) := ⟨A, H3.tail⟩
  have hl := dlook_ok b ((DS.new 2).put 1 5 ⟨#[97]⟩ ⟨#[120]⟩) 1 5 ⟨#[97]⟩ (by rw [DS.put_length]; exact (new_len2 2).2) H4
  rw [best_one, if_pos ⟨rfl, rfl, rfl⟩] at hl
  have HL := Lib.hid hl; clear hl H4 H3 H2
  go_wp2_with (fail)
  refine HL.out.mono ?_
  rintro x w4 ⟨rfl, H5⟩
  have hss : ((⟨#[120]⟩ : ByteArray).toList == (⟨#[120]⟩ : ByteArray).toList) = true := by simp
  clear HL
  go_wp2_with (fail)
  go_ret
  exact ⟨rfl, H5.drop⟩
end Go.Proofs.Ytkkpcjpdpjpohaa

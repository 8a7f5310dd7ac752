/- Layer 9: who may do what. -/
import Derived.Test.YthdmklmihhallaaSL
import Derived.Test.YthdmklmihhallaaBits
import Derived.Test.YthdmklmihhallaaProg
namespace Go.Proofs.Ythdmklmihhallaa
open Go.RowKit

theorem infoInt : (Try.prog.info? 3).map (fun i => (i.zero, i.size, i.bytes)) = some (some (.int .i64 0), 1, 8) := by kernel_rfl
/-- a slice that reads as these numbers -/
def Rd (w : World) (A : Option Addr) (l : List Int) : Prop := ∀ i x, l[i]? = some x → ∃ b o, A = some ⟨b, o, none⟩ ∧ w.cell? ⟨b, o + i, none⟩ = some (.int .i64 x)
theorem Rd.nil (w : World) : Rd w none [] := fun i x h => by simp at h
theorem Rd.of {w : World} {A : Option Addr} {l : List Int} (h : ∀ j u, (l.map fun x => Value.int .i64 x)[j]? = some u → ∃ b o, A = some ⟨b, o, none⟩ ∧ w.cell? ⟨b, o + j, none⟩ = some u) : Rd w A l := fun i x hx =>
  h i _ (by rw [List.getElem?_map, hx]; rfl)
theorem Rd.row {w0 w : World} {e : TypeId} {A : Option Addr} {n c : Nat} {l : List Int} {F : List Assn} (H : St w0 w (Row e 1 A n c (l.map fun x => Value.int .i64 x) :: F)) : Rd w A l := fun i x hx => by
  rcases H.row_cases with ⟨rfl, rfl, rfl, h⟩ | ⟨g, o, cur, fr, rfl, H1, hf, hnc, hcm, hfit, hxs⟩
  · have : l = [] := by simpa using h
    subst this; simp at hx
  · exact ⟨g, o, rfl, H.row_cell i (by rw [List.getElem?_map, hx]; rfl)⟩
def idx (l : List Int) (x : Int) : Int := match l.findIdx? (· == x) with
  | some i => i
  | none => -1
theorem index_ok (A : Option Addr) (c : Nat) (l : List Int) (x : Int) (w : World) (hr : Rd w A l) (hl : l.length ≤ 281474976710656) :
    Calls Try.prog 26 #[.slice A l.length c, .int .i64 x] w fun r w' => r = .returned (.int .i64 (idx l x)) ∧ w' = w := by
  have HR := Lib.hid hr; clear hr
  obtain ⟨n, hn⟩ : ∃ n, n = l.length := ⟨_, rfl⟩
  rw [← hn] at hl ⊢
  have HN := Lib.hid hn; clear hn
  go_enter Try.func26, Try.ntmps26
  go_wp2_with (fail)
  go_loop [5, 8] (fun u i => ∃ k : Nat, k ≤ n ∧ i = .int .i64 k ∧ ∀ j, j < k → ∀ y, l[j]? = some y → y ≠ x) (fun _ i => n - (intOf i).toNat)
  case atStart => exact ⟨0, Nat.zero_le _, rfl, fun j h => by omega⟩
  case round =>
    obtain ⟨k, hk, rfl, hq⟩ := hrel
    by_cases hlt : k < n
    · obtain ⟨y, hy⟩ : ∃ y, l[k]? = some y := ⟨_, List.getElem?_eq_getElem (by rw [← HN.out]; exact hlt)⟩
      obtain ⟨b, o, hA, hc⟩ := HR.out k y hy
      subst hA
      by_cases hxy : x = y
      · subst hxy
        have e : idx l x = k := by
          unfold idx
          have : l.findIdx? (· == x) = some k := by
            rw [List.findIdx?_eq_some_iff_getElem]
            have hkl : k < l.length := by rw [← HN.out]; exact hlt
            refine ⟨hkl, ?_, fun j hj => ?_⟩
            · have := List.getElem?_eq_getElem hkl; rw [hy] at this; injection this with this; rw [← this]; simp
            · have := hq j hj _ (List.getElem?_eq_getElem (by omega)); simpa using this
          rw [this]
        have E := Lib.hid e; have HQ := Lib.hid hq; have HY := Lib.hid hy; clear e hq hy
        go_wp2_with (fail)
        go_ret
        rw [E.out]; exact ⟨rfl, rfl⟩
      · have hb : (x == y) = false := by simp [hxy]
        have HQ := Lib.hid hq; have HY := Lib.hid hy; have HX := Lib.hid hxy; clear hq hy hxy
        go_wp2_with (fail)
        go_round
        case rel =>
          refine ⟨k + 1, by omega, by go_num, fun j hj z hz => ?_⟩
          by_cases hjk : j = k
          · subst hjk; rw [HY.out] at hz; injection hz with hz; rw [← hz]; exact fun h => HX.out h.symm
          · exact HQ.out j (by omega) z hz
        case measure => simp [intOf]; omega
    · have e : idx l x = -1 := by
        unfold idx
        have : l.findIdx? (· == x) = none := by
          rw [List.findIdx?_eq_none_iff]
          intro z hz
          obtain ⟨j, hj, rfl⟩ := List.mem_iff_getElem.1 hz
          have hnl := HN.out
          have := hq j (by omega) _ (List.getElem?_eq_getElem hj)
          simpa using this
        rw [this]
      have E := Lib.hid e; have HQ := Lib.hid hq; clear e hq
      go_wp2_with (fail)
      go_ret
      rw [E.out]; exact ⟨rfl, rfl⟩
theorem idx_contains (l : List Int) (x : Int) : decide (0 ≤ idx l x) = l.contains x := by
  unfold idx
  cases h : l.findIdx? (· == x) with
  | none =>
    rw [List.findIdx?_eq_none_iff] at h
    symm; rw [decide_eq_false (by decide), Bool.eq_false_iff]
    intro hc
    have := h x (by simpa using hc)
    simp at this
  | some i =>
    rw [List.findIdx?_eq_some_iff_getElem] at h
    obtain ⟨hi, h1, _⟩ := h
    rw [decide_eq_true (by simp)]
    symm; simp only [List.contains_iff_mem]
    have : l[i] = x := by simpa using h1
    rw [← this]; exact List.getElem_mem _
theorem contains_ok (A : Option Addr) (c : Nat) (l : List Int) (x : Int) (w : World) (hr : Rd w A l) (hl : l.length ≤ 281474976710656) :
    Calls Try.prog 19 #[.slice A l.length c, .int .i64 x] w fun r w' => r = .returned (.bool (l.contains x)) ∧ w' = w := by
  have HR := Lib.hid hr; clear hr
  rw [← idx_contains]
  go_enter Try.func19, Try.ntmps19
  go_wp2_with (first | (go_at_call 26; refine (index_ok _ _ _ _ _ HR.out hl).mono ?_; rintro x w1 ⟨rfl, rfl⟩))
  go_ret
  exact ⟨rfl, rfl⟩
end Go.Proofs.Ythdmklmihhallaa

/- NetLate: what is held back comes just once, in its order, with the one that sent it; no more than 64 are held: of texts of bulk at most 1048576. -/
import Derived.Test.YtpeoajmlmkmffaaNeD
namespace Go.Proofs.Ytpeoajmlmkmffaa.NetLate
open Go.RowKit Go.ChangeShapes Go.WideShapes Go.ChangeAt Go.Proofs.Ytpeoajmlmkmffaa
open Go.ChangeMaps (open_string shut_string)

theorem str_le {l : List ByteArray} {x : ByteArray} (hx : x ∈ l) (h : sumW (l.map fun x => [Value.string x]) ≤ 1048576) : x.size ≤ 1048576 := by
  have h1 : wts [Value.string x] ≤ sumW (l.map fun x => [Value.string x]) := sumW_mem (List.mem_map.2 ⟨x, hx, rfl⟩)
  simp only [wts, wt] at h1
  omega
/-- the choices -/
def cl (m : Nat) : List Int := (List.range m).map fun i : Nat => 4 + (i : Int) % 2
theorem cl_snoc (k : Nat) : cl (k + 1) = cl k ++ [4 + (k : Int) % 2] := by unfold cl; rw [List.range_succ, List.map_append]; rfl
theorem cl_length (m : Nat) : (cl m).length = m := by unfold cl; simp
theorem cl_drop (m k : Nat) (h : k < m) : (cl m).drop k = (4 + (k : Int) % 2) :: (cl m).drop (k + 1) := by
  rw [List.drop_eq_getElem_cons (by rw [cl_length]; exact h)]
  congr 1
  simp [cl]
theorem cl_ok (m : Nat) : ∀ x ∈ cl m, inI x := fun x hx => by
  obtain ⟨i, _, rfl⟩ := List.mem_map.1 hx
  unfold inI; omega
/-- what is under way behind k of them -/
def lt (l : List ByteArray) : Nat → List (Int × ByteArray)
  | 0 => []
  | k + 1 => if k < 64 then lt l k ++ [((k : Int), l.getD k ByteArray.empty)] else lt l k
theorem lt_length (l : List ByteArray) : ∀ k, (lt l k).length = min k 64
  | 0 => rfl
  | k + 1 => by
    have := lt_length l k
    rw [lt]
    split
    · rw [List.length_append, this]; simp; omega
    · omega
theorem lt_get (l : List ByteArray) : ∀ k j, j < min k 64 → (lt l k)[j]? = some ((j : Int), l.getD j ByteArray.empty)
  | 0, j, h => by omega
  | k + 1, j, h => by
    have hl := lt_length l k
    rw [lt]
    split
    · by_cases hj : j < min k 64
      · rw [List.getElem?_append_left (by omega)]; exact lt_get l k j hj
      · obtain rfl : j = k := by omega
        rw [List.getElem?_append_right (by omega), show j - (lt l j).length = 0 by omega]; rfl
    · exact lt_get l k j (by omega)
theorem carried_lt (l : List ByteArray) (m k : Nat) (h : k < m) (x : ByteArray) (hx : l[k]? = some x) : NS.carried ⟨(cl m).drop k, lt l k, []⟩ ((k : Int), x) = ⟨(cl m).drop (k + 1), lt l (k + 1), []⟩ := by
  unfold NS.carried
  dsimp only
  rw [cl_drop m k h]
  have e : (fate ((4 + (k : Int) % 2) :: (cl m).drop (k + 1))).1 = 4 + (k : Int) % 2 := by
    show fate1 _ % 8 = _
    unfold fate1
    rw [if_neg (by omega)]; omega
  rw [e, if_pos (by omega)]
  unfold NS.held
  dsimp only
  have hl := lt_length l k
  have hg : l.getD k ByteArray.empty = x := by rw [List.getD_eq_getElem?_getD, hx]; rfl
  rw [lt, hg, List.tail_cons]
  by_cases hk : k < 64
  · rw [if_pos (by omega), if_pos hk]
  · rw [if_neg (by omega), if_neg hk]
theorem fate_cl (m k : Nat) (h : k < m) : fate ((cl m).drop k) = (4 + (k : Int) % 2, 0) := by
  rw [cl_drop m k h]
  show (fate1 _ % 8, fate1 _ / 8) = _
  have e : fate1 (4 + (k : Int) % 2) = 4 + (k : Int) % 2 := by unfold fate1; rw [if_neg (by omega)]
  rw [e, show (4 + (k : Int) % 2) % 8 = 4 + (k : Int) % 2 by omega, show (4 + (k : Int) % 2) / 8 = 0 by omega]
set_option maxRecDepth 100000 in
set_option maxHeartbeats 4000000 in
theorem walk (w : World) (A : Option Addr) (n c : Nat) (l : List ByteArray) (hrd : SlRd w A n 1 (l.map fun x => [.string x])) (hn : n ≤ 1048576) (hsum : sumW (l.map fun x => [.string x]) ≤ 1048576) (_hok : ∀ x ∈ l, x.size ≤ maxLen) :
    Calls Try.prog 3 #[.slice A n c] w fun r w' => r = .returned (.bool true) ∧ Below w.heap.size w w' := by
  have H0 := St.init w
  have hln : n = l.length := by have := hrd.1; simpa using this.symm
  have HLN := Lib.hid hln; clear hln
  have HRD := Lib.hid hrd; have HSM := Lib.hid hsum; clear hrd hsum
  obtain ⟨i0, hi, hz0, hz1, hz2⟩ := info_parts infoInt
  obtain ⟨m, hm⟩ : ∃ m, m = min n 100 := ⟨_, rfl⟩
  have hm1 : m ≤ n := by omega
  have hm2 : m ≤ 100 := by omega
  have HM := Lib.hid hm; clear hm
  go_enter Try.func3, Try.ntmps3
  go_wp2_with (first | (go_at_call 8; refine (speaks_ok H0).mono ?_; rintro x w1 ⟨rfl, H1⟩))
  go_loopw [3, 4] (fun s i wr => ∃ k : Nat, k ≤ m ∧ i = .int .i64 k ∧ ∃ A' c', s = .slice A' k c' ∧ St w wr [Row 3 1 A' k c' (ivs (cl k))]) (fun _ i _ => m - (intOf i).toNat)
  case atStart => exact ⟨0, Nat.zero_le _, rfl, none, 0, rfl, H1.nilRow _ _⟩
  case round =>
    obtain ⟨k, hk, rfl, A', c', rfl, H2⟩ := hrel
    by_cases hlt : k < m
    · have hd1 : decide ((k : Int) < n) = true := decide_eq_true (by omega)
      have hd2 : decide ((k : Int) < 100) = true := decide_eq_true (by omega)
      have ht : ivs (cl (k + 1)) = ivs (cl k) ++ [iv (4 + (k : Int) % 2)] := by rw [cl_snoc]; simp [ivs]
      have HT := Lib.hid ht; clear ht
      go_wp2_with (at_builtin; refine wpList_append_st (by rfl) _ _ _ (by rfl) 3 i0 (.int .i64 0) 1 8 Try.underlying24 hi hz0 hz1 hz2 rfl (by decide) A' k c' (ivs (cl k)) (H2.more _) (by rfl) ⟨wr.heap.size, 0, none⟩ 1 1 [iv (4 + (k : Int) % 2)] (by rfl) rfl (World.news_of_block (heap_alloc_new _ _)) (fun u hu => by simp [iv] at hu; subst hu; rfl) (by unfold maxLen; omega) (by omega) ?_; intro A4 c4 w4 H4)
      go_roundw
      case rel => exact ⟨k + 1, by omega, by go_num, A4, c4, rfl, by rw [HT.out]; exact H4⟩
      case measure => simp [intOf]; omega
    · obtain rfl : m = k := by omega
      have HMM := Lib.hid (show m = n ∨ m = 100 by have := HM.out; omega)
      have hs := fun w' hb => H2.srcRow w' hb
      have hg : (m : Int) < n ∨ ¬ (m : Int) < n := by omega
      rcases hg with hg | hg
      · have hd1 : decide ((m : Int) < n) = true := decide_eq_true hg
        have hd2 : decide ((m : Int) < 100) = false := decide_eq_false (by have := HMM.out; omega)
        have HS := Lib.hid hs; clear hs hlt
        go_wp2_with (fail)
        refine (new_ok A' m c' (cl m) (cl_length m) (by omega) HS.out H2).mono ?_
        rintro e w3 ⟨b, rfl, H3⟩
        have H4 := H3.r2.tail
        clear H2 H3
        go_wp2_with (fail)
        go_loopw [6] (fun i wr => ∃ k : Nat, k ≤ m ∧ i = .int .i64 k ∧ St w wr [Net b ⟨(cl m).drop k, lt l k, []⟩]) (fun i _ => m - (intOf i).toNat)
        case atStart => exact ⟨0, Nat.zero_le _, rfl, H4⟩
        case round =>
          obtain ⟨k, hk, rfl, H5⟩ := hrel
          by_cases hlt : k < m
          · obtain ⟨x, hx⟩ : ∃ x, l[k]? = some x := ⟨_, List.getElem?_eq_getElem (by rw [← HLN.out]; omega)⟩
            obtain ⟨hl', hc⟩ := SlRd.src HRD.out H5.below
            obtain ⟨bx, o, hA, c0⟩ := hc k (.string x) (by rw [List.getElem?_map, hx]; rfl)
            subst hA
            have hxs := str_le (List.mem_of_getElem? hx) HSM.out
            have hkn : (k : Int) < n := by omega
            have hcar := carried_lt l m k hlt x hx
            have hfa := fate_cl m k hlt
            have hoks : ∀ y ∈ (cl m).drop k, inI y := fun y hy => cl_ok m y (List.mem_of_mem_drop hy)
            have HCA := Lib.hid hcar; have HFA := Lib.hid hfa; have HOK := Lib.hid hoks; clear hc hl' hx hcar hfa hoks
            go_wp2_with (fail)
            refine (carry_ok b ⟨(cl m).drop k, lt l k, []⟩ _ x (by omega) HOK.out H5).mono ?_
            dsimp only
            rw [HFA.out, HCA.out]
            have hk2 : (k : Int) % 2 = 0 ∨ (k : Int) % 2 = 1 := by omega
            rcases hk2 with hk2 | hk2
            · rw [hk2, show carL (4 + 0, (0 : Int)).1 (4 + 0, (0 : Int)).2 x = [] from rfl, show carOk (4 + 0, (0 : Int)).1 = false from rfl]
              rintro e w5 ⟨A5, c5, rfl, H6⟩
              go_wp2_with (fail)
              go_roundw
              case rel => exact ⟨k + 1, by omega, by go_num, H6.tail⟩
              case measure => simp [intOf]; omega
            · rw [hk2, show carL (4 + 1, (0 : Int)).1 (4 + 1, (0 : Int)).2 x = [x] from rfl, show carOk (4 + 1, (0 : Int)).1 = true from rfl]
              rintro e w5 ⟨A5, c5, rfl, H6⟩
              go_wp2_with (fail)
              go_roundw
              case rel => exact ⟨k + 1, by omega, by go_num, H6.tail⟩
              case measure => simp [intOf]; omega
          · obtain rfl : m = k := by omega
            go_wp2_with (fail)
            refine (late_ok b ⟨(cl m).drop m, lt l m, []⟩ H5).mono ?_
            dsimp only
            rintro e w5 ⟨A5, c5, rfl, H6⟩
            have hq := lt_length l m
            obtain ⟨q, hqq⟩ : ∃ q, q = (lt l m).length := ⟨_, rfl⟩
            rw [← hqq] at hq ⊢
            have HQ := Lib.hid hqq; have HQ2 := Lib.hid hq; clear hqq hq hlt
            have hq1 : q ≤ m := by have := HQ2.out; omega
            have hq2 : q ≤ 64 := by have := HQ2.out; omega
            by_cases hm64 : m ≤ 64
            · obtain rfl : m = q := by have := HQ2.out; omega
              go_wp2_with (fail)
              refine (late_ok b ⟨(cl _).drop _, [], []⟩ H6.r2).mono ?_
              dsimp only
              rintro e w6 ⟨A6, c6, rfl, H7⟩
              have H8 := H7.tail.tail
              clear H6 H7 H5
              go_wp2_with (fail)
              go_loopw [10] (fun i wr => ∃ k : Nat, k ≤ m ∧ i = .int .i64 k ∧ St w wr [Row 32 2 A5 (lt l m).length c5 (lateV (lt l m))]) (fun i _ => m - (intOf i).toNat)
              case atStart => exact ⟨0, Nat.zero_le _, rfl, H8⟩
              case round =>
                obtain ⟨k, hk, rfl, H9⟩ := hrel
                by_cases hlt : k < m
                · obtain ⟨x, hx⟩ : ∃ x, l[k]? = some x := ⟨_, List.getElem?_eq_getElem (by rw [← HLN.out]; omega)⟩
                  obtain ⟨hl', hc⟩ := SlRd.src HRD.out H9.below
                  obtain ⟨bx, o, hA, c0⟩ := hc k (.string x) (by rw [List.getElem?_map, hx]; rfl)
                  subst hA
                  have hg := lt_get l m k (by omega)
                  rw [show l.getD k ByteArray.empty = x by rw [List.getD_eq_getElem?_getD, hx]; rfl] at hg
                  obtain ⟨g5, o5, hA, e0, e1⟩ := St.late H9 hg
                  subst hA
                  have hkn : (k : Int) < n := by omega
                  have hkq : (k : Int) < (m : Nat) := by omega
                  clear hc hl' hx hg
                  go_wp2_with (fail)
                  go_quiet (fail)
                  go_wp2_with (fail)
                  go_roundw
                  case rel => exact ⟨k + 1, by omega, by go_num, H9.drewN _⟩
                  case measure => simp [intOf]; omega
                · go_wp2_with (fail)
                  go_ret
                  exact ⟨rfl, H9.below⟩
            · obtain rfl : 64 = q := by have := HQ2.out; omega
              go_wp2_with (fail)
              refine (late_ok b ⟨(cl _).drop _, [], []⟩ H6.r2).mono ?_
              dsimp only
              rintro e w6 ⟨A6, c6, rfl, H7⟩
              have H8 := H7.tail.tail
              clear H6 H7 H5
              go_wp2_with (fail)
              go_loopw [10] (fun i wr => ∃ k : Nat, k ≤ 64 ∧ i = .int .i64 k ∧ St w wr [Row 32 2 A5 (lt l m).length c5 (lateV (lt l m))]) (fun i _ => 64 - (intOf i).toNat)
              case atStart => exact ⟨0, Nat.zero_le _, rfl, H8⟩
              case round =>
                obtain ⟨k, hk, rfl, H9⟩ := hrel
                by_cases hlt : k < 64
                · obtain ⟨x, hx⟩ : ∃ x, l[k]? = some x := ⟨_, List.getElem?_eq_getElem (by rw [← HLN.out]; omega)⟩
                  obtain ⟨hl', hc⟩ := SlRd.src HRD.out H9.below
                  obtain ⟨bx, o, hA, c0⟩ := hc k (.string x) (by rw [List.getElem?_map, hx]; rfl)
                  subst hA
                  have hg := lt_get l m k (by omega)
                  rw [show l.getD k ByteArray.empty = x by rw [List.getD_eq_getElem?_getD, hx]; rfl] at hg
                  obtain ⟨g5, o5, hA, e0, e1⟩ := St.late H9 hg
                  subst hA
                  have hkn : (k : Int) < n := by omega
                  have hkq : (k : Int) < (64 : Nat) := by omega
                  clear hc hl' hx hg
                  go_wp2_with (fail)
                  go_quiet (fail)
                  go_wp2_with (fail)
                  go_roundw
                  case rel => exact ⟨k + 1, by omega, by go_num, H9.drewN _⟩
                  case measure => simp [intOf]; omega
                · go_wp2_with (fail)
                  go_ret
                  exact ⟨rfl, H9.below⟩
      · have hd1 : decide ((m : Int) < n) = false := decide_eq_false hg
        have HS := Lib.hid hs; clear hs hlt
        go_wp2_with (fail)
        refine (new_ok A' m c' (cl m) (cl_length m) (by omega) HS.out H2).mono ?_
        rintro e w3 ⟨b, rfl, H3⟩
        have H4 := H3.r2.tail
        clear H2 H3
        go_wp2_with (fail)
        go_loopw [6] (fun i wr => ∃ k : Nat, k ≤ m ∧ i = .int .i64 k ∧ St w wr [Net b ⟨(cl m).drop k, lt l k, []⟩]) (fun i _ => m - (intOf i).toNat)
        case atStart => exact ⟨0, Nat.zero_le _, rfl, H4⟩
        case round =>
          obtain ⟨k, hk, rfl, H5⟩ := hrel
          by_cases hlt : k < m
          · obtain ⟨x, hx⟩ : ∃ x, l[k]? = some x := ⟨_, List.getElem?_eq_getElem (by rw [← HLN.out]; omega)⟩
            obtain ⟨hl', hc⟩ := SlRd.src HRD.out H5.below
            obtain ⟨bx, o, hA, c0⟩ := hc k (.string x) (by rw [List.getElem?_map, hx]; rfl)
            subst hA
            have hxs := str_le (List.mem_of_getElem? hx) HSM.out
            have hkn : (k : Int) < n := by omega
            have hcar := carried_lt l m k hlt x hx
            have hfa := fate_cl m k hlt
            have hoks : ∀ y ∈ (cl m).drop k, inI y := fun y hy => cl_ok m y (List.mem_of_mem_drop hy)
            have HCA := Lib.hid hcar; have HFA := Lib.hid hfa; have HOK := Lib.hid hoks; clear hc hl' hx hcar hfa hoks
            go_wp2_with (fail)
            refine (carry_ok b ⟨(cl m).drop k, lt l k, []⟩ _ x (by omega) HOK.out H5).mono ?_
            dsimp only
            rw [HFA.out, HCA.out]
            have hk2 : (k : Int) % 2 = 0 ∨ (k : Int) % 2 = 1 := by omega
            rcases hk2 with hk2 | hk2
            · rw [hk2, show carL (4 + 0, (0 : Int)).1 (4 + 0, (0 : Int)).2 x = [] from rfl, show carOk (4 + 0, (0 : Int)).1 = false from rfl]
              rintro e w5 ⟨A5, c5, rfl, H6⟩
              go_wp2_with (fail)
              go_roundw
              case rel => exact ⟨k + 1, by omega, by go_num, H6.tail⟩
              case measure => simp [intOf]; omega
            · rw [hk2, show carL (4 + 1, (0 : Int)).1 (4 + 1, (0 : Int)).2 x = [x] from rfl, show carOk (4 + 1, (0 : Int)).1 = true from rfl]
              rintro e w5 ⟨A5, c5, rfl, H6⟩
              go_wp2_with (fail)
              go_roundw
              case rel => exact ⟨k + 1, by omega, by go_num, H6.tail⟩
              case measure => simp [intOf]; omega
          · obtain rfl : m = k := by omega
            go_wp2_with (fail)
            refine (late_ok b ⟨(cl m).drop m, lt l m, []⟩ H5).mono ?_
            dsimp only
            rintro e w5 ⟨A5, c5, rfl, H6⟩
            have hq := lt_length l m
            obtain ⟨q, hqq⟩ : ∃ q, q = (lt l m).length := ⟨_, rfl⟩
            rw [← hqq] at hq ⊢
            have HQ := Lib.hid hqq; have HQ2 := Lib.hid hq; clear hqq hq hlt
            have hq1 : q ≤ m := by have := HQ2.out; omega
            have hq2 : q ≤ 64 := by have := HQ2.out; omega
            by_cases hm64 : m ≤ 64
            · obtain rfl : m = q := by have := HQ2.out; omega
              go_wp2_with (fail)
              refine (late_ok b ⟨(cl _).drop _, [], []⟩ H6.r2).mono ?_
              dsimp only
              rintro e w6 ⟨A6, c6, rfl, H7⟩
              have H8 := H7.tail.tail
              clear H6 H7 H5
              go_wp2_with (fail)
              go_loopw [10] (fun i wr => ∃ k : Nat, k ≤ m ∧ i = .int .i64 k ∧ St w wr [Row 32 2 A5 (lt l m).length c5 (lateV (lt l m))]) (fun i _ => m - (intOf i).toNat)
              case atStart => exact ⟨0, Nat.zero_le _, rfl, H8⟩
              case round =>
                obtain ⟨k, hk, rfl, H9⟩ := hrel
                by_cases hlt : k < m
                · obtain ⟨x, hx⟩ : ∃ x, l[k]? = some x := ⟨_, List.getElem?_eq_getElem (by rw [← HLN.out]; omega)⟩
                  obtain ⟨hl', hc⟩ := SlRd.src HRD.out H9.below
                  obtain ⟨bx, o, hA, c0⟩ := hc k (.string x) (by rw [List.getElem?_map, hx]; rfl)
                  subst hA
                  have hg := lt_get l m k (by omega)
                  rw [show l.getD k ByteArray.empty = x by rw [List.getD_eq_getElem?_getD, hx]; rfl] at hg
                  obtain ⟨g5, o5, hA, e0, e1⟩ := St.late H9 hg
                  subst hA
                  have hkn : (k : Int) < n := by omega
                  have hkq : (k : Int) < (m : Nat) := by omega
                  clear hc hl' hx hg
                  go_wp2_with (fail)
                  go_quiet (fail)
                  go_wp2_with (fail)
                  go_roundw
                  case rel => exact ⟨k + 1, by omega, by go_num, H9.drewN _⟩
                  case measure => simp [intOf]; omega
                · go_wp2_with (fail)
                  go_ret
                  exact ⟨rfl, H9.below⟩
            · obtain rfl : 64 = q := by have := HQ2.out; omega
              go_wp2_with (fail)
              refine (late_ok b ⟨(cl _).drop _, [], []⟩ H6.r2).mono ?_
              dsimp only
              rintro e w6 ⟨A6, c6, rfl, H7⟩
              have H8 := H7.tail.tail
              clear H6 H7 H5
              go_wp2_with (fail)
              go_loopw [10] (fun i wr => ∃ k : Nat, k ≤ 64 ∧ i = .int .i64 k ∧ St w wr [Row 32 2 A5 (lt l m).length c5 (lateV (lt l m))]) (fun i _ => 64 - (intOf i).toNat)
              case atStart => exact ⟨0, Nat.zero_le _, rfl, H8⟩
              case round =>
                obtain ⟨k, hk, rfl, H9⟩ := hrel
                by_cases hlt : k < 64
                · obtain ⟨x, hx⟩ : ∃ x, l[k]? = some x := ⟨_, List.getElem?_eq_getElem (by rw [← HLN.out]; omega)⟩
                  obtain ⟨hl', hc⟩ := SlRd.src HRD.out H9.below
                  obtain ⟨bx, o, hA, c0⟩ := hc k (.string x) (by rw [List.getElem?_map, hx]; rfl)
                  subst hA
                  have hg := lt_get l m k (by omega)
                  rw [show l.getD k ByteArray.empty = x by rw [List.getD_eq_getElem?_getD, hx]; rfl] at hg
                  obtain ⟨g5, o5, hA, e0, e1⟩ := St.late H9 hg
                  subst hA
                  have hkn : (k : Int) < n := by omega
                  have hkq : (k : Int) < (64 : Nat) := by omega
                  clear hc hl' hx hg
                  go_wp2_with (fail)
                  go_quiet (fail)
                  go_wp2_with (fail)
                  go_roundw
                  case rel => exact ⟨k + 1, by omega, by go_num, H9.drewN _⟩
                  case measure => simp [intOf]; omega
                · go_wp2_with (fail)
                  go_ret
                  exact ⟨rfl, H9.below⟩
theorem own : ownKnob Try.prog.godebug = none := by kernel_rfl
theorem laidOut : laidOutB Try.prog = true := by kernel_rfl
theorem readable : ∀ t ∈ Try.f3.params.toList, Try.prog.readableRec t = true ∧ t < Try.prog.types.size := by
  intro t ht
  rw [Try.params3] at ht
  simp only [List.mem_cons, List.not_mem_nil, or_false] at ht
  subst ht
  exact ⟨by kernel_rfl, of_decide_eq_true (by kernel_rfl)⟩
theorem contract (H : Type) (enc : TypeId × Value → H) (W : World) (base : Nat) (args : Array Value) (ds gs : List (DataW H)) (before : List MemPlace)
    (hval : ∀ (j : Nat) t v, Try.f3.params[j]? = some t → args[j]? = some v → Value.okWide Try.prog W .any base t v)
    (hW : DataW.Whole enc Try.prog Try.f3.params.toList Rows.netLateSpec.vars false W args.toList ds gs before) (hk : Rows.uptoSmall H (ds ++ gs) = true) :
    Calls Try.prog 3 args W fun e W' => ∃ v, e = .returned v ∧ Rows.netLateSpec.post enc Try.prog Try.f3 false true false false W args v W' := by
  have hW' := hW
  obtain ⟨p, q, hA0, hV, rfl, _, _⟩ := hW
  have hA : DataW.TrodAll enc Try.prog W 0 (fun _ => true) true Try.f3.params.toList args.toList ds p := hA0
  rw [Try.params3] at hA hval
  obtain ⟨v0, vs0, d0, ds0, p0, q0, hargs, rfl, rfl, h0, r0⟩ := trodAll_cons hA
  obtain ⟨rfl, rfl, rfl⟩ := trodAll_nil r0
  obtain rfl : args = #[v0] := by cases args; simp_all
  obtain ⟨rfl, rfl⟩ := trodVars_none hV
  clear hA0
  have hk2 : Rows.uptoBulkAll _ ≤ 1048576 := of_decide_eq_true hk
  rw [List.append_nil] at hk2
  obtain ⟨fuel0, hf0⟩ := h0
  obtain ⟨A0, n0, c0, hv0⟩ := okWide_slice Try.underlying22 (hval 0 22 v0 rfl rfl)
  subst hv0
  obtain ⟨A0', n0', c0', rows0, hc0, hn0, hrd0, hrow0, hbulk0⟩ := trod_slice_flat (ks := [.str]) (m := 8) Try.underlying22 (by kernel_rfl) (by kernel_rfl) (by decide) hf0
  dsimp only at hbulk0
  obtain ⟨rfl, rfl, rfl⟩ : A0' = A0 ∧ n0' = n0 ∧ c0' = c0 := by simp [Value.cells] at hc0; simp [hc0]
  obtain ⟨l, rfl, hok0⟩ := rows_map (fun x : ByteArray => [.string x]) (fun x : ByteArray => x.size ≤ maxLen) rows0 (fun row hr => of_row_str row (hrow0 row hr))
  refine (walk W A0' n0' c0' l hrd0 (by
    have h1 := len_le_sum (ks := [.str]) _ hrow0 (by decide)
    have h2 := hrd0.1
    simp only [Rows.uptoBulkAll] at hk2
    omega) (by
    simp only [Rows.uptoBulkAll] at hk2
    omega) hok0).mono fun e W' ⟨he, hb⟩ => ?_
  exact ⟨_, he, law_post (tb := 4) laidOut readable rfl Try.underlying4 rfl hW' rfl rfl rfl hb⟩
set_option maxRecDepth 100000 in
theorem lifted (os : Os) (started : os.Started) (H : Type) (enc : TypeId × Value → H) (F : Stop.Interp) :
    ReturnsInHanded {} Try.checked os 3 .any ((Rows.OpenSpec.upto Rows.netLateSpec).pre6 enc Try.prog Try.f3 Rows.netLateUptoRow.domain false) (((Rows.OpenSpec.upto Rows.netLateSpec).at F).post enc Try.prog Try.f3 false true false false) := by
  refine returnsInHanded_of_cond (C := Try.checked) (s := Rows.OpenSpec.upto Rows.netLateSpec) (k := Rows.uptoSmall) rfl own started (by kernel_rfl) Try.func3
    (OpenSpec.witness (enc := enc) (C := Try.checked) (s := Rows.OpenSpec.upto Rows.netLateSpec) (k := Rows.uptoSmall) rfl false ⟨#[], #[.slice none 0 0], []⟩ 8 (by kernel_rfl) (by kernel_rfl) (by kernel_rfl)
      (x := ([.nil], [], [])) (by kernel_rfl) rfl (by kernel_rfl)) ?_
  intro W base args ds gs before hval hW _ hk _
  exact contract H enc W base args ds gs before hval hW hk
theorem proved : Rows.NetLateUptoSaid :=
  OpenClaim.holds_of_cond 3 Try.f3 rfl rfl rfl rfl rfl rfl rfl ⟨rfl, rfl, rfl, rfl, rfl⟩ rfl rfl rfl rfl rfl (by kernel_rfl) Try.func3 (by kernel_rfl)
    (of_decide_eq_true (by kernel_rfl)) (by unfold Func.isWrapper; first | (rw [if_pos (by decide +kernel)]; kernel_rfl) | (rw [if_neg (by decide +kernel)]; exact ⟨rfl, rfl⟩))
    (fun os started H enc _ F => lifted os started H enc F)
#print axioms proved

end Go.Proofs.Ytpeoajmlmkmffaa.NetLate

/- Layer 21: a bit turned; what of a datagram arrives. -/
import Derived.Test.YtpeoajmlmkmffaaNeB
namespace Go.Proofs.Ytpeoajmlmkmffaa
open Go.RowKit

theorem toList_isEmpty (s : ByteArray) : s.toList.isEmpty = decide (s.size = 0) := by
  rw [ByteArray.toList_eq, ← bl_length, bl]
  cases s.data.toList <;> simp
set_option maxHeartbeats 400000 in
/-- one bit turned -/
def turnL (l : List UInt8) (k : Nat) : List UInt8 := l.set (k / 8) (UInt8.ofNat (((l.getD (k / 8) 0).toNat ^^^ 2 ^ (k % 8)) % 256))
def turnB (s : ByteArray) (bit : Int) : ByteArray := if s.size = 0 then s else mkb (turnL (bl s) (bit % (8 * s.size)).toNat)
theorem turnB_size (s : ByteArray) (bit : Int) : (turnB s bit).size = s.size := by
  unfold turnB
  split
  · rfl
  · rw [mkb_size, turnL, List.length_set, bl_length]
theorem xor_u8 (a m : Nat) (ha : a < 256) (hm : m < 8) : bits .xor .u8 (a : Int) ((2 : Int) ^ m % 256) = ((UInt8.ofNat ((a ^^^ 2 ^ m) % 256)).toNat : Int) := by
  have key : ∀ (a : Fin 256) (m : Fin 8), bits .xor .u8 (a.val : Int) ((2 : Int) ^ m.val % 256) = ((UInt8.ofNat ((a.val ^^^ 2 ^ m.val) % 256)).toNat : Int) := by decide +kernel
  exact key ⟨a, ha⟩ ⟨m, hm⟩
set_option maxHeartbeats 1000000 in
theorem turn_ok (s : ByteArray) (bit : Int) (hb : 0 ≤ bit) (hb2 : bit ≤ 9223372036854775807) (hs : s.size ≤ 1099511627776) {w0 w : World} {F : List Assn} (H : St w0 w F) :
    Calls Try.prog 21 #[.string s, .int .i64 bit] w fun r w' => r = .returned (.string (turnB s bit)) ∧ St w0 w' F := by
  by_cases h0 : s.size = 0
  · have e : turnB s bit = s := if_pos h0
    rw [e]; clear e
    obtain rfl : s = ByteArray.empty := by
      obtain ⟨d⟩ := s
      have : d = #[] := Array.size_eq_zero_iff.1 h0
      subst this; rfl
    go_enter Try.func21, Try.ntmps21
    go_wp2_with (fail)
    go_ret
    exact ⟨rfl, H⟩
  · obtain ⟨K, hK⟩ : ∃ K : Nat, bit % (8 * (s.size : Int)) = (K : Int) := ⟨(bit % (8 * s.size)).toNat, by have := Int.emod_nonneg bit (b := 8 * (s.size : Int)) (by omega); omega⟩
    have hlt := Int.emod_lt_of_pos bit (b := 8 * (s.size : Int)) (by omega)
    rw [hK] at hlt
    have e : turnB s bit = mkb (turnL (bl s) K) := by unfold turnB; rw [if_neg h0, hK]; rfl
    rw [e]
    have E := Lib.hid e; clear e
    have hne : s.toList.isEmpty = false := by rw [toList_isEmpty]; exact decide_eq_false h0
    have hcv := fun (W : World) (x : ByteArray) => Lib.run_convert_string_bytes (P := Try.prog) W 9 47 5 x Try.underlying9 Try.underlying47 Try.underlying5
    have H2 := H.bytes 5 s (by unfold maxLen; omega)
    go_enter Try.func21, Try.ntmps21
    go_wp2_with (fail)
    obtain ⟨g, hg⟩ : ∃ g, g = w.heap.size := ⟨_, rfl⟩
    rw [← hg] at H2 ⊢
    generalize Lib.bytesWorld w 5 s = W2 at *
    obtain ⟨q, hq⟩ : ∃ q : Nat, (K : Int) / 8 = (q : Int) := ⟨K / 8, by omega⟩
    obtain ⟨m, hm⟩ : ∃ m : Nat, (K : Int) % 8 = (m : Int) := ⟨K % 8, by omega⟩
    have hqs : q < s.size := by omega
    have hm8 : m < 8 := by omega
    have hqI : (q : Int) < s.size := by omega
    obtain ⟨y, hy⟩ : ∃ y, (bl s)[q]? = some y := ⟨_, List.getElem?_eq_getElem (by rw [bl_length]; exact hqs)⟩
    have hc : W2.drew.cell? ⟨g, q, none⟩ = some (.int .u8 (y.toNat : Int)) := by
      have := H2.drew.row_cell q (u := .int .u8 (y.toNat : Int)) (by rw [Lib.strCells, List.getElem?_map, show s.data.toList[q]? = some y from hy]; rfl)
      simpa using this
    have hf : W2.drew.frozen? ⟨g, q, none⟩ = false := by
      have hcap : s.size ≤ grownCap w s.size 0 5 := grownCap_ge ..
      have := H2.drew.row_frozen q (by omega)
      simpa using this
    obtain ⟨z, hz⟩ : ∃ z, z = UInt8.ofNat ((y.toNat ^^^ 2 ^ m) % 256) := ⟨_, rfl⟩
    have hx := xor_u8 y.toNat m (by have := y.toNat_lt; omega) hm8
    rw [← hz] at hx
    have H3 : St w0 ((W2.setCell ⟨g, q, none⟩ (.int .u8 (bits .xor .u8 (y.toNat : Int) ((2 : Int) ^ m % 256)))).drew) (Row 5 1 (some ⟨g, 0, none⟩) s.size (grownCap w s.size 0 5) (bv ((bl s).set q z)) :: F) := by
      have h := (H2.setCell_row q (by rw [Lib.strCells_length]; exact hqs) (.int .u8 (bits .xor .u8 (y.toNat : Int) ((2 : Int) ^ m % 256)))).drew
      have e : (Lib.strCells s).set q (.int .u8 (bits .xor .u8 (y.toNat : Int) ((2 : Int) ^ m % 256))) = bv ((bl s).set q z) := by
        rw [hx, bv, List.map_set]; rfl
      rw [e, Nat.zero_add] at h
      exact h
    have hcv2 := H3.toStr (P := Try.prog) (src := 47) (dst := 9) Try.underlying47 Try.underlying5 Try.underlying9
    have HX := Lib.hid hx; clear hx
    have ht : turnL (bl s) K = (bl s).set q z := by
      unfold turnL
      rw [hz, show K / 8 = q by omega, show K % 8 = m by omega, List.getD_eq_getElem?_getD, hy]; rfl
    have HT := Lib.hid ht; have HY := Lib.hid hy; have HG := Lib.hid hg; have HZ := Lib.hid hz; clear ht hy hg hz
    go_region
    all_goals go_wp2_with (fail)
    go_ret
    rw [← HT.out]
    exact ⟨rfl, H3.tail⟩
theorem back_ok (b : Nat) (s : NS) (d : ByteArray) (hs : d.size ≤ 1099511627776) (hb : ∀ x ∈ s.bits, 0 ≤ x ∧ x ≤ 9223372036854775807) (hl : s.bits.length ≤ 1) {w0 w : World} {F : List Assn} (H : St w0 w (Net b s :: F)) :
    Calls Try.prog 12 #[.pointer (some ⟨b, 0, none⟩), .string d] w fun r w' => r = .returned (.string (match s.bits with | [] => d | x :: _ => turnB d x)) ∧ St w0 w' (Net b ⟨s.ch, s.late, []⟩ :: F) := by
  obtain ⟨ch, late, bs⟩ := s
  obtain ⟨A1, c1, A2, c2, A3, c3, H1⟩ := H.openN
  dsimp only at *
  have d2 := H1.cell 2 rfl
  have f2 := H1.frozen 2
  have hfin : ∀ w', St w0 w' (Pt b #[.slice A1 ch.length c1, .slice A2 late.length c2, .slice A3 bs.length c3] 51 :: Row 3 1 A1 ch.length c1 (ivs ch) :: Row 32 2 A2 late.length c2 (lateV late) :: Row 3 1 A3 bs.length c3 (ivs bs) :: F) → St w0 (w'.setCell ⟨b, 2, none⟩ (.slice none 0 0)) (Net b ⟨ch, late, []⟩ :: F) := fun w' H' =>
    St.shutN (s := ⟨ch, late, []⟩) rfl rfl rfl (((H'.set 2 (.slice none 0 0)).ord 4 [3, 0, 1, 2]).tail.nilRow 3 1 |>.ord 4 [1, 2, 3, 0])
  have HF := Lib.hid hfin; clear hfin
  cases bs with
  | nil =>
    go_enter Try.func12, Try.ntmps12
    go_wp2_with (fail)
    go_loopw [1, 6, 15] (fun t _ i wr => i = .int .i64 0 ∧ t = .string d ∧ wr = w) (fun _ _ _ _ => 0)
    case atStart => exact ⟨rfl, rfl, rfl⟩
    case round =>
      obtain ⟨rfl, rfl, rfl⟩ := hrel
      go_wp2_with (fail)
      go_ret
      exact ⟨rfl, HF.out _ H1⟩
  | cons x r =>
    obtain rfl : r = [] := by simpa using hl
    obtain ⟨hx1, hx2⟩ := hb x (List.mem_cons_self ..)
    obtain ⟨g, o, hA⟩ := (H1.ord 4 [3, 0, 1, 2]).row_form (by simp)
    subst hA
    clear hb hl
    go_enter Try.func12, Try.ntmps12
    go_wp2_with (fail)
    go_loopw [1, 6, 15] (fun t _ i wr => ∃ k : Nat, k ≤ 1 ∧ i = .int .i64 k ∧ t = .string (if k = 0 then d else turnB d x) ∧ St w0 wr (Pt b #[.slice A1 ch.length c1, .slice A2 late.length c2, .slice (some ⟨g, o, none⟩) [x].length c3] 51 :: Row 3 1 A1 ch.length c1 (ivs ch) :: Row 32 2 A2 late.length c2 (lateV late) :: Row 3 1 (some ⟨g, o, none⟩) [x].length c3 (ivs [x]) :: F)) (fun _ _ i _ => 1 - (intOf i).toNat)
    case atStart => exact ⟨0, by decide, rfl, rfl, H1⟩
    case round =>
      obtain ⟨k, hk, rfl, rfl, H2⟩ := hrel
      have hk2 : k = 0 ∨ k = 1 := by omega
      rcases hk2 with rfl | rfl
      · have e0 := (H2.ord 4 [3, 0, 1, 2]).row_cell 0 (u := .int .i64 x) rfl
        rw [Nat.add_zero] at e0
        go_wp2_with (fail)
        refine (turn_ok d x hx1 hx2 hs H2).mono ?_
        rintro e w3 ⟨rfl, H3⟩
        go_wp2_with (fail)
        go_roundw
        case rel => exact ⟨1, by omega, by go_num, rfl, H3⟩
        case measure => simp [intOf]
      · have d2' := H2.cell 2 rfl
        have f2' := H2.frozen 2
        go_wp2_with (fail)
        go_ret
        exact ⟨rfl, HF.out _ H2⟩
theorem St.newRow {w0 w : World} {L : List Assn} (H : St w0 w L) (vs : Array Value) (e : TypeId) (size n : Nat) (hl : vs.size = n * size) (hn : n ≤ maxLen) :
    St w0 (w.alloc (.cells vs e)) (Row e size (some ⟨w.heap.size, 0, none⟩) n n vs.toList :: L) :=
  St.toRow (fr := (0, 0)) (H.alloc vs e) (by simpa using hl) (.inl (Nat.le_refl _)) (Nat.le_refl _) hn (by omega) (fun j u h => by simpa using h)
/-- what of a datagram arrives -/
def carL (f g : Int) (d : ByteArray) : List ByteArray := if f = 1 ∨ f = 4 then [] else if f = 3 then [d, d] else if f = 6 then [turnB d g] else [d]
def carOk (f : Int) : Bool := f == 0 || f == 3 || f == 5 || f == 7
def NS.carried (s : NS) (p : Int × ByteArray) : NS :=
  if (fate s.ch).1 = 4 ∨ (fate s.ch).1 = 5 then NS.held ⟨s.ch.tail, s.late, []⟩ p else if (fate s.ch).1 = 7 then ⟨s.ch.tail, s.late, [(fate s.ch).2]⟩ else ⟨s.ch.tail, s.late, []⟩
theorem fate_range (l : List Int) (h : ∀ x ∈ l, inI x) : 0 ≤ (fate l).1 ∧ (fate l).1 ≤ 7 ∧ 0 ≤ (fate l).2 ∧ (fate l).2 ≤ 1152921504606846975 := by
  cases l with
  | nil => decide
  | cons x l =>
    obtain ⟨h1, h2⟩ := h x (List.mem_cons_self ..)
    have e : 0 ≤ fate1 x ∧ fate1 x ≤ 9223372036854775807 := by unfold fate1; split <;> omega
    show 0 ≤ fate1 x % 8 ∧ fate1 x % 8 ≤ 7 ∧ 0 ≤ fate1 x / 8 ∧ fate1 x / 8 ≤ 1152921504606846975
    omega
def strs (l : List ByteArray) : List Value := l.map Value.string
set_option maxHeartbeats 4000000 in
theorem carry_ok (b : Nat) (s : NS) (from_ : Int) (d : ByteArray) (hs : d.size ≤ 1099511627776) (hok : ∀ x ∈ s.ch, inI x) {w0 w : World} {F : List Assn} (H : St w0 w (Net b s :: F)) :
    Calls Try.prog 10 #[.pointer (some ⟨b, 0, none⟩), .int .i64 from_, .string d] w fun r w' => ∃ A c, r = .returned (.tuple #[.slice A (carL (fate s.ch).1 (fate s.ch).2 d).length c, .bool (carOk (fate s.ch).1)]) ∧ St w0 w' (Row 9 1 A (carL (fate s.ch).1 (fate s.ch).2 d).length c (strs (carL (fate s.ch).1 (fate s.ch).2 d)) :: Net b (s.carried (from_, d)) :: F) := by
  obtain ⟨ch, late, bs⟩ := s
  obtain ⟨A1, c1, A2, c2, A3, c3, H1⟩ := H.openN
  dsimp only at *
  have f2 := H1.frozen 2
  have d2 := H1.cell 2 rfl
  have hfin : ∀ w', St w0 w' (Pt b #[.slice A1 ch.length c1, .slice A2 late.length c2, .slice A3 bs.length c3] 51 :: Row 3 1 A1 ch.length c1 (ivs ch) :: Row 32 2 A2 late.length c2 (lateV late) :: Row 3 1 A3 bs.length c3 (ivs bs) :: F) → St w0 (w'.setCell ⟨b, 2, none⟩ (.slice none 0 0)) (Net b ⟨ch, late, []⟩ :: F) := fun w' H' =>
    St.shutN (s := ⟨ch, late, []⟩) rfl rfl rfl (((H'.set 2 (.slice none 0 0)).ord 4 [3, 0, 1, 2]).tail.nilRow 3 1 |>.ord 4 [1, 2, 3, 0])
  have hch : ∀ w', St w0 w' (Net b ⟨ch, late, []⟩ :: F) → Calls Try.prog 19 #[.pointer (some ⟨b, 0, none⟩)] w' fun r w'' => r = .returned (.tuple #[.int .i64 (fate ch).1, .int .i64 (fate ch).2]) ∧ St w0 w'' (Net b ⟨ch.tail, late, []⟩ :: F) := fun w' H' => choose_ok b ⟨ch, late, []⟩ hok H'
  obtain ⟨r1, r2, r3, r4⟩ := fate_range ch hok
  have he : NS.carried ⟨ch, late, bs⟩ (from_, d) = if (fate ch).1 = 4 ∨ (fate ch).1 = 5 then NS.held ⟨ch.tail, late, []⟩ (from_, d) else if (fate ch).1 = 7 then ⟨ch.tail, late, [(fate ch).2]⟩ else ⟨ch.tail, late, []⟩ := rfl
  generalize NS.carried ⟨ch, late, bs⟩ (from_, d) = N at *
  generalize fate ch = p at *
  obtain ⟨f, g⟩ := p
  dsimp only at *
  have HF := Lib.hid hfin; have HC := Lib.hid hch; clear hfin hch hok H
  have hf : f = 0 ∨ f = 1 ∨ f = 2 ∨ f = 3 ∨ f = 4 ∨ f = 5 ∨ f = 6 ∨ f = 7 := by omega
  rcases hf with rfl | rfl | rfl | rfl | rfl | rfl | rfl | rfl
  · rw [if_neg (by decide), if_neg (by decide)] at he
    have HE := Lib.hid he; clear he
    go_enter Try.func10, Try.ntmps10
    go_wp2_with (fail)
    refine (HC.out _ (HF.out _ H1)).mono ?_
    rintro e w3 ⟨rfl, H3⟩
    go_wp2_with (fail)
    go_ret2
    exact ⟨_, _, rfl, by rw [HE.out]; exact H3.newRow #[.string d] 9 1 1 rfl (by decide)⟩
  · rw [if_neg (by decide), if_neg (by decide)] at he
    have HE := Lib.hid he; clear he
    go_enter Try.func10, Try.ntmps10
    go_wp2_with (fail)
    refine (HC.out _ (HF.out _ H1)).mono ?_
    rintro e w3 ⟨rfl, H3⟩
    go_wp2_with (fail)
    go_ret2
    exact ⟨_, _, rfl, by rw [HE.out]; exact H3.nilRow _ _⟩
  · rw [if_neg (by decide), if_neg (by decide)] at he
    have HE := Lib.hid he; clear he
    go_enter Try.func10, Try.ntmps10
    go_wp2_with (fail)
    refine (HC.out _ (HF.out _ H1)).mono ?_
    rintro e w3 ⟨rfl, H3⟩
    go_wp2_with (fail)
    go_ret2
    exact ⟨_, _, rfl, by rw [HE.out]; exact H3.newRow #[.string d] 9 1 1 rfl (by decide)⟩
  · rw [if_neg (by decide), if_neg (by decide)] at he
    have HE := Lib.hid he; clear he
    go_enter Try.func10, Try.ntmps10
    go_wp2_with (fail)
    refine (HC.out _ (HF.out _ H1)).mono ?_
    rintro e w3 ⟨rfl, H3⟩
    go_wp2_with (fail)
    go_ret2
    exact ⟨_, _, rfl, by rw [HE.out]; exact H3.newRow #[.string d, .string d] 9 1 2 rfl (by decide)⟩
  · rw [if_pos (by decide)] at he
    have HE := Lib.hid he; clear he
    go_enter Try.func10, Try.ntmps10
    go_wp2_with (fail)
    refine (HC.out _ (HF.out _ H1)).mono ?_
    rintro e w3 ⟨rfl, H3⟩
    go_wp2_with (fail)
    refine (hold_ok b ⟨ch.tail, late, []⟩ from_ d H3).mono ?_
    rintro e w4 ⟨rfl, H4⟩
    go_wp2_with (fail)
    go_ret2
    exact ⟨_, _, rfl, by rw [HE.out]; exact H4.nilRow _ _⟩
  · rw [if_pos (by decide)] at he
    have HE := Lib.hid he; clear he
    go_enter Try.func10, Try.ntmps10
    go_wp2_with (fail)
    refine (HC.out _ (HF.out _ H1)).mono ?_
    rintro e w3 ⟨rfl, H3⟩
    go_wp2_with (fail)
    refine (hold_ok b ⟨ch.tail, late, []⟩ from_ d H3).mono ?_
    rintro e w4 ⟨rfl, H4⟩
    go_wp2_with (fail)
    go_ret2
    exact ⟨_, _, rfl, by rw [HE.out]; exact H4.newRow #[.string d] 9 1 1 rfl (by decide)⟩
  · rw [if_neg (by decide), if_neg (by decide)] at he
    have HE := Lib.hid he; clear he
    go_enter Try.func10, Try.ntmps10
    go_wp2_with (fail)
    refine (HC.out _ (HF.out _ H1)).mono ?_
    rintro e w3 ⟨rfl, H3⟩
    go_wp2_with (fail)
    refine (turn_ok d g r3 (by omega) hs H3).mono ?_
    rintro e w4 ⟨rfl, H4⟩
    go_wp2_with (fail)
    go_ret2
    exact ⟨_, _, rfl, by rw [HE.out]; exact H4.newRow #[.string (turnB d g)] 9 1 1 rfl (by decide)⟩
  · rw [if_neg (by decide), if_pos rfl] at he
    have HE := Lib.hid he; clear he
    go_enter Try.func10, Try.ntmps10
    go_wp2_with (fail)
    refine (HC.out _ (HF.out _ H1)).mono ?_
    rintro e w3 ⟨rfl, H3⟩
    obtain ⟨B1, e1, B2, e2, B3, e3, H4⟩ := H3.openN
    dsimp only at H4
    have d2' := H4.cell 2 rfl
    have f2' := H4.frozen 2
    have hb3 : b ≠ w3.heap.size := by have := H4.lt; omega
    have d2'' := (H4.alloc #[.int .i64 g] 3).r2.cell 2 rfl
    have f2'' := (H4.alloc #[.int .i64 g] 3).r2.frozen 2
    go_wp2_with (fail)
    go_ret2
    refine ⟨_, _, rfl, ?_⟩
    rw [HE.out]
    have H5 := (H4.newRow #[.int .i64 g] 3 1 1 rfl (by decide)).r2.set 2 (.slice (some ⟨w3.heap.size, 0, none⟩) 1 1)
    have H6 : St w0 _ (Net b ⟨ch.tail, late, [g]⟩ :: F) := St.shutN (s := ⟨ch.tail, late, [g]⟩) rfl rfl rfl ((H5.ord 5 [4, 0, 2, 3, 1]).tail)
    have H7 := H6.newRow #[.string d] 9 1 1 rfl (by decide)
    have hsz : ((w3.alloc (.cells #[.int .i64 g] 3)).setCell ⟨b, 2, none⟩ (.slice (some ⟨w3.heap.size, 0, none⟩) 1 1)).heap.size = w3.heap.size + 1 := by simp
    rw [hsz] at H7
    exact H7
end Go.Proofs.Ytpeoajmlmkmffaa

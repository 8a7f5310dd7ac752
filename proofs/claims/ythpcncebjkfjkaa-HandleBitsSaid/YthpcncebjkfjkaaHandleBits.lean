/- HandleBits: a handle of which any one bit is turned tells no other file: for every two numbers. -/
import Derived.Test.YthpcncebjkfjkaaHdC
import Derived.Test.YthpcncebjkfjkaaLift
import Derived.RegionTactic
namespace Go.Proofs.Ythpcncebjkfjkaa.HandleBits
open Go.RowKit Go.ChangeShapes Go.WideShapes Go.ChangeAt Go.Proofs.Ythpcncebjkfjkaa
open Go.ChangeMaps (open_string shut_string)

set_option maxHeartbeats 2000000 in
theorem walk (w0 : World) (id : Int) (hid : -9223372036854775808 ≤ id ∧ id ≤ 9223372036854775807) (bit : Int) (_hbit : -9223372036854775808 ≤ bit ∧ bit ≤ 9223372036854775807) :
    Calls Try.prog 5 #[.int .i64 id, .int .i64 bit] w0 fun r w' => r = .returned (.bool true) ∧ Below w0.heap.size w0 w' := by
  have Hw := St.init w0
  by_cases h1 : id < 1
  · go_enter Try.func5, Try.ntmps5
    go_wp2_with (fail)
    refine (hspeaks_ok Hw).mono ?_
    rintro e w1 ⟨rfl, H0⟩
    by_cases hb0 : bit < 0
    · have H99 : True := trivial
      obtain ⟨K, hK⟩ : ∃ K : Nat, (100 : Int) = (K : Int) := ⟨((100 : Int)).toNat, by omega⟩
      have hKn : K < 224 := by omega
      have hbad := bits_bad (7 : Int) (by first | assumption | (unfold inI64; omega)) K (by omega)
      obtain ⟨s, hs⟩ : ∃ s, s = mkb (hb 1 (7 : Int) (7 : Int)) := ⟨_, rfl⟩
      have hz : s.size = 28 := by rw [hs]; exact hb_size 1 _ _
      have hbl : bl s = hb 1 (7 : Int) (7 : Int) := by rw [hs, bl_mkb]
      rw [← hbl] at hbad
      have HBAD := Lib.hid hbad; have HBL := Lib.hid hbl; have HZ := Lib.hid hz; clear hbad hbl hz
      have hcv := fun (W : World) (x : ByteArray) => Lib.run_convert_string_bytes (P := Try.prog) W 9 33 5 x Try.underlying9 Try.underlying33 Try.underlying5
      go_wp2_with (fail)
      refine (hput_ok 1 (7 : Int) (7 : Int) H0).mono ?_
      rw [← hs]
      have HS := Lib.hid hs; clear hs
      rintro e w ⟨rfl, H⟩
      have H2 := H.bytes 5 s (by rw [HZ.out]; decide)
      go_wp2_with (fail)
      obtain ⟨g, hg⟩ : ∃ g, g = w.heap.size := ⟨_, rfl⟩
      rw [← hg] at H2 ⊢
      generalize Lib.bytesWorld w 5 s = W2 at *
      try rw [hK]
      obtain ⟨q, hq⟩ : ∃ q : Nat, (K : Int) / 8 = (q : Int) := ⟨K / 8, by omega⟩
      obtain ⟨m, hm⟩ : ∃ m : Nat, (K : Int) % 8 = (m : Int) := ⟨K % 8, by omega⟩
      have hqs : q < s.size := by rw [HZ.out]; omega
      have hm8 : m < 8 := by omega
      have hqI : (q : Int) < s.size := by omega
      obtain ⟨y, hy⟩ : ∃ y, (bl s)[q]? = some y := ⟨_, List.getElem?_eq_getElem (by rw [bl_length]; exact hqs)⟩
      have hc : W2.drew.cell? ⟨g, q, none⟩ = some (.int .u8 (y.toNat : Int)) := by
        have := H2.drew.row_cell q (u := .int .u8 (y.toNat : Int)) (by rw [Lib.strCells, List.getElem?_map, show s.data.toList[q]? = some y from hy]; rfl)
        simpa using this
      have hf : W2.drew.frozen? ⟨g, q, none⟩ = false := by
        have hcap : s.size ≤ grownCap w s.size 0 5 := grownCap_ge ..
        have := H2.drew.row_frozen q (by omega)
        simpa using this
      obtain ⟨z, hz⟩ : ∃ z, z = zb y m := ⟨_, rfl⟩
      have hx := xor_u8 y.toNat m (by have := y.toNat_lt; omega) hm8
      rw [show UInt8.ofNat ((y.toNat ^^^ 2 ^ m) % 256) = z from hz.symm] at hx
      have H3 : St w0 ((W2.setCell ⟨g, q, none⟩ (.int .u8 (bits .xor .u8 (y.toNat : Int) ((2 : Int) ^ m % 256)))).drew) (Row 5 1 (some ⟨g, 0, none⟩) s.size (grownCap w s.size 0 5) (bv ((bl s).set q z)) :: []) := by
        have h := (H2.setCell_row q (by rw [Lib.strCells_length]; exact hqs) (.int .u8 (bits .xor .u8 (y.toNat : Int) ((2 : Int) ^ m % 256)))).drew
        have e : (Lib.strCells s).set q (.int .u8 (bits .xor .u8 (y.toNat : Int) ((2 : Int) ^ m % 256))) = bv ((bl s).set q z) := by
          rw [hx, bv, List.map_set]; rfl
        rw [e, Nat.zero_add] at h
        exact h
      have hcv2 := H3.toStr (P := Try.prog) (src := 33) (dst := 9) Try.underlying33 Try.underlying5 Try.underlying9
      have HX := Lib.hid hx; clear hx
      have ht : turnL (bl s) K = (bl s).set q z := by
        unfold turnL
        rw [hz, show K / 8 = q by omega, show K % 8 = m by omega, List.getD_eq_getElem?_getD, hy]; rfl
      have HT := Lib.hid ht; have HY := Lib.hid hy; have HG := Lib.hid hg; have HZ' := Lib.hid hz; clear ht hy hg hz
      go_region
      all_goals go_wp2_with (fail)
      rw [← HT.out] at H3 ⊢
      refine (hnumber_ok _ (by rw [mkb_size, turnL_length, bl_length, HZ.out]; decide) H3).mono ?_
      rw [HBAD.out]
      dsimp only
      rintro e w5 ⟨rfl, H5⟩
      go_wp2_with (fail)
      go_ret
      exact ⟨rfl, H5.below⟩
    · by_cases hb1 : 224 ≤ bit
      · obtain ⟨K, hK⟩ : ∃ K : Nat, (100 : Int) = (K : Int) := ⟨((100 : Int)).toNat, by omega⟩
        have hKn : K < 224 := by omega
        have hbad := bits_bad (7 : Int) (by first | assumption | (unfold inI64; omega)) K (by omega)
        obtain ⟨s, hs⟩ : ∃ s, s = mkb (hb 1 (7 : Int) (7 : Int)) := ⟨_, rfl⟩
        have hz : s.size = 28 := by rw [hs]; exact hb_size 1 _ _
        have hbl : bl s = hb 1 (7 : Int) (7 : Int) := by rw [hs, bl_mkb]
        rw [← hbl] at hbad
        have HBAD := Lib.hid hbad; have HBL := Lib.hid hbl; have HZ := Lib.hid hz; clear hbad hbl hz
        have hcv := fun (W : World) (x : ByteArray) => Lib.run_convert_string_bytes (P := Try.prog) W 9 33 5 x Try.underlying9 Try.underlying33 Try.underlying5
        go_wp2_with (fail)
        refine (hput_ok 1 (7 : Int) (7 : Int) H0).mono ?_
        rw [← hs]
        have HS := Lib.hid hs; clear hs
        rintro e w ⟨rfl, H⟩
        have H2 := H.bytes 5 s (by rw [HZ.out]; decide)
        go_wp2_with (fail)
        obtain ⟨g, hg⟩ : ∃ g, g = w.heap.size := ⟨_, rfl⟩
        rw [← hg] at H2 ⊢
        generalize Lib.bytesWorld w 5 s = W2 at *
        try rw [hK]
        obtain ⟨q, hq⟩ : ∃ q : Nat, (K : Int) / 8 = (q : Int) := ⟨K / 8, by omega⟩
        obtain ⟨m, hm⟩ : ∃ m : Nat, (K : Int) % 8 = (m : Int) := ⟨K % 8, by omega⟩
        have hqs : q < s.size := by rw [HZ.out]; omega
        have hm8 : m < 8 := by omega
        have hqI : (q : Int) < s.size := by omega
        obtain ⟨y, hy⟩ : ∃ y, (bl s)[q]? = some y := ⟨_, List.getElem?_eq_getElem (by rw [bl_length]; exact hqs)⟩
        have hc : W2.drew.cell? ⟨g, q, none⟩ = some (.int .u8 (y.toNat : Int)) := by
          have := H2.drew.row_cell q (u := .int .u8 (y.toNat : Int)) (by rw [Lib.strCells, List.getElem?_map, show s.data.toList[q]? = some y from hy]; rfl)
          simpa using this
        have hf : W2.drew.frozen? ⟨g, q, none⟩ = false := by
          have hcap : s.size ≤ grownCap w s.size 0 5 := grownCap_ge ..
          have := H2.drew.row_frozen q (by omega)
          simpa using this
        obtain ⟨z, hz⟩ : ∃ z, z = zb y m := ⟨_, rfl⟩
        have hx := xor_u8 y.toNat m (by have := y.toNat_lt; omega) hm8
        rw [show UInt8.ofNat ((y.toNat ^^^ 2 ^ m) % 256) = z from hz.symm] at hx
        have H3 : St w0 ((W2.setCell ⟨g, q, none⟩ (.int .u8 (bits .xor .u8 (y.toNat : Int) ((2 : Int) ^ m % 256)))).drew) (Row 5 1 (some ⟨g, 0, none⟩) s.size (grownCap w s.size 0 5) (bv ((bl s).set q z)) :: []) := by
          have h := (H2.setCell_row q (by rw [Lib.strCells_length]; exact hqs) (.int .u8 (bits .xor .u8 (y.toNat : Int) ((2 : Int) ^ m % 256)))).drew
          have e : (Lib.strCells s).set q (.int .u8 (bits .xor .u8 (y.toNat : Int) ((2 : Int) ^ m % 256))) = bv ((bl s).set q z) := by
            rw [hx, bv, List.map_set]; rfl
          rw [e, Nat.zero_add] at h
          exact h
        have hcv2 := H3.toStr (P := Try.prog) (src := 33) (dst := 9) Try.underlying33 Try.underlying5 Try.underlying9
        have HX := Lib.hid hx; clear hx
        have ht : turnL (bl s) K = (bl s).set q z := by
          unfold turnL
          rw [hz, show K / 8 = q by omega, show K % 8 = m by omega, List.getD_eq_getElem?_getD, hy]; rfl
        have HT := Lib.hid ht; have HY := Lib.hid hy; have HG := Lib.hid hg; have HZ' := Lib.hid hz; clear ht hy hg hz
        go_region
        all_goals go_wp2_with (fail)
        rw [← HT.out] at H3 ⊢
        refine (hnumber_ok _ (by rw [mkb_size, turnL_length, bl_length, HZ.out]; decide) H3).mono ?_
        rw [HBAD.out]
        dsimp only
        rintro e w5 ⟨rfl, H5⟩
        go_wp2_with (fail)
        go_ret
        exact ⟨rfl, H5.below⟩
      · have hb1' : decide (224 ≤ bit) = false := decide_eq_false hb1
        have hb0' : decide (bit < 0) = false := decide_eq_false hb0
        obtain ⟨K, hK⟩ : ∃ K : Nat, bit = (K : Int) := ⟨(bit).toNat, by omega⟩
        have hKn : K < 224 := by omega
        have hbad := bits_bad (7 : Int) (by first | assumption | (unfold inI64; omega)) K (by omega)
        obtain ⟨s, hs⟩ : ∃ s, s = mkb (hb 1 (7 : Int) (7 : Int)) := ⟨_, rfl⟩
        have hz : s.size = 28 := by rw [hs]; exact hb_size 1 _ _
        have hbl : bl s = hb 1 (7 : Int) (7 : Int) := by rw [hs, bl_mkb]
        rw [← hbl] at hbad
        have HBAD := Lib.hid hbad; have HBL := Lib.hid hbl; have HZ := Lib.hid hz; clear hbad hbl hz
        have hcv := fun (W : World) (x : ByteArray) => Lib.run_convert_string_bytes (P := Try.prog) W 9 33 5 x Try.underlying9 Try.underlying33 Try.underlying5
        go_wp2_with (fail)
        refine (hput_ok 1 (7 : Int) (7 : Int) H0).mono ?_
        rw [← hs]
        have HS := Lib.hid hs; clear hs
        rintro e w ⟨rfl, H⟩
        have H2 := H.bytes 5 s (by rw [HZ.out]; decide)
        go_wp2_with (fail)
        obtain ⟨g, hg⟩ : ∃ g, g = w.heap.size := ⟨_, rfl⟩
        rw [← hg] at H2 ⊢
        generalize Lib.bytesWorld w 5 s = W2 at *
        try rw [hK]
        obtain ⟨q, hq⟩ : ∃ q : Nat, (K : Int) / 8 = (q : Int) := ⟨K / 8, by omega⟩
        obtain ⟨m, hm⟩ : ∃ m : Nat, (K : Int) % 8 = (m : Int) := ⟨K % 8, by omega⟩
        have hqs : q < s.size := by rw [HZ.out]; omega
        have hm8 : m < 8 := by omega
        have hqI : (q : Int) < s.size := by omega
        obtain ⟨y, hy⟩ : ∃ y, (bl s)[q]? = some y := ⟨_, List.getElem?_eq_getElem (by rw [bl_length]; exact hqs)⟩
        have hc : W2.drew.cell? ⟨g, q, none⟩ = some (.int .u8 (y.toNat : Int)) := by
          have := H2.drew.row_cell q (u := .int .u8 (y.toNat : Int)) (by rw [Lib.strCells, List.getElem?_map, show s.data.toList[q]? = some y from hy]; rfl)
          simpa using this
        have hf : W2.drew.frozen? ⟨g, q, none⟩ = false := by
          have hcap : s.size ≤ grownCap w s.size 0 5 := grownCap_ge ..
          have := H2.drew.row_frozen q (by omega)
          simpa using this
        obtain ⟨z, hz⟩ : ∃ z, z = zb y m := ⟨_, rfl⟩
        have hx := xor_u8 y.toNat m (by have := y.toNat_lt; omega) hm8
        rw [show UInt8.ofNat ((y.toNat ^^^ 2 ^ m) % 256) = z from hz.symm] at hx
        have H3 : St w0 ((W2.setCell ⟨g, q, none⟩ (.int .u8 (bits .xor .u8 (y.toNat : Int) ((2 : Int) ^ m % 256)))).drew) (Row 5 1 (some ⟨g, 0, none⟩) s.size (grownCap w s.size 0 5) (bv ((bl s).set q z)) :: []) := by
          have h := (H2.setCell_row q (by rw [Lib.strCells_length]; exact hqs) (.int .u8 (bits .xor .u8 (y.toNat : Int) ((2 : Int) ^ m % 256)))).drew
          have e : (Lib.strCells s).set q (.int .u8 (bits .xor .u8 (y.toNat : Int) ((2 : Int) ^ m % 256))) = bv ((bl s).set q z) := by
            rw [hx, bv, List.map_set]; rfl
          rw [e, Nat.zero_add] at h
          exact h
        have hcv2 := H3.toStr (P := Try.prog) (src := 33) (dst := 9) Try.underlying33 Try.underlying5 Try.underlying9
        have HX := Lib.hid hx; clear hx
        have ht : turnL (bl s) K = (bl s).set q z := by
          unfold turnL
          rw [hz, show K / 8 = q by omega, show K % 8 = m by omega, List.getD_eq_getElem?_getD, hy]; rfl
        have HT := Lib.hid ht; have HY := Lib.hid hy; have HG := Lib.hid hg; have HZ' := Lib.hid hz; clear ht hy hg hz
        go_region
        all_goals go_wp2_with (fail)
        rw [← HT.out] at H3 ⊢
        refine (hnumber_ok _ (by rw [mkb_size, turnL_length, bl_length, HZ.out]; decide) H3).mono ?_
        rw [HBAD.out]
        dsimp only
        rintro e w5 ⟨rfl, H5⟩
        go_wp2_with (fail)
        go_ret
        exact ⟨rfl, H5.below⟩
  · have h1' : decide (id < 1) = false := decide_eq_false h1
    go_enter Try.func5, Try.ntmps5
    go_wp2_with (fail)
    refine (hspeaks_ok Hw).mono ?_
    rintro e w1 ⟨rfl, H0⟩
    by_cases hb0 : bit < 0
    · have H99 : True := trivial
      obtain ⟨K, hK⟩ : ∃ K : Nat, (100 : Int) = (K : Int) := ⟨((100 : Int)).toNat, by omega⟩
      have hKn : K < 224 := by omega
      have hbad := bits_bad id (by first | assumption | (unfold inI64; omega)) K (by omega)
      obtain ⟨s, hs⟩ : ∃ s, s = mkb (hb 1 id id) := ⟨_, rfl⟩
      have hz : s.size = 28 := by rw [hs]; exact hb_size 1 _ _
      have hbl : bl s = hb 1 id id := by rw [hs, bl_mkb]
      rw [← hbl] at hbad
      have HBAD := Lib.hid hbad; have HBL := Lib.hid hbl; have HZ := Lib.hid hz; clear hbad hbl hz
      have hcv := fun (W : World) (x : ByteArray) => Lib.run_convert_string_bytes (P := Try.prog) W 9 33 5 x Try.underlying9 Try.underlying33 Try.underlying5
      go_wp2_with (fail)
      refine (hput_ok 1 id id H0).mono ?_
      rw [← hs]
      have HS := Lib.hid hs; clear hs
      rintro e w ⟨rfl, H⟩
      have H2 := H.bytes 5 s (by rw [HZ.out]; decide)
      go_wp2_with (fail)
      obtain ⟨g, hg⟩ : ∃ g, g = w.heap.size := ⟨_, rfl⟩
      rw [← hg] at H2 ⊢
      generalize Lib.bytesWorld w 5 s = W2 at *
      try rw [hK]
      obtain ⟨q, hq⟩ : ∃ q : Nat, (K : Int) / 8 = (q : Int) := ⟨K / 8, by omega⟩
      obtain ⟨m, hm⟩ : ∃ m : Nat, (K : Int) % 8 = (m : Int) := ⟨K % 8, by omega⟩
      have hqs : q < s.size := by rw [HZ.out]; omega
      have hm8 : m < 8 := by omega
      have hqI : (q : Int) < s.size := by omega
      obtain ⟨y, hy⟩ : ∃ y, (bl s)[q]? = some y := ⟨_, List.getElem?_eq_getElem (by rw [bl_length]; exact hqs)⟩
      have hc : W2.drew.cell? ⟨g, q, none⟩ = some (.int .u8 (y.toNat : Int)) := by
        have := H2.drew.row_cell q (u := .int .u8 (y.toNat : Int)) (by rw [Lib.strCells, List.getElem?_map, show s.data.toList[q]? = some y from hy]; rfl)
        simpa using this
      have hf : W2.drew.frozen? ⟨g, q, none⟩ = false := by
        have hcap : s.size ≤ grownCap w s.size 0 5 := grownCap_ge ..
        have := H2.drew.row_frozen q (by omega)
        simpa using this
      obtain ⟨z, hz⟩ : ∃ z, z = zb y m := ⟨_, rfl⟩
      have hx := xor_u8 y.toNat m (by have := y.toNat_lt; omega) hm8
      rw [show UInt8.ofNat ((y.toNat ^^^ 2 ^ m) % 256) = z from hz.symm] at hx
      have H3 : St w0 ((W2.setCell ⟨g, q, none⟩ (.int .u8 (bits .xor .u8 (y.toNat : Int) ((2 : Int) ^ m % 256)))).drew) (Row 5 1 (some ⟨g, 0, none⟩) s.size (grownCap w s.size 0 5) (bv ((bl s).set q z)) :: []) := by
        have h := (H2.setCell_row q (by rw [Lib.strCells_length]; exact hqs) (.int .u8 (bits .xor .u8 (y.toNat : Int) ((2 : Int) ^ m % 256)))).drew
        have e : (Lib.strCells s).set q (.int .u8 (bits .xor .u8 (y.toNat : Int) ((2 : Int) ^ m % 256))) = bv ((bl s).set q z) := by
          rw [hx, bv, List.map_set]; rfl
        rw [e, Nat.zero_add] at h
        exact h
      have hcv2 := H3.toStr (P := Try.prog) (src := 33) (dst := 9) Try.underlying33 Try.underlying5 Try.underlying9
      have HX := Lib.hid hx; clear hx
      have ht : turnL (bl s) K = (bl s).set q z := by
        unfold turnL
        rw [hz, show K / 8 = q by omega, show K % 8 = m by omega, List.getD_eq_getElem?_getD, hy]; rfl
      have HT := Lib.hid ht; have HY := Lib.hid hy; have HG := Lib.hid hg; have HZ' := Lib.hid hz; clear ht hy hg hz
      go_region
      all_goals go_wp2_with (fail)
      rw [← HT.out] at H3 ⊢
      refine (hnumber_ok _ (by rw [mkb_size, turnL_length, bl_length, HZ.out]; decide) H3).mono ?_
      rw [HBAD.out]
      dsimp only
      rintro e w5 ⟨rfl, H5⟩
      go_wp2_with (fail)
      go_ret
      exact ⟨rfl, H5.below⟩
    · by_cases hb1 : 224 ≤ bit
      · obtain ⟨K, hK⟩ : ∃ K : Nat, (100 : Int) = (K : Int) := ⟨((100 : Int)).toNat, by omega⟩
        have hKn : K < 224 := by omega
        have hbad := bits_bad id (by first | assumption | (unfold inI64; omega)) K (by omega)
        obtain ⟨s, hs⟩ : ∃ s, s = mkb (hb 1 id id) := ⟨_, rfl⟩
        have hz : s.size = 28 := by rw [hs]; exact hb_size 1 _ _
        have hbl : bl s = hb 1 id id := by rw [hs, bl_mkb]
        rw [← hbl] at hbad
        have HBAD := Lib.hid hbad; have HBL := Lib.hid hbl; have HZ := Lib.hid hz; clear hbad hbl hz
        have hcv := fun (W : World) (x : ByteArray) => Lib.run_convert_string_bytes (P := Try.prog) W 9 33 5 x Try.underlying9 Try.underlying33 Try.underlying5
        go_wp2_with (fail)
        refine (hput_ok 1 id id H0).mono ?_
        rw [← hs]
        have HS := Lib.hid hs; clear hs
        rintro e w ⟨rfl, H⟩
        have H2 := H.bytes 5 s (by rw [HZ.out]; decide)
        go_wp2_with (fail)
        obtain ⟨g, hg⟩ : ∃ g, g = w.heap.size := ⟨_, rfl⟩
        rw [← hg] at H2 ⊢
        generalize Lib.bytesWorld w 5 s = W2 at *
        try rw [hK]
        obtain ⟨q, hq⟩ : ∃ q : Nat, (K : Int) / 8 = (q : Int) := ⟨K / 8, by omega⟩
        obtain ⟨m, hm⟩ : ∃ m : Nat, (K : Int) % 8 = (m : Int) := ⟨K % 8, by omega⟩
        have hqs : q < s.size := by rw [HZ.out]; omega
        have hm8 : m < 8 := by omega
        have hqI : (q : Int) < s.size := by omega
        obtain ⟨y, hy⟩ : ∃ y, (bl s)[q]? = some y := ⟨_, List.getElem?_eq_getElem (by rw [bl_length]; exact hqs)⟩
        have hc : W2.drew.cell? ⟨g, q, none⟩ = some (.int .u8 (y.toNat : Int)) := by
          have := H2.drew.row_cell q (u := .int .u8 (y.toNat : Int)) (by rw [Lib.strCells, List.getElem?_map, show s.data.toList[q]? = some y from hy]; rfl)
          simpa using this
        have hf : W2.drew.frozen? ⟨g, q, none⟩ = false := by
          have hcap : s.size ≤ grownCap w s.size 0 5 := grownCap_ge ..
          have := H2.drew.row_frozen q (by omega)
          simpa using this
        obtain ⟨z, hz⟩ : ∃ z, z = zb y m := ⟨_, rfl⟩
        have hx := xor_u8 y.toNat m (by have := y.toNat_lt; omega) hm8
        rw [show UInt8.ofNat ((y.toNat ^^^ 2 ^ m) % 256) = z from hz.symm] at hx
        have H3 : St w0 ((W2.setCell ⟨g, q, none⟩ (.int .u8 (bits .xor .u8 (y.toNat : Int) ((2 : Int) ^ m % 256)))).drew) (Row 5 1 (some ⟨g, 0, none⟩) s.size (grownCap w s.size 0 5) (bv ((bl s).set q z)) :: []) := by
          have h := (H2.setCell_row q (by rw [Lib.strCells_length]; exact hqs) (.int .u8 (bits .xor .u8 (y.toNat : Int) ((2 : Int) ^ m % 256)))).drew
          have e : (Lib.strCells s).set q (.int .u8 (bits .xor .u8 (y.toNat : Int) ((2 : Int) ^ m % 256))) = bv ((bl s).set q z) := by
            rw [hx, bv, List.map_set]; rfl
          rw [e, Nat.zero_add] at h
          exact h
        have hcv2 := H3.toStr (P := Try.prog) (src := 33) (dst := 9) Try.underlying33 Try.underlying5 Try.underlying9
        have HX := Lib.hid hx; clear hx
        have ht : turnL (bl s) K = (bl s).set q z := by
          unfold turnL
          rw [hz, show K / 8 = q by omega, show K % 8 = m by omega, List.getD_eq_getElem?_getD, hy]; rfl
        have HT := Lib.hid ht; have HY := Lib.hid hy; have HG := Lib.hid hg; have HZ' := Lib.hid hz; clear ht hy hg hz
        go_region
        all_goals go_wp2_with (fail)
        rw [← HT.out] at H3 ⊢
        refine (hnumber_ok _ (by rw [mkb_size, turnL_length, bl_length, HZ.out]; decide) H3).mono ?_
        rw [HBAD.out]
        dsimp only
        rintro e w5 ⟨rfl, H5⟩
        go_wp2_with (fail)
        go_ret
        exact ⟨rfl, H5.below⟩
      · have hb1' : decide (224 ≤ bit) = false := decide_eq_false hb1
        have hb0' : decide (bit < 0) = false := decide_eq_false hb0
        obtain ⟨K, hK⟩ : ∃ K : Nat, bit = (K : Int) := ⟨(bit).toNat, by omega⟩
        have hKn : K < 224 := by omega
        have hbad := bits_bad id (by first | assumption | (unfold inI64; omega)) K (by omega)
        obtain ⟨s, hs⟩ : ∃ s, s = mkb (hb 1 id id) := ⟨_, rfl⟩
        have hz : s.size = 28 := by rw [hs]; exact hb_size 1 _ _
        have hbl : bl s = hb 1 id id := by rw [hs, bl_mkb]
        rw [← hbl] at hbad
        have HBAD := Lib.hid hbad; have HBL := Lib.hid hbl; have HZ := Lib.hid hz; clear hbad hbl hz
        have hcv := fun (W : World) (x : ByteArray) => Lib.run_convert_string_bytes (P := Try.prog) W 9 33 5 x Try.underlying9 Try.underlying33 Try.underlying5
        go_wp2_with (fail)
        refine (hput_ok 1 id id H0).mono ?_
        rw [← hs]
        have HS := Lib.hid hs; clear hs
        rintro e w ⟨rfl, H⟩
        have H2 := H.bytes 5 s (by rw [HZ.out]; decide)
        go_wp2_with (fail)
        obtain ⟨g, hg⟩ : ∃ g, g = w.heap.size := ⟨_, rfl⟩
        rw [← hg] at H2 ⊢
        generalize Lib.bytesWorld w 5 s = W2 at *
        try rw [hK]
        obtain ⟨q, hq⟩ : ∃ q : Nat, (K : Int) / 8 = (q : Int) := ⟨K / 8, by omega⟩
        obtain ⟨m, hm⟩ : ∃ m : Nat, (K : Int) % 8 = (m : Int) := ⟨K % 8, by omega⟩
        have hqs : q < s.size := by rw [HZ.out]; omega
        have hm8 : m < 8 := by omega
        have hqI : (q : Int) < s.size := by omega
        obtain ⟨y, hy⟩ : ∃ y, (bl s)[q]? = some y := ⟨_, List.getElem?_eq_getElem (by rw [bl_length]; exact hqs)⟩
        have hc : W2.drew.cell? ⟨g, q, none⟩ = some (.int .u8 (y.toNat : Int)) := by
          have := H2.drew.row_cell q (u := .int .u8 (y.toNat : Int)) (by rw [Lib.strCells, List.getElem?_map, show s.data.toList[q]? = some y from hy]; rfl)
          simpa using this
        have hf : W2.drew.frozen? ⟨g, q, none⟩ = false := by
          have hcap : s.size ≤ grownCap w s.size 0 5 := grownCap_ge ..
          have := H2.drew.row_frozen q (by omega)
          simpa using this
        obtain ⟨z, hz⟩ : ∃ z, z = zb y m := ⟨_, rfl⟩
        have hx := xor_u8 y.toNat m (by have := y.toNat_lt; omega) hm8
        rw [show UInt8.ofNat ((y.toNat ^^^ 2 ^ m) % 256) = z from hz.symm] at hx
        have H3 : St w0 ((W2.setCell ⟨g, q, none⟩ (.int .u8 (bits .xor .u8 (y.toNat : Int) ((2 : Int) ^ m % 256)))).drew) (Row 5 1 (some ⟨g, 0, none⟩) s.size (grownCap w s.size 0 5) (bv ((bl s).set q z)) :: []) := by
          have h := (H2.setCell_row q (by rw [Lib.strCells_length]; exact hqs) (.int .u8 (bits .xor .u8 (y.toNat : Int) ((2 : Int) ^ m % 256)))).drew
          have e : (Lib.strCells s).set q (.int .u8 (bits .xor .u8 (y.toNat : Int) ((2 : Int) ^ m % 256))) = bv ((bl s).set q z) := by
            rw [hx, bv, List.map_set]; rfl
          rw [e, Nat.zero_add] at h
          exact h
        have hcv2 := H3.toStr (P := Try.prog) (src := 33) (dst := 9) Try.underlying33 Try.underlying5 Try.underlying9
        have HX := Lib.hid hx; clear hx
        have ht : turnL (bl s) K = (bl s).set q z := by
          unfold turnL
          rw [hz, show K / 8 = q by omega, show K % 8 = m by omega, List.getD_eq_getElem?_getD, hy]; rfl
        have HT := Lib.hid ht; have HY := Lib.hid hy; have HG := Lib.hid hg; have HZ' := Lib.hid hz; clear ht hy hg hz
        go_region
        all_goals go_wp2_with (fail)
        rw [← HT.out] at H3 ⊢
        refine (hnumber_ok _ (by rw [mkb_size, turnL_length, bl_length, HZ.out]; decide) H3).mono ?_
        rw [HBAD.out]
        dsimp only
        rintro e w5 ⟨rfl, H5⟩
        go_wp2_with (fail)
        go_ret
        exact ⟨rfl, H5.below⟩
theorem own : ownKnob Try.prog.godebug = none := by kernel_rfl
theorem laidOut : laidOutB Try.prog = true := by kernel_rfl
theorem readable : ∀ t ∈ Try.f5.params.toList, Try.prog.readableRec t = true ∧ t < Try.prog.types.size := by
  intro t ht
  rw [Try.params5] at ht
  simp only [List.mem_cons, List.not_mem_nil, or_false] at ht
  rcases ht with rfl | rfl
  all_goals exact ⟨by kernel_rfl, of_decide_eq_true (by kernel_rfl)⟩
theorem contract (H : Type) (enc : TypeId × Value → H) (W : World) (base : Nat) (args : Array Value) (ds gs : List (DataW H)) (before : List MemPlace)
    (hval : ∀ (j : Nat) t v, Try.f5.params[j]? = some t → args[j]? = some v → Value.okWide Try.prog W .any base t v)
    (hW : DataW.Whole enc Try.prog Try.f5.params.toList Rows.handleBitsSpec.vars false W args.toList ds gs before) :
    Calls Try.prog 5 args W fun e W' => ∃ v, e = .returned v ∧ Rows.handleBitsSpec.post enc Try.prog Try.f5 false true false false W args v W' := by
  have hW' := hW
  obtain ⟨p, q, hA0, hV, rfl, _, _⟩ := hW
  have hA : DataW.TrodAll enc Try.prog W 0 (fun _ => true) true Try.f5.params.toList args.toList ds p := hA0
  rw [Try.params5] at hA hval
  obtain ⟨v0, vs0, d0, ds0, p0, q0, hargs, rfl, rfl, h0, r0⟩ := trodAll_cons hA
  obtain ⟨v1, vs1, d1, ds1, p1, q1, rfl, rfl, rfl, h1, r1⟩ := trodAll_cons r0
  obtain ⟨rfl, rfl, rfl⟩ := trodAll_nil r1
  obtain rfl : args = #[v0, v1] := by cases args; simp_all
  obtain ⟨rfl, rfl⟩ := trodVars_none hV
  clear hA0
  obtain ⟨id, rfl, rfl, rfl, wid⟩ := open_int Try.underlying3 (hval 0 3 v0 rfl rfl) h0
  obtain ⟨bit, rfl, rfl, rfl, wbit⟩ := open_int Try.underlying3 (hval 1 3 v1 rfl rfl) h1
  refine (walk W id (wf_i64 wid) bit (wf_i64 wbit)).mono fun e W' ⟨he, hb⟩ => ?_
  exact ⟨_, he, law_post (tb := 4) laidOut readable rfl Try.underlying4 rfl hW' rfl rfl rfl hb⟩
set_option maxRecDepth 100000 in
theorem lifted (os : Os) (started : os.Started) (H : Type) (enc : TypeId × Value → H) :
    ReturnsInHanded {} Try.checked os 5 .any (Rows.handleBitsSpec.pre6 enc Try.prog Try.f5 Rows.handleBitsRow.domain false) (Rows.handleBitsSpec.post enc Try.prog Try.f5 false true false false) := by
  refine returnsInHanded_of_change (C := Try.checked) (s := Rows.handleBitsSpec) own started (by kernel_rfl) Try.func5
    (ChangeSpec.witness6 (enc := enc) (C := Try.checked) false ⟨#[], #[.int .i64 0, .int .i64 0], []⟩ 8 (by kernel_rfl) (by kernel_rfl) (by kernel_rfl) (by kernel_rfl)) ?_
  intro W base args ds gs before hval hW _ _
  exact contract H enc W base args ds gs before hval hW
theorem proved : Rows.HandleBitsSaid :=
  OpenClaim.holds_of_wide 5 Try.f5 rfl rfl rfl rfl rfl rfl rfl ⟨rfl, rfl, rfl, rfl, rfl⟩ rfl rfl rfl rfl rfl (by kernel_rfl) Try.func5 (by kernel_rfl)
    (of_decide_eq_true (by kernel_rfl)) (by unfold Func.isWrapper; first | (rw [if_pos (by decide +kernel)]; kernel_rfl) | (rw [if_neg (by decide +kernel)]; exact ⟨rfl, rfl⟩))
    (fun os started H enc _ => lifted os started H enc)
#print axioms proved

end Go.Proofs.Ythpcncebjkfjkaa.HandleBits

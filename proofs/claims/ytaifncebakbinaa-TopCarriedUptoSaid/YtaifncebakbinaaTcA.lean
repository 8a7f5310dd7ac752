/- Top: a datagram has arrived: it is one of those that were sent, and counted. -/
import Derived.Test.YtaifncebakbinaaNeT
import Derived.Test.YtaifncebakbinaaSLP
import Derived.Test.YtaifncebakbinaaCaF
import Derived.Test.YtaifncebakbinaaLiftC
import Derived.Deep.QuietTactic
namespace Go.Proofs.Ytaifncebakbinaa
open Go.RowKit

theorem arrived_no (d t : ByteArray) (hd : d.size ≤ 1099511627776) (A : Option Addr) (n c : Nat) (B : Option Addr) (k cb : Nat) (ho : openB d = (t, false)) {w0 w : World} {F : List Assn} (H : St w0 w F) :
    Calls Try.prog 12 #[.string d, .slice A n c, .slice B k cb] w fun r w' => r = .returned (.bool true) ∧ St w0 w' F := by
  have op := open_ok d hd H
  rw [ho] at op
  have OP := Lib.hid op; clear op
  go_enter Try.func12, Try.ntmps12
  go_wp2_with (fail)
  refine OP.out.mono ?_
  rintro e w1 ⟨rfl, H1⟩
  go_wp2_with (fail)
  go_ret
  exact ⟨rfl, H1⟩
set_option maxRecDepth 100000 in
set_option maxHeartbeats 1000000 in
theorem arrived_yes (d t x : ByteArray) (hd : d.size ≤ 1099511627776) (b9 o9 n c : Nat) (B : Option Addr) (k cb : Nat) (cm : List Int) (j : Nat) (v : Int) (y0 y1 : UInt8) (ho : openB d = (t, true)) (ht2 : 2 ≤ t.size) (hy0 : t[0] = y0) (hy1 : t[1] = y1)
    (hj0 : (y0.toNat : Int) = j) (hj1 : y1.toNat = 0) (hx : t.extract 2 t.size = x) (hts : t.size ≤ 1099511627776) (hcm : cm.length = k) (hjk : j < k) (hjn : j < n) (hv : cm[j]? = some v) (hv0 : 0 ≤ v) (hv1 : v ≤ 1000) {w0 w : World} {F : List Assn} (hb9 : b9 < w0.heap.size) (hcell : w.cell? ⟨b9, o9 + j, none⟩ = some (.string x))
    (H : St w0 w (Row 3 1 B k cb (ivs cm) :: F)) :
    Calls Try.prog 12 #[.string d, .slice (some ⟨b9, o9, none⟩) n c, .slice B k cb] w fun r w' => r = .returned (.bool true) ∧ St w0 w' (Row 3 1 B k cb (ivs (cm.set j (v + 1))) :: F) := by
  have op := open_ok d hd H
  rw [ho] at op
  have OP := Lib.hid op; clear op
  obtain ⟨g8, o8, hA⟩ := H.row_form (by omega)
  subst hA
  have hcell0 : w0.cell? ⟨b9, o9 + j, none⟩ = some (.string x) := by rw [← H.old (a := ⟨b9, o9 + j, none⟩) hb9]; exact hcell
  have HC0 := Lib.hid hcell0; clear hcell hcell0
  go_enter Try.func12, Try.ntmps12
  go_wp2_with (fail)
  refine OP.out.mono ?_
  rintro e w1 ⟨rfl, H1⟩
  clear OP H
  have hjb : (j : Int) < 256 := by have := y0.toNat_lt; omega
  have hjI : (j : Int) < k := by omega
  have hjN : (j : Int) < n := by omega
  have hkc : k ≤ cb := by
    rcases H1.row_cases with ⟨h, _⟩ | ⟨_, _, _, _, _, _, _, h2, _⟩
    · cases h
    · exact h2
  go_wp2_with (fail)
  go_quiet (fail)
  have H2 := H1.drewN nq
  generalize w1.drewN nq = w2 at *
  clear H1
  have c9 : w2.cell? ⟨b9, o9 + j, none⟩ = some (.string x) := by rw [H2.old (a := ⟨b9, o9 + j, none⟩) hb9]; exact HC0.out
  have hne : ((t.extract 2 t.size).toList != x.toList) = false := by rw [hx]; simp
  go_wp2_with (fail)
  go_quiet (fail)
  have H3 := H2.drewN nq
  generalize w2.drewN nq = w3 at *
  clear H2
  have c8 := H3.row_cell j (u := .int .i64 v) (by rw [ivs, List.getElem?_map, hv]; rfl)
  have f8 := H3.row_frozen j (by omega)
  have hkj : decide (k ≤ j) = false := decide_eq_false (by omega)
  have H4 := H3.setCell_row j (by rw [ivs_length]; omega) (.int .i64 (v + 1))
  have hset : (ivs cm).set j (.int .i64 (v + 1)) = ivs (cm.set j (v + 1)) := by rw [ivs, ivs, List.map_set]; rfl
  rw [hset] at H4
  clear hset hne c9 hy0 hy1
  go_wp2_with (fail)
  go_ret
  exact ⟨rfl, H4⟩
end Go.Proofs.Ytaifncebakbinaa

/- Layer 20: the pieces and the names of a file are forgotten. -/
import Derived.Test.YtnehdcaobkedpaaCaC
import Derived.Laws.IdiomRangeMap
import Derived.Deep.LoopGhost
namespace Go.Proofs.Ytnehdcaobkedpaa.Ca
open Go.Proofs.Ytnehdcaobkedpaa
open Go.RowKit
open Go.Maps

theorem lits_s_inv {d : Nat} {a : Value} {l : List Lit} (h : Try.prog.keyLits (d + 1) 9 [a] = some l) : ∃ s, a = .string s := by
  rw [Program.keyLits.eq_def] at h
  simp only [Try.underlying9] at h
  split at h <;> simp_all
theorem lits_i_inv {d : Nat} {a : Value} {l : List Lit} (h : Try.prog.keyLits (d + 1) 3 [a] = some l) : ∃ s, a = .int .i64 s := by
  rw [Program.keyLits.eq_def] at h
  simp only [Try.underlying3] at h
  split at h <;> simp_all
theorem formed_struct {P : Program} {k : TypeId} {fs : Array Field} (hk : P.underlying k = some (.struct fs)) {v : Value} (h : v.formed P k = true) : ∃ cs : Array Value, v = .agg cs ∧ cs.size = P.cellsOf k := by
  cases v <;> simp [Value.formed, hk] at h
  exact ⟨_, rfl, h⟩
set_option maxRecDepth 100000 in
theorem key_n_inv (v : Value) (kl : Lit) (h : keyOf Try.prog 85 v = some kl) : ∃ q : ByteArray × ByteArray, v = .agg #[.string q.1, .string q.2] := by
  obtain ⟨m, hm⟩ : ∃ m, Try.prog.types.size = m + 1 := ⟨_, rfl⟩
  have hc : (2 : Nat) = Try.prog.cellsOf 85 := by kernel_rfl
  rw [keyOf_struct Try.underlying85] at h
  split at h
  · rename_i hf
    simp only [Bool.and_eq_true] at hf
    obtain ⟨cs, rfl, hs⟩ := formed_struct Try.underlying85 hf.2
    rw [← hc] at hs
    obtain ⟨a, b, rfl⟩ : ∃ a b, cs = #[a, b] := by
      match cs, hs with
      | ⟨[a, b]⟩, _ => exact ⟨a, b, rfl⟩
    rw [hm, keyLits_struct Try.underlying85] at h
    simp [Value.cells, ← hc, cells_s] at h
    cases ha : Try.prog.keyLits (m + 1) 9 [a] with
    | none => simp [ha] at h
    | some la =>
      cases hb : Try.prog.keyLits (m + 1) 9 [b] with
      | none => simp [ha, hb] at h
      | some lb =>
        obtain ⟨x, rfl⟩ := lits_s_inv ha
        obtain ⟨y, rfl⟩ := lits_s_inv hb
        exact ⟨(x, y), rfl⟩
  · cases h
set_option maxRecDepth 100000 in
theorem key_p_inv (v : Value) (kl : Lit) (h : keyOf Try.prog 80 v = some kl) : ∃ q : ByteArray × Int, v = .agg #[.string q.1, .int .i64 q.2] := by
  obtain ⟨m, hm⟩ : ∃ m, Try.prog.types.size = m + 1 := ⟨_, rfl⟩
  have hc : (2 : Nat) = Try.prog.cellsOf 80 := by kernel_rfl
  rw [keyOf_struct Try.underlying80] at h
  split at h
  · rename_i hf
    simp only [Bool.and_eq_true] at hf
    obtain ⟨cs, rfl, hs⟩ := formed_struct Try.underlying80 hf.2
    rw [← hc] at hs
    obtain ⟨a, b, rfl⟩ : ∃ a b, cs = #[a, b] := by
      match cs, hs with
      | ⟨[a, b]⟩, _ => exact ⟨a, b, rfl⟩
    rw [hm, keyLits_struct Try.underlying80] at h
    simp [Value.cells, ← hc, cells_s, cells_i] at h
    cases ha : Try.prog.keyLits (m + 1) 9 [a] with
    | none => simp [ha] at h
    | some la =>
      cases hb : Try.prog.keyLits (m + 1) 3 [b] with
      | none => simp [ha, hb] at h
      | some lb =>
        obtain ⟨x, rfl⟩ := lits_s_inv ha
        obtain ⟨y, rfl⟩ := lits_i_inv hb
        exact ⟨(x, y), rfl⟩
  · cases h
theorem grown_below {w w' : World} (h : Below w.heap.size w w') : w.grownBy w' none := ⟨h.os, h.tape, h.output, h.size, fun k hk _ => h.block k hk⟩
theorem tl (s t : ByteArray) : (s.toList == t.toList) = decide (s = t) := by
  by_cases h : s = t
  · subst h; simp
  · rw [decide_eq_false h, beq_eq_false_iff_ne]
    intro e
    rw [ByteArray.toList_eq, ByteArray.toList_eq] at e
    exact h (ByteArray.ext (Array.ext' e))
def pdP (h : ByteArray) (key _v : Value) : Bool := match un2i key with | some q => decide (q.1 = h) | none => false
def pdN (h : ByteArray) (key v : Value) : Bool := match un2 key, un2i v with | some q, some x => decide (q.1 = h) || decide (x.1 = h) | _, _ => false
theorem drop1_ok (bc : Nat) (h x s : ByteArray) (k : Int) (w : World) (hc : w.cell? ⟨bc, 0, none⟩ = some (.string h)) :
    Calls Try.prog 32 #[.agg #[.string x, .int .i64 k], .agg #[.string s], .pointer (some ⟨bc, 0, none⟩)] w fun e w' => e = .returned (.bool (decide (x = h))) ∧ w.grownBy w' none := by
  have hb : Below w.heap.size w w := Below.refl _ _
  have hlt := World.block_lt_of_cell? w _ hc
  have e1 := tl x h
  go_enter Try.func32, Try.ntmps32
  go_wp2_with (fail)
  go_ret
  exact ⟨rfl, grown_below ((hb.alloc (Nat.le_refl _) _).alloc (by simp) _)⟩
theorem forget1_ok (bc : Nat) (h x y s : ByteArray) (k : Int) (w : World) (hc : w.cell? ⟨bc, 0, none⟩ = some (.string h)) :
    Calls Try.prog 30 #[.agg #[.string x, .string y], .agg #[.string s, .int .i64 k], .pointer (some ⟨bc, 0, none⟩)] w fun e w' => e = .returned (.bool (decide (x = h) || decide (s = h))) ∧ w.grownBy w' none := by
  have hb : Below w.heap.size w w := Below.refl _ _
  have hlt := World.block_lt_of_cell? w _ hc
  have e1 := tl x h
  have e2 := tl s h
  cases hx : decide (x = h) <;> rw [hx] at e1
  · rw [Bool.false_or]
    go_enter Try.func30, Try.ntmps30
    go_wp2_with (fail)
    go_ret
    exact ⟨rfl, grown_below ((hb.alloc (Nat.le_refl _) _).alloc (by simp) _)⟩
  · rw [Bool.true_or]
    go_enter Try.func30, Try.ntmps30
    go_wp2_with (fail)
    go_ret
    exact ⟨rfl, grown_below ((hb.alloc (Nat.le_refl _) _).alloc (by simp) _)⟩
theorem cell_grown {w W : World} {b : Nat} {a : Addr} {v : Value} (hg : w.grownBy W (some b)) (h : w.cell? a = some v) (hne : a.block ≠ b) : W.cell? a = some v := hg.cell h (by intro e; exact hne (Option.some.inj e))
theorem cell_two (w1 : World) (cs cs2 : Array Value) (t t2 : TypeId) (i : Nat) (v : Value) (h : cs[i]? = some v) : ((w1.alloc (.cells cs t)).alloc (.cells cs2 t2)).cell? ⟨w1.heap.size, i, none⟩ = some v := by
  have hlt : w1.heap.size < (w1.alloc (.cells cs t)).heap.size := by simp
  have hb : Below (w1.alloc (.cells cs t)).heap.size (w1.alloc (.cells cs t)) ((w1.alloc (.cells cs t)).alloc (.cells cs2 t2)) := (Below.refl _ _).alloc (Nat.le_refl _) _
  refine (hb.cell (p := ⟨w1.heap.size, i, none⟩) hlt).trans ?_
  simp only [World.cell?, heap_alloc_new]
  simpa using h
set_option maxHeartbeats 4000000 in
set_option maxRecDepth 100000 in
theorem delp_ok (bc : Nat) (h : ByteArray) (b n : Nat) (D : DataW Value) (w : World) (hown : w.ownsMap Try.prog 80 (R0 shP) b n D) (hc : w.cell? ⟨bc, 0, none⟩ = some (.string h)) (hne : bc ≠ b) :
    Calls Try.prog 31 #[.map (some b), .func (.func 32) #[] #[.pointer (some ⟨bc, 0, none⟩)]] w fun e w' =>
      e = .returned (.tuple #[]) ∧ w'.ownsMap Try.prog 80 (R0 shP) b n (Lib.deleteFuncD (pdL Try.prog 80 (pdP h)) D) ∧ w.grownBy w' (some b) := by
  obtain ⟨es0, rfl, hap, hkeys⟩ := hown.entries law_p
  have K := law_p
  go_enter Try.func31, Try.ntmps31
  go_wp2_with (first  | (at_range; refine wpList_range_own _ rfl _ 70 rfl 80 78 K Try.underlying70 (R0 shP) b n _ rfl hown ?_; intro w0 hrg0 hg0 hs0)  | fail)
  go_frame
  go_loopw [8] (fun _ wr => ∃ (left : Lit → Bool) (cnt : Nat), wr.ranges Try.prog 80 (R0 shP) b w.heap.size n (Fk (pdL Try.prog 80 (pdP h)) es0 left) left cnt ∧ w.grownBy wr (some b)) (fun _ wr => wr.rangeLeft b w.heap.size)
  case atStart => exact ⟨_, _, by rw [Fk_start hkeys]; exact hrg0, hg0.but _⟩
  case round =>
    obtain ⟨left, cnt, hrg, hgw⟩ := hrel
    go_wp2_with (first  | (at_next; refine wpList_next_ranges _ rfl _ rfl 80 K (R0 shP) (fun q : ByteArray × Int => .agg #[.string q.1, .int .i64 q.2]) valP key_p_inv (fun v y hv => (R0_some hv).1) b w.heap.size n _ _ _ rfl hrg ?_ ?_)  | fail)
    · intro _ hl0
      go_wp2
      go_end0
      exact ⟨rfl, by rw [← Fk_end hl0]; exact hrg.owns, hgw⟩
    · intro qh qk x kl yd yp w1 cnt1 hkey hlx hv hat hrg1 hlt hg1 hs1 hen
      obtain ⟨_, hy⟩ := R0_some hv
      cases hy
      have hp := pdL_at K (pdP h) (v := valP x) hkey
      have hp2 : pdP h (.agg #[.string qh, .int .i64 qk]) (valP x) = decide (qh = h) := rfl
      rw [hp2] at hp
      have hltb := World.block_lt_of_cell? w _ hc
      have hgw1 := hgw.andThen hg1 (fun j hj => by cases hj; exact Or.inl (Nat.le_refl _))
      have hc1 := cell_grown hgw1 hc hne
      have hc2 : ((w1.alloc (.cells #[.string qh, .int .i64 qk] 80)).alloc (.cells #[.string x] 78)).cell? ⟨bc, 0, none⟩ = some (.string h) := by
        exact (((Below.refl _ w1).alloc (Nat.le_refl _) _).alloc (by simp) _).cell (World.block_lt_of_cell? _ _ hc1) |>.trans hc1
      have hd := drop1_ok bc h qh x qk _ hc2
      have hrg2 := (hrg1.alloc (.cells #[.string qh, .int .i64 qk] 80)).alloc (.cells #[.string x] 78)
      dsimp only [valP] at *
      go_wp2_with (fail)
      cases hq : decide (qh = h) <;> rw [hq] at hp
      · refine (drop1_ok bc h qh x qk _ hc2).mono ?_
        rw [hq]
        rintro e w2 ⟨rfl, hg2⟩
        have hrg3 := hrg2.kept hg2 (by simp) (by simp)
        go_wp2_with (fail)
        go_roundw
        case rel => exact ⟨_, cnt1, by rw [← Fk_stays hap (K.key hkey) hlx hp hat]; exact hrg3, (hgw1.andThen ((World.grownBy_alloc w1 _ none).andThen (World.grownBy_alloc _ _ none) (fun j hj => by cases hj)) (fun j hj => by cases hj)).andThen hg2 (fun j hj => by cases hj)⟩
        case measure => rw [hrg3.left_eq, hrg.left_eq]; exact hlt
      · refine (drop1_ok bc h qh x qk _ hc2).mono ?_
        rw [hq]
        rintro e w2 ⟨rfl, hg2⟩
        have hrg3 := hrg2.kept hg2 (by simp) (by simp)
        have d0 : w2.cell? ⟨wr.heap.size, 0, none⟩ = some (.string qh) := hg2.cell (by rw [← hs1]; exact cell_two _ _ _ _ _ 0 _ rfl) (by simp)
        have d1 : w2.cell? ⟨wr.heap.size, 1, none⟩ = some (.int .i64 qk) := hg2.cell (by rw [← hs1]; exact cell_two _ _ _ _ _ 1 _ rfl) (by simp)
        go_wp2_with (first  | (at_delete; refine wpList_delete_ranges _ rfl _ _ 70 80 rfl 78 K Try.underlying70 (R0 shP) b w.heap.size n _ _ _ rfl hrg3 _ _ rfl hkey ?_; intro w3 cnt3 hrg4 hle hturn; go_frame)  | fail)
        rw [strike_twice] at hrg4
        go_roundw
        case rel => exact ⟨_, cnt3, by rw [← Fk_struck hap (K.key hkey) hlx hp hat]; exact hrg4, ((hgw1.andThen ((World.grownBy_alloc w1 _ none).andThen (World.grownBy_alloc _ _ none) (fun j hj => by cases hj)) (fun j hj => by cases hj)).andThen hg2 (fun j hj => by cases hj)).andThen hturn.grown (fun j hj => by cases hj; exact Or.inr rfl)⟩
        case measure => rw [hrg4.left_eq, hrg.left_eq]; omega
set_option maxHeartbeats 4000000 in
set_option maxRecDepth 100000 in
theorem deln_ok (bc : Nat) (h : ByteArray) (b n : Nat) (D : DataW Value) (w : World) (hown : w.ownsMap Try.prog 85 (R0 shN) b n D) (hc : w.cell? ⟨bc, 0, none⟩ = some (.string h)) (hne : bc ≠ b) :
    Calls Try.prog 29 #[.map (some b), .func (.func 30) #[] #[.pointer (some ⟨bc, 0, none⟩)]] w fun e w' =>
      e = .returned (.tuple #[]) ∧ w'.ownsMap Try.prog 85 (R0 shN) b n (Lib.deleteFuncD (pdL Try.prog 85 (pdN h)) D) ∧ w.grownBy w' (some b) := by
  obtain ⟨es0, rfl, hap, hkeys⟩ := hown.entries law_n
  have K := law_n
  go_enter Try.func29, Try.ntmps29
  go_wp2_with (first  | (at_range; refine wpList_range_own _ rfl _ 69 rfl 85 83 K Try.underlying69 (R0 shN) b n _ rfl hown ?_; intro w0 hrg0 hg0 hs0)  | fail)
  go_frame
  go_loopw [8] (fun _ wr => ∃ (left : Lit → Bool) (cnt : Nat), wr.ranges Try.prog 85 (R0 shN) b w.heap.size n (Fk (pdL Try.prog 85 (pdN h)) es0 left) left cnt ∧ w.grownBy wr (some b)) (fun _ wr => wr.rangeLeft b w.heap.size)
  case atStart => exact ⟨_, _, by rw [Fk_start hkeys]; exact hrg0, hg0.but _⟩
  case round =>
    obtain ⟨left, cnt, hrg, hgw⟩ := hrel
    go_wp2_with (first  | (at_next; refine wpList_next_ranges _ rfl _ rfl 85 K (R0 shN) (fun q : ByteArray × ByteArray => .agg #[.string q.1, .string q.2]) valN key_n_inv (fun v y hv => (R0_some hv).1) b w.heap.size n _ _ _ rfl hrg ?_ ?_)  | fail)
    · intro _ hl0
      go_wp2
      go_end0
      exact ⟨rfl, by rw [← Fk_end hl0]; exact hrg.owns, hgw⟩
    · intro qh qk xh xn kl yd yp w1 cnt1 hkey hlx hv hat hrg1 hlt hg1 hs1 hen
      obtain ⟨_, hy⟩ := R0_some hv
      cases hy
      have hp := pdL_at K (pdN h) (v := valN (xh, xn)) hkey
      have hp2 : pdN h (.agg #[.string qh, .string qk]) (valN (xh, xn)) = (decide (qh = h) || decide (xh = h)) := rfl
      rw [hp2] at hp
      have hltb := World.block_lt_of_cell? w _ hc
      have hgw1 := hgw.andThen hg1 (fun j hj => by cases hj; exact Or.inl (Nat.le_refl _))
      have hc1 := cell_grown hgw1 hc hne
      have hc2 : ((w1.alloc (.cells #[.string qh, .string qk] 85)).alloc (.cells #[.string xh, .int .i64 xn] 83)).cell? ⟨bc, 0, none⟩ = some (.string h) := by
        exact (((Below.refl _ w1).alloc (Nat.le_refl _) _).alloc (by simp) _).cell (World.block_lt_of_cell? _ _ hc1) |>.trans hc1
      have hd := forget1_ok bc h qh qk xh xn _ hc2
      have hrg2 := (hrg1.alloc (.cells #[.string qh, .string qk] 85)).alloc (.cells #[.string xh, .int .i64 xn] 83)
      dsimp only [valN] at *
      go_wp2_with (fail)
      cases hq : (decide (qh = h) || decide (xh = h)) <;> rw [hq] at hp
      · refine (forget1_ok bc h qh qk xh xn _ hc2).mono ?_
        rw [hq]
        rintro e w2 ⟨rfl, hg2⟩
        have hrg3 := hrg2.kept hg2 (by simp) (by simp)
        go_wp2_with (fail)
        go_roundw
        case rel => exact ⟨_, cnt1, by rw [← Fk_stays hap (K.key hkey) hlx hp hat]; exact hrg3, (hgw1.andThen ((World.grownBy_alloc w1 _ none).andThen (World.grownBy_alloc _ _ none) (fun j hj => by cases hj)) (fun j hj => by cases hj)).andThen hg2 (fun j hj => by cases hj)⟩
        case measure => rw [hrg3.left_eq, hrg.left_eq]; exact hlt
      · refine (forget1_ok bc h qh qk xh xn _ hc2).mono ?_
        rw [hq]
        rintro e w2 ⟨rfl, hg2⟩
        have hrg3 := hrg2.kept hg2 (by simp) (by simp)
        have d0 : w2.cell? ⟨wr.heap.size, 0, none⟩ = some (.string qh) := hg2.cell (by rw [← hs1]; exact cell_two _ _ _ _ _ 0 _ rfl) (by simp)
        have d1 : w2.cell? ⟨wr.heap.size, 1, none⟩ = some (.string qk) := hg2.cell (by rw [← hs1]; exact cell_two _ _ _ _ _ 1 _ rfl) (by simp)
        go_wp2_with (first  | (at_delete; refine wpList_delete_ranges _ rfl _ _ 69 85 rfl 83 K Try.underlying69 (R0 shN) b w.heap.size n _ _ _ rfl hrg3 _ _ rfl hkey ?_; intro w3 cnt3 hrg4 hle hturn; go_frame)  | fail)
        rw [strike_twice] at hrg4
        go_roundw
        case rel => exact ⟨_, cnt3, by rw [← Fk_struck hap (K.key hkey) hlx hp hat]; exact hrg4, ((hgw1.andThen ((World.grownBy_alloc w1 _ none).andThen (World.grownBy_alloc _ _ none) (fun j hj => by cases hj)) (fun j hj => by cases hj)).andThen hg2 (fun j hj => by cases hj)).andThen hturn.grown (fun j hj => by cases hj; exact Or.inr rfl)⟩
        case measure => rw [hrg4.left_eq, hrg.left_eq]; omega
end Go.Proofs.Ytnehdcaobkedpaa.Ca

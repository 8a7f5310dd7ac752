/- CacheScripts: a cache through every script answers as the document says: of ages and acts of bulk at most 1048576. -/
import Derived.Test.YtnehdcaobkedpaaCrH
import Derived.Test.YtnehdcaobkedpaaLiftC
import Derived.Deep.LoopGhost
namespace Go.Proofs.Ytnehdcaobkedpaa.CacheScripts
open Go.RowKit Go.ChangeShapes Go.WideShapes Go.ChangeAt Go.Proofs.Ytnehdcaobkedpaa Go.Proofs.Ytnehdcaobkedpaa.Ca
open Go.ChangeMaps (open_string shut_string)

structure Act where
  what : Int
  now : Int
  size : Int
  s : Int
  k : Int
  handle : ByteArray
  name : ByteArray
  data : ByteArray
def Act.cells (x : Act) : List Value := [.int .i64 x.what, .int .i64 x.now, .int .i64 x.size, .int .i64 x.s, .int .i64 x.k, .string x.handle, .string x.name, .string x.data]
def Act.ok (x : Act) : Prop := (-9223372036854775808 ≤ x.what ∧ x.what ≤ 9223372036854775807) ∧ (-9223372036854775808 ≤ x.now ∧ x.now ≤ 9223372036854775807) ∧ (-9223372036854775808 ≤ x.size ∧ x.size ≤ 9223372036854775807) ∧ (-9223372036854775808 ≤ x.s ∧ x.s ≤ 9223372036854775807) ∧ (-9223372036854775808 ≤ x.k ∧ x.k ≤ 9223372036854775807)
def Act.kinds : List SK := [.int .i64, .int .i64, .int .i64, .int .i64, .int .i64, .str, .str, .str]
theorem Act.of_row : ∀ row : List Value, RowS Act.kinds row → ∃ x : Act, row = x.cells ∧ x.ok := by
  intro row h
  have hl := RowS_length h
  match row, hl, h with
  | [v0, v1, v2, v3, v4, v5, v6, v7], _, h =>
    obtain ⟨⟨x0, rfl, h0⟩, ⟨x1, rfl, h1⟩, ⟨x2, rfl, h2⟩, ⟨x3, rfl, h3⟩, ⟨x4, rfl, h4⟩, ⟨x5, rfl, _⟩, ⟨x6, rfl, _⟩, ⟨x7, rfl, _⟩, _⟩ := h
    exact ⟨⟨x0, x1, x2, x3, x4, x5, x6, x7⟩, rfl, ⟨wf_i64 h0, wf_i64 h1, wf_i64 h2, wf_i64 h3, wf_i64 h4⟩⟩

theorem str_le {l : List Act} {x : Act} (hx : x ∈ l) (h : sumW (l.map Act.cells) ≤ 1048576) : x.handle.size ≤ 1048576 ∧ x.name.size ≤ 1048576 ∧ x.data.size ≤ 1048576 := by
  have h1 : wts x.cells ≤ sumW (l.map Act.cells) := sumW_mem (List.mem_map.2 ⟨x, hx, rfl⟩)
  simp only [Act.cells, wts, wt] at h1
  omega
theorem mod_eq (m x : Int) (hm : 0 < m) (hm2 : m ≤ 1000) : (wrap64 (x.tmod m + m)).tmod m = x % m := by
  have h1 := Int.lt_tmod_of_pos x hm
  have h2 := Int.tmod_lt_of_pos x hm
  have hw : wrap64 (x.tmod m + m) = x.tmod m + m := by unfold wrap64; omega
  rw [hw, Int.tmod_eq_emod_of_nonneg (a := x.tmod m + m) (by omega), Int.add_emod_right]
  rcases Int.le_total 0 x with h0 | h0
  · rw [Int.tmod_eq_emod_of_nonneg h0, Int.emod_emod]
  · have := Int.tmod_eq_emod_of_nonneg (a := -x) (b := m) (by omega)
    rw [Int.neg_tmod] at this
    have e : x.tmod m = -((-x) % m) := by omega
    rw [e]
    have := Int.emod_add_mul_ediv (-x) m
    rw [show -((-x) % m) = x + m * ((-x) / m) by omega, Int.add_mul_emod_self_left]
set_option maxRecDepth 100000 in
set_option maxHeartbeats 40000000 in
theorem walk (w : World) (age : Int) (hage : -9223372036854775808 ≤ age ∧ age ≤ 9223372036854775807) (B : Option Addr) (m d : Nat) (q : List Act) (hrd2 : SlRd w B m 8 (q.map Act.cells)) (hm : m ≤ 1048576) (hsum2 : sumW (q.map Act.cells) ≤ 1048576) (hok2 : ∀ x ∈ q, x.ok) :
    Calls Try.prog 5 #[.int .i64 age, .slice B m d] w fun r w' => r = .returned (.bool true) ∧ Below w.heap.size w w' := by
  have H0 := St.init w
  have hlm : q.length = m := by have := hrd2.1; simpa using this
  have HLM := Lib.hid hlm; have HRD2 := Lib.hid hrd2; have HSM := Lib.hid hsum2; have HOK := Lib.hid hok2
  clear hlm hrd2 hsum2 hok2
  go_enter Try.func5, Try.ntmps5
  go_wp2_with (fail)
  refine (speaks_ok H0).mono ?_
  rintro e w1 ⟨rfl, H1⟩
  go_wp2_with (fail)
  refine (new_ok age H1).mono ?_
  rintro e w2 ⟨b1, bf, bn, bp, rfl, H2⟩
  clear H1
  go_wp2_with (fail)
  refine (refnew_ok age H2).mono ?_
  rintro e w3 ⟨b2, rfl, H3⟩
  clear H2
  have I3 : Inv 0 b1 b2 (nCS b1 bf bn bp age) ⟨b2, max age 0, [], [], []⟩ := ⟨rfl, rfl, ⟨rfl, fun _ => rfl, fun _ _ => rfl, fun _ _ => rfl, fun x hx => (by cases hx), fun x hx => (by cases hx)⟩, Nat.le_refl _, Nat.le_refl _, Nat.le_refl _, Nat.le_refl _, Nat.le_refl _, Nat.le_refl _, by show 0 ≤ max age 0; omega, by show inI (max age 0); unfold inI; omega⟩
  have H4 : St w w3 ((nCS b1 bf bn bp age).own [RCx ⟨b2, max age 0, [], [], []⟩]) := H3.ord 5 [1, 2, 3, 4, 0]
  clear H3
  go_wp2_with (fail)
  go_loopw [7] (fun iv wr => ∃ (i : Nat) (C : CS) (r : RC), i ≤ m ∧ iv = .int .i64 i ∧ Inv i b1 b2 C r ∧ St w wr (C.own [RCx r])) (fun iv _ => m - (intOf iv).toNat)
  case atStart => exact ⟨0, _, _, Nat.zero_le _, rfl, I3, H4⟩
  case round =>
    obtain ⟨i, C, r, hi, rfl, I, H5⟩ := hrel
    clear H4 I3
    by_cases hlt : i < m
    · obtain ⟨x, hx⟩ : ∃ x, q[i]? = some x := ⟨_, List.getElem?_eq_getElem (by rw [HLM.out]; exact hlt)⟩
      obtain ⟨bq, o, hA, hb, hd0, hcell⟩ := SlRd.at HRD2.out H5.below (i := i) (row := x.cells) (by rw [List.getElem?_map, hx]; rfl)
      have hxs := str_le (List.mem_of_getElem? hx) HSM.out
      have hxo := HOK.out x (List.mem_of_getElem? hx)
      have hc0 := hd0 _ rfl
      have hc1 := hcell 1 _ rfl
      have hc2 := hcell 2 _ rfl
      have hc3 := hcell 3 _ rfl
      have hc4 := hcell 4 _ rfl
      have hc5 := hcell 5 _ rfl
      have hc6 := hcell 6 _ rfl
      have hc7 := hcell 7 _ rfl
      subst hA
      clear hcell hd0 hx
      obtain ⟨xw, xn, xz, xs, xk, xh, xm, xd⟩ := x
      dsimp only at *
      have hiI : (i : Int) < m := by omega
      have H6 := H5.alloc #[.int .i64 xw, .int .i64 xn, .int .i64 xz, .int .i64 xs, .int .i64 xk, .string xh, .string xm, .string xd] 46
      have hbn : bq ≠ wr.heap.size := by have := H5.size; omega
      obtain ⟨r8, hr⟩ : ∃ r8, r8 = xw % 8 := ⟨_, rfl⟩
      have he := mod_eq 8 xw (by decide) (by decide)
      rw [← hr] at he
      have hr8 : r8 = 0 ∨ r8 = 1 ∨ r8 = 2 ∨ r8 = 3 ∨ r8 = 4 ∨ r8 = 5 ∨ r8 = 6 ∨ r8 = 7 := by omega
      clear hr
      obtain ⟨bx, hbx⟩ : ∃ bx, bx = wr.heap.size := ⟨_, rfl⟩
      go_upto_region 9 with (fail)
      rw [← hbx] at H6 ⊢
      clear hc0 hc1 hc2 hc3 hc4 hc5 hc6 hc7 H5 hbn
      generalize wr.alloc (.cells #[.int .i64 xw, .int .i64 xn, .int .i64 xz, .int .i64 xs, .int .i64 xk, .string xh, .string xm, .string xd] 46) = w5 at *
      clear hbx
      have p0 := H6.cell 0 (v := .int .i64 xw) rfl
      have p1 := H6.cell 1 (v := .int .i64 xn) rfl
      have p2 := H6.cell 2 (v := .int .i64 xz) rfl
      have p3 := H6.cell 3 (v := .int .i64 xs) rfl
      have p4 := H6.cell 4 (v := .int .i64 xk) rfl
      have p5 := H6.cell 5 (v := .string xh) rfl
      have p6 := H6.cell 6 (v := .string xm) rfl
      have p7 := H6.cell 7 (v := .string xd) rfl
      have hzh : xh.size ≤ maxLen := by unfold maxLen; omega
      have hzm : xm.size ≤ maxLen := by unfold maxLen; omega
      unfold Act.ok at hxo
      dsimp only at hxo
      obtain ⟨_, hxn, hxz, hxs2, hxk⟩ := hxo
      have hin : inI xn := hxn
      have hik : inI xk := hxk
      have hIb := I.b
      have hIr := I.rb
      have hra : 0 ≤ r.age := by rw [← I.R.age]; exact I.a0
      have hra2 : inI r.age := by rw [← I.R.age]; exact I.a1
      have n1 := I.nf
      have n2 := I.nn
      have n3 := I.np
      have n4 := I.fl
      have n5 := I.nl
      have n6 := I.pl
      have HI := Lib.hid I
      clear I
      have H7 : St w w5 (C.own [RCx r, Pt bx #[.int .i64 xw, .int .i64 xn, .int .i64 xz, .int .i64 xs, .int .i64 xk, .string xh, .string xm, .string xd] 46]) := H6.ord 6 [1, 2, 3, 4, 5, 0]
      rcases hr8 with rfl | rfl | rfl | rfl | rfl | rfl | rfl | rfl
      · as_aux_lemma =>
        have I2 := HI.out.learn ⟨xh, xz, xs, xk, (i : Int), xn⟩ hin
        have hch := HI.out.R.chd ⟨xh, xz, xs, xk, (i : Int), xn⟩
        dsimp only at I2 hch
        obtain ⟨cv, hcv⟩ : ∃ cv, cv = r.chd ⟨xh, xz, xs, xk, (i : Int), xn⟩ := ⟨_, rfl⟩
        rw [← hcv] at hch
        have HI2 := Lib.hid I2; have HCH := Lib.hid hch; have HCV := Lib.hid hcv; clear I2 hch hcv
        have H8 := H7.alloc #[.string xh, .int .i64 xz, .int .i64 xs, .int .i64 xk, .int .i64 (i : Int), .int .i64 xn] 48
        go_wp2_with (fail)
        clear p0 p1 p2 p3 p4 p5 p6 p7 H7 H6
        generalize w5.heap.size = b10 at *
        generalize w5.alloc (.cells #[.string xh, .int .i64 xz, .int .i64 xs, .int .i64 xk, .int .i64 (i : Int), .int .i64 xn] 48) = w6 at *
        refine wp_region_held_drew (S := fun w' => w'.cell? ⟨bx, 1, none⟩ = some (.int .i64 xn) ∧ w'.cell? ⟨bx, 2, none⟩ = some (.int .i64 xz) ∧ w'.cell? ⟨bx, 3, none⟩ = some (.int .i64 xs) ∧ w'.cell? ⟨bx, 4, none⟩ = some (.int .i64 xk) ∧ w'.cell? ⟨bx, 5, none⟩ = some (.string xh) ∧ w'.rangeAt b10 0 [.string xh, .int .i64 xz, .int .i64 xs, .int .i64 xk, .int .i64 (i : Int), .int .i64 xn]) (by kernel_rfl) ⟨(H8.drew.ord 7 [6, 0, 1, 2, 3, 4, 5]).cell 1 (v := .int .i64 xn) rfl, (H8.drew.ord 7 [6, 0, 1, 2, 3, 4, 5]).cell 2 (v := .int .i64 xz) rfl, (H8.drew.ord 7 [6, 0, 1, 2, 3, 4, 5]).cell 3 (v := .int .i64 xs) rfl, (H8.drew.ord 7 [6, 0, 1, 2, 3, 4, 5]).cell 4 (v := .int .i64 xk) rfl, (H8.drew.ord 7 [6, 0, 1, 2, 3, 4, 5]).cell 5 (v := .string xh) rfl, (show _ from (H8.drew.ord 7 [0, 1, 2, 3, 4, 5, 6]).range)⟩ (fun hHeld => ?_)
        have H9 := H8.drew
        clear H8
        generalize w6.drew = w7 at *
        refine rg_take (i := 0) (v := ?_) rfl (by kernel_rfl) (by kernel_rfl) (by kernel_rfl) (fun _ _ _ h => h) (Or.inl ⟨by kernel_rfl, ?_⟩) (by assumption) ?_
        rotate_left 1
        · intro w' hSw
          try dsimp only at hSw
          go_simp
          first | done | with_reducible rfl
        simp only [Act.put, List.setIfInBounds_toArray, List.set_cons_zero, List.set_cons_succ]
        refine rg_take (i := 1) (v := ?_) rfl (by kernel_rfl) (by kernel_rfl) (by kernel_rfl) (fun _ _ _ h => h) (Or.inl ⟨by kernel_rfl, ?_⟩) (by assumption) ?_
        rotate_left 1
        · intro w' hSw
          try dsimp only at hSw
          go_simp
          first | done | with_reducible rfl
        simp only [Act.put, List.setIfInBounds_toArray, List.set_cons_zero, List.set_cons_succ]
        refine rg_take (i := 2) (v := ?_) rfl (by kernel_rfl) (by kernel_rfl) (by kernel_rfl) (fun _ _ _ h => h) (Or.inl ⟨by kernel_rfl, ?_⟩) (by assumption) ?_
        rotate_left 1
        · intro w' hSw
          try dsimp only at hSw
          go_simp
          first | done | with_reducible rfl
        simp only [Act.put, List.setIfInBounds_toArray, List.set_cons_zero, List.set_cons_succ]
        refine rg_take (i := 3) (v := ?_) rfl (by kernel_rfl) (by kernel_rfl) (by kernel_rfl) (fun _ _ _ h => h) (Or.inl ⟨by kernel_rfl, ?_⟩) (by assumption) ?_
        rotate_left 1
        · intro w' hSw
          try dsimp only at hSw
          go_simp
          first | done | with_reducible rfl
        simp only [Act.put, List.setIfInBounds_toArray, List.set_cons_zero, List.set_cons_succ]
        refine rg_take (i := 4) (v := ?_) rfl (by kernel_rfl) (by kernel_rfl) (by kernel_rfl) (fun _ _ _ h => h) (Or.inl ⟨by kernel_rfl, ?_⟩) (by assumption) ?_
        rotate_left 1
        · intro w' hSw
          try dsimp only at hSw
          go_simp
          first | done | with_reducible rfl
        simp only [Act.put, List.setIfInBounds_toArray, List.set_cons_zero, List.set_cons_succ]
        refine rg_take (i := 5) (v := ?_) rfl (by kernel_rfl) (by kernel_rfl) (by kernel_rfl) (fun _ _ _ h => h) (Or.inl ⟨by kernel_rfl, ?_⟩) (by assumption) ?_
        rotate_left 1
        · intro w' hSw
          try dsimp only at hSw
          go_simp
          first | done | with_reducible rfl
        simp only [Act.put, List.setIfInBounds_toArray, List.set_cons_zero, List.set_cons_succ]
        refine rg_take (i := 6) (v := ?_) rfl (by kernel_rfl) (by kernel_rfl) (by kernel_rfl) (fun _ _ _ h => h) (Or.inl ⟨by kernel_rfl, ?_⟩) (by assumption) ?_
        rotate_left 1
        · intro w' hSw
          try dsimp only at hSw
          go_simp
          first | done | with_reducible rfl
        simp only [Act.put, List.setIfInBounds_toArray, List.set_cons_zero, List.set_cons_succ]
        refine rg_take (i := 7) (v := ?_) rfl (by kernel_rfl) (by kernel_rfl) (by kernel_rfl) (fun _ _ _ h => h) (Or.inl ⟨by kernel_rfl, ?_⟩) (by assumption) ?_
        rotate_left 1
        · intro w' hSw
          try dsimp only at hSw
          go_simp
          first | done | with_reducible rfl
        simp only [Act.put, List.setIfInBounds_toArray, List.set_cons_zero, List.set_cons_succ]
        refine rg_take (i := 8) (v := ?_) rfl (by kernel_rfl) (by kernel_rfl) (by kernel_rfl) (fun _ _ _ h => h) (Or.inl ⟨by kernel_rfl, ?_⟩) (by assumption) ?_
        rotate_left 1
        · intro w' hSw
          try dsimp only at hSw
          go_simp
          first | done | with_reducible rfl
        simp only [Act.put, List.setIfInBounds_toArray, List.set_cons_zero, List.set_cons_succ]
        refine rg_take (i := 9) (v := ?_) rfl (by kernel_rfl) (by kernel_rfl) (by kernel_rfl) (fun _ _ _ h => h) (Or.inl ⟨by kernel_rfl, ?_⟩) (by assumption) ?_
        rotate_left 1
        · intro w' hSw
          try dsimp only at hSw
          go_simp
          first | done | with_reducible rfl
        simp only [Act.put, List.setIfInBounds_toArray, List.set_cons_zero, List.set_cons_succ]
        refine rg_take (i := 10) (v := ?_) rfl (by kernel_rfl) (by kernel_rfl) (by kernel_rfl) (fun _ _ _ h => h) (Or.inl ⟨by kernel_rfl, ?_⟩) (by assumption) ?_
        rotate_left 1
        · intro w' hSw
          try dsimp only at hSw
          go_simp
          first | done | with_reducible rfl
        simp only [Act.put, List.setIfInBounds_toArray, List.set_cons_zero, List.set_cons_succ]
        refine rg_take (i := 11) (v := ?_) rfl (by kernel_rfl) (by kernel_rfl) (by kernel_rfl) (fun _ _ _ h => h) (Or.inl ⟨by kernel_rfl, ?_⟩) (by assumption) ?_
        rotate_left 1
        · intro w' hSw
          try dsimp only at hSw
          go_simp
          first | done | with_reducible rfl
        simp only [Act.put, List.setIfInBounds_toArray, List.set_cons_zero, List.set_cons_succ]
        refine rg_take (i := 12) (v := ?_) rfl (by kernel_rfl) (by kernel_rfl) (by kernel_rfl) (fun _ _ _ h => h) (Or.inl ⟨by kernel_rfl, ?_⟩) (by assumption) ?_
        rotate_left 1
        · intro w' hSw
          try dsimp only at hSw
          go_simp
          first | done | with_reducible rfl
        simp only [Act.put, List.setIfInBounds_toArray, List.set_cons_zero, List.set_cons_succ]
        refine rg_take (i := 13) (v := ?_) rfl (by kernel_rfl) (by kernel_rfl) (by kernel_rfl) (fun _ _ _ h => h) (Or.inl ⟨by kernel_rfl, ?_⟩) (by assumption) ?_
        rotate_left 1
        · intro w' hSw
          try dsimp only at hSw
          go_simp
          first | done | with_reducible rfl
        simp only [Act.put, List.setIfInBounds_toArray, List.set_cons_zero, List.set_cons_succ]
        refine rg_take (i := 15) (v := ?_) rfl (by kernel_rfl) (by kernel_rfl) (by kernel_rfl) (fun _ _ _ h => h) (Or.inl ⟨by kernel_rfl, ?_⟩) (by assumption) ?_
        rotate_left 1
        · intro w' hSw
          try dsimp only at hSw
          go_simp
          first | done | with_reducible rfl
        simp only [Act.put, List.setIfInBounds_toArray, List.set_cons_zero, List.set_cons_succ]
        refine rg_take (i := 16) (v := _) rfl (by kernel_rfl) (by kernel_rfl) (by kernel_rfl) (fun _ _ _ h => h) (yieldsIf_load_mid (by kernel_rfl) 48 _ rfl b10 0 rfl [.string xh, .int .i64 xz, .int .i64 xs, .int .i64 xk, .int .i64 (i : Int), .int .i64 xn] _ (fun w' h => h.2.2.2.2.2) Try.underlying48 rfl (by kernel_rfl)) hHeld ?_
        simp only [Act.put, List.setIfInBounds_toArray, List.set_cons_zero, List.set_cons_succ]
        have la := learn_ok C xh xz (i : Int) xs xk xn hzh (by unfold maxLen; omega) (H9.ord 7 [1, 2, 3, 4, 0, 5, 6])
        rw [HCH.out, hIb] at la
        refine wpAnyH_ready (rs := [14]) (by kernel_rfl) (by simp) ?_
        refine rg_cons rfl (fun K hK => ?_) AllReadyH.nil
        go_simp
        refine la.mono ?_
        rintro e w8 ⟨rfl, H10⟩
        refine hK.out _ _ ⟨(H10.ord 7 [6, 0, 1, 2, 3, 4, 5]).cell 1 (v := .int .i64 xn) rfl, (H10.ord 7 [6, 0, 1, 2, 3, 4, 5]).cell 2 (v := .int .i64 xz) rfl, (H10.ord 7 [6, 0, 1, 2, 3, 4, 5]).cell 3 (v := .int .i64 xs) rfl, (H10.ord 7 [6, 0, 1, 2, 3, 4, 5]).cell 4 (v := .int .i64 xk) rfl, (H10.ord 7 [6, 0, 1, 2, 3, 4, 5]).cell 5 (v := .string xh) rfl, (show _ from (H10.ord 7 [4, 0, 1, 2, 3, 5, 6]).range)⟩ (fun hHeld => ?_)
        clear hK
        try simp only [Act.put, List.setIfInBounds_toArray, List.set_cons_zero, List.set_cons_succ]
        clear la H9
        have lb := reflearn_ok r ⟨xh, xz, xs, xk, (i : Int), xn⟩ hin hra hra2 HI.out.R.rf (by omega) (by omega) (H10.ord 7 [5, 0, 1, 2, 3, 4, 6])
        rw [← HCV.out, hIr] at lb
        refine wpAnyH_ready (rs := [17]) (by kernel_rfl) (by simp) ?_
        refine rg_cons rfl (fun K hK => ?_) AllReadyH.nil
        go_simp
        refine lb.mono ?_
        rintro e w9 ⟨rfl, H11⟩
        refine hK.out _ _ ⟨(H11.ord 7 [6, 0, 1, 2, 3, 4, 5]).cell 1 (v := .int .i64 xn) rfl, (H11.ord 7 [6, 0, 1, 2, 3, 4, 5]).cell 2 (v := .int .i64 xz) rfl, (H11.ord 7 [6, 0, 1, 2, 3, 4, 5]).cell 3 (v := .int .i64 xs) rfl, (H11.ord 7 [6, 0, 1, 2, 3, 4, 5]).cell 4 (v := .int .i64 xk) rfl, (H11.ord 7 [6, 0, 1, 2, 3, 4, 5]).cell 5 (v := .string xh) rfl, (show _ from (H11.ord 7 [5, 0, 1, 2, 3, 4, 6]).range)⟩ (fun hHeld => ?_)
        clear hK
        try simp only [Act.put, List.setIfInBounds_toArray, List.set_cons_zero, List.set_cons_succ]
        clear lb H10
        refine rg_take (i := 18) (v := ?_) rfl (by kernel_rfl) (by kernel_rfl) (by kernel_rfl) (fun _ _ _ h => h) (Or.inl ⟨by kernel_rfl, ?_⟩) (by assumption) ?_
        rotate_left 1
        · intro w' hSw
          try dsimp only at hSw
          go_simp
          first | done | with_reducible rfl
        simp only [Act.put, List.setIfInBounds_toArray, List.set_cons_zero, List.set_cons_succ]
        refine rg_take (i := 19) (v := ?_) rfl (by kernel_rfl) (by kernel_rfl) (by kernel_rfl) (fun _ _ _ h => h) (Or.inl ⟨by kernel_rfl, ?_⟩) (by assumption) ?_
        rotate_left 1
        · intro w' hSw
          try dsimp only at hSw
          go_simp
          first | done | with_reducible rfl
        simp only [Act.put, List.setIfInBounds_toArray, List.set_cons_zero, List.set_cons_succ]
        refine wpAnyH_done (by kernel_rfl) ?_ _
        clear hHeld
        go_wp2_with (fail)
        refine ⟨⟨i + 1, _, _, by omega, by go_num, HI2.out, (H11.ord 7 [5, 6, 1, 2, 3, 4, 0]).tail.tail⟩, by simp [intOf]; omega⟩
      · as_aux_lemma =>
        have na := attr_ok C xh xn hzh hin HI.out.a0 HI.out.a1 (fun y hy => by
          rw [HI.out.R.f xh] at hy
          obtain ⟨z, hz, rfl⟩ := Option.map_eq_some_iff.1 hy
          exact HI.out.R.rf z (lastOf_some hz).1) H7
        obtain ⟨t1, t2⟩ := HI.out.R.attr xh xn
        obtain ⟨v, hv⟩ : ∃ v, v = r.attr xh xn := ⟨_, rfl⟩
        have lo : ∀ (w' : World) (F : List Assn) (H' : St w w' (RCx r :: F)), _ := fun w' F H' => refattr_ok r xh xn hin hra hra2 HI.out.R.rf (w := w') (w0 := w) (F := F) H'
        rw [t1, t2, ← hv, hIb] at na
        rw [← hv] at lo
        rw [hIr] at lo
        obtain ⟨xf, fb⟩ := v
        dsimp only at na lo
        have LO0 := Lib.hid lo; clear lo hv t1 t2
        cases fb with
        | true =>
          rw [if_pos rfl] at na
          have NA := Lib.hid na; clear na
          go_wp2_with (fail)
          refine NA.out.mono ?_
          rintro e w6 ⟨rfl, H8⟩
          clear NA p0 p1 p2 p3 p4 p5 p6 p7 H7 H6
          have HZ := H8.alloc (attrC 0 0 0 0) 30
          go_wp2_with (with_reducible refine hold_store ?_)
          unfold Hold
          with_reducible refine wpList_store_st (ty := 30) (HZ) (attrC xf.size xf.id xf.s xf.n) ?_ ?_ ?_ ?_ ?_ ?_ ?_
          rfl
          rfl
          rfl
          rfl
          kernel_rfl
          rfl
          intro w7 H9
          clear HZ H8
          generalize w6.heap.size = b11 at *
          have p1 := (H9.ord 7 [6, 0, 1, 2, 3, 4, 5]).cell 1 (v := .int .i64 xn) rfl
          have p5 := (H9.ord 7 [6, 0, 1, 2, 3, 4, 5]).cell 5 (v := .string xh) rfl
          go_wp2_with (fail)
          refine (LO0.out _ _ (H9.ord 7 [5, 0, 1, 2, 3, 4, 6])).mono ?_
          rintro e w8 ⟨rfl, H10⟩
          clear LO0 p1 p5 H9
          have HZ := H10.alloc zC 48
          go_wp2_with (with_reducible refine hold_store ?_)
          unfold Hold
          with_reducible refine wpList_store_st (ty := 48) (HZ) (xf.cells.toArray) ?_ ?_ ?_ ?_ ?_ ?_ ?_
          rfl
          rfl
          rfl
          rfl
          kernel_rfl
          rfl
          intro w9 H11
          clear HZ H10
          generalize w8.heap.size = b13 at *
          have hgd : Try.prog.eqGuardType Try.prog.depth 30 = false := by kernel_rfl
          have z1 := H11.cell 1 (v := .int .i64 xf.size) rfl
          have z2 := H11.cell 2 (v := .int .i64 xf.s) rfl
          have z3 := H11.cell 3 (v := .int .i64 xf.n) rfl
          have z4 := H11.cell 4 (v := .int .i64 xf.id) rfl
          have HL := H11.ord 8 [2, 0, 1, 3, 4, 5, 6, 7]
          go_wp2_with ((with_reducible refine wpList_load_st (ty := 30) (HL) ?_ ?_ Try.underlying30 ?_ ?_ ?_); rfl; rfl; rfl; kernel_rfl)
          refine ⟨⟨i + 1, C, r, by omega, by go_num, HI.out.mono, (H11.ord 8 [0, 2, 7, 3, 4, 5, 6, 1]).tail.tail.tail⟩, by simp [intOf]; omega⟩
        | false =>
          rw [if_neg (by decide)] at na
          have NA := Lib.hid na; clear na
          go_wp2_with (fail)
          refine NA.out.mono ?_
          rintro e w6 ⟨rfl, H8⟩
          clear NA p0 p1 p2 p3 p4 p5 p6 p7 H7 H6
          have HZ := H8.alloc (attrC 0 0 0 0) 30
          go_wp2_with (with_reducible refine hold_store ?_)
          unfold Hold
          with_reducible refine wpList_store_st (ty := 30) (HZ) (attrC 0 0 0 0) ?_ ?_ ?_ ?_ ?_ ?_ ?_
          rfl
          rfl
          rfl
          rfl
          kernel_rfl
          rfl
          intro w7 H9
          clear HZ H8
          generalize w6.heap.size = b11 at *
          have p1 := (H9.ord 7 [6, 0, 1, 2, 3, 4, 5]).cell 1 (v := .int .i64 xn) rfl
          have p5 := (H9.ord 7 [6, 0, 1, 2, 3, 4, 5]).cell 5 (v := .string xh) rfl
          go_wp2_with (fail)
          refine (LO0.out _ _ (H9.ord 7 [5, 0, 1, 2, 3, 4, 6])).mono ?_
          rintro e w8 ⟨rfl, H10⟩
          clear LO0 p1 p5 H9
          have HZ := H10.alloc zC 48
          go_wp2_with (with_reducible refine hold_store ?_)
          unfold Hold
          with_reducible refine wpList_store_st (ty := 48) (HZ) (xf.cells.toArray) ?_ ?_ ?_ ?_ ?_ ?_ ?_
          rfl
          rfl
          rfl
          rfl
          kernel_rfl
          rfl
          intro w9 H11
          clear HZ H10
          generalize w8.heap.size = b13 at *
          have hgd : Try.prog.eqGuardType Try.prog.depth 30 = false := by kernel_rfl
          have z1 := H11.cell 1 (v := .int .i64 xf.size) rfl
          have z2 := H11.cell 2 (v := .int .i64 xf.s) rfl
          have z3 := H11.cell 3 (v := .int .i64 xf.n) rfl
          have z4 := H11.cell 4 (v := .int .i64 xf.id) rfl
          have HL := H11.ord 8 [2, 0, 1, 3, 4, 5, 6, 7]
          go_wp2_with ((with_reducible refine wpList_load_st (ty := 30) (HL) ?_ ?_ Try.underlying30 ?_ ?_ ?_); rfl; rfl; rfl; kernel_rfl)
          refine ⟨⟨i + 1, C, r, by omega, by go_num, HI.out.mono, (H11.ord 8 [0, 2, 7, 3, 4, 5, 6, 1]).tail.tail.tail⟩, by simp [intOf]; omega⟩
      · as_aux_lemma =>
        have la := bind_ok C xh xm xd xn hzh hzm (by unfold maxLen; omega) H7
        have I2 := HI.out.bind xh xm xd xn hin
        rw [hIb] at la I2
        have LA := Lib.hid la; have HI2 := Lib.hid I2; clear la I2
        obtain ⟨i0, hj, hz0, hz1, hz2⟩ := info_parts infoN
        go_wp2_with (fail)
        refine LA.out.mono ?_
        rintro e w6 ⟨rfl, H8⟩
        clear LA p0 p1 p2 p3 p4 p5 p6 p7 H7 H6
        have H9 := H8.ord 6 [4, 5, 0, 1, 2, 3]
        clear H8
        obtain ⟨A1, c1, A2, c2, A3, c3, H9'⟩ := St.openR H9
        clear H9
        rw [hIr] at H9'
        go_wp2_with (fail)
        refine wp_region_held_drew (S := fun w' => w'.cell? ⟨bx, 5, none⟩ = some (.string xh) ∧ w'.cell? ⟨bx, 6, none⟩ = some (.string xm) ∧ w'.cell? ⟨bx, 7, none⟩ = some (.string xd) ∧ w'.cell? ⟨bx, 1, none⟩ = some (.int .i64 xn)) (by kernel_rfl) ⟨(H9'.drew).r5.cell 5 (v := .string xh) rfl, (H9'.drew).r5.cell 6 (v := .string xm) rfl, (H9'.drew).r5.cell 7 (v := .string xd) rfl, (H9'.drew).r5.cell 1 (v := .int .i64 xn) rfl⟩ (fun hHeld => ?_)
        have H10 := H9'.drew
        clear H9'
        generalize w6.drew = wa at *
        refine rg_take (i := 0) (v := ?_) rfl (by kernel_rfl) (by kernel_rfl) (by kernel_rfl) (fun _ _ _ h => h) (Or.inl ⟨by kernel_rfl, ?_⟩) (by assumption) ?_
        rotate_left 1
        · intro w' hSw
          try dsimp only at hSw
          go_simp
          first | done | with_reducible rfl
        simp only [Act.put, List.setIfInBounds_toArray, List.set_cons_zero, List.set_cons_succ]
        refine rg_take (i := 1) (v := ?_) rfl (by kernel_rfl) (by kernel_rfl) (by kernel_rfl) (fun _ _ _ h => h) (Or.inl ⟨by kernel_rfl, ?_⟩) (by assumption) ?_
        rotate_left 1
        · intro w' hSw
          try dsimp only at hSw
          go_simp
          first | done | with_reducible rfl
        simp only [Act.put, List.setIfInBounds_toArray, List.set_cons_zero, List.set_cons_succ]
        refine rg_take (i := 2) (v := ?_) rfl (by kernel_rfl) (by kernel_rfl) (by kernel_rfl) (fun _ _ _ h => h) (Or.inl ⟨by kernel_rfl, ?_⟩) (by assumption) ?_
        rotate_left 1
        · intro w' hSw
          try dsimp only at hSw
          go_simp
          first | done | with_reducible rfl
        simp only [Act.put, List.setIfInBounds_toArray, List.set_cons_zero, List.set_cons_succ]
        refine rg_take (i := 3) (v := ?_) rfl (by kernel_rfl) (by kernel_rfl) (by kernel_rfl) (fun _ _ _ h => h) (Or.inl ⟨by kernel_rfl, ?_⟩) (by assumption) ?_
        rotate_left 1
        · intro w' hSw
          try dsimp only at hSw
          go_simp
          first | done | with_reducible rfl
        simp only [Act.put, List.setIfInBounds_toArray, List.set_cons_zero, List.set_cons_succ]
        refine rg_take (i := 5) (v := ?_) rfl (by kernel_rfl) (by kernel_rfl) (by kernel_rfl) (fun _ _ _ h => h) (Or.inl ⟨by kernel_rfl, ?_⟩) (by assumption) ?_
        rotate_left 1
        · intro w' hSw
          try dsimp only at hSw
          go_simp
          first | done | with_reducible rfl
        simp only [Act.put, List.setIfInBounds_toArray, List.set_cons_zero, List.set_cons_succ]
        refine rg_take (i := 6) (v := ?_) rfl (by kernel_rfl) (by kernel_rfl) (by kernel_rfl) (fun _ _ _ h => h) (Or.inl ⟨by kernel_rfl, ?_⟩) (by assumption) ?_
        rotate_left 1
        · intro w' hSw
          try dsimp only at hSw
          go_simp
          first | done | with_reducible rfl
        simp only [Act.put, List.setIfInBounds_toArray, List.set_cons_zero, List.set_cons_succ]
        refine rg_take (i := 7) (v := ?_) rfl (by kernel_rfl) (by kernel_rfl) (by kernel_rfl) (fun _ _ _ h => h) (Or.inl ⟨by kernel_rfl, ?_⟩) (by assumption) ?_
        rotate_left 1
        · intro w' hSw
          try dsimp only at hSw
          go_simp
          first | done | with_reducible rfl
        simp only [Act.put, List.setIfInBounds_toArray, List.set_cons_zero, List.set_cons_succ]
        refine rg_take (i := 8) (v := ?_) rfl (by kernel_rfl) (by kernel_rfl) (by kernel_rfl) (fun _ _ _ h => h) (Or.inl ⟨by kernel_rfl, ?_⟩) (by assumption) ?_
        rotate_left 1
        · intro w' hSw
          try dsimp only at hSw
          go_simp
          first | done | with_reducible rfl
        simp only [Act.put, List.setIfInBounds_toArray, List.set_cons_zero, List.set_cons_succ]
        refine rg_take (i := 9) (v := ?_) rfl (by kernel_rfl) (by kernel_rfl) (by kernel_rfl) (fun _ _ _ h => h) (Or.inl ⟨by kernel_rfl, ?_⟩) (by assumption) ?_
        rotate_left 1
        · intro w' hSw
          try dsimp only at hSw
          go_simp
          first | done | with_reducible rfl
        simp only [Act.put, List.setIfInBounds_toArray, List.set_cons_zero, List.set_cons_succ]
        refine rg_take (i := 10) (v := ?_) rfl (by kernel_rfl) (by kernel_rfl) (by kernel_rfl) (fun _ _ _ h => h) (Or.inl ⟨by kernel_rfl, ?_⟩) (by assumption) ?_
        rotate_left 1
        · intro w' hSw
          try dsimp only at hSw
          go_simp
          first | done | with_reducible rfl
        simp only [Act.put, List.setIfInBounds_toArray, List.set_cons_zero, List.set_cons_succ]
        refine rg_take (i := 11) (v := ?_) rfl (by kernel_rfl) (by kernel_rfl) (by kernel_rfl) (fun _ _ _ h => h) (Or.inl ⟨by kernel_rfl, ?_⟩) (by assumption) ?_
        rotate_left 1
        · intro w' hSw
          try dsimp only at hSw
          go_simp
          first | done | with_reducible rfl
        simp only [Act.put, List.setIfInBounds_toArray, List.set_cons_zero, List.set_cons_succ]
        refine rg_take (i := 12) (v := ?_) rfl (by kernel_rfl) (by kernel_rfl) (by kernel_rfl) (fun _ _ _ h => h) (Or.inl ⟨by kernel_rfl, ?_⟩) (by assumption) ?_
        rotate_left 1
        · intro w' hSw
          try dsimp only at hSw
          go_simp
          first | done | with_reducible rfl
        simp only [Act.put, List.setIfInBounds_toArray, List.set_cons_zero, List.set_cons_succ]
        refine rg_take (i := 13) (v := ?_) rfl (by kernel_rfl) (by kernel_rfl) (by kernel_rfl) (fun _ _ _ h => h) (Or.inl ⟨by kernel_rfl, ?_⟩) (by assumption) ?_
        rotate_left 1
        · intro w' hSw
          try dsimp only at hSw
          go_simp
          first | done | with_reducible rfl
        simp only [Act.put, List.setIfInBounds_toArray, List.set_cons_zero, List.set_cons_succ]
        refine wpAnyH_ready (rs := [4, 14]) (by kernel_rfl) (by simp) ?_
        refine rg_cons rfl (fun K hK => ?_) (rg_cons rfl (fun K hK => ?_) AllReadyH.nil)
        · have pl_ := H10.cell 2 (v := .slice A2 r.nl.length c2) rfl
          go_simp
          refine hK.out _ _ hHeld (fun hHeld => ?_)
          clear hK
          try simp only [Act.put, List.setIfInBounds_toArray, List.set_cons_zero, List.set_cons_succ]
          clear pl_
          refine wpAnyH_ready (rs := [14]) (by kernel_rfl) (by simp) ?_
          refine rg_cons rfl (fun K hK => ?_) AllReadyH.nil
          have H11 := H10.more (.cells #[.string xh, .string xm, .string xd, .int .i64 xn] 58)
          have hnw : (wa.alloc (.cells #[.string xh, .string xm, .string xd, .int .i64 xn] 58)).heap[wa.heap.size]? = some (.cells #[.string xh, .string xm, .string xd, .int .i64 xn] 58) := heap_alloc_new _ _
          go_simp
          refine hK.out _ _ ⟨H11.r5.cell 5 (v := .string xh) rfl, H11.r5.cell 6 (v := .string xm) rfl, H11.r5.cell 7 (v := .string xd) rfl, H11.r5.cell 1 (v := .int .i64 xn) rfl⟩ (fun hHeld => ?_)
          generalize wa.heap.size = x8 at *
          generalize wa.alloc (.cells #[.string xh, .string xm, .string xd, .int .i64 xn] 58) = wb at *
          clear hK
          try simp only [Act.put, List.setIfInBounds_toArray, List.set_cons_zero, List.set_cons_succ]
          clear H10
          refine wpAnyH_ready (rs := [15]) (by kernel_rfl) (by simp) ?_
          refine rg_cons rfl (fun K hK => ?_) AllReadyH.nil
          have hnws := World.news_of_block hnw
          refine step_append_st rfl _ _ _ rfl 58 i0 (.agg #[.string ⟨#[]⟩, .string ⟨#[]⟩, .string ⟨#[]⟩, .int .i64 0]) 4 56 Try.underlying52 hj hz0 hz1 hz2 rfl (by decide) A2 r.nl.length c2 (r.nl.flatMap NR.cells) H11.r3 rfl ⟨x8, 0, none⟩ 1 1 (⟨xh, xm, xd, xn⟩ : NR).cells rfl rfl hnws (fun u hu => by simp [NR.cells] at hu; rcases hu with rfl | rfl | rfl | rfl <;> rfl) (by unfold maxLen; omega) (by omega) ?_
          intro A5 c5 wc H12
          rw [← flat_snoc] at H12
          refine hK.out _ _ ⟨H12.r5.cell 5 (v := .string xh) rfl, H12.r5.cell 6 (v := .string xm) rfl, H12.r5.cell 7 (v := .string xd) rfl, H12.r5.cell 1 (v := .int .i64 xn) rfl⟩ (fun hHeld => ?_)
          clear hK
          try simp only [Act.put, List.setIfInBounds_toArray, List.set_cons_zero, List.set_cons_succ]
          refine rg_take (i := 16) (v := ?_) rfl (by kernel_rfl) (by kernel_rfl) (by kernel_rfl) (fun _ _ _ h => h) (Or.inl ⟨by kernel_rfl, ?_⟩) (by assumption) ?_
          rotate_left 1
          · intro w' hSw
            try dsimp only at hSw
            go_simp
            first | done | with_reducible rfl
          simp only [Act.put, List.setIfInBounds_toArray, List.set_cons_zero, List.set_cons_succ]
          refine rg_take (i := 17) (v := ?_) rfl (by kernel_rfl) (by kernel_rfl) (by kernel_rfl) (fun _ _ _ h => h) (Or.inl ⟨by kernel_rfl, ?_⟩) (by assumption) ?_
          rotate_left 1
          · intro w' hSw
            try dsimp only at hSw
            go_simp
            first | done | with_reducible rfl
          simp only [Act.put, List.setIfInBounds_toArray, List.set_cons_zero, List.set_cons_succ]
          refine wpAnyH_ready (rs := [18]) (by kernel_rfl) (by simp) ?_
          refine rg_cons rfl (fun K hK => ?_) AllReadyH.nil
          have pl_ := H12.r2.cell 2 (v := .slice A2 r.nl.length c2) rfl
          have f1 := H12.r2.frozen 2
          have H13 := H12.r2.set 2 (.slice A5 (r.nl.length + 1) c5)
          go_simp
          refine hK.out _ _ ⟨H13.r5.cell 5 (v := .string xh) rfl, H13.r5.cell 6 (v := .string xm) rfl, H13.r5.cell 7 (v := .string xd) rfl, H13.r5.cell 1 (v := .int .i64 xn) rfl⟩ (fun hHeld => ?_)
          clear hK
          try simp only [Act.put, List.setIfInBounds_toArray, List.set_cons_zero, List.set_cons_succ]
          refine wpAnyH_done (by kernel_rfl) ?_ _
          clear hHeld pl_ f1
          have H14 := H13.ord 5 [0, 2, 1, 3, 4]
          clear H13 H12 H11 hnw hnws
          generalize wc.setCell ⟨b2, 2, none⟩ (.slice A5 (r.nl.length + 1) c5) = wd at *
          rw [← hIr] at H14
          have H15 := St.shutR (r := { r with nl := r.nl ++ [(⟨xh, xm, xd, xn⟩ : NR)] }) (n2 := r.nl.length + 1) rfl (by simp) rfl H14
          clear H14
          go_wp2_with (fail)
          refine ⟨⟨i + 1, _, _, by omega, by go_num, HI2.out, (H15.ord 6 [1, 2, 3, 4, 5, 0]).tail⟩, by simp [intOf]; omega⟩
        · have H11 := H10.more (.cells #[.string xh, .string xm, .string xd, .int .i64 xn] 58)
          have hnw : (wa.alloc (.cells #[.string xh, .string xm, .string xd, .int .i64 xn] 58)).heap[wa.heap.size]? = some (.cells #[.string xh, .string xm, .string xd, .int .i64 xn] 58) := heap_alloc_new _ _
          go_simp
          refine hK.out _ _ ⟨H11.r5.cell 5 (v := .string xh) rfl, H11.r5.cell 6 (v := .string xm) rfl, H11.r5.cell 7 (v := .string xd) rfl, H11.r5.cell 1 (v := .int .i64 xn) rfl⟩ (fun hHeld => ?_)
          generalize wa.heap.size = x8 at *
          generalize wa.alloc (.cells #[.string xh, .string xm, .string xd, .int .i64 xn] 58) = wb at *
          clear hK
          try simp only [Act.put, List.setIfInBounds_toArray, List.set_cons_zero, List.set_cons_succ]
          clear H10
          refine wpAnyH_ready (rs := [4]) (by kernel_rfl) (by simp) ?_
          refine rg_cons rfl (fun K hK => ?_) AllReadyH.nil
          have pl_ := H11.cell 2 (v := .slice A2 r.nl.length c2) rfl
          go_simp
          refine hK.out _ _ hHeld (fun hHeld => ?_)
          clear hK
          try simp only [Act.put, List.setIfInBounds_toArray, List.set_cons_zero, List.set_cons_succ]
          clear pl_
          refine wpAnyH_ready (rs := [15]) (by kernel_rfl) (by simp) ?_
          refine rg_cons rfl (fun K hK => ?_) AllReadyH.nil
          have hnws := World.news_of_block hnw
          refine step_append_st rfl _ _ _ rfl 58 i0 (.agg #[.string ⟨#[]⟩, .string ⟨#[]⟩, .string ⟨#[]⟩, .int .i64 0]) 4 56 Try.underlying52 hj hz0 hz1 hz2 rfl (by decide) A2 r.nl.length c2 (r.nl.flatMap NR.cells) H11.r3 rfl ⟨x8, 0, none⟩ 1 1 (⟨xh, xm, xd, xn⟩ : NR).cells rfl rfl hnws (fun u hu => by simp [NR.cells] at hu; rcases hu with rfl | rfl | rfl | rfl <;> rfl) (by unfold maxLen; omega) (by omega) ?_
          intro A5 c5 wc H12
          rw [← flat_snoc] at H12
          refine hK.out _ _ ⟨H12.r5.cell 5 (v := .string xh) rfl, H12.r5.cell 6 (v := .string xm) rfl, H12.r5.cell 7 (v := .string xd) rfl, H12.r5.cell 1 (v := .int .i64 xn) rfl⟩ (fun hHeld => ?_)
          clear hK
          try simp only [Act.put, List.setIfInBounds_toArray, List.set_cons_zero, List.set_cons_succ]
          refine rg_take (i := 16) (v := ?_) rfl (by kernel_rfl) (by kernel_rfl) (by kernel_rfl) (fun _ _ _ h => h) (Or.inl ⟨by kernel_rfl, ?_⟩) (by assumption) ?_
          rotate_left 1
          · intro w' hSw
            try dsimp only at hSw
            go_simp
            first | done | with_reducible rfl
          simp only [Act.put, List.setIfInBounds_toArray, List.set_cons_zero, List.set_cons_succ]
          refine rg_take (i := 17) (v := ?_) rfl (by kernel_rfl) (by kernel_rfl) (by kernel_rfl) (fun _ _ _ h => h) (Or.inl ⟨by kernel_rfl, ?_⟩) (by assumption) ?_
          rotate_left 1
          · intro w' hSw
            try dsimp only at hSw
            go_simp
            first | done | with_reducible rfl
          simp only [Act.put, List.setIfInBounds_toArray, List.set_cons_zero, List.set_cons_succ]
          refine wpAnyH_ready (rs := [18]) (by kernel_rfl) (by simp) ?_
          refine rg_cons rfl (fun K hK => ?_) AllReadyH.nil
          have pl_ := H12.r2.cell 2 (v := .slice A2 r.nl.length c2) rfl
          have f1 := H12.r2.frozen 2
          have H13 := H12.r2.set 2 (.slice A5 (r.nl.length + 1) c5)
          go_simp
          refine hK.out _ _ ⟨H13.r5.cell 5 (v := .string xh) rfl, H13.r5.cell 6 (v := .string xm) rfl, H13.r5.cell 7 (v := .string xd) rfl, H13.r5.cell 1 (v := .int .i64 xn) rfl⟩ (fun hHeld => ?_)
          clear hK
          try simp only [Act.put, List.setIfInBounds_toArray, List.set_cons_zero, List.set_cons_succ]
          refine wpAnyH_done (by kernel_rfl) ?_ _
          clear hHeld pl_ f1
          have H14 := H13.ord 5 [0, 2, 1, 3, 4]
          clear H13 H12 H11 hnw hnws
          generalize wc.setCell ⟨b2, 2, none⟩ (.slice A5 (r.nl.length + 1) c5) = wd at *
          rw [← hIr] at H14
          have H15 := St.shutR (r := { r with nl := r.nl ++ [(⟨xh, xm, xd, xn⟩ : NR)] }) (n2 := r.nl.length + 1) rfl (by simp) rfl H14
          clear H14
          go_wp2_with (fail)
          refine ⟨⟨i + 1, _, _, by omega, by go_num, HI2.out, (H15.ord 6 [1, 2, 3, 4, 5, 0]).tail⟩, by simp [intOf]; omega⟩
      · as_aux_lemma =>
        have na := name_ok C xh xm xn hzh hzm hin HI.out.a0 HI.out.a1 (fun y hy => by
          rw [HI.out.R.n xh xm] at hy
          obtain ⟨z, hz, rfl⟩ := Option.map_eq_some_iff.1 hy
          exact HI.out.R.rn z (lastOf_some hz).1) H7
        rw [HI.out.R.name xh xm xn, hIb] at na
        obtain ⟨v, hv⟩ : ∃ v, v = r.look xh xm xn := ⟨_, rfl⟩
        have lo := fun w' H' => look_ok r xh xm xn hin hra hra2 HI.out.R.rn (w := w') (w0 := w) (F := Pt bx #[.int .i64 xw, .int .i64 xn, .int .i64 xz, .int .i64 xs, .int .i64 xk, .string xh, .string xm, .string xd] 46 :: C.own []) H'
        rw [← hv] at na lo
        rw [hIr] at lo
        obtain ⟨v1, v2⟩ := v
        dsimp only at na lo
        have NA := Lib.hid na; have LO := Lib.hid lo; clear na lo hv
        go_wp2_with (fail)
        refine NA.out.mono ?_
        rintro e w6 ⟨rfl, H8⟩
        clear NA p0 p1 p2 p3 p4 p5 p6 p7 H7 H6
        have H9 := H8.ord 6 [4, 5, 0, 1, 2, 3]
        clear H8
        have p1 := H9.r2.cell 1 (v := .int .i64 xn) rfl
        have p5 := H9.r2.cell 5 (v := .string xh) rfl
        have p6 := H9.r2.cell 6 (v := .string xm) rfl
        go_wp2_with (fail)
        refine (LO.out _ H9).mono ?_
        rintro e w7 ⟨rfl, H10⟩
        clear LO p1 p5 p6 H9
        go_wp2_with (fail)
        refine ⟨⟨i + 1, C, r, by omega, by go_num, HI.out.mono, (H10.ord 6 [2, 3, 4, 5, 0, 1]).ord 6 [5, 0, 1, 2, 3, 4] |>.tail⟩, by simp [intOf]; omega⟩
      · as_aux_lemma =>
        have la := loose_ok C xh xm hzh hzm H7
        have lb := fun w' H' => refloose_ok r xh xm (by omega) (w := w') (w0 := w) (F := Pt bx #[.int .i64 xw, .int .i64 xn, .int .i64 xz, .int .i64 xs, .int .i64 xk, .string xh, .string xm, .string xd] 46 :: CS.own { C with nm := C.nm.del xh xm } []) H'
        have I2 := HI.out.loose xh xm
        rw [hIb] at la
        rw [hIr] at lb
        rw [hIb] at lb
        rw [hIb, hIr] at I2
        have LA := Lib.hid la; have LB := Lib.hid lb; have HI2 := Lib.hid I2; clear la lb I2
        go_wp2_with (fail)
        refine LA.out.mono ?_
        rintro e w6 ⟨rfl, H8⟩
        clear LA p0 p1 p2 p3 p4 p5 p6 p7 H7 H6
        have H9 := H8.ord 6 [4, 5, 0, 1, 2, 3]
        clear H8
        have p5 := H9.r2.cell 5 (v := .string xh) rfl
        have p6 := H9.r2.cell 6 (v := .string xm) rfl
        go_wp2_with (fail)
        refine (LB.out _ H9).mono ?_
        rintro e w7 ⟨rfl, H10⟩
        clear LB p5 p6 H9
        go_wp2_with (fail)
        refine ⟨⟨i + 1, _, _, by omega, by go_num, HI2.out, (H10.ord 6 [1, 2, 3, 4, 5, 0]).tail⟩, by simp [intOf]; omega⟩
      · as_aux_lemma =>
        have la := hold_ok C xh xk xd hzh hik (by unfold maxLen; omega) H7
        have I2 := HI.out.hold xh xk xd
        rw [hIb] at la I2
        have LA := Lib.hid la; have HI2 := Lib.hid I2; clear la I2
        obtain ⟨i0, hj, hz0, hz1, hz2⟩ := info_parts infoP
        go_wp2_with (fail)
        refine LA.out.mono ?_
        rintro e w6 ⟨rfl, H8⟩
        clear LA p0 p1 p2 p3 p4 p5 p6 p7 H7 H6
        have H9 := H8.ord 6 [4, 5, 0, 1, 2, 3]
        clear H8
        obtain ⟨A1, c1, A2, c2, A3, c3, H9'⟩ := St.openR H9
        clear H9
        rw [hIr] at H9'
        go_wp2_with (fail)
        refine wp_region_held_drew (S := fun w' => w'.cell? ⟨bx, 5, none⟩ = some (.string xh) ∧ w'.cell? ⟨bx, 4, none⟩ = some (.int .i64 xk) ∧ w'.cell? ⟨bx, 7, none⟩ = some (.string xd)) (by kernel_rfl) ⟨(H9'.drew).r5.cell 5 (v := .string xh) rfl, (H9'.drew).r5.cell 4 (v := .int .i64 xk) rfl, (H9'.drew).r5.cell 7 (v := .string xd) rfl⟩ (fun hHeld => ?_)
        have H10 := H9'.drew
        clear H9'
        generalize w6.drew = wa at *
        refine rg_take (i := 0) (v := ?_) rfl (by kernel_rfl) (by kernel_rfl) (by kernel_rfl) (fun _ _ _ h => h) (Or.inl ⟨by kernel_rfl, ?_⟩) (by assumption) ?_
        rotate_left 1
        · intro w' hSw
          try dsimp only at hSw
          go_simp
          first | done | with_reducible rfl
        simp only [Act.put, List.setIfInBounds_toArray, List.set_cons_zero, List.set_cons_succ]
        refine rg_take (i := 1) (v := ?_) rfl (by kernel_rfl) (by kernel_rfl) (by kernel_rfl) (fun _ _ _ h => h) (Or.inl ⟨by kernel_rfl, ?_⟩) (by assumption) ?_
        rotate_left 1
        · intro w' hSw
          try dsimp only at hSw
          go_simp
          first | done | with_reducible rfl
        simp only [Act.put, List.setIfInBounds_toArray, List.set_cons_zero, List.set_cons_succ]
        refine rg_take (i := 2) (v := ?_) rfl (by kernel_rfl) (by kernel_rfl) (by kernel_rfl) (fun _ _ _ h => h) (Or.inl ⟨by kernel_rfl, ?_⟩) (by assumption) ?_
        rotate_left 1
        · intro w' hSw
          try dsimp only at hSw
          go_simp
          first | done | with_reducible rfl
        simp only [Act.put, List.setIfInBounds_toArray, List.set_cons_zero, List.set_cons_succ]
        refine rg_take (i := 3) (v := ?_) rfl (by kernel_rfl) (by kernel_rfl) (by kernel_rfl) (fun _ _ _ h => h) (Or.inl ⟨by kernel_rfl, ?_⟩) (by assumption) ?_
        rotate_left 1
        · intro w' hSw
          try dsimp only at hSw
          go_simp
          first | done | with_reducible rfl
        simp only [Act.put, List.setIfInBounds_toArray, List.set_cons_zero, List.set_cons_succ]
        refine rg_take (i := 5) (v := ?_) rfl (by kernel_rfl) (by kernel_rfl) (by kernel_rfl) (fun _ _ _ h => h) (Or.inl ⟨by kernel_rfl, ?_⟩) (by assumption) ?_
        rotate_left 1
        · intro w' hSw
          try dsimp only at hSw
          go_simp
          first | done | with_reducible rfl
        simp only [Act.put, List.setIfInBounds_toArray, List.set_cons_zero, List.set_cons_succ]
        refine rg_take (i := 6) (v := ?_) rfl (by kernel_rfl) (by kernel_rfl) (by kernel_rfl) (fun _ _ _ h => h) (Or.inl ⟨by kernel_rfl, ?_⟩) (by assumption) ?_
        rotate_left 1
        · intro w' hSw
          try dsimp only at hSw
          go_simp
          first | done | with_reducible rfl
        simp only [Act.put, List.setIfInBounds_toArray, List.set_cons_zero, List.set_cons_succ]
        refine rg_take (i := 7) (v := ?_) rfl (by kernel_rfl) (by kernel_rfl) (by kernel_rfl) (fun _ _ _ h => h) (Or.inl ⟨by kernel_rfl, ?_⟩) (by assumption) ?_
        rotate_left 1
        · intro w' hSw
          try dsimp only at hSw
          go_simp
          first | done | with_reducible rfl
        simp only [Act.put, List.setIfInBounds_toArray, List.set_cons_zero, List.set_cons_succ]
        refine rg_take (i := 8) (v := ?_) rfl (by kernel_rfl) (by kernel_rfl) (by kernel_rfl) (fun _ _ _ h => h) (Or.inl ⟨by kernel_rfl, ?_⟩) (by assumption) ?_
        rotate_left 1
        · intro w' hSw
          try dsimp only at hSw
          go_simp
          first | done | with_reducible rfl
        simp only [Act.put, List.setIfInBounds_toArray, List.set_cons_zero, List.set_cons_succ]
        refine rg_take (i := 9) (v := ?_) rfl (by kernel_rfl) (by kernel_rfl) (by kernel_rfl) (fun _ _ _ h => h) (Or.inl ⟨by kernel_rfl, ?_⟩) (by assumption) ?_
        rotate_left 1
        · intro w' hSw
          try dsimp only at hSw
          go_simp
          first | done | with_reducible rfl
        simp only [Act.put, List.setIfInBounds_toArray, List.set_cons_zero, List.set_cons_succ]
        refine rg_take (i := 10) (v := ?_) rfl (by kernel_rfl) (by kernel_rfl) (by kernel_rfl) (fun _ _ _ h => h) (Or.inl ⟨by kernel_rfl, ?_⟩) (by assumption) ?_
        rotate_left 1
        · intro w' hSw
          try dsimp only at hSw
          go_simp
          first | done | with_reducible rfl
        simp only [Act.put, List.setIfInBounds_toArray, List.set_cons_zero, List.set_cons_succ]
        refine rg_take (i := 11) (v := ?_) rfl (by kernel_rfl) (by kernel_rfl) (by kernel_rfl) (fun _ _ _ h => h) (Or.inl ⟨by kernel_rfl, ?_⟩) (by assumption) ?_
        rotate_left 1
        · intro w' hSw
          try dsimp only at hSw
          go_simp
          first | done | with_reducible rfl
        simp only [Act.put, List.setIfInBounds_toArray, List.set_cons_zero, List.set_cons_succ]
        refine wpAnyH_ready (rs := [4, 12]) (by kernel_rfl) (by simp) ?_
        refine rg_cons rfl (fun K hK => ?_) (rg_cons rfl (fun K hK => ?_) AllReadyH.nil)
        · have pl_ := H10.cell 3 (v := .slice A3 r.pl.length c3) rfl
          go_simp
          refine hK.out _ _ hHeld (fun hHeld => ?_)
          clear hK
          try simp only [Act.put, List.setIfInBounds_toArray, List.set_cons_zero, List.set_cons_succ]
          clear pl_
          refine wpAnyH_ready (rs := [12]) (by kernel_rfl) (by simp) ?_
          refine rg_cons rfl (fun K hK => ?_) AllReadyH.nil
          have H11 := H10.more (.cells #[.string xh, .int .i64 xk, .string xd] 62)
          have hnw : (wa.alloc (.cells #[.string xh, .int .i64 xk, .string xd] 62)).heap[wa.heap.size]? = some (.cells #[.string xh, .int .i64 xk, .string xd] 62) := heap_alloc_new _ _
          go_simp
          refine hK.out _ _ ⟨H11.r5.cell 5 (v := .string xh) rfl, H11.r5.cell 4 (v := .int .i64 xk) rfl, H11.r5.cell 7 (v := .string xd) rfl⟩ (fun hHeld => ?_)
          generalize wa.heap.size = x8 at *
          generalize wa.alloc (.cells #[.string xh, .int .i64 xk, .string xd] 62) = wb at *
          clear hK
          try simp only [Act.put, List.setIfInBounds_toArray, List.set_cons_zero, List.set_cons_succ]
          clear H10
          refine wpAnyH_ready (rs := [13]) (by kernel_rfl) (by simp) ?_
          refine rg_cons rfl (fun K hK => ?_) AllReadyH.nil
          have hnws := World.news_of_block hnw
          refine step_append_st rfl _ _ _ rfl 62 i0 (.agg #[.string ⟨#[]⟩, .int .i64 0, .string ⟨#[]⟩]) 3 40 Try.underlying54 hj hz0 hz1 hz2 rfl (by decide) A3 r.pl.length c3 (r.pl.flatMap PR.cells) H11.r4 rfl ⟨x8, 0, none⟩ 1 1 (⟨xh, xk, xd⟩ : PR).cells rfl rfl hnws (fun u hu => by simp [PR.cells] at hu; rcases hu with rfl | rfl | rfl <;> rfl) (by unfold maxLen; omega) (by omega) ?_
          intro A5 c5 wc H12
          rw [← flat_snoc] at H12
          refine hK.out _ _ ⟨H12.r5.cell 5 (v := .string xh) rfl, H12.r5.cell 4 (v := .int .i64 xk) rfl, H12.r5.cell 7 (v := .string xd) rfl⟩ (fun hHeld => ?_)
          clear hK
          try simp only [Act.put, List.setIfInBounds_toArray, List.set_cons_zero, List.set_cons_succ]
          refine rg_take (i := 14) (v := ?_) rfl (by kernel_rfl) (by kernel_rfl) (by kernel_rfl) (fun _ _ _ h => h) (Or.inl ⟨by kernel_rfl, ?_⟩) (by assumption) ?_
          rotate_left 1
          · intro w' hSw
            try dsimp only at hSw
            go_simp
            first | done | with_reducible rfl
          simp only [Act.put, List.setIfInBounds_toArray, List.set_cons_zero, List.set_cons_succ]
          refine rg_take (i := 15) (v := ?_) rfl (by kernel_rfl) (by kernel_rfl) (by kernel_rfl) (fun _ _ _ h => h) (Or.inl ⟨by kernel_rfl, ?_⟩) (by assumption) ?_
          rotate_left 1
          · intro w' hSw
            try dsimp only at hSw
            go_simp
            first | done | with_reducible rfl
          simp only [Act.put, List.setIfInBounds_toArray, List.set_cons_zero, List.set_cons_succ]
          refine wpAnyH_ready (rs := [16]) (by kernel_rfl) (by simp) ?_
          refine rg_cons rfl (fun K hK => ?_) AllReadyH.nil
          have pl_ := H12.r2.cell 3 (v := .slice A3 r.pl.length c3) rfl
          have f1 := H12.r2.frozen 3
          have H13 := H12.r2.set 3 (.slice A5 (r.pl.length + 1) c5)
          go_simp
          refine hK.out _ _ ⟨H13.r5.cell 5 (v := .string xh) rfl, H13.r5.cell 4 (v := .int .i64 xk) rfl, H13.r5.cell 7 (v := .string xd) rfl⟩ (fun hHeld => ?_)
          clear hK
          try simp only [Act.put, List.setIfInBounds_toArray, List.set_cons_zero, List.set_cons_succ]
          refine wpAnyH_done (by kernel_rfl) ?_ _
          clear hHeld pl_ f1
          have H14 := H13.ord 5 [0, 2, 3, 1, 4]
          clear H13 H12 H11 hnw hnws
          generalize wc.setCell ⟨b2, 3, none⟩ (.slice A5 (r.pl.length + 1) c5) = wd at *
          rw [← hIr] at H14
          have H15 := St.shutR (r := { r with pl := r.pl ++ [(⟨xh, xk, xd⟩ : PR)] }) (n3 := r.pl.length + 1) rfl rfl (by simp) H14
          clear H14
          go_wp2_with (fail)
          refine ⟨⟨i + 1, _, _, by omega, by go_num, HI2.out, (H15.ord 6 [1, 2, 3, 4, 5, 0]).tail⟩, by simp [intOf]; omega⟩
        · have H11 := H10.more (.cells #[.string xh, .int .i64 xk, .string xd] 62)
          have hnw : (wa.alloc (.cells #[.string xh, .int .i64 xk, .string xd] 62)).heap[wa.heap.size]? = some (.cells #[.string xh, .int .i64 xk, .string xd] 62) := heap_alloc_new _ _
          go_simp
          refine hK.out _ _ ⟨H11.r5.cell 5 (v := .string xh) rfl, H11.r5.cell 4 (v := .int .i64 xk) rfl, H11.r5.cell 7 (v := .string xd) rfl⟩ (fun hHeld => ?_)
          generalize wa.heap.size = x8 at *
          generalize wa.alloc (.cells #[.string xh, .int .i64 xk, .string xd] 62) = wb at *
          clear hK
          try simp only [Act.put, List.setIfInBounds_toArray, List.set_cons_zero, List.set_cons_succ]
          clear H10
          refine wpAnyH_ready (rs := [4]) (by kernel_rfl) (by simp) ?_
          refine rg_cons rfl (fun K hK => ?_) AllReadyH.nil
          have pl_ := H11.cell 3 (v := .slice A3 r.pl.length c3) rfl
          go_simp
          refine hK.out _ _ hHeld (fun hHeld => ?_)
          clear hK
          try simp only [Act.put, List.setIfInBounds_toArray, List.set_cons_zero, List.set_cons_succ]
          clear pl_
          refine wpAnyH_ready (rs := [13]) (by kernel_rfl) (by simp) ?_
          refine rg_cons rfl (fun K hK => ?_) AllReadyH.nil
          have hnws := World.news_of_block hnw
          refine step_append_st rfl _ _ _ rfl 62 i0 (.agg #[.string ⟨#[]⟩, .int .i64 0, .string ⟨#[]⟩]) 3 40 Try.underlying54 hj hz0 hz1 hz2 rfl (by decide) A3 r.pl.length c3 (r.pl.flatMap PR.cells) H11.r4 rfl ⟨x8, 0, none⟩ 1 1 (⟨xh, xk, xd⟩ : PR).cells rfl rfl hnws (fun u hu => by simp [PR.cells] at hu; rcases hu with rfl | rfl | rfl <;> rfl) (by unfold maxLen; omega) (by omega) ?_
          intro A5 c5 wc H12
          rw [← flat_snoc] at H12
          refine hK.out _ _ ⟨H12.r5.cell 5 (v := .string xh) rfl, H12.r5.cell 4 (v := .int .i64 xk) rfl, H12.r5.cell 7 (v := .string xd) rfl⟩ (fun hHeld => ?_)
          clear hK
          try simp only [Act.put, List.setIfInBounds_toArray, List.set_cons_zero, List.set_cons_succ]
          refine rg_take (i := 14) (v := ?_) rfl (by kernel_rfl) (by kernel_rfl) (by kernel_rfl) (fun _ _ _ h => h) (Or.inl ⟨by kernel_rfl, ?_⟩) (by assumption) ?_
          rotate_left 1
          · intro w' hSw
            try dsimp only at hSw
            go_simp
            first | done | with_reducible rfl
          simp only [Act.put, List.setIfInBounds_toArray, List.set_cons_zero, List.set_cons_succ]
          refine rg_take (i := 15) (v := ?_) rfl (by kernel_rfl) (by kernel_rfl) (by kernel_rfl) (fun _ _ _ h => h) (Or.inl ⟨by kernel_rfl, ?_⟩) (by assumption) ?_
          rotate_left 1
          · intro w' hSw
            try dsimp only at hSw
            go_simp
            first | done | with_reducible rfl
          simp only [Act.put, List.setIfInBounds_toArray, List.set_cons_zero, List.set_cons_succ]
          refine wpAnyH_ready (rs := [16]) (by kernel_rfl) (by simp) ?_
          refine rg_cons rfl (fun K hK => ?_) AllReadyH.nil
          have pl_ := H12.r2.cell 3 (v := .slice A3 r.pl.length c3) rfl
          have f1 := H12.r2.frozen 3
          have H13 := H12.r2.set 3 (.slice A5 (r.pl.length + 1) c5)
          go_simp
          refine hK.out _ _ ⟨H13.r5.cell 5 (v := .string xh) rfl, H13.r5.cell 4 (v := .int .i64 xk) rfl, H13.r5.cell 7 (v := .string xd) rfl⟩ (fun hHeld => ?_)
          clear hK
          try simp only [Act.put, List.setIfInBounds_toArray, List.set_cons_zero, List.set_cons_succ]
          refine wpAnyH_done (by kernel_rfl) ?_ _
          clear hHeld pl_ f1
          have H14 := H13.ord 5 [0, 2, 3, 1, 4]
          clear H13 H12 H11 hnw hnws
          generalize wc.setCell ⟨b2, 3, none⟩ (.slice A5 (r.pl.length + 1) c5) = wd at *
          rw [← hIr] at H14
          have H15 := St.shutR (r := { r with pl := r.pl ++ [(⟨xh, xk, xd⟩ : PR)] }) (n3 := r.pl.length + 1) rfl rfl (by simp) H14
          clear H14
          go_wp2_with (fail)
          refine ⟨⟨i + 1, _, _, by omega, by go_num, HI2.out, (H15.ord 6 [1, 2, 3, 4, 5, 0]).tail⟩, by simp [intOf]; omega⟩
      · as_aux_lemma =>
        have na := piece_ok C xh xk hzh hik H7
        have hpc := HI.out.R.piece xh xk
        obtain ⟨v, hv⟩ : ∃ v, v = r.get xh xk := ⟨_, rfl⟩
        have lo := fun w' H' => get_ok r xh xk (w := w') (w0 := w) (F := Pt bx #[.int .i64 xw, .int .i64 xn, .int .i64 xz, .int .i64 xs, .int .i64 xk, .string xh, .string xm, .string xd] 46 :: C.own []) H'
        rw [← hv] at hpc lo
        rw [hIr] at lo
        obtain ⟨v1, v2⟩ := v
        rw [Prod.mk.injEq] at hpc
        rw [hpc.1, hpc.2, hIb] at na
        dsimp only at lo
        have NA := Lib.hid na; have LO := Lib.hid lo; clear na lo hv hpc
        go_wp2_with (fail)
        refine NA.out.mono ?_
        rintro e w6 ⟨rfl, H8⟩
        clear NA p0 p1 p2 p3 p4 p5 p6 p7 H7 H6
        have H9 := H8.ord 6 [4, 5, 0, 1, 2, 3]
        clear H8
        have p4 := H9.r2.cell 4 (v := .int .i64 xk) rfl
        have p5 := H9.r2.cell 5 (v := .string xh) rfl
        go_wp2_with (fail)
        refine (LO.out _ H9).mono ?_
        rintro e w7 ⟨rfl, H10⟩
        clear LO p4 p5 H9
        go_wp2_with (fail)
        refine ⟨⟨i + 1, C, r, by omega, by go_num, HI.out.mono, (H10.ord 6 [1, 2, 3, 4, 5, 0]).tail⟩, by simp [intOf]; omega⟩
      · as_aux_lemma =>
        have la := forget_ok C xh hzh H7
        have lb := fun w' H' => reffilter_ok r xh (by omega) (by omega) (by omega) (w := w') (w0 := w) (F := Pt bx #[.int .i64 xw, .int .i64 xn, .int .i64 xz, .int .i64 xs, .int .i64 xk, .string xh, .string xm, .string xd] 46 :: CS.own { C with fm := C.fm.del xh, nm := C.nm.drop xh, pm := C.pm.drop xh } []) H'
        have I2 := HI.out.forget xh
        rw [hIb] at la
        rw [hIr] at lb
        rw [hIb] at lb
        rw [hIb, hIr] at I2
        have LA := Lib.hid la; have LB := Lib.hid lb; have HI2 := Lib.hid I2; clear la lb I2
        go_wp2_with (fail)
        refine LA.out.mono ?_
        rintro e w6 ⟨rfl, H8⟩
        clear LA p0 p1 p2 p3 p4 p5 p6 p7 H7 H6
        have H9 := H8.ord 6 [4, 5, 0, 1, 2, 3]
        clear H8
        have p5 := H9.r2.cell 5 (v := .string xh) rfl
        go_wp2_with (fail)
        refine (LB.out _ H9).mono ?_
        rintro e w7 ⟨rfl, H10⟩
        clear LB p5 H9
        go_wp2_with (fail)
        refine ⟨⟨i + 1, _, _, by omega, by go_num, HI2.out, (H10.ord 6 [1, 2, 3, 4, 5, 0]).tail⟩, by simp [intOf]; omega⟩
    · go_wp2_with (fail)
      go_ret
      exact ⟨rfl, H5.below⟩
theorem own : ownKnob Try.prog.godebug = none := by kernel_rfl
theorem laidOut : laidOutB Try.prog = true := by kernel_rfl
theorem readable : ∀ t ∈ Try.f5.params.toList, Try.prog.readableRec t = true ∧ t < Try.prog.types.size := by
  intro t ht
  rw [Try.params5] at ht
  simp only [List.mem_cons, List.not_mem_nil, or_false] at ht
  rcases ht with rfl | rfl
  all_goals exact ⟨by kernel_rfl, of_decide_eq_true (by kernel_rfl)⟩
theorem contract (H : Type) (enc : TypeId × Value → H) (W : World) (base : Nat) (args : Array Value) (ds gs : List (DataW H)) (before : List MemPlace)
    (hval : ∀ (j : Nat) t v, Try.f5.params[j]? = some t → args[j]? = some v → Value.okWide Try.prog W .any base t v)
    (hW : DataW.Whole enc Try.prog Try.f5.params.toList Rows.cacheScriptsSpec.vars false W args.toList ds gs before) (hk : Rows.uptoSmall H (ds ++ gs) = true) :
    Calls Try.prog 5 args W fun e W' => ∃ v, e = .returned v ∧ Rows.cacheScriptsSpec.post enc Try.prog Try.f5 false true false false W args v W' := by
  have hW' := hW
  obtain ⟨p, q, hA0, hV, rfl, _, _⟩ := hW
  have hA : DataW.TrodAll enc Try.prog W 0 (fun _ => true) true Try.f5.params.toList args.toList ds p := hA0
  rw [Try.params5] at hA hval
  obtain ⟨v0, vs0, d0, ds0, p0, q0, hargs, rfl, rfl, h0, r0⟩ := trodAll_cons hA
  obtain ⟨v1, vs1, d1, ds1, p1, q1, rfl, rfl, rfl, h1, r1⟩ := trodAll_cons r0
  obtain ⟨rfl, rfl, rfl⟩ := trodAll_nil r1
  obtain rfl : args = #[v0, v1] := by cases args; simp_all
  obtain ⟨rfl, rfl⟩ := trodVars_none hV
  clear hA0
  have hk2 : Rows.uptoBulkAll _ ≤ 1048576 := of_decide_eq_true hk
  rw [List.append_nil] at hk2
  obtain ⟨age, rfl, rfl, rfl, wage⟩ := open_int Try.underlying3 (hval 0 3 v0 rfl rfl) h0
  obtain ⟨fuel1, hf1⟩ := h1
  obtain ⟨A1, n1, c1, hv1⟩ := okWide_slice Try.underlying42 (hval 1 42 v1 rfl rfl)
  subst hv1
  obtain ⟨A1', n1', c1', rows1, hc1, hn1, hrd1, hrow1, hbulk1⟩ := trod_slice_flat (ks := Act.kinds) (m := 8) Try.underlying42 (by kernel_rfl) (by kernel_rfl) (by decide) hf1
  dsimp only at hbulk1
  obtain ⟨rfl, rfl, rfl⟩ : A1' = A1 ∧ n1' = n1 ∧ c1' = c1 := by simp [Value.cells] at hc1; simp [hc1]
  obtain ⟨q, rfl, hok1⟩ := rows_map Act.cells Act.ok rows1 (fun row hr => Act.of_row row (hrow1 row hr))
  refine (walk W age (wf_i64 wage) A1' n1' c1' q hrd1 (by
    have h1 := len_le_sum (ks := Act.kinds) _ hrow1 (by decide)
    have h2 := hrd1.1
    simp only [Rows.uptoBulkAll, Rows.uptoBulk] at hk2
    omega) (by
    simp only [Rows.uptoBulkAll, Rows.uptoBulk] at hk2
    omega) hok1).mono fun e W' ⟨he, hb⟩ => ?_
  exact ⟨_, he, law_post (tb := 4) laidOut readable rfl Try.underlying4 rfl hW' rfl rfl rfl hb⟩
set_option maxRecDepth 100000 in
theorem lifted (os : Os) (started : os.Started) (H : Type) (enc : TypeId × Value → H) (F : Stop.Interp) :
    ReturnsInHanded {} Try.checked os 5 .any ((Rows.OpenSpec.upto Rows.cacheScriptsSpec).pre6 enc Try.prog Try.f5 Rows.cacheScriptsUptoRow.domain false) (((Rows.OpenSpec.upto Rows.cacheScriptsSpec).at F).post enc Try.prog Try.f5 false true false false) := by
  refine returnsInHanded_of_cond (C := Try.checked) (s := Rows.OpenSpec.upto Rows.cacheScriptsSpec) (k := Rows.uptoSmall) rfl own started (by kernel_rfl) Try.func5
    (OpenSpec.witness (enc := enc) (C := Try.checked) (s := Rows.OpenSpec.upto Rows.cacheScriptsSpec) (k := Rows.uptoSmall) rfl false ⟨#[], #[.int .i64 0, .slice none 0 0], []⟩ 8 (by kernel_rfl) (by kernel_rfl) (by kernel_rfl)
      (x := ([.lit (.int .i64 0), .nil], [], [])) (by kernel_rfl) rfl (by kernel_rfl)) ?_
  intro W base args ds gs before hval hW _ hk _
  exact contract H enc W base args ds gs before hval hW hk
theorem proved : Rows.CacheScriptsUptoSaid :=
  OpenClaim.holds_of_cond 5 Try.f5 rfl rfl rfl rfl rfl rfl rfl ⟨rfl, rfl, rfl, rfl, rfl⟩ rfl rfl rfl rfl rfl (by kernel_rfl) Try.func5 (by kernel_rfl)
    (of_decide_eq_true (by kernel_rfl)) (by unfold Func.isWrapper; first | (rw [if_pos (by decide +kernel)]; kernel_rfl) | (rw [if_neg (by decide +kernel)]; exact ⟨rfl, rfl⟩))
    (fun os started H enc _ F => lifted os started H enc F)
#print axioms proved

end Go.Proofs.Ytnehdcaobkedpaa.CacheScripts

/- NetScripts: a net through every script answers as the document says, and the choices stay: of choices and acts of bulk at most 1048576. -/
import Derived.Test.YtpeoajmlmkmffaaNeE
import Derived.Deep.DeepCutAuto
import Derived.Deep.LoopGhost
namespace Go.Proofs.Ytpeoajmlmkmffaa.NetScripts
open Go.RowKit Go.ChangeShapes Go.WideShapes Go.ChangeAt Go.Proofs.Ytpeoajmlmkmffaa
open Go.ChangeMaps (open_string shut_string)

structure Act where
  what : Int
  frm : Int
  dat : ByteArray
def Act.cells (x : Act) : List Value := [.int .i64 x.what, .int .i64 x.frm, .string x.dat]
def Act.ok (x : Act) : Prop := (-9223372036854775808 ≤ x.what ∧ x.what ≤ 9223372036854775807) ∧ (-9223372036854775808 ≤ x.frm ∧ x.frm ≤ 9223372036854775807)
def Act.kinds : List SK := [.int .i64, .int .i64, .str]
theorem Act.of_row : ∀ row : List Value, RowS Act.kinds row → ∃ x : Act, row = x.cells ∧ x.ok := by
  intro row h
  have hl := RowS_length h
  match row, hl, h with
  | [v0, v1, v2], _, h =>
    obtain ⟨⟨x0, rfl, h0⟩, ⟨x1, rfl, h1⟩, ⟨x2, rfl, _⟩, _⟩ := h
    exact ⟨⟨x0, x1, x2⟩, rfl, ⟨wf_i64 h0, wf_i64 h1⟩⟩

theorem dat_le {l : List Act} {x : Act} (hx : x ∈ l) (h : sumW (l.map Act.cells) ≤ 1048576) : x.dat.size ≤ 1048576 := by
  have h1 : wts x.cells ≤ sumW (l.map Act.cells) := sumW_mem (List.mem_map.2 ⟨x, hx, rfl⟩)
  simp only [Act.cells, wts, wt] at h1
  omega
theorem mod_eq (m x : Int) (hm : 0 < m) (hm2 : m ≤ 1000) : (wrap64 (x.tmod m + m)).tmod m = x % m := by
  have h1 := Int.lt_tmod_of_pos x hm
  have h2 := Int.tmod_lt_of_pos x hm
  have hw : wrap64 (x.tmod m + m) = x.tmod m + m := by unfold wrap64; omega
  rw [hw, Int.tmod_eq_emod_of_nonneg (a := x.tmod m + m) (by omega), Int.add_emod_right]
  rcases Int.le_total 0 x with h0 | h0
  · rw [Int.tmod_eq_emod_of_nonneg h0, Int.emod_emod]
  · have := Int.tmod_eq_emod_of_nonneg (a := -x) (b := m) (by omega)
    rw [Int.neg_tmod] at this
    have e : x.tmod m = -((-x) % m) := by omega
    rw [e]
    have := Int.emod_add_mul_ediv (-x) m
    rw [show -((-x) % m) = x + m * ((-x) / m) by omega, Int.add_mul_emod_self_left]
/-- the bit of the next reply -/
def Bit (bit : Int) (bits : List Int) : Prop := (bit = -1 ∧ bits = []) ∨ (0 ≤ bit ∧ bit ≤ 1152921504606846975 ∧ bits = [bit])
theorem drop_len (ch : List Int) (n at_ : Nat) (hn : ch.length = n) (h : at_ ≤ n) : (((ch.drop at_).length : Nat) : Int) = (n : Int) - (at_ : Int) := by rw [List.length_drop, hn]; omega
theorem strs_get {l : List ByteArray} {i : Nat} {x : ByteArray} (h : l[i]? = some x) : (strs l)[i]? = some (.string x) := by rw [strs, List.getElem?_map, h]; rfl
theorem carL_get (f g : Int) (d x : ByteArray) (i : Nat) (h : (carL f g d)[i]? = some x) : x = if f = 6 then turnB d g else d := by
  unfold carL at h
  by_cases h1 : f = 1 ∨ f = 4
  · rw [if_pos h1] at h; simp at h
  · rw [if_neg h1] at h
    by_cases h3 : f = 3
    · rw [if_pos h3] at h
      have hm := List.mem_of_getElem? h
      rw [if_neg (by omega)]
      simpa using hm
    · rw [if_neg h3] at h
      have hm : x ∈ _ := List.mem_of_getElem? h
      by_cases h6 : f = 6
      · rw [if_pos h6] at hm ⊢; simpa using hm
      · rw [if_neg h6] at hm ⊢; simpa using hm
theorem carL_len (f g : Int) (d : ByteArray) : (carL f g d).length ≤ 2 := by
  unfold carL
  split
  · exact Nat.zero_le _
  · split
    · exact Nat.le_refl _
    · split <;> simp
theorem car_other {C T : List Int} {L : List (Int × ByteArray)} {bits : List Int} {p : Int × ByteArray} {f g : Int} (h : fate C = (f, g)) (h1 : ¬ (f = 4 ∨ f = 5)) (h2 : ¬ f = 7) (ht : C.tail = T) : NS.carried ⟨C, L, bits⟩ p = ⟨T, L, []⟩ := by
  unfold NS.carried
  dsimp only
  rw [h]
  dsimp only
  rw [if_neg h1, if_neg h2, ht]
theorem car_seven {C T : List Int} {L : List (Int × ByteArray)} {bits : List Int} {p : Int × ByteArray} {g : Int} (h : fate C = (7, g)) (ht : C.tail = T) : NS.carried ⟨C, L, bits⟩ p = ⟨T, L, [g]⟩ := by
  unfold NS.carried
  dsimp only
  rw [h]
  dsimp only
  rw [if_neg (by decide), if_pos rfl, ht]
theorem car_held {C T : List Int} {L : List (Int × ByteArray)} {bits : List Int} {p : Int × ByteArray} {f g : Int} (h : fate C = (f, g)) (h1 : f = 4 ∨ f = 5) (hl : L.length < 64) (ht : C.tail = T) : NS.carried ⟨C, L, bits⟩ p = ⟨T, L ++ [p], []⟩ := by
  unfold NS.carried
  dsimp only
  rw [h]
  dsimp only
  rw [if_pos h1, ht]
  unfold NS.held
  rw [if_pos hl]
theorem car_full {C T : List Int} {L : List (Int × ByteArray)} {bits : List Int} {p : Int × ByteArray} {f g : Int} (h : fate C = (f, g)) (h1 : f = 4 ∨ f = 5) (hl : ¬ L.length < 64) (ht : C.tail = T) : NS.carried ⟨C, L, bits⟩ p = ⟨T, L, []⟩ := by
  unfold NS.carried
  dsimp only
  rw [h]
  dsimp only
  rw [if_pos h1, ht]
  unfold NS.held
  rw [if_neg hl]
def FateAt (ch : List Int) (at_ a2 : Nat) (f g : Int) : Prop := fate (ch.drop at_) = (f, g) ∧ (ch.drop at_).tail = ch.drop a2 ∧ 0 ≤ f ∧ f ≤ 7 ∧ 0 ≤ g ∧ g ≤ 1152921504606846975
/-- the literal of eight numbers -/
theorem wpList_build8 {ops : Array Oper} {rest : List Oper} {o : Oper} {a : Go.Act} {w : World} {Q : Exit → Go.Act → World → Prop} (hg : o.guard = none) (hop : o.op = .buildSlice 24 8 #[(0, .const (.int .i64 1)), (1, .const (.int .i64 0)), (2, .const (.int .i64 1)), (3, .const (.int .i64 2)), (4, .const (.int .i64 0)), (5, .const (.int .i64 1)), (6, .const (.int .i64 1)), (7, .const (.int .i64 1))])
    (h : wpList Try.prog ops Q rest (a.put o.dst (.slice (some ⟨w.heap.size, 0, none⟩) 8 8)) (w.alloc (.cells #[.int .i64 1, .int .i64 0, .int .i64 1, .int .i64 2, .int .i64 0, .int .i64 1, .int .i64 1, .int .i64 1] 3))) : wpList Try.prog ops Q (o :: rest) a w := by
  refine wpList_plain hg fun K' hK' => ?_
  have hrun : (execOp a.eval o).run Try.prog w = .ok (.value (.slice (some ⟨w.heap.size, 0, none⟩) 8 8)) (w.alloc (.cells #[.int .i64 1, .int .i64 0, .int .i64 1, .int .i64 2, .int .i64 0, .int .i64 1, .int .i64 1, .int .i64 1] 3)) := by
    obtain ⟨dst, op, ty, pos, af, gd⟩ := o
    dsimp only at hop hg
    subst hop hg
    go_simp
  unfold Oper.wp
  rw [hrun]
  exact hK' _ _ h
def heldB (f : Int) (L : List (Int × ByteArray)) : Bool := (f == 4 || f == 5) && decide (L.length < 64)
theorem car_all {C T : List Int} {L : List (Int × ByteArray)} {bits : List Int} {p : Int × ByteArray} {f g : Int} (h : fate C = (f, g)) (ht : C.tail = T) : NS.carried ⟨C, L, bits⟩ p = ⟨T, (if heldB f L = true then L ++ [p] else L), (if f = 7 then [g] else [])⟩ := by
  by_cases h45 : f = 4 ∨ f = 5
  · have h7 : ¬ f = 7 := by omega
    rw [if_neg h7]
    by_cases hl : L.length < 64
    · have hh : heldB f L = true := by unfold heldB; rcases h45 with rfl | rfl <;> simp [hl]
      rw [if_pos hh]; exact car_held h h45 hl ht
    · have hh : ¬ heldB f L = true := by unfold heldB; simp [hl]
      rw [if_neg hh]; exact car_full h h45 hl ht
  · have hh : ¬ heldB f L = true := by
      unfold heldB
      simp only [Bool.and_eq_true, Bool.or_eq_true, beq_iff_eq]
      intro hx; exact h45 hx.1
    rw [if_neg hh]
    by_cases h7 : f = 7
    · subst h7; rw [if_pos rfl]; exact car_seven h ht
    · rw [if_neg h7]; exact car_other h h45 h7 ht
theorem carry_way (b : Nat) (C T : List Int) (L L2 : List (Int × ByteArray)) (bits bits2 : List Int) (xn : Int) (xt : ByteArray) (hs : xt.size ≤ 1099511627776) (hok : ∀ x ∈ C, inI x) (f g : Int) (cs : List ByteArray) (kk : Nat) (okb : Bool)
    (hfg : fate C = (f, g)) (hcr : NS.carried ⟨C, L, bits⟩ (xn, xt) = ⟨T, L2, bits2⟩) (hcl : carL f g xt = cs) (hkk : cs.length = kk) (ho : carOk f = okb) {w0 w : World} {F : List Assn} (H : St w0 w (Net b ⟨C, L, bits⟩ :: F)) :
    Calls Try.prog 10 #[.pointer (some ⟨b, 0, none⟩), .int .i64 xn, .string xt] w fun r w' => ∃ A c, r = .returned (.tuple #[.slice A kk c, .bool okb]) ∧ St w0 w' (Row 9 1 A kk c (strs cs) :: Net b ⟨T, L2, bits2⟩ :: F) := by
  have h := carry_ok b ⟨C, L, bits⟩ xn xt hs hok H
  dsimp only at h
  rw [hcr, hfg] at h
  dsimp only at h
  rw [hcl, hkk, ho] at h
  exact h
set_option maxRecDepth 100000 in
set_option maxHeartbeats 40000000 in
theorem walk (w : World) (A : Option Addr) (n c : Nat) (ch : List Int) (hrd : SlRd w A n 1 (ch.map fun x => [.int .i64 x])) (hn : n ≤ 1048576) (_hsum : sumW (ch.map fun x => [.int .i64 x]) ≤ 1048576) (hok : ∀ x ∈ ch, -9223372036854775808 ≤ x ∧ x ≤ 9223372036854775807)
    (B : Option Addr) (m d : Nat) (q : List Act) (hrd2 : SlRd w B m 3 (q.map Act.cells)) (hm : m ≤ 1048576) (hsum2 : sumW (q.map Act.cells) ≤ 1048576) (_hok2 : ∀ x ∈ q, x.ok) :
    Calls Try.prog 5 #[.slice A n c, .slice B m d] w fun r w' => r = .returned (.bool true) ∧ Below w.heap.size w w' := by
  have H0 := St.init w
  have hln : ch.length = n := by have := hrd.1; simpa using this
  have hlm : q.length = m := by have := hrd2.1; simpa using this
  obtain ⟨i0, hi, hz0, hz1, hz2⟩ := info_parts infoInt
  obtain ⟨i1, hj, hy0, hy1, hy2⟩ := info_parts infoLate
  have hch : ∀ x ∈ ch, inI x := hok
  have HLN := Lib.hid hln; have HLM := Lib.hid hlm; have HRD := Lib.hid hrd; have HRD2 := Lib.hid hrd2; have HSM := Lib.hid hsum2; have HCH := Lib.hid hch
  clear hln hlm hrd hrd2 hsum2 hok hch
  go_enter Try.func5, Try.ntmps5
  go_wp2_with (first | (go_at_call 8; refine (speaks_ok H0).mono ?_; rintro x w1 ⟨rfl, H1⟩; have H2 := (H1.alloc #[] 3).emptyRow (size := 1); have hs1 := Lib.hid (Src.of (n := n) (by simpa using HLN.out) (SlRd.src HRD.out H2.below).2))  | (at_builtin; refine wpList_append_any (by rfl) _ _ _ (by rfl) 3 i0 (.int .i64 0) 1 8 Try.underlying24 hi hz0 hz1 hz2 rfl (by decide) _ 0 0 [] H2 (by rfl) A n c (ivs ch) (by rfl) (by rw [ivs_length, HLN.out, Nat.mul_one]) hs1.out (ivs_one ch) (by unfold maxLen; omega) (by omega) ?_; rw [List.nil_append, Nat.zero_add]; intro Ai ci w3 H3))
  clear hs1 H2 H1 hi hz0 hz1 hz2
  go_wp2_with (fail)
  refine (new_ok Ai n ci ch HLN.out (by omega) (fun w' hb => H3.srcRow w' hb) H3).mono ?_
  rintro e w4 ⟨b, rfl, H4⟩
  go_wp2_with (fail)
  go_loopg [7, 8, 9, 10] m (fun gg s7 s8 s9 i wr => ∃ (k at_ : Nat) (L : List (Int × ByteArray)) (bit : Int) (bits : List Int), gg = m - k ∧ k ≤ m ∧ i = .int .i64 k ∧ at_ ≤ n ∧ s8 = .int .i64 at_ ∧ s9 = .int .i64 bit ∧ Bit bit bits ∧ ∃ A9 c9, s7 = .slice A9 L.length c9 ∧ L.length ≤ 64 ∧ St w wr [Net b ⟨ch.drop at_, L, bits⟩, Row 32 2 A9 L.length c9 (lateV L), Row 3 1 Ai n ci (ivs ch)])
  case atStart => exact ⟨0, 0, [], -1, [], (Nat.sub_zero m).symm, Nat.zero_le _, rfl, Nat.zero_le _, rfl, rfl, .inl ⟨rfl, rfl⟩, none, 0, rfl, by decide, (H4.nilRow _ _).r2⟩
  case round =>
    obtain ⟨k, at_, L, bit, bits, rfl, hk, rfl, hat, rfl, rfl, hbit, A9, c9, rfl, hL, H5⟩ := hrel
    by_cases hlt : k < m
    · obtain ⟨x, hx⟩ : ∃ x, q[k]? = some x := ⟨_, List.getElem?_eq_getElem (by rw [HLM.out]; exact hlt)⟩
      obtain ⟨bq, o, hA, hb, hd0, hcell⟩ := SlRd.at HRD2.out H5.below (i := k) (row := x.cells) (by rw [List.getElem?_map, hx]; rfl)
      have hxt := dat_le (List.mem_of_getElem? hx) HSM.out
      have hc0 := hd0 _ rfl
      have hc1 := hcell 1 _ rfl
      have hc2 := hcell 2 _ rfl
      subst hA
      clear hcell hd0 hx
      obtain ⟨xk, xn, xt⟩ := x
      dsimp only at *
      have H6 := H5.alloc #[.int .i64 xk, .int .i64 xn, .string xt] 38
      have hbn : bq ≠ wr.heap.size := by have := H5.size; omega
      obtain ⟨r, hr⟩ : ∃ r, r = xk % 5 := ⟨_, rfl⟩
      have he := mod_eq 5 xk (by decide) (by decide)
      rw [← hr] at he
      have hr5 : r = 3 ∨ r = 4 ∨ (0 ≤ r ∧ r < 3) := by omega
      clear hr
      have HB := Lib.hid hbit; clear hbit
      obtain ⟨bx, hbx⟩ : ∃ bx, bx = wr.heap.size := ⟨_, rfl⟩
      go_upto_region 11 with (fail)
      rw [← hbx] at H6 ⊢
      clear hc0 hc1 hc2 H5 hbn
      generalize wr.alloc (.cells #[.int .i64 xk, .int .i64 xn, .string xt] 38) = w5 at *
      clear hbx
      have p0 := H6.cell 0 rfl
      have p1 := H6.cell 1 rfl
      have p2 := H6.cell 2 rfl
      rcases hr5 with rfl | rfl | ⟨hr0, hr1⟩
      · rcases HB.out with ⟨rfl, rfl⟩ | ⟨b0, b1, rfl⟩
        · as_aux_lemma =>
          go_wp2_with (fail)
          refine (back_ok b ⟨ch.drop at_, L, []⟩ xt (by omega) (fun y hy => by cases hy) (Nat.zero_le _) H6.r2).mono ?_
          rintro e w6 ⟨rfl, H7⟩
          have H9 := H7.r2.tail
          go_wp2_with (fail)
          refine (left_ok b ⟨ch.drop (at_), L, []⟩ H9).mono ?_
          dsimp only
          rw [drop_len ch n (at_) HLN.out (by omega)]
          rintro e wz ⟨rfl, nz, rfl⟩
          go_wp2_with (fail)
          go_roundg (m - (k + 1))
          case measure => omega
          case rel => exact ⟨k + 1, at_, L, -1, [], rfl, by omega, by go_num, by omega, by first | rfl | go_num, rfl, by first | exact .inl ⟨rfl, rfl⟩ | exact HB2.out | exact HB.out, _, _, by first | rfl | simp, by first | omega | (simp; omega) | simp, H9.drewN nz⟩
        · as_aux_lemma =>
          go_wp2_with (fail)
          refine (refturn_ok xt bit b0 (by omega) (by omega) H6).mono ?_
          rintro e w6 ⟨rfl, H6'⟩
          have p2' := H6'.cell 2 rfl
          go_wp2_with (fail)
          refine (back_ok b ⟨ch.drop at_, L, [bit]⟩ xt (by omega) (fun y hy => by rw [List.mem_singleton] at hy; subst hy; exact ⟨b0, by omega⟩) (Nat.le_refl _) H6'.r2).mono ?_
          rintro e w7 ⟨rfl, H7⟩
          have H9 := H7.r2.tail
          go_wp2_with (fail)
          refine (left_ok b ⟨ch.drop (at_), L, []⟩ H9).mono ?_
          dsimp only
          rw [drop_len ch n (at_) HLN.out (by omega)]
          rintro e wz ⟨rfl, nz, rfl⟩
          go_wp2_with (fail)
          go_roundg (m - (k + 1))
          case measure => omega
          case rel => exact ⟨k + 1, at_, L, -1, [], rfl, by omega, by go_num, by omega, by first | rfl | go_num, rfl, by first | exact .inl ⟨rfl, rfl⟩ | exact HB2.out | exact HB.out, _, _, by first | rfl | simp, by first | omega | (simp; omega) | simp, H9.drewN nz⟩
      · as_aux_lemma =>
        go_wp2_with (fail)
        refine (late_ok b ⟨ch.drop at_, L, bits⟩ H6.r2).mono ?_
        dsimp only
        rintro e w6 ⟨A5, c5, rfl, H7⟩
        clear H6 p0 p1 p2
        go_wp2_with (fail)
        go_loopw [14] (fun i wr => ∃ j : Nat, j ≤ L.length ∧ i = .int .i64 j ∧ St w wr [Row 32 2 A5 L.length c5 (lateV L), Net b ⟨ch.drop at_, [], bits⟩, Pt bx #[.int .i64 xk, .int .i64 xn, .string xt] 38, Row 32 2 A9 L.length c9 (lateV L), Row 3 1 Ai n ci (ivs ch)]) (fun i _ => L.length - (intOf i).toNat)
        case atStart => exact ⟨0, Nat.zero_le _, rfl, H7⟩
        case round =>
          obtain ⟨j, hj8, rfl, H8⟩ := hrel
          by_cases hlt8 : j < L.length
          · obtain ⟨p, hp⟩ : ∃ p, L[j]? = some p := ⟨_, List.getElem?_eq_getElem hlt8⟩
            obtain ⟨g5, o5, hA, e0, e1⟩ := St.late H8 hp
            subst hA
            obtain ⟨g7, o7, hA, d0, d1⟩ := St.late (H8.ord 4 [3, 0, 1, 2]) hp
            subst hA
            have hjI : (j : Int) < L.length := by omega
            clear hp
            go_wp2_with (fail)
            go_quiet (fail)
            go_wp2_with (fail)
            go_roundw
            case rel => exact ⟨j + 1, by omega, by go_num, H8.drewN _⟩
            case measure => simp [intOf]; omega
          · obtain rfl : L.length = j := by omega
            have H9 := ((H8.tail.r2.tail).r2.tail.nilRow 32 2).r2
            clear H7 H8 hlt8
            go_wp2_with (fail)
            refine (left_ok b ⟨ch.drop (at_), [], bits⟩ H9).mono ?_
            dsimp only
            rw [drop_len ch n (at_) HLN.out (by omega)]
            rintro e wz ⟨rfl, nz, rfl⟩
            go_wp2_with (fail)
            go_roundg (m - (k + 1))
            case measure => omega
            case rel => exact ⟨k + 1, at_, [], bit, bits, rfl, by omega, by go_num, by omega, by first | rfl | go_num, rfl, by first | exact .inl ⟨rfl, rfl⟩ | exact HB2.out | exact HB.out, _, _, by first | rfl | simp, by first | omega | (simp; omega) | simp, H9.drewN nz⟩
      · have hr3 : (r == 3) = false := by rw [beq_eq_false_iff_ne]; omega
        have hr4 : (r == 4) = false := by rw [beq_eq_false_iff_ne]; omega
        clear HB
        by_cases hat2 : at_ < n
        · obtain ⟨y, hy⟩ : ∃ y, ch[at_]? = some y := ⟨_, List.getElem?_eq_getElem (by rw [HLN.out]; exact hat2)⟩
          obtain ⟨hl', hc⟩ := SlRd.src HRD.out H6.below
          obtain ⟨b9, o9, hA, c0⟩ := hc at_ (.int .i64 y) (by rw [List.getElem?_map, hy]; rfl)
          subst hA
          have hyI : inI y := HCH.out y (List.mem_of_getElem? hy)
          have hfg : fate (ch.drop at_) = (fate1 y % 8, fate1 y / 8) := by
            obtain ⟨h1, h2⟩ := List.getElem?_eq_some_iff.1 hy
            rw [List.drop_eq_getElem_cons h1, h2]; rfl
          have hta : (ch.drop at_).tail = ch.drop (at_ + 1) := List.tail_drop
          obtain ⟨r1, r2, r3, r4⟩ := fate_range (ch.drop at_) (fun y hy => HCH.out y (List.mem_of_mem_drop hy))
          have hrf := reffate_ok y hyI w5
          rw [hfg] at r1 r2 r3 r4
          generalize fate1 y % 8 = f at *
          generalize fate1 y / 8 = g at *
          have hat3 : (at_ : Int) < n := by omega
          have HRF := Lib.hid hrf; have HTA := Lib.hid hta; have HFG0 := Lib.hid hfg; clear hrf hta hfg hc hl' hy hyI
          have hf8 : f = 0 ∨ f = 1 ∨ f = 2 ∨ f = 3 ∨ f = 4 ∨ f = 5 ∨ f = 6 ∨ f = 7 := by omega
          dsimp only at r3 r4
          clear r1 r2
          rcases hf8 with rfl | rfl | rfl | rfl | rfl | rfl | rfl | rfl
          · as_aux_lemma =>
            have hcr : NS.carried ⟨ch.drop at_, L, bits⟩ (xn, xt) = ⟨ch.drop (at_ + 1), L, []⟩ := by rw [car_all HFG0.out HTA.out]; rfl
            have hca := carry_way b (ch.drop at_) (ch.drop (at_ + 1)) L L bits ([]) xn xt (by omega) (fun y hy => HCH.out y (List.mem_of_mem_drop hy)) 0 g ([xt]) 1 true HFG0.out hcr rfl rfl rfl H6.r2
            have HCA := Lib.hid hca; clear hca hcr
            have HB2 : Hid (Bit (-1) ([])) := Lib.hid (.inl ⟨rfl, rfl⟩)
            go_wp2_with (fail)
            refine HRF.out.mono ?_
            rintro e w5' ⟨rfl, rfl⟩
            go_wp2_with (fail)
            refine HCA.out.mono ?_
            rintro e w6 ⟨A8, c8, rfl, H11⟩
            have H11 := H11.more (.cells #[.int .i64 1, .int .i64 0, .int .i64 1, .int .i64 2, .int .i64 0, .int .i64 1, .int .i64 1, .int .i64 1] 3)
            go_wp2_with (with_reducible refine wpList_build8 (by rfl) (by rfl) ?_)
            go_loopw [20, 21] (fun i _ wr => ∃ j : Nat, j ≤ 1 ∧ i = .int .i64 j ∧ St w wr [Row 9 1 A8 1 c8 (strs [xt]), Net b ⟨ch.drop (at_ + 1), L, []⟩, Pt bx #[.int .i64 xk, .int .i64 xn, .string xt] 38, Row 32 2 A9 (L).length c9 (lateV (L)), Row 3 1 Ai n ci (ivs ch)]) (fun i _ _ => 1 - (intOf i).toNat)
            case atStart => exact ⟨0, by omega, rfl, H11⟩
            case round =>
              clear H11 H6
              obtain ⟨j, hj8, rfl, H8⟩ := hrel
              by_cases hlt8 : j < 1
              · obtain rfl : j = 0 := by omega
                have p8 := (H8.r3).cell 2 rfl
                obtain ⟨g8, o8, hA⟩ := H8.row_form (by decide)
                subst hA
                have e0 := H8.row_cell 0 (u := .string xt) rfl
                rw [Nat.add_zero] at e0
                go_wp2_with (fail)
                go_roundw
                case rel => exact ⟨1, by omega, by go_num, H8⟩
                case measure => simp [intOf]
              · obtain rfl : j = 1 := by omega
                have H9 := H8.tail.r2.tail
                go_wp2_with (fail)
                refine (left_ok b ⟨ch.drop (at_ + 1), L, []⟩ H9).mono ?_
                dsimp only
                rw [drop_len ch n (at_ + 1) HLN.out (by omega)]
                rintro e wz ⟨rfl, nz, rfl⟩
                go_wp2_with (fail)
                go_roundg (m - (k + 1))
                case measure => omega
                case rel => exact ⟨k + 1, at_ + 1, L, -1, [], rfl, by omega, by go_num, by omega, by first | rfl | go_num, rfl, by first | exact .inl ⟨rfl, rfl⟩ | exact HB2.out | exact HB.out, _, _, by first | rfl | simp, by first | omega | (simp; omega) | simp, H9.drewN nz⟩
          · as_aux_lemma =>
            have hcr : NS.carried ⟨ch.drop at_, L, bits⟩ (xn, xt) = ⟨ch.drop (at_ + 1), L, []⟩ := by rw [car_all HFG0.out HTA.out]; rfl
            have hca := carry_way b (ch.drop at_) (ch.drop (at_ + 1)) L L bits ([]) xn xt (by omega) (fun y hy => HCH.out y (List.mem_of_mem_drop hy)) 1 g ([]) 0 false HFG0.out hcr rfl rfl rfl H6.r2
            have HCA := Lib.hid hca; clear hca hcr
            have HB2 : Hid (Bit (-1) ([])) := Lib.hid (.inl ⟨rfl, rfl⟩)
            go_wp2_with (fail)
            refine HRF.out.mono ?_
            rintro e w5' ⟨rfl, rfl⟩
            go_wp2_with (fail)
            refine HCA.out.mono ?_
            rintro e w6 ⟨A8, c8, rfl, H11⟩
            have H11 := H11.more (.cells #[.int .i64 1, .int .i64 0, .int .i64 1, .int .i64 2, .int .i64 0, .int .i64 1, .int .i64 1, .int .i64 1] 3)
            go_wp2_with (with_reducible refine wpList_build8 (by rfl) (by rfl) ?_)
            refine wp_loop_rounds 1 ?_
            rw [rounds_succ]
            have H9 := H11.tail.r2.tail
            go_wp2_with (fail)
            refine (left_ok b ⟨ch.drop (at_ + 1), L, []⟩ H9).mono ?_
            dsimp only
            rw [drop_len ch n (at_ + 1) HLN.out (by omega)]
            rintro e wz ⟨rfl, nz, rfl⟩
            go_wp2_with (fail)
            go_roundg (m - (k + 1))
            case measure => omega
            case rel => exact ⟨k + 1, at_ + 1, L, -1, [], rfl, by omega, by go_num, by omega, by first | rfl | go_num, rfl, by first | exact .inl ⟨rfl, rfl⟩ | exact HB2.out | exact HB.out, _, _, by first | rfl | simp, by first | omega | (simp; omega) | simp, H9.drewN nz⟩
          · as_aux_lemma =>
            have hcr : NS.carried ⟨ch.drop at_, L, bits⟩ (xn, xt) = ⟨ch.drop (at_ + 1), L, []⟩ := by rw [car_all HFG0.out HTA.out]; rfl
            have hca := carry_way b (ch.drop at_) (ch.drop (at_ + 1)) L L bits ([]) xn xt (by omega) (fun y hy => HCH.out y (List.mem_of_mem_drop hy)) 2 g ([xt]) 1 false HFG0.out hcr rfl rfl rfl H6.r2
            have HCA := Lib.hid hca; clear hca hcr
            have HB2 : Hid (Bit (-1) ([])) := Lib.hid (.inl ⟨rfl, rfl⟩)
            go_wp2_with (fail)
            refine HRF.out.mono ?_
            rintro e w5' ⟨rfl, rfl⟩
            go_wp2_with (fail)
            refine HCA.out.mono ?_
            rintro e w6 ⟨A8, c8, rfl, H11⟩
            have H11 := H11.more (.cells #[.int .i64 1, .int .i64 0, .int .i64 1, .int .i64 2, .int .i64 0, .int .i64 1, .int .i64 1, .int .i64 1] 3)
            go_wp2_with (with_reducible refine wpList_build8 (by rfl) (by rfl) ?_)
            go_loopw [20, 21] (fun i _ wr => ∃ j : Nat, j ≤ 1 ∧ i = .int .i64 j ∧ St w wr [Row 9 1 A8 1 c8 (strs [xt]), Net b ⟨ch.drop (at_ + 1), L, []⟩, Pt bx #[.int .i64 xk, .int .i64 xn, .string xt] 38, Row 32 2 A9 (L).length c9 (lateV (L)), Row 3 1 Ai n ci (ivs ch)]) (fun i _ _ => 1 - (intOf i).toNat)
            case atStart => exact ⟨0, by omega, rfl, H11⟩
            case round =>
              clear H11 H6
              obtain ⟨j, hj8, rfl, H8⟩ := hrel
              by_cases hlt8 : j < 1
              · obtain rfl : j = 0 := by omega
                have p8 := (H8.r3).cell 2 rfl
                obtain ⟨g8, o8, hA⟩ := H8.row_form (by decide)
                subst hA
                have e0 := H8.row_cell 0 (u := .string xt) rfl
                rw [Nat.add_zero] at e0
                go_wp2_with (fail)
                go_roundw
                case rel => exact ⟨1, by omega, by go_num, H8⟩
                case measure => simp [intOf]
              · obtain rfl : j = 1 := by omega
                have H9 := H8.tail.r2.tail
                go_wp2_with (fail)
                refine (left_ok b ⟨ch.drop (at_ + 1), L, []⟩ H9).mono ?_
                dsimp only
                rw [drop_len ch n (at_ + 1) HLN.out (by omega)]
                rintro e wz ⟨rfl, nz, rfl⟩
                go_wp2_with (fail)
                go_roundg (m - (k + 1))
                case measure => omega
                case rel => exact ⟨k + 1, at_ + 1, L, -1, [], rfl, by omega, by go_num, by omega, by first | rfl | go_num, rfl, by first | exact .inl ⟨rfl, rfl⟩ | exact HB2.out | exact HB.out, _, _, by first | rfl | simp, by first | omega | (simp; omega) | simp, H9.drewN nz⟩
          · as_aux_lemma =>
            have hcr : NS.carried ⟨ch.drop at_, L, bits⟩ (xn, xt) = ⟨ch.drop (at_ + 1), L, []⟩ := by rw [car_all HFG0.out HTA.out]; rfl
            have hca := carry_way b (ch.drop at_) (ch.drop (at_ + 1)) L L bits ([]) xn xt (by omega) (fun y hy => HCH.out y (List.mem_of_mem_drop hy)) 3 g ([xt, xt]) 2 true HFG0.out hcr rfl rfl rfl H6.r2
            have HCA := Lib.hid hca; clear hca hcr
            have HB2 : Hid (Bit (-1) ([])) := Lib.hid (.inl ⟨rfl, rfl⟩)
            go_wp2_with (fail)
            refine HRF.out.mono ?_
            rintro e w5' ⟨rfl, rfl⟩
            go_wp2_with (fail)
            refine HCA.out.mono ?_
            rintro e w6 ⟨A8, c8, rfl, H11⟩
            have H11 := H11.more (.cells #[.int .i64 1, .int .i64 0, .int .i64 1, .int .i64 2, .int .i64 0, .int .i64 1, .int .i64 1, .int .i64 1] 3)
            go_wp2_with (with_reducible refine wpList_build8 (by rfl) (by rfl) ?_)
            go_loopw [20, 21] (fun i _ wr => ∃ j : Nat, j ≤ 2 ∧ i = .int .i64 j ∧ St w wr [Row 9 1 A8 2 c8 (strs [xt, xt]), Net b ⟨ch.drop (at_ + 1), L, []⟩, Pt bx #[.int .i64 xk, .int .i64 xn, .string xt] 38, Row 32 2 A9 (L).length c9 (lateV (L)), Row 3 1 Ai n ci (ivs ch)]) (fun i _ _ => 2 - (intOf i).toNat)
            case atStart => exact ⟨0, by omega, rfl, H11⟩
            case round =>
              clear H11 H6
              obtain ⟨j, hj8, rfl, H8⟩ := hrel
              by_cases hlt8 : j < 2
              · rcases (by omega : j = 0 ∨ j = 1) with rfl | rfl
                · have p8 := (H8.r3).cell 2 rfl
                  obtain ⟨g8, o8, hA⟩ := H8.row_form (by decide)
                  subst hA
                  have e0 := H8.row_cell 0 (u := .string xt) rfl
                  rw [Nat.add_zero] at e0
                  go_wp2_with (fail)
                  go_roundw
                  case rel => exact ⟨1, by omega, by go_num, H8⟩
                  case measure => simp [intOf]
                · have p8 := (H8.r3).cell 2 rfl
                  obtain ⟨g8, o8, hA⟩ := H8.row_form (by decide)
                  subst hA
                  have e0 := H8.row_cell 1 (u := .string xt) rfl
                  go_wp2_with (fail)
                  go_roundw
                  case rel => exact ⟨2, by omega, by go_num, H8⟩
                  case measure => simp [intOf]
              · obtain rfl : j = 2 := by omega
                have H9 := H8.tail.r2.tail
                go_wp2_with (fail)
                refine (left_ok b ⟨ch.drop (at_ + 1), L, []⟩ H9).mono ?_
                dsimp only
                rw [drop_len ch n (at_ + 1) HLN.out (by omega)]
                rintro e wz ⟨rfl, nz, rfl⟩
                go_wp2_with (fail)
                go_roundg (m - (k + 1))
                case measure => omega
                case rel => exact ⟨k + 1, at_ + 1, L, -1, [], rfl, by omega, by go_num, by omega, by first | rfl | go_num, rfl, by first | exact .inl ⟨rfl, rfl⟩ | exact HB2.out | exact HB.out, _, _, by first | rfl | simp, by first | omega | (simp; omega) | simp, H9.drewN nz⟩
          · by_cases hl64 : L.length < 64
            · as_aux_lemma =>
              have hdI : (L.length : Int) < 64 := by omega
              have hdN : decide (L.length < 64) = true := decide_eq_true hl64
              have hh : heldB 4 L = true := by unfold heldB; rw [hdN]; rfl
              have hcr : NS.carried ⟨ch.drop at_, L, bits⟩ (xn, xt) = ⟨ch.drop (at_ + 1), L ++ [(xn, xt)], []⟩ := by rw [car_all HFG0.out HTA.out, hh]; rfl
              have HCR := Lib.hid hcr; clear hcr hh hdN
              have HB2 : Hid (Bit (-1) []) := Lib.hid (.inl ⟨rfl, rfl⟩)
              go_wp2_with (fail)
              refine HRF.out.mono ?_
              rintro e w5' ⟨rfl, rfl⟩
              go_wp2_with (at_builtin; refine wpList_append_st (by rfl) _ _ _ (by rfl) 32 i1 (.agg #[.int .i64 0, .string ByteArray.empty]) 2 24 Try.underlying29 hj hy0 hy1 hy2 rfl (by decide) A9 L.length c9 (lateV L) ((H6.more _).r3) (by rfl) ⟨_, 0, none⟩ 1 1 (lateC (xn, xt)) (by rfl) rfl (World.news_of_block (heap_alloc_new _ _)) (fun u hu => by simp [lateC] at hu; rcases hu with rfl | rfl <;> rfl) (by unfold maxLen; omega) (by omega) ?_; intro A9 c9 w4 H4; have q1 := (H4.r2).cell 1 rfl; have q2 := (H4.r2).cell 2 rfl)
              rw [← lateV_snoc] at H4
              have hca := carry_way b (ch.drop at_) (ch.drop (at_ + 1)) L (L ++ [(xn, xt)]) bits [] xn xt (by omega) (fun y hy => HCH.out y (List.mem_of_mem_drop hy)) 4 g ([]) 0 false HFG0.out HCR.out rfl rfl rfl (H4.ord 3 [2, 1, 0])
              refine hca.mono ?_
              clear hca
              rintro e w6 ⟨A8, c8, rfl, H11⟩
              obtain ⟨L2, hL2⟩ : ∃ L2, L2 = L ++ [(xn, xt)] := ⟨_, rfl⟩
              have hl2 : L.length + 1 = L2.length := by rw [hL2, List.length_append]; rfl
              rw [hl2] at H11 ⊢
              rw [← hL2] at H11
              have hl3 : L2.length ≤ 64 := by omega
              clear hl2 hL2
              have H11 := H11.more (.cells #[.int .i64 1, .int .i64 0, .int .i64 1, .int .i64 2, .int .i64 0, .int .i64 1, .int .i64 1, .int .i64 1] 3)
              go_wp2_with (with_reducible refine wpList_build8 (by rfl) (by rfl) ?_)
              refine wp_loop_rounds 1 ?_
              rw [rounds_succ]
              have H9 := H11.tail.r2.tail
              go_wp2_with (fail)
              refine (left_ok b ⟨ch.drop (at_ + 1), L2, []⟩ H9).mono ?_
              dsimp only
              rw [drop_len ch n (at_ + 1) HLN.out (by omega)]
              rintro e wz ⟨rfl, nz, rfl⟩
              go_wp2_with (fail)
              go_roundg (m - (k + 1))
              case measure => omega
              case rel => exact ⟨k + 1, at_ + 1, L2, -1, [], rfl, by omega, by go_num, by omega, by first | rfl | go_num, rfl, by first | exact .inl ⟨rfl, rfl⟩ | exact HB2.out | exact HB.out, _, _, by first | rfl | simp, by first | omega | (simp; omega) | simp, H9.drewN nz⟩
            · as_aux_lemma =>
              have hdI : decide ((L.length : Int) < 64) = false := decide_eq_false (by omega)
              have hdN : decide (L.length < 64) = false := decide_eq_false hl64
              have hh : heldB 4 L = false := by unfold heldB; rw [hdN]; rfl
              have hcr : NS.carried ⟨ch.drop at_, L, bits⟩ (xn, xt) = ⟨ch.drop (at_ + 1), L, []⟩ := by rw [car_all HFG0.out HTA.out, hh]; rfl
              have hca := carry_way b (ch.drop at_) (ch.drop (at_ + 1)) L L bits [] xn xt (by omega) (fun y hy => HCH.out y (List.mem_of_mem_drop hy)) 4 g ([]) 0 false HFG0.out hcr rfl rfl rfl H6.r2
              have HCA := Lib.hid hca; clear hca hcr hh
              have HB2 : Hid (Bit (-1) []) := Lib.hid (.inl ⟨rfl, rfl⟩)
              go_wp2_with (fail)
              refine HRF.out.mono ?_
              rintro e w5' ⟨rfl, rfl⟩
              go_wp2_with (fail)
              refine HCA.out.mono ?_
              rintro e w6 ⟨A8, c8, rfl, H11⟩
              have H11 := H11.more (.cells #[.int .i64 1, .int .i64 0, .int .i64 1, .int .i64 2, .int .i64 0, .int .i64 1, .int .i64 1, .int .i64 1] 3)
              go_wp2_with (with_reducible refine wpList_build8 (by rfl) (by rfl) ?_)
              refine wp_loop_rounds 1 ?_
              rw [rounds_succ]
              have H9 := H11.tail.r2.tail
              go_wp2_with (fail)
              refine (left_ok b ⟨ch.drop (at_ + 1), L, []⟩ H9).mono ?_
              dsimp only
              rw [drop_len ch n (at_ + 1) HLN.out (by omega)]
              rintro e wz ⟨rfl, nz, rfl⟩
              go_wp2_with (fail)
              go_roundg (m - (k + 1))
              case measure => omega
              case rel => exact ⟨k + 1, at_ + 1, L, -1, [], rfl, by omega, by go_num, by omega, by first | rfl | go_num, rfl, by first | exact .inl ⟨rfl, rfl⟩ | exact HB2.out | exact HB.out, _, _, by first | rfl | simp, by first | omega | (simp; omega) | simp, H9.drewN nz⟩
          · by_cases hl64 : L.length < 64
            · as_aux_lemma =>
              have hdI : (L.length : Int) < 64 := by omega
              have hdN : decide (L.length < 64) = true := decide_eq_true hl64
              have hh : heldB 5 L = true := by unfold heldB; rw [hdN]; rfl
              have hcr : NS.carried ⟨ch.drop at_, L, bits⟩ (xn, xt) = ⟨ch.drop (at_ + 1), L ++ [(xn, xt)], []⟩ := by rw [car_all HFG0.out HTA.out, hh]; rfl
              have HCR := Lib.hid hcr; clear hcr hh hdN
              have HB2 : Hid (Bit (-1) []) := Lib.hid (.inl ⟨rfl, rfl⟩)
              go_wp2_with (fail)
              refine HRF.out.mono ?_
              rintro e w5' ⟨rfl, rfl⟩
              go_wp2_with (at_builtin; refine wpList_append_st (by rfl) _ _ _ (by rfl) 32 i1 (.agg #[.int .i64 0, .string ByteArray.empty]) 2 24 Try.underlying29 hj hy0 hy1 hy2 rfl (by decide) A9 L.length c9 (lateV L) ((H6.more _).r3) (by rfl) ⟨_, 0, none⟩ 1 1 (lateC (xn, xt)) (by rfl) rfl (World.news_of_block (heap_alloc_new _ _)) (fun u hu => by simp [lateC] at hu; rcases hu with rfl | rfl <;> rfl) (by unfold maxLen; omega) (by omega) ?_; intro A9 c9 w4 H4; have q1 := (H4.r2).cell 1 rfl; have q2 := (H4.r2).cell 2 rfl)
              rw [← lateV_snoc] at H4
              have hca := carry_way b (ch.drop at_) (ch.drop (at_ + 1)) L (L ++ [(xn, xt)]) bits [] xn xt (by omega) (fun y hy => HCH.out y (List.mem_of_mem_drop hy)) 5 g ([xt]) 1 true HFG0.out HCR.out rfl rfl rfl (H4.ord 3 [2, 1, 0])
              refine hca.mono ?_
              clear hca
              rintro e w6 ⟨A8, c8, rfl, H11⟩
              obtain ⟨L2, hL2⟩ : ∃ L2, L2 = L ++ [(xn, xt)] := ⟨_, rfl⟩
              have hl2 : L.length + 1 = L2.length := by rw [hL2, List.length_append]; rfl
              rw [hl2] at H11 ⊢
              rw [← hL2] at H11
              have hl3 : L2.length ≤ 64 := by omega
              clear hl2 hL2
              have H11 := H11.more (.cells #[.int .i64 1, .int .i64 0, .int .i64 1, .int .i64 2, .int .i64 0, .int .i64 1, .int .i64 1, .int .i64 1] 3)
              go_wp2_with (with_reducible refine wpList_build8 (by rfl) (by rfl) ?_)
              go_loopw [20, 21] (fun i _ wr => ∃ j : Nat, j ≤ 1 ∧ i = .int .i64 j ∧ St w wr [Row 9 1 A8 1 c8 (strs [xt]), Net b ⟨ch.drop (at_ + 1), L2, []⟩, Pt bx #[.int .i64 xk, .int .i64 xn, .string xt] 38, Row 32 2 A9 (L2).length c9 (lateV (L2)), Row 3 1 Ai n ci (ivs ch)]) (fun i _ _ => 1 - (intOf i).toNat)
              case atStart => exact ⟨0, by omega, rfl, H11⟩
              case round =>
                clear H11 H6
                obtain ⟨j, hj8, rfl, H8⟩ := hrel
                by_cases hlt8 : j < 1
                · obtain rfl : j = 0 := by omega
                  have p8 := (H8.r3).cell 2 rfl
                  obtain ⟨g8, o8, hA⟩ := H8.row_form (by decide)
                  subst hA
                  have e0 := H8.row_cell 0 (u := .string xt) rfl
                  rw [Nat.add_zero] at e0
                  go_wp2_with (fail)
                  go_roundw
                  case rel => exact ⟨1, by omega, by go_num, H8⟩
                  case measure => simp [intOf]
                · obtain rfl : j = 1 := by omega
                  have H9 := H8.tail.r2.tail
                  go_wp2_with (fail)
                  refine (left_ok b ⟨ch.drop (at_ + 1), L2, []⟩ H9).mono ?_
                  dsimp only
                  rw [drop_len ch n (at_ + 1) HLN.out (by omega)]
                  rintro e wz ⟨rfl, nz, rfl⟩
                  go_wp2_with (fail)
                  go_roundg (m - (k + 1))
                  case measure => omega
                  case rel => exact ⟨k + 1, at_ + 1, L2, -1, [], rfl, by omega, by go_num, by omega, by first | rfl | go_num, rfl, by first | exact .inl ⟨rfl, rfl⟩ | exact HB2.out | exact HB.out, _, _, by first | rfl | simp, by first | omega | (simp; omega) | simp, H9.drewN nz⟩
            · as_aux_lemma =>
              have hdI : decide ((L.length : Int) < 64) = false := decide_eq_false (by omega)
              have hdN : decide (L.length < 64) = false := decide_eq_false hl64
              have hh : heldB 5 L = false := by unfold heldB; rw [hdN]; rfl
              have hcr : NS.carried ⟨ch.drop at_, L, bits⟩ (xn, xt) = ⟨ch.drop (at_ + 1), L, []⟩ := by rw [car_all HFG0.out HTA.out, hh]; rfl
              have hca := carry_way b (ch.drop at_) (ch.drop (at_ + 1)) L L bits [] xn xt (by omega) (fun y hy => HCH.out y (List.mem_of_mem_drop hy)) 5 g ([xt]) 1 true HFG0.out hcr rfl rfl rfl H6.r2
              have HCA := Lib.hid hca; clear hca hcr hh
              have HB2 : Hid (Bit (-1) []) := Lib.hid (.inl ⟨rfl, rfl⟩)
              go_wp2_with (fail)
              refine HRF.out.mono ?_
              rintro e w5' ⟨rfl, rfl⟩
              go_wp2_with (fail)
              refine HCA.out.mono ?_
              rintro e w6 ⟨A8, c8, rfl, H11⟩
              have H11 := H11.more (.cells #[.int .i64 1, .int .i64 0, .int .i64 1, .int .i64 2, .int .i64 0, .int .i64 1, .int .i64 1, .int .i64 1] 3)
              go_wp2_with (with_reducible refine wpList_build8 (by rfl) (by rfl) ?_)
              go_loopw [20, 21] (fun i _ wr => ∃ j : Nat, j ≤ 1 ∧ i = .int .i64 j ∧ St w wr [Row 9 1 A8 1 c8 (strs [xt]), Net b ⟨ch.drop (at_ + 1), L, []⟩, Pt bx #[.int .i64 xk, .int .i64 xn, .string xt] 38, Row 32 2 A9 (L).length c9 (lateV (L)), Row 3 1 Ai n ci (ivs ch)]) (fun i _ _ => 1 - (intOf i).toNat)
              case atStart => exact ⟨0, by omega, rfl, H11⟩
              case round =>
                clear H11 H6
                obtain ⟨j, hj8, rfl, H8⟩ := hrel
                by_cases hlt8 : j < 1
                · obtain rfl : j = 0 := by omega
                  have p8 := (H8.r3).cell 2 rfl
                  obtain ⟨g8, o8, hA⟩ := H8.row_form (by decide)
                  subst hA
                  have e0 := H8.row_cell 0 (u := .string xt) rfl
                  rw [Nat.add_zero] at e0
                  go_wp2_with (fail)
                  go_roundw
                  case rel => exact ⟨1, by omega, by go_num, H8⟩
                  case measure => simp [intOf]
                · obtain rfl : j = 1 := by omega
                  have H9 := H8.tail.r2.tail
                  go_wp2_with (fail)
                  refine (left_ok b ⟨ch.drop (at_ + 1), L, []⟩ H9).mono ?_
                  dsimp only
                  rw [drop_len ch n (at_ + 1) HLN.out (by omega)]
                  rintro e wz ⟨rfl, nz, rfl⟩
                  go_wp2_with (fail)
                  go_roundg (m - (k + 1))
                  case measure => omega
                  case rel => exact ⟨k + 1, at_ + 1, L, -1, [], rfl, by omega, by go_num, by omega, by first | rfl | go_num, rfl, by first | exact .inl ⟨rfl, rfl⟩ | exact HB2.out | exact HB.out, _, _, by first | rfl | simp, by first | omega | (simp; omega) | simp, H9.drewN nz⟩
          · as_aux_lemma =>
            have hcr : NS.carried ⟨ch.drop at_, L, bits⟩ (xn, xt) = ⟨ch.drop (at_ + 1), L, []⟩ := by rw [car_all HFG0.out HTA.out]; rfl
            have hca := carry_way b (ch.drop at_) (ch.drop (at_ + 1)) L L bits ([]) xn xt (by omega) (fun y hy => HCH.out y (List.mem_of_mem_drop hy)) 6 g ([turnB xt g]) 1 false HFG0.out hcr rfl rfl rfl H6.r2
            have HCA := Lib.hid hca; clear hca hcr
            have HB2 : Hid (Bit (-1) ([])) := Lib.hid (.inl ⟨rfl, rfl⟩)
            go_wp2_with (fail)
            refine HRF.out.mono ?_
            rintro e w5' ⟨rfl, rfl⟩
            go_wp2_with (fail)
            refine HCA.out.mono ?_
            rintro e w6 ⟨A8, c8, rfl, H11⟩
            have H11 := H11.more (.cells #[.int .i64 1, .int .i64 0, .int .i64 1, .int .i64 2, .int .i64 0, .int .i64 1, .int .i64 1, .int .i64 1] 3)
            go_wp2_with (with_reducible refine wpList_build8 (by rfl) (by rfl) ?_)
            go_loopw [20, 21] (fun i _ wr => ∃ j : Nat, j ≤ 1 ∧ i = .int .i64 j ∧ St w wr [Row 9 1 A8 1 c8 (strs [turnB xt g]), Net b ⟨ch.drop (at_ + 1), L, []⟩, Pt bx #[.int .i64 xk, .int .i64 xn, .string xt] 38, Row 32 2 A9 (L).length c9 (lateV (L)), Row 3 1 Ai n ci (ivs ch)]) (fun i _ _ => 1 - (intOf i).toNat)
            case atStart => exact ⟨0, by omega, rfl, H11⟩
            case round =>
              clear H11 H6
              obtain ⟨j, hj8, rfl, H8⟩ := hrel
              by_cases hlt8 : j < 1
              · obtain rfl : j = 0 := by omega
                have p8 := (H8.r3).cell 2 rfl
                obtain ⟨g8, o8, hA⟩ := H8.row_form (by decide)
                subst hA
                have htn := refturn_ok xt g r3 (by omega) (by omega) H8
                go_wp2_with (fail)
                refine htn.mono ?_
                clear htn
                rintro e w9 ⟨rfl, H9⟩
                have e0 := H9.row_cell 0 (u := .string (turnB xt g)) rfl
                rw [Nat.add_zero] at e0
                go_wp2_with (fail)
                go_roundw
                case rel => exact ⟨1, by omega, by go_num, H9⟩
                case measure => simp [intOf]
              · obtain rfl : j = 1 := by omega
                have H9 := H8.tail.r2.tail
                go_wp2_with (fail)
                refine (left_ok b ⟨ch.drop (at_ + 1), L, []⟩ H9).mono ?_
                dsimp only
                rw [drop_len ch n (at_ + 1) HLN.out (by omega)]
                rintro e wz ⟨rfl, nz, rfl⟩
                go_wp2_with (fail)
                go_roundg (m - (k + 1))
                case measure => omega
                case rel => exact ⟨k + 1, at_ + 1, L, -1, [], rfl, by omega, by go_num, by omega, by first | rfl | go_num, rfl, by first | exact .inl ⟨rfl, rfl⟩ | exact HB2.out | exact HB.out, _, _, by first | rfl | simp, by first | omega | (simp; omega) | simp, H9.drewN nz⟩
          · as_aux_lemma =>
            have hcr : NS.carried ⟨ch.drop at_, L, bits⟩ (xn, xt) = ⟨ch.drop (at_ + 1), L, [g]⟩ := by rw [car_all HFG0.out HTA.out]; rfl
            have hca := carry_way b (ch.drop at_) (ch.drop (at_ + 1)) L L bits ([g]) xn xt (by omega) (fun y hy => HCH.out y (List.mem_of_mem_drop hy)) 7 g ([xt]) 1 true HFG0.out hcr rfl rfl rfl H6.r2
            have HCA := Lib.hid hca; clear hca hcr
            have HB2 : Hid (Bit (g) ([g])) := Lib.hid (.inr ⟨r3, r4, rfl⟩)
            go_wp2_with (fail)
            refine HRF.out.mono ?_
            rintro e w5' ⟨rfl, rfl⟩
            go_wp2_with (fail)
            refine HCA.out.mono ?_
            rintro e w6 ⟨A8, c8, rfl, H11⟩
            have H11 := H11.more (.cells #[.int .i64 1, .int .i64 0, .int .i64 1, .int .i64 2, .int .i64 0, .int .i64 1, .int .i64 1, .int .i64 1] 3)
            go_wp2_with (with_reducible refine wpList_build8 (by rfl) (by rfl) ?_)
            go_loopw [20, 21] (fun i _ wr => ∃ j : Nat, j ≤ 1 ∧ i = .int .i64 j ∧ St w wr [Row 9 1 A8 1 c8 (strs [xt]), Net b ⟨ch.drop (at_ + 1), L, [g]⟩, Pt bx #[.int .i64 xk, .int .i64 xn, .string xt] 38, Row 32 2 A9 (L).length c9 (lateV (L)), Row 3 1 Ai n ci (ivs ch)]) (fun i _ _ => 1 - (intOf i).toNat)
            case atStart => exact ⟨0, by omega, rfl, H11⟩
            case round =>
              clear H11 H6
              obtain ⟨j, hj8, rfl, H8⟩ := hrel
              by_cases hlt8 : j < 1
              · obtain rfl : j = 0 := by omega
                have p8 := (H8.r3).cell 2 rfl
                obtain ⟨g8, o8, hA⟩ := H8.row_form (by decide)
                subst hA
                have e0 := H8.row_cell 0 (u := .string xt) rfl
                rw [Nat.add_zero] at e0
                go_wp2_with (fail)
                go_roundw
                case rel => exact ⟨1, by omega, by go_num, H8⟩
                case measure => simp [intOf]
              · obtain rfl : j = 1 := by omega
                have H9 := H8.tail.r2.tail
                go_wp2_with (fail)
                refine (left_ok b ⟨ch.drop (at_ + 1), L, [g]⟩ H9).mono ?_
                dsimp only
                rw [drop_len ch n (at_ + 1) HLN.out (by omega)]
                rintro e wz ⟨rfl, nz, rfl⟩
                go_wp2_with (fail)
                go_roundg (m - (k + 1))
                case measure => omega
                case rel => exact ⟨k + 1, at_ + 1, L, g, [g], rfl, by omega, by go_num, by omega, by first | rfl | go_num, rfl, by first | exact .inl ⟨rfl, rfl⟩ | exact HB2.out | exact HB.out, _, _, by first | rfl | simp, by first | omega | (simp; omega) | simp, H9.drewN nz⟩
        · have hat3 : decide ((at_ : Int) < n) = false := decide_eq_false (by omega)
          have hat4 : decide (at_ < n) = false := decide_eq_false hat2
          have hdn : ch.drop at_ = [] := List.drop_of_length_le (by rw [HLN.out]; omega)
          have hfg : fate (ch.drop at_) = (0, 0) := by rw [hdn]; rfl
          have hta : (ch.drop at_).tail = ch.drop at_ := by rw [hdn]; rfl
          have hcr : NS.carried ⟨ch.drop at_, L, bits⟩ (xn, xt) = ⟨ch.drop at_, L, []⟩ := by rw [car_all hfg hta]; rfl
          have hca := carry_way b (ch.drop at_) (ch.drop at_) L L bits [] xn xt (by omega) (fun y hy => HCH.out y (List.mem_of_mem_drop hy)) 0 0 [xt] 1 true hfg hcr rfl rfl rfl H6.r2
          have HCA := Lib.hid hca; clear hca hcr hfg hta hdn
          go_wp2_with (fail)
          refine HCA.out.mono ?_
          rintro e w6 ⟨A8, c8, rfl, H11⟩
          have HB2 : Hid (Bit (-1) []) := Lib.hid (.inl ⟨rfl, rfl⟩)
          have H11 := H11.more (.cells #[.int .i64 1, .int .i64 0, .int .i64 1, .int .i64 2, .int .i64 0, .int .i64 1, .int .i64 1, .int .i64 1] 3)
          go_wp2_with (with_reducible refine wpList_build8 (by rfl) (by rfl) ?_)
          go_loopw [20, 21] (fun i _ wr => ∃ j : Nat, j ≤ 1 ∧ i = .int .i64 j ∧ St w wr [Row 9 1 A8 1 c8 (strs [xt]), Net b ⟨ch.drop (at_), L, []⟩, Pt bx #[.int .i64 xk, .int .i64 xn, .string xt] 38, Row 32 2 A9 (L).length c9 (lateV (L)), Row 3 1 Ai n ci (ivs ch)]) (fun i _ _ => 1 - (intOf i).toNat)
          case atStart => exact ⟨0, by omega, rfl, H11⟩
          case round =>
            clear H11 H6
            obtain ⟨j, hj8, rfl, H8⟩ := hrel
            by_cases hlt8 : j < 1
            · obtain rfl : j = 0 := by omega
              have p8 := (H8.r3).cell 2 rfl
              obtain ⟨g8, o8, hA⟩ := H8.row_form (by decide)
              subst hA
              have e0 := H8.row_cell 0 (u := .string xt) rfl
              rw [Nat.add_zero] at e0
              go_wp2_with (fail)
              go_roundw
              case rel => exact ⟨1, by omega, by go_num, H8⟩
              case measure => simp [intOf]
            · obtain rfl : j = 1 := by omega
              have H9 := H8.tail.r2.tail
              go_wp2_with (fail)
              refine (left_ok b ⟨ch.drop (at_), L, []⟩ H9).mono ?_
              dsimp only
              rw [drop_len ch n (at_) HLN.out (by omega)]
              rintro e wz ⟨rfl, nz, rfl⟩
              go_wp2_with (fail)
              go_roundg (m - (k + 1))
              case measure => omega
              case rel => exact ⟨k + 1, at_, L, -1, [], rfl, by omega, by go_num, by omega, by first | rfl | go_num, rfl, by first | exact .inl ⟨rfl, rfl⟩ | exact HB2.out | exact HB.out, _, _, by first | rfl | simp, by first | omega | (simp; omega) | simp, H9.drewN nz⟩
    · as_aux_lemma =>
      obtain rfl : m = k := by omega
      clear hlt
      have H9 := H5.tail.tail
      clear H5 hbit hL
      go_wp2_with (fail)
      go_loopw [24] (fun i wr => ∃ j : Nat, j ≤ n ∧ i = .int .i64 j ∧ St w wr [Row 3 1 Ai n ci (ivs ch)]) (fun i _ => n - (intOf i).toNat)
      case atStart => exact ⟨0, Nat.zero_le _, rfl, H9⟩
      case round =>
        obtain ⟨j, hj8, rfl, H8⟩ := hrel
        by_cases hlt8 : j < n
        · obtain ⟨y, hy⟩ : ∃ y, ch[j]? = some y := ⟨_, List.getElem?_eq_getElem (by rw [HLN.out]; exact hlt8)⟩
          obtain ⟨hl', hc⟩ := SlRd.src HRD.out H8.below
          obtain ⟨b9, o9, hA, c0⟩ := hc j (.int .i64 y) (by rw [List.getElem?_map, hy]; rfl)
          subst hA
          obtain ⟨g5, o5, hA⟩ := H8.row_form (by omega)
          subst hA
          have e0 := H8.row_cell j (u := .int .i64 y) (by rw [ivs, List.getElem?_map, hy]; rfl)
          have hjI : (j : Int) < n := by omega
          clear hc hl' hy
          go_wp2_with (fail)
          go_quiet (fail)
          go_wp2_with (fail)
          go_roundw
          case rel => exact ⟨j + 1, by omega, by go_num, H8.drewN _⟩
          case measure => simp [intOf]; omega
        · go_wp2_with (fail)
          go_ret
          exact ⟨rfl, H8.below⟩
theorem own : ownKnob Try.prog.godebug = none := by kernel_rfl
theorem laidOut : laidOutB Try.prog = true := by kernel_rfl
theorem readable : ∀ t ∈ Try.f5.params.toList, Try.prog.readableRec t = true ∧ t < Try.prog.types.size := by
  intro t ht
  rw [Try.params5] at ht
  simp only [List.mem_cons, List.not_mem_nil, or_false] at ht
  rcases ht with rfl | rfl
  all_goals exact ⟨by kernel_rfl, of_decide_eq_true (by kernel_rfl)⟩
theorem contract (H : Type) (enc : TypeId × Value → H) (W : World) (base : Nat) (args : Array Value) (ds gs : List (DataW H)) (before : List MemPlace)
    (hval : ∀ (j : Nat) t v, Try.f5.params[j]? = some t → args[j]? = some v → Value.okWide Try.prog W .any base t v)
    (hW : DataW.Whole enc Try.prog Try.f5.params.toList Rows.netScriptsSpec.vars false W args.toList ds gs before) (hk : Rows.uptoSmall H (ds ++ gs) = true) :
    Calls Try.prog 5 args W fun e W' => ∃ v, e = .returned v ∧ Rows.netScriptsSpec.post enc Try.prog Try.f5 false true false false W args v W' := by
  have hW' := hW
  obtain ⟨p, q, hA0, hV, rfl, _, _⟩ := hW
  have hA : DataW.TrodAll enc Try.prog W 0 (fun _ => true) true Try.f5.params.toList args.toList ds p := hA0
  rw [Try.params5] at hA hval
  obtain ⟨v0, vs0, d0, ds0, p0, q0, hargs, rfl, rfl, h0, r0⟩ := trodAll_cons hA
  obtain ⟨v1, vs1, d1, ds1, p1, q1, rfl, rfl, rfl, h1, r1⟩ := trodAll_cons r0
  obtain ⟨rfl, rfl, rfl⟩ := trodAll_nil r1
  obtain rfl : args = #[v0, v1] := by cases args; simp_all
  obtain ⟨rfl, rfl⟩ := trodVars_none hV
  clear hA0
  have hk2 : Rows.uptoBulkAll _ ≤ 1048576 := of_decide_eq_true hk
  rw [List.append_nil] at hk2
  obtain ⟨fuel0, hf0⟩ := h0
  obtain ⟨A0, n0, c0, hv0⟩ := okWide_slice Try.underlying24 (hval 0 24 v0 rfl rfl)
  subst hv0
  obtain ⟨A0', n0', c0', rows0, hc0, hn0, hrd0, hrow0, hbulk0⟩ := trod_slice_flat (ks := [.int .i64]) (m := 8) Try.underlying24 (by kernel_rfl) (by kernel_rfl) (by decide) hf0
  dsimp only at hbulk0
  obtain ⟨rfl, rfl, rfl⟩ : A0' = A0 ∧ n0' = n0 ∧ c0' = c0 := by simp [Value.cells] at hc0; simp [hc0]
  obtain ⟨ch, rfl, hok0⟩ := rows_map (fun x : Int => [.int .i64 x]) (fun x : Int => -9223372036854775808 ≤ x ∧ x ≤ 9223372036854775807) rows0 (fun row hr => of_row_int row (hrow0 row hr))
  obtain ⟨fuel1, hf1⟩ := h1
  obtain ⟨A1, n1, c1, hv1⟩ := okWide_slice Try.underlying36 (hval 1 36 v1 rfl rfl)
  subst hv1
  obtain ⟨A1', n1', c1', rows1, hc1, hn1, hrd1, hrow1, hbulk1⟩ := trod_slice_flat (ks := Act.kinds) (m := 8) Try.underlying36 (by kernel_rfl) (by kernel_rfl) (by decide) hf1
  dsimp only at hbulk1
  obtain ⟨rfl, rfl, rfl⟩ : A1' = A1 ∧ n1' = n1 ∧ c1' = c1 := by simp [Value.cells] at hc1; simp [hc1]
  obtain ⟨q, rfl, hok1⟩ := rows_map Act.cells Act.ok rows1 (fun row hr => Act.of_row row (hrow1 row hr))
  refine (walk W A0' n0' c0' ch hrd0 (by
    have h1 := len_le_sum (ks := [.int .i64]) _ hrow0 (by decide)
    have h2 := hrd0.1
    simp only [Rows.uptoBulkAll] at hk2
    omega) (by
    simp only [Rows.uptoBulkAll] at hk2
    omega) hok0 A1' n1' c1' q hrd1 (by
    have h1 := len_le_sum (ks := Act.kinds) _ hrow1 (by decide)
    have h2 := hrd1.1
    simp only [Rows.uptoBulkAll] at hk2
    omega) (by
    simp only [Rows.uptoBulkAll] at hk2
    omega) hok1).mono fun e W' ⟨he, hb⟩ => ?_
  exact ⟨_, he, law_post (tb := 4) laidOut readable rfl Try.underlying4 rfl hW' rfl rfl rfl hb⟩
set_option maxRecDepth 100000 in
theorem lifted (os : Os) (started : os.Started) (H : Type) (enc : TypeId × Value → H) (F : Stop.Interp) :
    ReturnsInHanded {} Try.checked os 5 .any ((Rows.OpenSpec.upto Rows.netScriptsSpec).pre6 enc Try.prog Try.f5 Rows.netScriptsUptoRow.domain false) (((Rows.OpenSpec.upto Rows.netScriptsSpec).at F).post enc Try.prog Try.f5 false true false false) := by
  refine returnsInHanded_of_cond (C := Try.checked) (s := Rows.OpenSpec.upto Rows.netScriptsSpec) (k := Rows.uptoSmall) rfl own started (by kernel_rfl) Try.func5
    (OpenSpec.witness (enc := enc) (C := Try.checked) (s := Rows.OpenSpec.upto Rows.netScriptsSpec) (k := Rows.uptoSmall) rfl false ⟨#[], #[.slice none 0 0, .slice none 0 0], []⟩ 8 (by kernel_rfl) (by kernel_rfl) (by kernel_rfl)
      (x := ([.nil, .nil], [], [])) (by kernel_rfl) rfl (by kernel_rfl)) ?_
  intro W base args ds gs before hval hW _ hk _
  exact contract H enc W base args ds gs before hval hW hk
theorem proved : Rows.NetScriptsUptoSaid :=
  OpenClaim.holds_of_cond 5 Try.f5 rfl rfl rfl rfl rfl rfl rfl ⟨rfl, rfl, rfl, rfl, rfl⟩ rfl rfl rfl rfl rfl (by kernel_rfl) Try.func5 (by kernel_rfl)
    (of_decide_eq_true (by kernel_rfl)) (by unfold Func.isWrapper; first | (rw [if_pos (by decide +kernel)]; kernel_rfl) | (rw [if_neg (by decide +kernel)]; exact ⟨rfl, rfl⟩))
    (fun os started H enc _ F => lifted os started H enc F)
#print axioms proved

end Go.Proofs.Ytpeoajmlmkmffaa.NetScripts

/- Layer 6: which segment is picked. -/
import Derived.Test.YtdofeehnclobmaaScP
import Derived.Test.YtdofeehnclobmaaSLW
import Derived.Test.YtdofeehnclobmaaLift
import Derived.Deep.RegionHeld3
import Derived.Deep.QuietTactic
import Derived.BigQuiet
namespace Go.Proofs.Ytdofeehnclobmaa
open Go.RowKit

structure Seg where
  live : Int
  size : Int
  age : Int
def Seg.cells (x : Seg) : List Value := [.int .i64 x.live, .int .i64 x.size, .int .i64 x.age]
def Seg.ok (x : Seg) : Prop := (-9223372036854775808 ≤ x.live ∧ x.live ≤ 9223372036854775807) ∧ (-9223372036854775808 ≤ x.size ∧ x.size ≤ 9223372036854775807) ∧ (-9223372036854775808 ≤ x.age ∧ x.age ≤ 9223372036854775807)
def Seg.kinds : List SK := [.int .i64, .int .i64, .int .i64]
theorem Seg.of_row : ∀ row : List Value, RowS Seg.kinds row → ∃ x : Seg, row = x.cells ∧ x.ok := by
  intro row h
  have hl := RowS_length h
  match row, hl, h with
  | [v0, v1, v2], _, h =>
    obtain ⟨⟨x0, rfl, h0⟩, ⟨x1, rfl, h1⟩, ⟨x2, rfl, h2⟩, _⟩ := h
    exact ⟨⟨x0, x1, x2⟩, rfl, ⟨wf_i64 h0, wf_i64 h1, wf_i64 h2⟩⟩

def fop (op : BinOp) (x y : Nat) : Nat := (floatBits op .f64 x y).getD 9221120237041090561
theorem fop_FR (op : BinOp) (x y : Nat) : FR op x y (fop op x y) := by
  unfold FR fop
  cases h : floatBits op .f64 x y with
  | some r => exact ⟨by simpa [Lit.wf] using floatBits_wf h, .inl rfl⟩
  | none => exact ⟨by decide, .inr ⟨rfl, by decide +kernel⟩⟩
/-- the benefit, one of its answers -/
def bval (x : Seg) : Nat := fop .quo (fop .mul (fop .sub f1 (fop .quo (fl x.live) (fl x.size))) (fl x.age)) (fop .add f1 (fop .quo (fl x.live) (fl x.size)))
theorem bval_Ben (x : Seg) : Ben x.live x.size x.age (bval x) := ⟨_, _, _, _, fop_FR _ _ _, fop_FR _ _ _, fop_FR _ _ _, fop_FR _ _ _, fop_FR _ _ _⟩
def bk (x : Seg) : Int := tkey (bval x)
theorem Eqv.key {a b : Nat} (h : Eqv a b) : tkey a = tkey b := by
  rcases h with ⟨h1, h2⟩ | rfl
  · unfold tkey; rw [h1, h2]; rfl
  · rfl
theorem Ben.key {x : Seg} {r : Nat} (h : Ben x.live x.size x.age r) : tkey r = bk x := (h.eqv (bval_Ben x)).key
theorem Ben.lt {l s a : Int} {r : Nat} (h : Ben l s a r) : r < 2 ^ 64 := by
  obtain ⟨_, _, _, _, _, _, _, _, h⟩ := h
  exact h.1
def segd : Seg := ⟨0, 0, 0⟩
/-- the best of the first k -/
def pickN (l : List Seg) : Nat → Int
  | 0 => -1
  | k + 1 => if pickN l k < 0 ∨ bk (l.getD (pickN l k).toNat segd) < bk (l.getD k segd) then k else pickN l k
theorem pickN_lt (l : List Seg) : ∀ k, -1 ≤ pickN l k ∧ pickN l k < k ∧ (0 < k → 0 ≤ pickN l k)
  | 0 => ⟨Int.le_refl _, by show (-1 : Int) < 0; decide, fun h => by omega⟩
  | k + 1 => by
    have := pickN_lt l k
    rw [pickN]
    split <;> omega
def flat (l : List Seg) : List Value := (l.map Seg.cells).flatten
theorem flat_get : ∀ (l : List Seg) (i : Nat) (x : Seg) (j : Nat) (u : Value), l[i]? = some x → x.cells[j]? = some u → (flat l)[i * 3 + j]? = some u
  | [], i, x, j, u, h, _ => by simp at h
  | y :: l, 0, x, j, u, h, hu => by
    simp at h; subst h
    have : j < y.cells.length := (List.getElem?_eq_some_iff.1 hu).1
    unfold flat
    rw [List.map_cons, List.flatten_cons, List.getElem?_append_left (by omega), Nat.zero_mul, Nat.zero_add]; exact hu
  | y :: l, i + 1, x, j, u, h, hu => by
    have := flat_get l i x j u (by simpa using h) hu
    unfold flat at *
    rw [List.map_cons, List.flatten_cons, List.getElem?_append_right (by simp [Seg.cells]; omega)]
    rw [← this]; congr 1; simp [Seg.cells]; omega
theorem flat_snoc (l : List Seg) (x : Seg) : flat (l ++ [x]) = flat l ++ x.cells := by simp [flat]
theorem flat_length (l : List Seg) : (flat l).length = l.length * 3 := by
  induction l with
  | nil => rfl
  | cons x l ih => unfold flat at *; rw [List.map_cons, List.flatten_cons, List.length_append, ih]; simp [Seg.cells]; omega
/-- the cells of an element -/
theorem St.seg {w0 w : World} {e : TypeId} {A : Option Addr} {c : Nat} {l : List Seg} {F : List Assn} (H : St w0 w (Row e 3 A l.length c (flat l) :: F)) {i : Nat} {x : Seg} (h : l[i]? = some x) :
    ∃ g o, A = some ⟨g, o, none⟩ ∧ w.cell? ⟨g, o + i * 3, none⟩ = some (.int .i64 x.live) ∧ w.cell? ⟨g, o + i * 3 + 1, none⟩ = some (.int .i64 x.size) ∧ w.cell? ⟨g, o + i * 3 + 2, none⟩ = some (.int .i64 x.age) := by
  rcases H.row_cases with ⟨rfl, h0, _, _⟩ | ⟨g, o, cur, fr, rfl, _⟩
  · have := (List.getElem?_eq_some_iff.1 h).1; omega
  · refine ⟨g, o, rfl, ?_, ?_, ?_⟩
    · exact H.row_cell (i * 3) (flat_get l i x 0 _ h rfl)
    · rw [Nat.add_assoc]; exact H.row_cell (i * 3 + 1) (flat_get l i x 1 _ h rfl)
    · rw [Nat.add_assoc]; exact H.row_cell (i * 3 + 2) (flat_get l i x 2 _ h rfl)

theorem segS {w0 w' : World} {bx g o n c b : Nat} {x y : Seg} {l : List Seg} {T e : TypeId} {F : List Assn} (H : St w0 w' (Pt bx #[.int .i64 x.live, .int .i64 x.size, .int .i64 x.age] T :: Row e 3 (some ⟨g, o, none⟩) n c (flat l) :: F)) (hn : n = l.length) (hy : l[b]? = some y) :
    w'.cell? ⟨g, o + b * 3, none⟩ = some (.int .i64 y.live) ∧ w'.cell? ⟨g, o + b * 3 + 1, none⟩ = some (.int .i64 y.size) ∧ w'.cell? ⟨g, o + b * 3 + 2, none⟩ = some (.int .i64 y.age) ∧ w'.cell? ⟨bx, 0, none⟩ = some (.int .i64 x.live) ∧ w'.cell? ⟨bx, 1, none⟩ = some (.int .i64 x.size) ∧ w'.cell? ⟨bx, 2, none⟩ = some (.int .i64 x.age) := by
  subst hn
  obtain ⟨g', o', hA, e0, e1, e2⟩ := H.tail.seg hy
  injection hA with hA; injection hA with h1 h2; subst h1 h2
  exact ⟨e0, e1, e2, H.cell 0 rfl, H.cell 1 rfl, H.cell 2 rfl⟩

set_option maxHeartbeats 4000000 in
theorem pick_ok (A : Option Addr) (c : Nat) (l : List Seg) (hl : l.length ≤ 281474976710656) {w0 w : World} {F : List Assn} (H : St w0 w (Row 28 3 A l.length c (flat l) :: F)) :
    Calls Try.prog 18 #[.slice A l.length c] w fun r w' => r = .returned (.int .i64 (pickN l l.length)) ∧ St w0 w' (Row 28 3 A l.length c (flat l) :: F) := by
  obtain ⟨n, hn⟩ : ∃ n, n = l.length := ⟨_, rfl⟩
  rw [← hn] at H hl ⊢
  have HN := Lib.hid hn; clear hn
  go_enter Try.func18, Try.ntmps18
  go_wp2_with (fail)
  go_loopw [3, 4, 5, 8] (fun b _ _ i wr => ∃ k : Nat, k ≤ n ∧ i = .int .i64 k ∧ b = .int .i64 (pickN l k) ∧ St w0 wr (Row 28 3 A n c (flat l) :: F)) (fun _ _ _ i _ => n - (intOf i).toNat)
  case atStart => exact ⟨0, Nat.zero_le _, rfl, rfl, H⟩
  case round =>
    obtain ⟨k, hk, rfl, rfl, H1⟩ := hrel
    by_cases hlt : k < n
    · obtain ⟨x, hx⟩ : ∃ x, l[k]? = some x := ⟨_, List.getElem?_eq_getElem (by rw [← HN.out]; exact hlt)⟩
      have H1n := H1
      rw [HN.out] at H1n
      obtain ⟨g, o, hA, c0, c1, c2⟩ := H1n.seg hx
      subst hA
      have hkd : l.getD k segd = x := by rw [List.getD_eq_getElem?_getD, hx]; rfl
      have H2 := H1.alloc #[.int .i64 x.live, .int .i64 x.size, .int .i64 x.age] 28
      obtain ⟨p1, p2, p3⟩ := pickN_lt l k
      have hs : pickN l (k + 1) = (if pickN l k < 0 ∨ bk (l.getD (pickN l k).toNat segd) < bk x then (k : Int) else pickN l k) := by rw [pickN, hkd]
      by_cases hneg : pickN l k < 0
      · rw [if_pos (.inl hneg)] at hs
        have HS := Lib.hid hs; have HX := Lib.hid hx; clear hs hx hkd p1 p2 p3 H1n
        have hd : decide (pickN l k < 0) = true := decide_eq_true hneg
        go_wp2_with (fail)
        go_quiet (fail)
        go_wp2_with (fail)
        go_roundw
        case rel => exact ⟨k + 1, by omega, by go_num, by rw [HS.out], (H2.drewN _).tail⟩
        case measure => simp [intOf]; omega
      · obtain ⟨b, hb⟩ : ∃ b : Nat, pickN l k = (b : Int) := ⟨(pickN l k).toNat, by omega⟩
        obtain ⟨y, hy⟩ : ∃ y, l[b]? = some y := ⟨_, List.getElem?_eq_getElem (by rw [← HN.out]; omega)⟩
        have hyd : l.getD b segd = y := by rw [List.getD_eq_getElem?_getD, hy]; rfl
        rw [hb] at hs hneg p2
        rw [Int.toNat_natCast, hyd] at hs
        obtain ⟨g', o', hA, e0, e1, e2⟩ := H1n.seg hy
        obtain ⟨rfl, rfl⟩ : g = g' ∧ o = o' := by injection hA with hA; injection hA with h1 h2; exact ⟨h1, h2⟩
        clear hA
        rw [hb]
        have hbn : (b : Int) < n := by omega
        have hdb : decide ((b : Int) < 0) = false := decide_eq_false (by omega)
        have HS := Lib.hid hs; have HX := Lib.hid hx; have HY := Lib.hid hy; clear hs hx hy hyd hkd p1 p3 H1n hneg hb
        go_wp2_with (fail)
        generalize wr.heap.size = bx at *
        generalize wr.alloc (.cells #[.int .i64 x.live, .int .i64 x.size, .int .i64 x.age] 28) = w2 at *
        clear c0 c1 c2 e0 e1 e2 H H1
        go_region_held3 (fun w' => w'.cell? ⟨g, o + b * 3, none⟩ = some (.int .i64 y.live) ∧ w'.cell? ⟨g, o + b * 3 + 1, none⟩ = some (.int .i64 y.size) ∧ w'.cell? ⟨g, o + b * 3 + 2, none⟩ = some (.int .i64 y.age) ∧ w'.cell? ⟨bx, 0, none⟩ = some (.int .i64 x.live) ∧ w'.cell? ⟨bx, 1, none⟩ = some (.int .i64 x.size) ∧ w'.cell? ⟨bx, 2, none⟩ = some (.int .i64 x.age))  (first | exact segS H2.drew HN.out HY.out | exact segS H3 HN.out HY.out | exact segS H4 HN.out HY.out)  (first | (go_at_call 16; refine (less_ok _ _ HU.out.lt HV.out.lt _).mono ?_; rintro q w5 ⟨rfl, rfl⟩) | (go_at_call 13; refine (ben_ok _ _ _ H3).mono ?_; rintro q w4 ⟨v, hv, rfl, H4⟩; have HV := Lib.hid hv; clear hv)  | (go_at_call 13; refine (ben_ok _ _ _ H2.drew).mono ?_; rintro q w3 ⟨u, hu, rfl, H3⟩; have HU := Lib.hid hu; clear hu))
        have hf : fless u v = decide (bk y < bk x) := by unfold fless; rw [HU.out.key, HV.out.key]
        by_cases hlt2 : bk y < bk x
        · have e : pickN l (k + 1) = k := by rw [HS.out, if_pos (.inr hlt2)]
          rw [decide_eq_true hlt2] at hf
          rw [hf]
          have E := Lib.hid e; clear e hf hlt2
          go_wp2_with (fail)
          go_roundw
          case rel => exact ⟨k + 1, by omega, by go_num, by rw [E.out], H4.tail⟩
          case measure => simp [intOf]; omega
        · have e : pickN l (k + 1) = b := by rw [HS.out, if_neg (by omega)]
          rw [decide_eq_false hlt2] at hf
          rw [hf]
          have E := Lib.hid e; clear e hf hlt2
          go_wp2_with (fail)
          go_roundw
          case rel => exact ⟨k + 1, by omega, by go_num, by rw [E.out], H4.tail⟩
          case measure => simp [intOf]; omega
    · have hkn : k = n := by omega
      subst hkn
      go_wp2_with (fail)
      go_ret
      exact ⟨rfl, H1⟩
end Go.Proofs.Ytdofeehnclobmaa


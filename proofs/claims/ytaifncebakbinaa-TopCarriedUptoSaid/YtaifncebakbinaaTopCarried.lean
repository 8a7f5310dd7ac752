/- TopCarried: what is opened at the other side of a network is one of those that were sent, counted; what a cache learns of them is what was sent last: of choices and texts of bulk at most 1048576. -/
import Derived.Test.YtaifncebakbinaaTcA
import Derived.Test.YtaifncebakbinaaCaF
import Derived.Deep.DeepCutAuto
import Derived.Deep.LoopGhost
namespace Go.Proofs.Ytaifncebakbinaa.TopCarried
open Go.RowKit Go.ChangeShapes Go.WideShapes Go.ChangeAt Go.Proofs.Ytaifncebakbinaa
open Go.ChangeMaps (open_string shut_string)

theorem str_le {l : List ByteArray} {x : ByteArray} (hx : x ∈ l) (h : sumW (l.map fun x => [Value.string x]) ≤ 1048576) : x.size ≤ 1048576 := by
  have h1 : wts [Value.string x] ≤ sumW (l.map fun x => [Value.string x]) := sumW_mem (List.mem_map.2 ⟨x, hx, rfl⟩)
  simp only [wts, wt] at h1
  omega
/-- a datagram, numbered -/
def tg (i : Nat) : ByteArray := mkb (be ((i : Int) * 256) 2)
def pk (i : Nat) (x : ByteArray) : ByteArray := tg i ++ x
theorem tg_bl (i : Nat) (hi : i < 256) : bl (tg i) = [UInt8.ofNat i, 0] := by
  unfold tg
  rw [bl_mkb]
  simp only [be]
  rw [show (2 : Int) ^ (8 * 1) = 256 from rfl, show (2 : Int) ^ (8 * 0) = 1 from rfl, Int.ediv_one, show (i : Int) * 256 / 256 = i by omega]
  have e1 : byt (i : Int) = UInt8.ofNat i := by
    apply UInt8.toNat_inj.1
    have := byt_toNat (i : Int)
    have h2 : (UInt8.ofNat i).toNat = i % 256 := by simp
    omega
  have e2 : byt ((i : Int) * 256) = 0 := by
    apply UInt8.toNat_inj.1
    have := byt_toNat ((i : Int) * 256)
    have h2 : (0 : UInt8).toNat = 0 := rfl
    omega
  rw [e1, e2]
theorem tg_size (i : Nat) : (tg i).size = 2 := by unfold tg; rw [mkb_size, be_length]
theorem pk_size (i : Nat) (x : ByteArray) : (pk i x).size = 2 + x.size := by unfold pk; rw [ByteArray.size_append, tg_size]
theorem pk_bl (i : Nat) (hi : i < 256) (x : ByteArray) : bl (pk i x) = UInt8.ofNat i :: 0 :: bl x := by
  unfold pk
  have : bl (tg i ++ x) = bl (tg i) ++ bl x := by simp [bl]
  rw [this, tg_bl i hi]; rfl
theorem pk_at0 (i : Nat) (hi : i < 256) (x : ByteArray) (h : 0 < (pk i x).size) : (pk i x)[0] = UInt8.ofNat i := by
  have := pk_bl i hi x
  have e : (bl (pk i x))[0]? = some (UInt8.ofNat i) := by rw [this]; rfl
  obtain ⟨h1, h2⟩ := List.getElem?_eq_some_iff.1 e
  rw [← h2]; rfl
theorem pk_at1 (i : Nat) (hi : i < 256) (x : ByteArray) (h : 1 < (pk i x).size) : (pk i x)[1] = 0 := by
  have := pk_bl i hi x
  have e : (bl (pk i x))[1]? = some 0 := by rw [this]; rfl
  obtain ⟨h1, h2⟩ := List.getElem?_eq_some_iff.1 e
  rw [← h2]; rfl
theorem pk_tail (i : Nat) (hi : i < 256) (x : ByteArray) : (pk i x).extract 2 (pk i x).size = x := by
  apply bl_inj
  rw [bl_extract, pk_bl i hi, pk_size]
  show List.take _ (bl x) = bl x
  rw [List.take_of_length_le (by rw [bl_length]; omega)]
/-- how often a number is among those that are under way -/
def cnt (j : Nat) (L : List (Int × ByteArray)) : Int := ((L.filter fun p => p.1 == (j : Int)).length : Nat)
theorem cnt_nil (j : Nat) : cnt j [] = 0 := rfl
theorem cnt_cons (j : Nat) (p : Int × ByteArray) (L : List (Int × ByteArray)) : cnt j (p :: L) = (if p.1 = (j : Int) then 1 else 0) + cnt j L := by
  unfold cnt
  rw [List.filter_cons]
  by_cases h : p.1 = (j : Int)
  · rw [if_pos (by simpa using h), if_pos h, List.length_cons]; omega
  · rw [if_neg (by simpa using h), if_neg h]; omega
theorem cnt_snoc (j : Nat) (p : Int × ByteArray) (L : List (Int × ByteArray)) : cnt j (L ++ [p]) = cnt j L + (if p.1 = (j : Int) then 1 else 0) := by
  unfold cnt
  rw [List.filter_append, List.length_append, List.filter_cons]
  by_cases h : p.1 = (j : Int)
  · rw [if_pos (by simpa using h), if_pos h]; simp
  · rw [if_neg (by simpa using h), if_neg h]; simp
theorem cnt_nonneg (j : Nat) (L : List (Int × ByteArray)) : 0 ≤ cnt j L := by unfold cnt; omega
theorem cnt_take_le (j : Nat) (L : List (Int × ByteArray)) (k : Nat) : cnt j (L.take k) ≤ cnt j L := by
  have h : L = L.take k ++ L.drop k := (List.take_append_drop k L).symm
  have : cnt j L = cnt j (L.take k) + cnt j (L.drop k) := by
    conv => lhs; rw [h]
    unfold cnt; rw [List.filter_append, List.length_append]; omega
  have := cnt_nonneg j (L.drop k)
  omega
/-- what is so behind i datagrams -/
structure Good (l : List ByteArray) (i : Nat) (cm : List Int) (s : NS) : Prop where
  len : cm.length = i
  ch : ∀ x ∈ s.ch, inI x
  late : ∀ p ∈ s.late, ∃ j x, j < i ∧ l[j]? = some x ∧ p = ((j : Int), sealB (pk j x))
  cm : ∀ j v, cm[j]? = some v → 0 ≤ v ∧ v + cnt j s.late ≤ 2
theorem wrap_a (i : Nat) (hi : i < 200) : (i : Int) * 256 / 256 = IntKind.u8.wrap (i : Int) := by
  simp only [IntKind.wrap, IntKind.bits, IntKind.signed]; simp; omega
theorem wrap_b (i : Nat) (hi : i < 200) : (i : Int) * 256 % 256 = IntKind.u8.wrap ((i : Int) / 256) := by
  simp only [IntKind.wrap, IntKind.bits, IntKind.signed]; simp; omega
/-- all of a list are counted -/
def bump (cm : List Int) (L : List (Int × ByteArray)) : List Int := L.foldl (fun c p => c.modify p.1.toNat (· + 1)) cm
theorem bump_snoc (cm : List Int) (L : List (Int × ByteArray)) (p : Int × ByteArray) : bump cm (L ++ [p]) = (bump cm L).modify p.1.toNat (· + 1) := by unfold bump; rw [List.foldl_append]; rfl
theorem bump_length (L : List (Int × ByteArray)) : ∀ cm : List Int, (bump cm L).length = cm.length := by
  induction L with
  | nil => intro cm; rfl
  | cons p L ih => intro cm; show (bump (cm.modify p.1.toNat (· + 1)) L).length = _; rw [ih, List.length_modify]
theorem bump_get (j : Nat) (L : List (Int × ByteArray)) : (∀ p ∈ L, 0 ≤ p.1) → ∀ cm : List Int, (bump cm L)[j]? = cm[j]?.map (· + cnt j L) := by
  induction L with
  | nil => intro _ cm; rw [cnt_nil]; show cm[j]? = _; cases cm[j]? <;> simp
  | cons p L ih =>
    intro hp cm
    have h0 := hp p (List.mem_cons_self ..)
    show (bump (cm.modify p.1.toNat (· + 1)) L)[j]? = _
    rw [ih (fun q hq => hp q (List.mem_cons_of_mem _ hq)), List.getElem?_modify, cnt_cons]
    cases hc : cm[j]? with
    | none => rfl
    | some v =>
      by_cases e : p.1.toNat = j
      · have e2 : p.1 = (j : Int) := by omega
        simp [e2]; omega
      · have e2 : ¬ p.1 = (j : Int) := by omega
        simp [e, e2]
theorem modify_set {cm : List Int} {j : Nat} {v : Int} (h : cm[j]? = some v) : cm.modify j (· + 1) = cm.set j (v + 1) := by
  apply List.ext_getElem?
  intro i
  rw [List.getElem?_modify, List.getElem?_set]
  have hj := (List.getElem?_eq_some_iff.1 h).1
  by_cases e : j = i
  · subst e; rw [if_pos rfl, if_pos hj, h]; simp
  · rw [if_neg e]; simp [e]
theorem take_snoc {α : Type} {L : List α} {k : Nat} {p : α} (h : L[k]? = some p) : L.take (k + 1) = L.take k ++ [p] := by rw [List.take_add_one, h]; rfl
theorem u8_nat (j : Nat) (h : j < 256) : ((UInt8.ofNat j).toNat : Int) = j := by simp; omega
theorem car_one (C : List Int) (bits : List Int) (p : Int × ByteArray) : NS.carried ⟨C, [], bits⟩ p = ⟨C.tail, if (fate C).1 = 4 ∨ (fate C).1 = 5 then [p] else [], if (fate C).1 = 7 then [(fate C).2] else []⟩ := by
  unfold NS.carried
  dsimp only
  by_cases h : (fate C).1 = 4 ∨ (fate C).1 = 5
  · rw [if_pos h, if_pos h, if_neg (by omega)]; rfl
  · rw [if_neg h, if_neg h]
    by_cases h7 : (fate C).1 = 7
    · rw [if_pos h7, if_pos h7]
    · rw [if_neg h7, if_neg h7]
theorem carL_get (f g : Int) (d x : ByteArray) (i : Nat) (h : (carL f g d)[i]? = some x) : x = if f = 6 then turnB d g else d := by
  unfold carL at h
  by_cases h1 : f = 1 ∨ f = 4
  · rw [if_pos h1] at h; simp at h
  · rw [if_neg h1] at h
    by_cases h3 : f = 3
    · rw [if_pos h3] at h
      have hm := List.mem_of_getElem? h
      rw [if_neg (by omega)]
      simpa using hm
    · rw [if_neg h3] at h
      have hm : x ∈ _ := List.mem_of_getElem? h
      by_cases h6 : f = 6
      · rw [if_pos h6] at hm ⊢; simpa using hm
      · rw [if_neg h6] at hm ⊢; simpa using hm
theorem carL_len (f g : Int) (d : ByteArray) : (carL f g d).length ≤ 2 := by
  unfold carL
  split
  · exact Nat.zero_le _
  · split
    · exact Nat.le_refl _
    · split <;> simp
/-- how many of k copies can be opened -/
def opn (f : Int) (k : Nat) : Int := if f = 6 then 0 else k
theorem carL_back (f g : Int) (d : ByteArray) (h0 : 0 ≤ f) (h7 : f ≤ 7) (h : carOk f = true) : 0 < (carL f g d).length := by
  have hf : f = 0 ∨ f = 1 ∨ f = 2 ∨ f = 3 ∨ f = 4 ∨ f = 5 ∨ f = 6 ∨ f = 7 := by omega
  rcases hf with rfl | rfl | rfl | rfl | rfl | rfl | rfl | rfl <;> first | (exfalso; revert h; decide) | (unfold carL; simp)
theorem Good.next {l : List ByteArray} {i : Nat} {cm sch sb sb2 : List Int} {L : List (Int × ByteArray)} {x : ByteArray} {f g : Int} {d : ByteArray} (G : Good l i cm ⟨sch, L, sb⟩) (hx : l[i]? = some x) (hf0 : 0 ≤ f) (hf7 : f ≤ 7) :
    Good l (i + 1) ((bump (cm ++ [0]) L).set i (opn f (carL f g d).length)) ⟨sch.tail, if f = 4 ∨ f = 5 then [((i : Int), sealB (pk i x))] else [], sb2⟩ := by
  have hlate : ∀ q ∈ L, 0 ≤ q.1 := fun q hq => by obtain ⟨j', x', _, _, rfl⟩ := G.late q hq; show (0 : Int) ≤ (j' : Int); omega
  refine ⟨by rw [List.length_set, bump_length, List.length_append, G.len]; rfl, fun y hy => G.ch y (List.mem_of_mem_tail hy), fun p hp => ?_, fun j v hv => ?_⟩
  · dsimp only at hp
    split at hp
    · rw [List.mem_singleton] at hp
      exact ⟨i, x, by omega, hx, hp⟩
    · cases hp
  · dsimp only
    by_cases e : i = j
    · subst e
      rw [List.getElem?_set, if_pos rfl] at hv
      split at hv
      · cases hv
        have hff : f = 0 ∨ f = 1 ∨ f = 2 ∨ f = 3 ∨ f = 4 ∨ f = 5 ∨ f = 6 ∨ f = 7 := by omega
        rcases hff with rfl | rfl | rfl | rfl | rfl | rfl | rfl | rfl <;> simp [opn, carL, cnt]
      · cases hv
    · rw [List.getElem?_set, if_neg e, bump_get j L hlate] at hv
      have hj : j < i := by
        cases hc : (cm ++ [0])[j]? with
        | none => rw [hc] at hv; cases hv
        | some q =>
          have := (List.getElem?_eq_some_iff.1 hc).1
          rw [List.length_append, G.len] at this
          simp at this; omega
      rw [List.getElem?_append_left (by rw [G.len]; exact hj)] at hv
      cases hc : cm[j]? with
      | none => rw [hc] at hv; cases hv
      | some q =>
        rw [hc] at hv
        cases hv
        obtain ⟨g1, g2⟩ := G.cm j q hc
        dsimp only at g2
        have := cnt_nonneg j L
        have h0 : cnt j (if f = 4 ∨ f = 5 then [((i : Int), sealB (pk i x))] else []) = 0 := by
          split
          · rw [cnt_cons, cnt_nil, if_neg (by show ¬ (i : Int) = j; omega)]; rfl
          · rfl
        rw [h0]
        show 0 ≤ q + cnt j L ∧ q + cnt j L + 0 ≤ 2
        omega
/-- the cache behind i datagrams -/
structure Keeps (i b2 : Nat) (C : Ca.CS) : Prop where
  b : C.b = b2
  nf : C.nf = i
  age : C.age = 1099511627776
theorem Keeps.next {i b2 : Nat} {C : Ca.CS} (K : Keeps i b2 C) (h : ByteArray) (a q s n now : Int) : Keeps (i + 1) b2 (C.learn h a q s n now) := ⟨K.b, by show C.nf + 1 = _; rw [K.nf], K.age⟩
set_option maxRecDepth 100000 in
set_option maxHeartbeats 40000000 in
theorem walk (w : World) (A : Option Addr) (n c : Nat) (ch : List Int) (hrd : SlRd w A n 1 (ch.map fun x => [.int .i64 x])) (hn : n ≤ 1048576) (_hsum : sumW (ch.map fun x => [.int .i64 x]) ≤ 1048576) (hok : ∀ x ∈ ch, -9223372036854775808 ≤ x ∧ x ≤ 9223372036854775807)
    (B : Option Addr) (m d : Nat) (l : List ByteArray) (hrd2 : SlRd w B m 1 (l.map fun x => [.string x])) (hm : m ≤ 1048576) (hsum2 : sumW (l.map fun x => [.string x]) ≤ 1048576) (_hok2 : ∀ x ∈ l, x.size ≤ maxLen) :
    Calls Try.prog 3 #[.slice A n c, .slice B m d] w fun r w' => r = .returned (.bool true) ∧ Below w.heap.size w w' := by
  have H0 := St.init w
  have hln : ch.length = n := by have := hrd.1; simpa using this
  have hlm : l.length = m := by have := hrd2.1; simpa using this
  obtain ⟨i0, hi, hz0, hz1, hz2⟩ := info_parts infoInt
  have hch : ∀ x ∈ ch, inI x := hok
  have HLN := Lib.hid hln; have HLM := Lib.hid hlm; have HRD := Lib.hid hrd; have HRD2 := Lib.hid hrd2; have HSM := Lib.hid hsum2; have HCH := Lib.hid hch
  clear hln hlm hrd hrd2 hsum2 hok hch
  obtain ⟨M, hM⟩ : ∃ M, M = min m 200 := ⟨_, rfl⟩
  have hM1 : M ≤ m := by omega
  have hM2 : M ≤ 200 := by omega
  have HM := Lib.hid hM; clear hM
  go_enter Try.func3, Try.ntmps3
  go_wp2_with (fail)
  refine (new_ok A n c ch HLN.out (by omega) (fun w' hb => Src.of (n := n) (by rw [ivs_length]; exact HLN.out) (SlRd.src HRD.out hb).2) H0).mono ?_
  rintro e w1 ⟨b, rfl, H1⟩
  go_wp2_with (fail)
  refine (seal_ok ⟨#[97]⟩ (by decide) H1).mono ?_
  rintro e w2 ⟨rfl, H2⟩
  have op := open_ok (sealB ⟨#[97]⟩) (by rw [sealB_size]; decide) H2
  rw [open_seal] at op
  have OP := Lib.hid op; clear op
  go_wp2_with (fail)
  refine OP.out.mono ?_
  rintro e w3 ⟨rfl, H3⟩
  clear OP H2 H1
  go_wp2_with (fail)
  refine (Ca.new_ok 1099511627776 H3).mono ?_
  rintro e w4 ⟨b2, bf, bn, bp, rfl, H4⟩
  clear H3
  have k4 : Keeps 0 b2 ⟨b2, bf, bn, bp, max 1099511627776 0, 0, 0, 0, fun _ => none, fun _ _ => none, fun _ _ => none⟩ := ⟨rfl, rfl, by show max (1099511627776 : Int) 0 = _; decide⟩
  have g4 : Good l 0 [] ⟨ch, [], []⟩ := ⟨rfl, HCH.out, fun p hp => (by cases hp), fun j v hv => (by simp at hv)⟩
  go_wp2_with (fail)
  go_loopw [9, 10] (fun cv iv wr => ∃ (i : Nat) (cm : List Int) (s : NS) (C : Ca.CS) (B5 : Option Addr) (c5 : Nat), i ≤ M ∧ cv = .slice B5 i c5 ∧ iv = .int .i64 i ∧ Good l i cm s ∧ Keeps i b2 C ∧ St w wr (Row 3 1 B5 i c5 (ivs cm) :: Net b s :: C.own [])) (fun _ iv _ => M - (intOf iv).toNat)
  case atStart => exact ⟨0, [], ⟨ch, [], []⟩, _, none, 0, Nat.zero_le _, rfl, rfl, g4, k4, ((H4.ord 5 [4, 0, 1, 2, 3]).nilRow _ _)⟩
  case round =>
    obtain ⟨i, cm, s, C, B5, c5, hi5, rfl, rfl, G, KP, H5⟩ := hrel
    clear H4 k4 g4
    by_cases hlt : i < M
    · obtain ⟨x, hx⟩ : ∃ x, l[i]? = some x := ⟨_, List.getElem?_eq_getElem (by rw [HLM.out]; omega)⟩
      obtain ⟨bx, o, hA, hb, hd0, hcell⟩ := SlRd.at HRD2.out H5.below (i := i) (row := [.string x]) (by rw [List.getElem?_map, hx]; rfl)
      subst hA
      have c0 := hd0 _ rfl
      rw [Nat.mul_one] at c0
      have hxs := str_le (List.mem_of_getElem? hx) HSM.out
      have hd1 : decide ((i : Int) < m) = true := decide_eq_true (by omega)
      have hd2 : decide ((i : Int) < 200) = true := decide_eq_true (by omega)
      have hd3 : decide (i < m) = true := decide_eq_true (by omega)
      have hd4 : decide (i < 200) = true := decide_eq_true (by omega)
      have HG := Lib.hid G; have HK := Lib.hid KP; have HX := Lib.hid hx; clear G KP hx hcell hd0
      go_wp2_with (fail)
      refine wp_region_held_drew (S := fun w' => w'.cell? ⟨bx, o + i, none⟩ = some (.string x)) (by kernel_rfl) c0 (fun hHeld => ?_)
      have H6 := H5.drew
      clear H5
      generalize wr.drew = wa at *
      have hiI : (i : Int) < m := by omega
      refine rg_take (i := 0) (v := ?_) rfl (by kernel_rfl) (by kernel_rfl) (by kernel_rfl) (fun _ _ _ h => h) (Or.inl ⟨by kernel_rfl, ?_⟩) (by assumption) ?_
      rotate_left 1
      · intro w' hSw
        try dsimp only at hSw
        go_simp
        first | done | with_reducible rfl
      simp only [Act.put, List.setIfInBounds_toArray, List.set_cons_zero, List.set_cons_succ]
      refine rg_take (i := 1) (v := ?_) rfl (by kernel_rfl) (by kernel_rfl) (by kernel_rfl) (fun _ _ _ h => h) (Or.inl ⟨by kernel_rfl, ?_⟩) (by assumption) ?_
      rotate_left 1
      · intro w' hSw
        try dsimp only at hSw
        go_simp
        first | done | with_reducible rfl
      simp only [Act.put, List.setIfInBounds_toArray, List.set_cons_zero, List.set_cons_succ]
      refine rg_take (i := 2) (v := ?_) rfl (by kernel_rfl) (by kernel_rfl) (by kernel_rfl) (fun _ _ _ h => h) (Or.inl ⟨by kernel_rfl, ?_⟩) (by assumption) ?_
      rotate_left 1
      · intro w' hSw
        try dsimp only at hSw
        go_simp
        first | done | with_reducible rfl
      simp only [Act.put, List.setIfInBounds_toArray, List.set_cons_zero, List.set_cons_succ]
      refine rg_take (i := 3) (v := ?_) rfl (by kernel_rfl) (by kernel_rfl) (by kernel_rfl) (fun _ _ _ h => h) (Or.inl ⟨by kernel_rfl, ?_⟩) (by assumption) ?_
      rotate_left 1
      · intro w' hSw
        try dsimp only at hSw
        go_simp
        first | done | with_reducible rfl
      simp only [Act.put, List.setIfInBounds_toArray, List.set_cons_zero, List.set_cons_succ]
      refine rg_take (i := 4) (v := ?_) rfl (by kernel_rfl) (by kernel_rfl) (by kernel_rfl) (fun _ _ _ h => h) (Or.inl ⟨by kernel_rfl, ?_⟩) (by assumption) ?_
      rotate_left 1
      · intro w' hSw
        try dsimp only at hSw
        go_simp
        first | done | with_reducible rfl
      simp only [Act.put, List.setIfInBounds_toArray, List.set_cons_zero, List.set_cons_succ]
      refine rg_take (i := 7) (v := ?_) rfl (by kernel_rfl) (by kernel_rfl) (by kernel_rfl) (fun _ _ _ h => h) (Or.inl ⟨by kernel_rfl, ?_⟩) (by assumption) ?_
      rotate_left 1
      · intro w' hSw
        try dsimp only at hSw
        go_simp
        first | done | with_reducible rfl
      simp only [Act.put, List.setIfInBounds_toArray, List.set_cons_zero, List.set_cons_succ]
      refine rg_take (i := 8) (v := ?_) rfl (by kernel_rfl) (by kernel_rfl) (by kernel_rfl) (fun _ _ _ h => h) (Or.inl ⟨by kernel_rfl, ?_⟩) (by assumption) ?_
      rotate_left 1
      · intro w' hSw
        try dsimp only at hSw
        go_simp
        first | done | with_reducible rfl
      simp only [Act.put, List.setIfInBounds_toArray, List.set_cons_zero, List.set_cons_succ]
      refine rg_take (i := 9) (v := ?_) rfl (by kernel_rfl) (by kernel_rfl) (by kernel_rfl) (fun _ _ _ h => h) (Or.inl ⟨by kernel_rfl, ?_⟩) (by assumption) ?_
      rotate_left 1
      · intro w' hSw
        try dsimp only at hSw
        go_simp
        first | done | with_reducible rfl
      simp only [Act.put, List.setIfInBounds_toArray, List.set_cons_zero, List.set_cons_succ]
      refine rg_take (i := 10) (v := ?_) rfl (by kernel_rfl) (by kernel_rfl) (by kernel_rfl) (fun _ _ _ h => h) (Or.inl ⟨by kernel_rfl, ?_⟩) (by assumption) ?_
      rotate_left 1
      · intro w' hSw
        try dsimp only at hSw
        go_simp
        first | done | with_reducible rfl
      simp only [Act.put, List.setIfInBounds_toArray, List.set_cons_zero, List.set_cons_succ]
      refine wpAnyH_ready (rs := [5]) (by kernel_rfl) (by simp) ?_
      refine rg_cons rfl (fun K hK => ?_) AllReadyH.nil
      go_simp
      have hcv := two_bytes ((i : Int) * 256) (by omega) (by omega) H6
      rw [wrap_a i (by omega), wrap_b i (by omega)] at hcv
      have H7 := (H6.alloc #[.int .u8 (IntKind.u8.wrap (i : Int)), .int .u8 (IntKind.u8.wrap ((i : Int) / 256))] 5).tail
      have hc7 := (H6.more (.cells #[.int .u8 (IntKind.u8.wrap (i : Int)), .int .u8 (IntKind.u8.wrap ((i : Int) / 256))] 5)).old (a := ⟨bx, o + i, none⟩) hb
      rw [← H6.old (a := ⟨bx, o + i, none⟩) hb, hHeld] at hc7
      refine hK.out _ _ hc7 (fun hHeld => ?_)
      clear hK
      try simp only [Act.put, List.setIfInBounds_toArray, List.set_cons_zero, List.set_cons_succ]
      generalize wa.alloc (.cells #[.int .u8 (IntKind.u8.wrap (i : Int)), .int .u8 (IntKind.u8.wrap ((i : Int) / 256))] 5) = wb at *
      clear H6
      refine wpAnyH_ready (rs := [6]) (by kernel_rfl) (by simp) ?_
      refine rg_cons rfl (fun K hK => ?_) AllReadyH.nil
      go_simp
      refine hK.out _ _ hc7 (fun hHeld => ?_)
      clear hK
      try simp only [Act.put, List.setIfInBounds_toArray, List.set_cons_zero, List.set_cons_succ]
      have htz := tg_size i
      have hov : ¬ (9223372036854775807 < 2 + x.size) := by omega
      rw [show mkb (be ((i : Int) * 256) 2) = tg i from rfl]
      refine rg_take (i := 11) (v := ?_) rfl (by kernel_rfl) (by kernel_rfl) (by kernel_rfl) (fun _ _ _ h => h) (Or.inl ⟨by kernel_rfl, ?_⟩) (by assumption) ?_
      rotate_left 1
      · intro w' hSw
        try dsimp only at hSw
        go_simp
        first | done | with_reducible rfl
      simp only [Act.put, List.setIfInBounds_toArray, List.set_cons_zero, List.set_cons_succ]
      refine rg_take (i := 12) (v := ?_) rfl (by kernel_rfl) (by kernel_rfl) (by kernel_rfl) (fun _ _ _ h => h) (Or.inl ⟨by kernel_rfl, ?_⟩) (by assumption) ?_
      rotate_left 1
      · intro w' hSw
        try dsimp only at hSw
        go_simp
        first | done | with_reducible rfl
      simp only [Act.put, List.setIfInBounds_toArray, List.set_cons_zero, List.set_cons_succ]
      refine wpAnyH_done (by kernel_rfl) ?_ _
      rw [show tg i ++ x = pk i x from rfl]
      clear hcv hc7 hHeld hd1 hd2 hd3 hd4
      go_wp2_with (at_builtin; refine wpList_append_st (by rfl) _ _ _ (by rfl) 3 i0 (.int .i64 0) 1 8 Try.underlying22 hi hz0 hz1 hz2 rfl (by decide) B5 i c5 (ivs cm) (H7.more _) (by rfl) ⟨wb.heap.size, 0, none⟩ 1 1 [iv 0] (by rfl) rfl (World.news_of_block (heap_alloc_new _ _)) (fun u hu => by simp at hu; subst hu; rfl) (by unfold maxLen; omega) (by omega) ?_; intro B6 c6 wc H8)
      have hiv : ivs cm ++ [iv 0] = ivs (cm ++ [0]) := by simp [ivs]
      rw [hiv] at H8
      clear hiv H7
      refine (late_ok b s H8.r2).mono ?_
      rintro e wd ⟨A7, c7, rfl, H9⟩
      clear H8
      have H10 := H9.r3
      clear H9
      obtain ⟨sch, L, sb⟩ := s
      dsimp only at *
      go_wp2_with (fail)
      go_loopw [13] (fun kv wr => ∃ k : Nat, k ≤ L.length ∧ kv = .int .i64 k ∧ St w wr (Row 3 1 B6 (i + 1) c6 (ivs (bump (cm ++ [0]) (L.take k))) :: Row 37 2 A7 L.length c7 (lateV L) :: Net b ⟨sch, [], sb⟩ :: C.own [])) (fun kv _ => L.length - (intOf kv).toNat)
      case atStart => exact ⟨0, Nat.zero_le _, rfl, H10⟩
      case round =>
        obtain ⟨k, hk, rfl, H11⟩ := hrel
        clear H10
        have hLm := H11.r2.row_le
        unfold maxLen at hLm
        by_cases hlt2 : k < L.length
        · obtain ⟨p, hp⟩ : ∃ p, L[k]? = some p := ⟨_, List.getElem?_eq_getElem hlt2⟩
          obtain ⟨j, xj, hji, hxj, rfl⟩ := HG.out.late p (List.mem_of_getElem? hp)
          obtain ⟨g7, o7, hA7, e0, e1⟩ := St.late H11.r2 hp
          subst hA7
          dsimp only at e0 e1
          obtain ⟨bx2, o2, hA2, hb2, hd2, _⟩ := SlRd.at HRD2.out H11.below (i := j) (row := [.string xj]) (by rw [List.getElem?_map, hxj]; rfl)
          cases hA2
          have cj := hd2 _ rfl
          rw [Nat.mul_one] at cj
          have hxjs := str_le (List.mem_of_getElem? hxj) HSM.out
          have hlate : ∀ q ∈ L, 0 ≤ q.1 := fun q hq => by obtain ⟨j', x', _, _, rfl⟩ := HG.out.late q hq; show (0 : Int) ≤ (j' : Int); omega
          obtain ⟨v0, hv0⟩ : ∃ v0, cm[j]? = some v0 := ⟨_, List.getElem?_eq_getElem (by rw [HG.out.len]; exact hji)⟩
          obtain ⟨g1, g2⟩ := HG.out.cm j v0 hv0
          dsimp only at g1 g2
          have hct := cnt_take_le j L k
          have hcn := cnt_nonneg j (L.take k)
          have hbv : (bump (cm ++ [0]) (L.take k))[j]? = some (v0 + cnt j (L.take k)) := by
            rw [bump_get j _ (fun q hq => hlate q (List.mem_of_mem_take hq)), List.getElem?_append_left (by rw [HG.out.len]; exact hji), hv0]; rfl
          have hya := arrived_yes (sealB (pk j xj)) (pk j xj) xj (by rw [sealB_size, pk_size]; omega) bx o m d B6 (i + 1) c6 (bump (cm ++ [0]) (L.take k)) j (v0 + cnt j (L.take k)) (UInt8.ofNat j) 0 (open_seal _) (by rw [pk_size]; omega) (pk_at0 j (by omega) xj (by rw [pk_size]; omega)) (pk_at1 j (by omega) xj (by rw [pk_size]; omega))
            (u8_nat j (by omega)) rfl (pk_tail j (by omega) xj) (by rw [pk_size]; omega) (by rw [bump_length, List.length_append, HG.out.len]; rfl) (by omega) (by omega) hbv (by omega) (by omega) hb cj H11
          rw [show (bump (cm ++ [0]) (L.take k)).set j (v0 + cnt j (L.take k) + 1) = bump (cm ++ [0]) (L.take (k + 1)) by rw [take_snoc hp, bump_snoc, modify_set (by exact hbv)]; rfl] at hya
          have HY := Lib.hid hya; have HP := Lib.hid hp; clear hya hbv hlate hct hcn hv0 g1 g2 hd2 hp
          have hkL : (k : Int) < L.length := by omega
          have hij : decide ((i : Int) < (j : Int)) = false := decide_eq_false (by omega)
          have hij2 : decide (i < j) = false := decide_eq_false (by omega)
          go_wp2_with (fail)
          refine HY.out.mono ?_
          rintro e we ⟨rfl, H12⟩
          clear HY e0 e1 cj H11
          obtain ⟨_, _, hA7, e0, e1⟩ := St.late H12.r2 (i := k) (p := ((j : Int), sealB (pk j xj))) HP.out
          cases hA7
          go_wp2_with (fail)
          refine ⟨⟨k + 1, by omega, by go_num, H12⟩, by simp [intOf]; omega⟩
        · obtain rfl : L.length = k := by omega
          rw [List.take_length] at H11
          obtain ⟨f, g, hfg⟩ : ∃ f g, fate sch = (f, g) := ⟨_, _, rfl⟩
          obtain ⟨r1, r2, r3, r4⟩ := fate_range sch HG.out.ch
          have hco := car_one sch sb ((i : Int), sealB (pk i x))
          have hsx : (sealB (pk i x)).size ≤ 1099511627776 := by rw [sealB_size, pk_size]; omega
          have hpx : (pk i x).size ≤ 1099511627776 := by rw [pk_size]; omega
          have hca := fun w' H' => carry_ok b ⟨sch, [], sb⟩ (i : Int) (sealB (pk i x)) hsx HG.out.ch (w := w') (w0 := w) (F := Row 3 1 B6 (i + 1) c6 (ivs (bump (cm ++ [0]) L)) :: Row 37 2 A7 L.length c7 (lateV L) :: C.own []) H'
          rw [hco] at hca
          dsimp only at hca
          rw [hfg] at hca r1 r2 r3 r4
          dsimp only at hca r1 r2 r3 r4
          obtain ⟨ok, hok⟩ : ∃ ok, ok = carOk f := ⟨_, rfl⟩
          obtain ⟨cs, hcs⟩ : ∃ cs, cs = carL f g (sealB (pk i x)) := ⟨_, rfl⟩
          obtain ⟨q, hq⟩ : ∃ q, q = cs.length := ⟨_, rfl⟩
          obtain ⟨L2, hL2⟩ : ∃ L2 : List (Int × ByteArray), L2 = if f = 4 ∨ f = 5 then [((i : Int), sealB (pk i x))] else [] := ⟨_, rfl⟩
          obtain ⟨sb2, hsb2⟩ : ∃ sb2 : List Int, sb2 = if f = 7 then [g] else [] := ⟨_, rfl⟩
          rw [← hcs, ← hok, ← hq, ← hL2, ← hsb2] at hca
          have hq2 : q ≤ 2 := by rw [hq, hcs]; exact carL_len _ _ _
          have hbk : ok = true → 0 < q := fun h => by rw [hq, hcs]; exact carL_back f g _ r1 r2 (by rw [← hok]; exact h)
          have hgn : Good l (i + 1) ((bump (cm ++ [0]) L).set i (opn f q)) ⟨sch.tail, L2, sb2⟩ := by
            have := Good.next (sb2 := sb2) (g := g) (d := sealB (pk i x)) HG.out HX.out r1 r2
            rw [← hcs, ← hq, ← hL2] at this
            exact this
          have hgl : ∀ k y, cs[k]? = some y → y = if f = 6 then turnB (sealB (pk i x)) g else sealB (pk i x) := fun k y h => carL_get f g _ y k (by rw [← hcs]; exact h)
          have hbl : (bump (cm ++ [0]) L).length = i + 1 := by rw [bump_length, List.length_append, HG.out.len]; rfl
          have hb0 : (bump (cm ++ [0]) L)[i]? = some 0 := by
            have hlate : ∀ q ∈ L, 0 ≤ q.1 := fun q hq => by obtain ⟨j', x', _, _, rfl⟩ := HG.out.late q hq; show (0 : Int) ≤ (j' : Int); omega
            rw [bump_get i L hlate, List.getElem?_append_right (by rw [HG.out.len]; omega), HG.out.len, Nat.sub_self]
            show some (0 + cnt i L) = some 0
            have : L.filter (fun p => p.1 == (i : Int)) = [] := List.filter_eq_nil_iff.2 fun q hq => by
              obtain ⟨j', x', hj', _, rfl⟩ := HG.out.late q hq
              simp; omega
            unfold cnt; rw [this]; rfl
          obtain ⟨cm1, hcm1⟩ : ∃ cm1, cm1 = bump (cm ++ [0]) L := ⟨_, rfl⟩
          rw [← hcm1] at hca hgn hbl hb0 H11
          have hseal := fun w' H' => seal_ok (pk i x) hpx (w := w') (w0 := w) (F := Net b ⟨sch, [], sb⟩ :: Row 3 1 B6 (i + 1) c6 (ivs cm1) :: Row 37 2 A7 L.length c7 (lateV L) :: C.own []) H'
          have HCA := Lib.hid hca; have HSE := Lib.hid hseal; have HQ := Lib.hid hq; have HBK := Lib.hid hbk; have HGN := Lib.hid hgn; have HGL := Lib.hid hgl; have HB0 := Lib.hid hb0
          clear hca hseal hq hbk hgn hgl hb0 hco hfg hcs hok hL2 hsb2 hcm1 HG r3 r4
          go_wp2_with (fail)
          refine (HSE.out _ (H11.ord 3 [2, 0, 1])).mono ?_
          rintro e we ⟨rfl, H12⟩
          clear HSE H11
          go_wp2_with (fail)
          refine (HCA.out _ H12).mono ?_
          rintro e wf ⟨A8, c8, rfl, H13⟩
          clear HCA H12
          have H14 := H13.ord 3 [2, 0, 1]
          clear H13
          go_wp2_with (fail)
          go_loopw [16] (fun kv wr => ∃ k : Nat, k ≤ q ∧ kv = .int .i64 k ∧ St w wr (Row 3 1 B6 (i + 1) c6 (ivs (cm1.set i (opn f k))) :: Row 9 1 A8 q c8 (strs cs) :: Net b ⟨sch.tail, L2, sb2⟩ :: Row 37 2 A7 L.length c7 (lateV L) :: C.own [])) (fun kv _ => q - (intOf kv).toNat)
          case atStart =>
            refine ⟨0, Nat.zero_le _, rfl, ?_⟩
            have e0 : opn f 0 = 0 := by unfold opn; split <;> rfl
            have e1 : cm1.set i 0 = cm1 := by
              apply List.ext_getElem?
              intro j
              rw [List.getElem?_set]
              by_cases h : i = j
              · subst h; rw [if_pos rfl, HB0.out, if_pos (by omega)]
              · rw [if_neg h]
            rw [e0, e1]; exact H14
          case round =>
            obtain ⟨k, hk3, rfl, H15⟩ := hrel
            clear H14
            by_cases hlt3 : k < q
            · obtain ⟨y, hy⟩ : ∃ y, cs[k]? = some y := ⟨_, List.getElem?_eq_getElem (by rw [← HQ.out]; exact hlt3)⟩
              obtain ⟨g8, o8, hA8⟩ := H15.r2.row_form (by omega)
              subst hA8
              have e0 := H15.r2.row_cell k (u := .string y) (by rw [strs, List.getElem?_map, hy]; rfl)
              have hyv := HGL.out k y hy
              have hkq : (k : Int) < q := by omega
              by_cases h6 : f = 6
              · rw [if_pos h6] at hyv
                have hno := arrived_no y ByteArray.empty (by rw [hyv, turnB_size]; exact hsx) (some ⟨bx, o, none⟩) m d B6 (i + 1) c6 (by rw [hyv]; exact open_turn _ _) H15
                have hop : opn f k = opn f (k + 1) := by unfold opn; rw [if_pos h6, if_pos h6]
                rw [hop] at hno
                have HNO := Lib.hid hno; clear hno hop hyv hy
                go_wp2_with (fail)
                refine HNO.out.mono ?_
                rintro e wg ⟨rfl, H16⟩
                clear HNO e0 H15
                go_wp2_with (fail)
                refine ⟨⟨k + 1, by omega, by go_num, H16⟩, by simp [intOf]; omega⟩
              · rw [if_neg h6] at hyv
                subst hyv
                have hop : opn f k = (k : Int) := if_neg h6
                have hop2 : opn f (k + 1) = (k : Int) + 1 := by unfold opn; rw [if_neg h6]; omega
                obtain ⟨bx2, o2, hA2, hb2, hd2, _⟩ := SlRd.at HRD2.out H15.below (i := i) (row := [.string x]) (by rw [List.getElem?_map, HX.out]; rfl)
                cases hA2
                have cx := hd2 _ rfl
                rw [Nat.mul_one] at cx
                clear hd2
                have hya := arrived_yes (sealB (pk i x)) (pk i x) x hsx bx o m d B6 (i + 1) c6 (cm1.set i (opn f k)) i (k : Int) (UInt8.ofNat i) 0 (open_seal _) (by rw [pk_size]; omega) (pk_at0 i (by omega) x (by rw [pk_size]; omega)) (pk_at1 i (by omega) x (by rw [pk_size]; omega))
                  (u8_nat i (by omega)) rfl (pk_tail i (by omega) x) hpx (by rw [List.length_set]; exact hbl) (by omega) (by omega) (by rw [List.getElem?_set, if_pos rfl, if_pos (by omega), hop]) (by omega) (by omega) hb cx H15
                rw [List.set_set, ← hop2] at hya
                have HY := Lib.hid hya; clear hya hop hop2 cx hy
                go_wp2_with (fail)
                refine HY.out.mono ?_
                rintro e wg ⟨rfl, H16⟩
                clear HY e0 H15
                go_wp2_with (fail)
                refine ⟨⟨k + 1, by omega, by go_num, H16⟩, by simp [intOf]; omega⟩
            · obtain rfl : q = k := by omega
              have hch := HK.out
              have ll := Ca.learn_ok C ⟨#[104]⟩ (i : Int) 0 0 0 (i : Int) (by decide) (by rw [hch.nf]; unfold maxLen; omega) (H15.ord 8 [4, 5, 6, 7, 0, 1, 2, 3])
              rw [hch.b] at ll
              obtain ⟨C2, hC2⟩ : ∃ C2, C2 = C.learn ⟨#[104]⟩ (i : Int) 0 0 0 (i : Int) := ⟨_, rfl⟩
              have hK2 := hch.next ⟨#[104]⟩ (i : Int) 0 0 0 (i : Int)
              have hf2 : C2.fm ⟨#[104]⟩ = some ⟨(i : Int), 0, 0, 0, (i : Int)⟩ := by rw [hC2]; show Ca.FM.set C.fm ⟨#[104]⟩ ⟨(i : Int), 0, 0, 0, (i : Int)⟩ ⟨#[104]⟩ = _; unfold Ca.FM.set; exact if_pos rfl
              rw [← hC2] at ll hK2
              clear hC2 hch
              have LL := Lib.hid ll; have HK2 := Lib.hid hK2; have HF2 := Lib.hid hf2; clear ll hK2 hf2
              go_wp2_with (fail)
              refine LL.out.mono ?_
              clear LL H15
              rintro e wh ⟨rfl, H17⟩
              have al := Ca.attr_ok C2 ⟨#[104]⟩ (i : Int) (by decide) (by unfold Ca.inI; omega) (by rw [HK2.out.age]; decide) (by rw [HK2.out.age]; unfold Ca.inI; decide) (fun y hy => by rw [HF2.out] at hy; cases hy; unfold Ca.inI; dsimp only; omega) H17
              have hat : C2.attrOf ⟨#[104]⟩ (i : Int) = (Ca.attrC (i : Int) 0 0 0, true) := by
                unfold Ca.CS.attrOf
                rw [HF2.out]
                dsimp only
                rw [if_pos (by unfold Ca.freshB; rw [HK2.out.age]; simp)]
              rw [hat, HK2.out.b] at al
              have AL := Lib.hid al; clear al hat
              go_wp2_with (fail)
              refine AL.out.mono ?_
              clear AL H17
              rintro e wi ⟨rfl, H18⟩
              have HZ := H18.alloc (Ca.attrC 0 0 0 0) 44
              go_wp2_with (with_reducible refine hold_store ?_)
              unfold Hold
              with_reducible refine wpList_store_st (ty := 44) (HZ) (Ca.attrC (i : Int) 0 0 0) ?_ ?_ ?_ ?_ ?_ ?_ ?_
              rfl
              rfl
              rfl
              rfl
              kernel_rfl
              rfl
              intro wj H19
              clear HZ H18
              generalize wi.heap.size = ba at *
              have z5 := H19.cell 5 (v := .int .i64 (i : Int)) rfl
              have H20 : St w wj (Row 3 1 B6 (i + 1) c6 (ivs (cm1.set i (opn f q))) :: Net b ⟨sch.tail, L2, sb2⟩ :: C2.own []) := ((H19.ord 9 [5, 7, 1, 2, 3, 4, 0, 6, 8]).ord 9 [6, 7, 8, 0, 1, 2, 3, 4, 5]).tail.tail.tail
              clear H19
              cases ok with
              | false =>
                go_wp2_with (fail)
                refine ⟨⟨i + 1, _, _, C2, B6, c6, by omega, rfl, by go_num, HGN.out, HK2.out, H20⟩, by simp [intOf]; omega⟩
              | true =>
                have hq0 := HBK.out rfl
                have hd5 : decide ((q : Int) = 0) = false := decide_eq_false (by omega)
                have hd6 : ((q : Int) == 0) = false := by rw [beq_eq_false_iff_ne]; omega
                go_wp2_with (fail)
                refine ⟨⟨i + 1, _, _, C2, B6, c6, by omega, rfl, by go_num, HGN.out, HK2.out, H20⟩, by simp [intOf]; omega⟩
    · obtain rfl : M = i := by omega
      have hcase : (M : Int) < m ∧ M = 200 ∨ ¬ (M : Int) < m := by have := HM.out; omega
      have HG := Lib.hid G
      clear G KP hlt
      rcases hcase with ⟨h1, h2⟩ | h1
      · have hd2 : decide ((M : Int) < 200) = false := decide_eq_false (by omega)
        have hd4 : decide (M < 200) = false := decide_eq_false (by omega)
        have hd3 : decide (M < m) = true := decide_eq_true (by omega)
        go_wp2_with (fail)
        go_loopw [19] (fun kv wr => ∃ k : Nat, k ≤ M ∧ kv = .int .i64 k ∧ St w wr (Row 3 1 B5 M c5 (ivs cm) :: Net b s :: C.own [])) (fun kv _ => M - (intOf kv).toNat)
        case atStart => exact ⟨0, Nat.zero_le _, rfl, H5⟩
        case round =>
          obtain ⟨k, hk, rfl, H6⟩ := hrel
          clear H5
          by_cases hlt4 : k < M
          · obtain ⟨v, hv⟩ : ∃ v, cm[k]? = some v := ⟨_, List.getElem?_eq_getElem (by rw [HG.out.len]; exact hlt4)⟩
            obtain ⟨g1, g2⟩ := HG.out.cm k v hv
            have g3 := cnt_nonneg k s.late
            obtain ⟨g8, o8, hA8⟩ := H6.row_form (by omega)
            subst hA8
            have e0 := H6.row_cell k (u := .int .i64 v) (by rw [ivs, List.getElem?_map, hv]; rfl)
            have hkM : (k : Int) < M := by omega
            have hv3 : decide ((3 : Int) < v) = false := decide_eq_false (by omega)
            clear hv g2 g3
            go_wp2_with (fail)
            refine ⟨⟨k + 1, by omega, by go_num, H6⟩, by simp [intOf]; omega⟩
          · go_wp2_with (fail)
            go_ret
            exact ⟨rfl, H6.below⟩
      · have hd1 : decide ((M : Int) < m) = false := decide_eq_false h1
        have hd3 : decide (M < m) = false := decide_eq_false (by omega)
        go_wp2_with (fail)
        go_loopw [19] (fun kv wr => ∃ k : Nat, k ≤ M ∧ kv = .int .i64 k ∧ St w wr (Row 3 1 B5 M c5 (ivs cm) :: Net b s :: C.own [])) (fun kv _ => M - (intOf kv).toNat)
        case atStart => exact ⟨0, Nat.zero_le _, rfl, H5⟩
        case round =>
          obtain ⟨k, hk, rfl, H6⟩ := hrel
          clear H5
          by_cases hlt4 : k < M
          · obtain ⟨v, hv⟩ : ∃ v, cm[k]? = some v := ⟨_, List.getElem?_eq_getElem (by rw [HG.out.len]; exact hlt4)⟩
            obtain ⟨g1, g2⟩ := HG.out.cm k v hv
            have g3 := cnt_nonneg k s.late
            obtain ⟨g8, o8, hA8⟩ := H6.row_form (by omega)
            subst hA8
            have e0 := H6.row_cell k (u := .int .i64 v) (by rw [ivs, List.getElem?_map, hv]; rfl)
            have hkM : (k : Int) < M := by omega
            have hv3 : decide ((3 : Int) < v) = false := decide_eq_false (by omega)
            clear hv g2 g3
            go_wp2_with (fail)
            refine ⟨⟨k + 1, by omega, by go_num, H6⟩, by simp [intOf]; omega⟩
          · go_wp2_with (fail)
            go_ret
            exact ⟨rfl, H6.below⟩
theorem own : ownKnob Try.prog.godebug = none := by kernel_rfl
theorem laidOut : laidOutB Try.prog = true := by kernel_rfl
theorem readable : ∀ t ∈ Try.f3.params.toList, Try.prog.readableRec t = true ∧ t < Try.prog.types.size := by
  intro t ht
  rw [Try.params3] at ht
  simp only [List.mem_cons, List.not_mem_nil, or_false] at ht
  rcases ht with rfl | rfl
  all_goals exact ⟨by kernel_rfl, of_decide_eq_true (by kernel_rfl)⟩
set_option maxRecDepth 100000 in
theorem contract (H : Type) (enc : TypeId × Value → H) (W : World) (base : Nat) (args : Array Value) (ds gs : List (DataW H)) (before : List MemPlace)
    (hval : ∀ (j : Nat) t v, Try.f3.params[j]? = some t → args[j]? = some v → Value.okWide Try.prog W .any base t v)
    (hW : DataW.Whole enc Try.prog Try.f3.params.toList Rows.topCarriedSpec.vars false W args.toList ds gs before) (hk : Rows.uptoSmall H (ds ++ gs) = true) :
    Calls Try.prog 3 args W fun e W' => ∃ v, e = .returned v ∧ Rows.topCarriedSpec.post enc Try.prog Try.f3 false true false false W args v W' := by
  have hW' := hW
  obtain ⟨p, q, hA0, hV, rfl, _, _⟩ := hW
  have hA : DataW.TrodAll enc Try.prog W 0 (fun _ => true) true Try.f3.params.toList args.toList ds p := hA0
  rw [Try.params3] at hA hval
  obtain ⟨v0, vs0, d0, ds0, p0, q0, hargs, rfl, rfl, h0, r0⟩ := trodAll_cons hA
  obtain ⟨v1, vs1, d1, ds1, p1, q1, rfl, rfl, rfl, h1, r1⟩ := trodAll_cons r0
  obtain ⟨rfl, rfl, rfl⟩ := trodAll_nil r1
  obtain rfl : args = #[v0, v1] := by cases args; simp_all
  obtain ⟨rfl, rfl⟩ := trodVars_none hV
  clear hA0
  have hk2 : Rows.uptoBulkAll _ ≤ 1048576 := of_decide_eq_true hk
  rw [List.append_nil] at hk2
  obtain ⟨fuel0, hf0⟩ := h0
  obtain ⟨A0, n0, c0, hv0⟩ := okWide_slice Try.underlying22 (hval 0 22 v0 rfl rfl)
  subst hv0
  obtain ⟨A0', n0', c0', rows0, hc0, hn0, hrd0, hrow0, hbulk0⟩ := trod_slice_flat (ks := [.int .i64]) (m := 8) Try.underlying22 (by kernel_rfl) (by kernel_rfl) (by decide) hf0
  dsimp only at hbulk0
  obtain ⟨rfl, rfl, rfl⟩ : A0' = A0 ∧ n0' = n0 ∧ c0' = c0 := by simp [Value.cells] at hc0; simp [hc0]
  obtain ⟨ch, rfl, hok0⟩ := rows_map (fun x : Int => [.int .i64 x]) (fun x : Int => -9223372036854775808 ≤ x ∧ x ≤ 9223372036854775807) rows0 (fun row hr => of_row_int row (hrow0 row hr))
  obtain ⟨fuel1, hf1⟩ := h1
  obtain ⟨A1, n1, c1, hv1⟩ := okWide_slice Try.underlying23 (hval 1 23 v1 rfl rfl)
  subst hv1
  obtain ⟨A1', n1', c1', rows1, hc1, hn1, hrd1, hrow1, hbulk1⟩ := trod_slice_flat (ks := [.str]) (m := 8) Try.underlying23 (by kernel_rfl) (by kernel_rfl) (by decide) hf1
  dsimp only at hbulk1
  obtain ⟨rfl, rfl, rfl⟩ : A1' = A1 ∧ n1' = n1 ∧ c1' = c1 := by simp [Value.cells] at hc1; simp [hc1]
  obtain ⟨l, rfl, hok1⟩ := rows_map (fun x : ByteArray => [.string x]) (fun x : ByteArray => x.size ≤ maxLen) rows1 (fun row hr => of_row_str row (hrow1 row hr))
  refine (walk W A0' n0' c0' ch hrd0 (by
    have h1 := len_le_sum (ks := [.int .i64]) _ hrow0 (by decide)
    have h2 := hrd0.1
    simp only [Rows.uptoBulkAll] at hk2
    omega) (by
    simp only [Rows.uptoBulkAll] at hk2
    omega) hok0 A1' n1' c1' l hrd1 (by
    have h1 := len_le_sum (ks := [.str]) _ hrow1 (by decide)
    have h2 := hrd1.1
    simp only [Rows.uptoBulkAll] at hk2
    omega) (by
    simp only [Rows.uptoBulkAll] at hk2
    omega) hok1).mono fun e W' ⟨he, hb⟩ => ?_
  exact ⟨_, he, law_post (tb := 4) laidOut readable rfl Try.underlying4 rfl hW' rfl rfl rfl hb⟩
set_option maxRecDepth 100000 in
theorem lifted (os : Os) (started : os.Started) (H : Type) (enc : TypeId × Value → H) (F : Stop.Interp) :
    ReturnsInHanded {} Try.checked os 3 .any ((Rows.OpenSpec.upto Rows.topCarriedSpec).pre6 enc Try.prog Try.f3 Rows.topCarriedUptoRow.domain false) (((Rows.OpenSpec.upto Rows.topCarriedSpec).at F).post enc Try.prog Try.f3 false true false false) := by
  refine returnsInHanded_of_cond (C := Try.checked) (s := Rows.OpenSpec.upto Rows.topCarriedSpec) (k := Rows.uptoSmall) rfl own started (by kernel_rfl) Try.func3
    (OpenSpec.witness (enc := enc) (C := Try.checked) (s := Rows.OpenSpec.upto Rows.topCarriedSpec) (k := Rows.uptoSmall) rfl false ⟨#[], #[.slice none 0 0, .slice none 0 0], []⟩ 8 (by kernel_rfl) (by kernel_rfl) (by kernel_rfl)
      (x := ([.nil, .nil], [], [])) (by kernel_rfl) rfl (by kernel_rfl)) ?_
  intro W base args ds gs before hval hW _ hk _
  exact contract H enc W base args ds gs before hval hW hk
theorem proved : Rows.TopCarriedUptoSaid :=
  OpenClaim.holds_of_cond 3 Try.f3 rfl rfl rfl rfl rfl rfl rfl ⟨rfl, rfl, rfl, rfl, rfl⟩ rfl rfl rfl rfl rfl (by kernel_rfl) Try.func3 (by kernel_rfl)
    (of_decide_eq_true (by kernel_rfl)) (by unfold Func.isWrapper; first | (rw [if_pos (by decide +kernel)]; kernel_rfl) | (rw [if_neg (by decide +kernel)]; exact ⟨rfl, rfl⟩))
    (fun os started H enc _ F => lifted os started H enc F)
#print axioms proved

end Go.Proofs.Ytaifncebakbinaa.TopCarried

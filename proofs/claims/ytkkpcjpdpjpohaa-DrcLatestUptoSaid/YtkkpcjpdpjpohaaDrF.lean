/- Layer 16: the best of a cache, what stands in the places, how many. -/
import Derived.Test.YtkkpcjpdpjpohaaDrE
namespace Go.Proofs.Ytkkpcjpdpjpohaa
open Go.RowKit

def An.fit (c x : Int) (k : ByteArray) (y : An) : Prop := y.client = c ∧ y.xid = x ∧ y.call = k
theorem fold_spec (c x : Int) (k : ByteArray) : ∀ (ps : List An) (b : An), (ps.foldl (better c x k) b = b ∨ (ps.foldl (better c x k) b ∈ ps ∧ (ps.foldl (better c x k) b).fit c x k ∧ b.age < (ps.foldl (better c x k) b).age)) ∧
    b.age ≤ (ps.foldl (better c x k) b).age ∧ ∀ y ∈ ps, y.fit c x k → y.age ≤ (ps.foldl (better c x k) b).age
  | [], b => ⟨.inl rfl, Int.le_refl _, fun y hy => by cases hy⟩
  | z :: ps, b => by
    rw [List.foldl_cons]
    have ih := fold_spec c x k ps (better c x k b z)
    obtain ⟨h1, h2, h3⟩ := ih
    by_cases hc : b.age < z.age ∧ z.fit c x k
    · have hb : better c x k b z = z := if_pos ⟨hc.1, hc.2.1, hc.2.2.1, hc.2.2.2⟩
      rw [hb] at h1 h2 h3 ⊢
      refine ⟨.inr ?_, by omega, fun y hy hf => ?_⟩
      · rcases h1 with h1 | ⟨h1, h4, h5⟩
        · rw [h1]; exact ⟨List.mem_cons_self .., hc.2, hc.1⟩
        · exact ⟨List.mem_cons_of_mem _ h1, h4, by omega⟩
      · rcases List.mem_cons.1 hy with rfl | hy
        · exact h2
        · exact h3 y hy hf
    · have hb : better c x k b z = b := if_neg (fun h => hc ⟨h.1, h.2.1, h.2.2.1, h.2.2.2⟩)
      rw [hb] at h1 h2 h3 ⊢
      refine ⟨?_, h2, fun y hy hf => ?_⟩
      · rcases h1 with h1 | ⟨h1, h4, h5⟩
        · exact .inl h1
        · exact .inr ⟨List.mem_cons_of_mem _ h1, h4, h5⟩
      · rcases List.mem_cons.1 hy with rfl | hy
        · have : ¬ b.age < y.age := fun h => hc ⟨h, hf⟩
          omega
        · exact h3 y hy hf
/-- the best is one that fits, or there is none -/
theorem best_spec (d : DS) (c x : Int) (k : ByteArray) : (d.best c x k = An.zero ∧ ∀ y ∈ d.ps, y.fit c x k → y.age ≤ 0) ∨ (d.best c x k ∈ d.ps ∧ (d.best c x k).fit c x k ∧ 0 < (d.best c x k).age ∧ ∀ y ∈ d.ps, y.fit c x k → y.age ≤ (d.best c x k).age) := by
  obtain ⟨h1, h2, h3⟩ := fold_spec c x k d.ps An.zero
  rcases h1 with h1 | ⟨h1, h4, h5⟩
  · refine .inl ⟨h1, fun y hy hf => ?_⟩
    have := h3 y hy hf
    rw [h1] at this
    exact this
  · exact .inr ⟨h1, h4, h5, h3⟩
/-- after i answers of one caller, the j-th to number j -/
structure Lat (n : Nat) (cl : ByteArray) (rs : Nat → ByteArray) (i : Nat) (d : DS) : Prop where
  age : d.age = i
  len : d.ps.length = n
  at_ : ∀ p, p < n → (∃ k, k < i ∧ k % n = p ∧ i ≤ k + n ∧ d.ps[p]? = some ⟨(k : Int) + 1, 1, k, cl, rs k⟩) ∨ (i ≤ p ∧ d.ps[p]? = some An.zero)
theorem Lat.new (n : Nat) (h : 1 ≤ n ∧ n ≤ 256) (cl : ByteArray) (rs : Nat → ByteArray) : Lat n cl rs 0 (DS.new n) := by
  have hl := new_len n ⟨by omega, by omega⟩
  refine ⟨rfl, by rw [hl]; omega, fun p hp => .inr ⟨Nat.zero_le _, ?_⟩⟩
  unfold DS.new at hl ⊢
  rw [List.length_replicate] at hl
  dsimp only
  rw [List.getElem?_replicate, if_pos (by omega)]
theorem mod_ne {n k i : Nat} (h1 : k < i) (h2 : i < k + n) : k % n ≠ i % n := by
  intro h
  have h3 : (i - k) % n = 0 := by
    have := Nat.sub_mod_eq_zero_of_mod_eq h.symm
    exact this
  rw [Nat.mod_eq_of_lt (by omega)] at h3
  omega
theorem Lat.put {n : Nat} {cl : ByteArray} {rs : Nat → ByteArray} {i : Nat} {d : DS} (hn : 1 ≤ n) (h : Lat n cl rs i d) : Lat n cl rs (i + 1) (d.put 1 i cl (rs i)) := by
  obtain ⟨ha, hl, hp⟩ := h
  unfold DS.put
  rw [ha, hl, Int.toNat_natCast]
  refine ⟨by dsimp only; omega, by dsimp only; rw [List.length_set]; exact hl, fun p hpn => ?_⟩
  dsimp only
  by_cases he : i % n = p
  · refine .inl ⟨i, by omega, he, by omega, ?_⟩
    rw [← he, List.getElem?_set_self (by rw [hl]; exact Nat.mod_lt _ (by omega))]
  · rw [List.getElem?_set_ne he]
    rcases hp p hpn with ⟨k, h1, h2, h3, h4⟩ | ⟨h1, h2⟩
    · refine .inl ⟨k, by omega, h2, ?_, h4⟩
      by_cases hk : i = k + n
      · exact absurd (by rw [hk, Nat.add_mod_right]; exact h2) he
      · omega
    · refine .inr ⟨?_, h2⟩
      by_cases hi : i = p
      · exact absurd (by rw [hi]; exact Nat.mod_eq_of_lt hpn) he
      · omega
/-- what is looked for -/
theorem Lat.look {n : Nat} {cl : ByteArray} {rs : Nat → ByteArray} {i : Nat} {d : DS} (hn : 1 ≤ n) (h : Lat n cl rs i d) (k : Nat) (hk : k < i) : if i ≤ k + n then (d.best 1 k cl).reply = rs k ∧ 0 < (d.best 1 k cl).age else d.best 1 k cl = An.zero := by
  obtain ⟨ha, hl, hp⟩ := h
  have hel : ∀ y ∈ d.ps, y.fit 1 k cl → 0 < y.age → i ≤ k + n ∧ y = ⟨(k : Int) + 1, 1, k, cl, rs k⟩ := by
    intro y hy hf hpos
    obtain ⟨p, hpl, hpy⟩ := List.getElem_of_mem hy
    have hpy' : d.ps[p]? = some y := by rw [List.getElem?_eq_getElem hpl, hpy]
    rcases hp p (by omega) with ⟨k', h1, h2, h3, h4⟩ | ⟨h1, h2⟩
    · rw [hpy'] at h4; injection h4 with h4
      have hx := hf.2.1
      rw [h4] at hx
      have : k' = k := by dsimp only at hx; omega
      subst this
      exact ⟨h3, h4⟩
    · rw [hpy'] at h2; injection h2 with h2
      rw [h2] at hpos
      exact absurd hpos (by decide)
  split
  · rename_i hle
    have hin : (⟨(k : Int) + 1, 1, k, cl, rs k⟩ : An) ∈ d.ps := by
      rcases hp (k % n) (Nat.mod_lt _ (by omega)) with ⟨k', h1, h2, h3, h4⟩ | ⟨h1, h2⟩
      · have : k' = k := by
          by_cases hlt : k' < k
          · exact absurd h2 (mod_ne hlt (by omega))
          · by_cases hgt : k < k'
            · exact absurd h2.symm (mod_ne hgt (by omega))
            · omega
        subst this
        exact List.mem_of_getElem? h4
      · have := Nat.mod_le k n
        omega
    rcases best_spec d 1 k cl with ⟨h1, h2⟩ | ⟨h1, h2, h3, h4⟩
    · have := h2 _ hin ⟨rfl, rfl, rfl⟩
      dsimp only at this; omega
    · have := (hel _ h1 h2 h3).2
      rw [this]
      exact ⟨rfl, by dsimp only; omega⟩
  · rename_i hle
    rcases best_spec d 1 k cl with ⟨h1, _⟩ | ⟨h1, h2, h3, _⟩
    · exact h1
    · exact absurd (hel _ h1 h2 h3).1 hle
def An.on (x : An) : Bool := decide (0 < x.age)
def DS.count (d : DS) : Nat := (d.ps.filter An.on).length
theorem count_lt : ∀ (l : List An) (i : Nat), (∀ p x, l[p]? = some x → x.on = decide (p < i)) → (l.filter An.on).length = min i l.length
  | [], i, _ => by simp
  | a :: l, 0, h => by
    have h0 := h 0 a rfl
    have ih := count_lt l 0 (fun p x hx => by have := h (p + 1) x hx; simpa using this)
    rw [List.filter_cons, if_neg (by rw [h0]; simp), ih]; simp
  | a :: l, i + 1, h => by
    have h0 := h 0 a rfl
    have ih := count_lt l i (fun p x hx => by have := h (p + 1) x hx; simpa using this)
    rw [List.filter_cons, if_pos (by rw [h0]; simp), List.length_cons, ih, List.length_cons]; omega
theorem Lat.count {n : Nat} {cl : ByteArray} {rs : Nat → ByteArray} {i : Nat} {d : DS} (h : Lat n cl rs i d) : d.count = min i n := by
  obtain ⟨ha, hl, hp⟩ := h
  unfold DS.count
  rw [count_lt d.ps i, hl]
  intro p x hx
  have hpn : p < n := by have := (List.getElem?_eq_some_iff.1 hx).1; omega
  rcases hp p hpn with ⟨k, h1, h2, h3, h4⟩ | ⟨h1, h2⟩
  · rw [hx] at h4; injection h4 with h4
    have hki : p < i := by have := Nat.mod_le k n; omega
    rw [h4, decide_eq_true hki]
    unfold An.on
    exact decide_eq_true (by dsimp only; omega)
  · rw [hx] at h2; injection h2 with h2
    rw [h2, decide_eq_false (by omega)]
    rfl
set_option maxRecDepth 100000 in
set_option maxHeartbeats 4000000 in
theorem dlen_ok (b : Nat) (d : DS) (hn : d.ps.length ≤ 256) {w0 w : World} {F : List Assn} (H : DcS w0 w F b d) :
    Calls Try.prog 11 #[.pointer (some ⟨b, 0, none⟩)] w fun x w' => x = .returned (.int .i64 d.count) ∧ DcS w0 w' F b d := by
  obtain ⟨A, H⟩ := H
  obtain ⟨n, hnl⟩ : ∃ n, n = d.ps.length := ⟨_, rfl⟩
  rw [← hnl] at H hn
  have HNL := Lib.hid hnl; clear hnl
  obtain ⟨cn, hcn⟩ : ∃ c, c = d.count := ⟨_, rfl⟩
  rw [← hcn]
  have HCN := Lib.hid hcn; clear hcn
  have c0 := H.cell 0 (v := .slice A n n) rfl
  go_enter Try.func11, Try.ntmps11
  go_wp2_with (fail)
  clear c0
  go_loopw [3, 13] (fun cv i wr => ∃ j m : Nat, j ≤ n ∧ i = .int .i64 j ∧ cv = .int .i64 m ∧ m ≤ j ∧ Hid (m = ((d.ps.take j).filter An.on).length) ∧ St w0 wr (Pt b #[.slice A n n, .int .i64 d.age] 57 :: Row 59 5 A n n (ans d.ps) :: F)) (fun _ i _ => n - (intOf i).toNat)
  case atStart => exact ⟨0, 0, Nat.zero_le _, rfl, rfl, Nat.le_refl _, by show _ = _; rfl, H⟩
  case round =>
    clear H
    obtain ⟨j, m, hj, rfl, rfl, hmj, HM, H⟩ := hrel
    by_cases hlt : j < n
    · have hltI : (j : Int) < n := by omega
      obtain ⟨x, hx⟩ : ∃ x, d.ps[j]? = some x := ⟨_, List.getElem?_eq_getElem (by rw [← HNL.out]; exact hlt)⟩
      obtain ⟨g, og, rfl⟩ := H.r2.row_form (by omega)
      have e0 := H.r2.row_cell _ (ans_get d.ps j x hx 0 (.int .i64 x.age) rfl)
      have e1 := H.r2.row_cell _ (ans_get d.ps j x hx 1 (.int .i64 x.client) rfl)
      have e2 := H.r2.row_cell _ (ans_get d.ps j x hx 2 (.int .i64 x.xid) rfl)
      have e3 := H.r2.row_cell _ (ans_get d.ps j x hx 3 (.string x.call) rfl)
      have e4 := H.r2.row_cell _ (ans_get d.ps j x hx 4 (.string x.reply) rfl)
      rw [← Nat.add_assoc] at e0 e1 e2 e3 e4
      rw [Nat.add_zero] at e0
      have hm2 : ((d.ps.take (j + 1)).filter An.on).length = m + (if x.on = true then 1 else 0) := by
        rw [List.take_add_one, hx, List.filter_append, List.length_append, ← HM.out]
        congr 1
        show (List.filter An.on [x]).length = _
        rw [List.filter_cons]
        split <;> rfl
      have HM2 := Lib.hid hm2
      clear hx hm2
      have H4 := H.alloc #[.int .i64 x.age, .int .i64 x.client, .int .i64 x.xid, .string x.call, .string x.reply] 59
      obtain ⟨b12, hb12⟩ : ∃ x, x = wr.heap.size := ⟨_, rfl⟩
      go_upto_region 6 with (fail)
      rw [← hb12] at H4 ⊢
      generalize wr.alloc (.cells #[.int .i64 x.age, .int .i64 x.client, .int .i64 x.xid, .string x.call, .string x.reply] 59) = w4 at *
      clear e0 e1 e2 e3 e4 hb12 H
      have k0 := H4.cell 0 (v := .int .i64 x.age) rfl
      by_cases hon : x.age > 0
      · have hm3 : m + 1 = ((d.ps.take (j + 1)).filter An.on).length := by rw [HM2.out, if_pos (show x.on = true from decide_eq_true hon)]
        have HM3 := Lib.hid hm3
        clear hm3
        go_wp2_with (fail)
        go_roundw
        case rel => exact ⟨j + 1, m + 1, by omega, by go_num, by go_num, by omega, HM3.out, H4.tail⟩
        case measure => simp [intOf]; omega
      · have hm3 : m = ((d.ps.take (j + 1)).filter An.on).length := by rw [HM2.out, if_neg (show ¬ x.on = true from fun h => hon (of_decide_eq_true h))]; rfl
        have HM3 := Lib.hid hm3
        clear hm3
        go_wp2_with (fail)
        go_roundw
        case rel => exact ⟨j + 1, m, by omega, by go_num, rfl, by omega, HM3.out, H4.tail⟩
        case measure => simp [intOf]; omega
    · obtain rfl : j = n := by omega
      have hcm : m = cn := by rw [HM.out, HCN.out, HNL.out, List.take_length]; rfl
      subst hcm
      have hltI : ¬ (j : Int) < j := by omega
      go_wp2_with (fail)
      go_ret
      refine ⟨rfl, A, ?_⟩
      rw [← HNL.out]
      exact H
end Go.Proofs.Ytkkpcjpdpjpohaa

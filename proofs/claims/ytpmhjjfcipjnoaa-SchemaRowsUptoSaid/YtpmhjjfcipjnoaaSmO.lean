/- Layer 2: two forms behind one another. No program here. -/
import Derived.Test.YtpmhjjfcipjnoaaSmX
namespace Go.Proofs.Ytpmhjjfcipjnoaa
open Go Go.RowKit

theorem pr_shift {s s' : ByteArray} {c L : Nat} (j : Nat) (hL : s.size ≤ L) (hp : ∀ i, i < L → pk s' (c + i) = pk s i) (hn : ∀ a n, a < L → numF s a = some n → numF s' (c + a) = some (n.1, c + n.2)) :
    ∀ k m d a ks r, pr s k m d a ks = some r → r.2 < L → pr s' (k + j) m d (c + a) ks = some (r.1, c + r.2) := by
  intro k
  induction k with
  | zero => intro m d a ks r h; cases h
  | succ k ih =>
    intro m d a ks r h hr
    have hrg := pr_range s _ _ _ _ _ _ h
    have e := hp a (by omega)
    rw [show k + 1 + j = k + j + 1 by omega]
    cases m with
    | false =>
      rw [pr] at h ⊢
      rw [e]
      split at h
      · rename_i hc
        obtain ⟨q, hq, rfl⟩ := Option.map_eq_some_iff.1 h
        rw [if_pos hc, show c + a + 1 = c + (a + 1) by omega, ih _ _ _ _ _ hq hr]; rfl
      rename_i hc; rw [if_neg hc]
      split at h
      · rename_i hc2
        obtain ⟨n, hnn, h⟩ := Option.bind_eq_some_iff.1 h
        obtain ⟨q, hq, rfl⟩ := Option.map_eq_some_iff.1 h
        have h1 := numF_range hnn
        have h2 := pr_range s _ _ _ _ _ _ hq
        dsimp only at hr
        rw [if_pos hc2, show c + a + 1 = c + (a + 1) by omega, hn _ _ (by omega) hnn, Option.bind_some, ih _ _ _ _ _ hq hr]; rfl
      rename_i hc2; rw [if_neg hc2]
      split at h
      · rename_i hc3
        split at h
        · cases h
        rename_i hc4
        have hl := pk_lt (s := s) (i := a + 1) (by omega)
        obtain ⟨f, hf, h⟩ := Option.bind_eq_some_iff.1 h
        split at h
        · cases h
        rename_i hc5
        have hl2 := pk_lt (s := s) (i := f.2) (by omega)
        obtain ⟨q, hq, rfl⟩ := Option.map_eq_some_iff.1 h
        dsimp only at hr
        rw [if_pos hc3, show c + a + 1 = c + (a + 1) by omega, hp _ (by omega), if_neg hc4, show c + a + 2 = c + (a + 2) by omega, ih _ _ _ _ _ hf (by omega), Option.bind_some]
        dsimp only
        rw [hp f.2 (by omega), if_neg hc5, show c + f.2 + 1 = c + (f.2 + 1) by omega, ih _ _ _ _ _ hq hr]; rfl
      rename_i hc3; rw [if_neg hc3]
      split at h
      · rename_i hc4
        obtain ⟨f, hf, h⟩ := Option.bind_eq_some_iff.1 h
        split at h
        · cases h
        rename_i hc5
        have hl2 := pk_lt (s := s) (i := f.2) (by omega)
        obtain ⟨q, hq, rfl⟩ := Option.map_eq_some_iff.1 h
        dsimp only at hr
        rw [if_pos hc4, show c + a + 1 = c + (a + 1) by omega, ih _ _ _ _ _ hf (by omega), Option.bind_some]
        dsimp only
        rw [hp f.2 (by omega), if_neg hc5, show c + f.2 + 1 = c + (f.2 + 1) by omega, ih _ _ _ _ _ hq hr]; rfl
      · rename_i hc4
        injection h with h; subst h
        rw [if_neg hc4]
    | true =>
      rw [pr] at h ⊢
      rw [e]
      obtain ⟨n, hnn, h⟩ := Option.bind_eq_some_iff.1 h
      split at h
      · cases h
      rename_i hc
      have hl := pk_lt (s := s) (i := n.2) (by omega)
      obtain ⟨f, hf, h⟩ := Option.bind_eq_some_iff.1 h
      have hfr := pr_range s _ _ _ _ _ _ hf
      have hn1 : (if pk s a = 45 then some (0, c + a + 1) else (numF s' (c + a)).bind fun n => if n.1 ∈ ks then none else some n) = some (n.1, c + n.2) := by
        split at hnn
        · rename_i h45
          injection hnn with hnn; subst hnn
          rw [if_pos h45]; rfl
        · rename_i h45
          obtain ⟨q, hq, hnn⟩ := Option.bind_eq_some_iff.1 hnn
          split at hnn
          · cases hnn
          rename_i hk
          injection hnn with hnn; subst hnn
          rw [if_neg h45, hn _ _ (by omega) hq, Option.bind_some]
          dsimp only
          rw [if_neg hk]
      rw [hn1, Option.bind_some]
      dsimp only
      rw [hp n.2 (by omega), if_neg hc, show c + n.2 + 1 = c + (n.2 + 1) by omega]
      split at h
      · rename_i hc2
        injection h with h; subst h
        dsimp only at hr
        rw [ih _ _ _ _ _ hf hr, Option.bind_some]
        dsimp only
        rw [hp f.2 hr, if_pos hc2]
      · rename_i hc2
        obtain ⟨q, hq, rfl⟩ := Option.map_eq_some_iff.1 h
        have hl2 := pk_lt (s := s) (i := f.2) (by omega)
        dsimp only at hr
        rw [ih _ _ _ _ _ hf (by omega), Option.bind_some]
        dsimp only
        rw [hp f.2 (by omega), if_neg hc2, show c + f.2 + 1 = c + (f.2 + 1) by omega, ih _ _ _ _ _ hq hr]; rfl
theorem pk_left (s1 s2 : ByteArray) {i : Nat} (h : i < s1.size) : pk (s1 ++ s2) i = pk s1 i := by
  rw [pk_in h, pk_in (by rw [ByteArray.size_append]; omega), ByteArray.getElem_append_left h]
theorem pk_right (s1 s2 : ByteArray) (i : Nat) : pk (s1 ++ s2) (s1.size + i) = pk s2 i := by
  by_cases h : i < s2.size
  · rw [pk_in h, pk_in (by rw [ByteArray.size_append]; omega), ByteArray.getElem_append_right (by omega)]
    congr 2; omega
  · rw [pk_out h, pk_out (by rw [ByteArray.size_append]; omega)]
theorem scan_left {s1 s2 : ByteArray} (hnd : ¬ (48 ≤ pk s2 0 ∧ pk s2 0 ≤ 57)) : ∀ k a n, a ≤ s1.size → scan (s1 ++ s2) k a n = scan s1 k a n
  | 0, _, _, _ => rfl
  | k + 1, a, n, ha => by
    rw [scan, scan]
    by_cases h : a < s1.size
    · rw [pk_left s1 s2 h]
      split
      · exact scan_left hnd k (a + 1) _ (by omega)
      · rfl
    · obtain rfl : a = s1.size := by omega
      have h1 := pk_right s1 s2 0
      rw [Nat.add_zero] at h1
      rw [h1, if_neg hnd, pk_out h, if_neg (by decide)]
theorem scan_right (s1 s2 : ByteArray) : ∀ k a n, scan (s1 ++ s2) k (s1.size + a) n = ((scan s2 k a n).1, s1.size + (scan s2 k a n).2)
  | 0, _, _ => rfl
  | k + 1, a, n => by
    rw [scan, scan, pk_right]
    split
    · rw [show s1.size + a + 1 = s1.size + (a + 1) by omega, scan_right s1 s2 k (a + 1)]
    · rfl
theorem num_left {s1 s2 : ByteArray} (hnd : ¬ (48 ≤ pk s2 0 ∧ pk s2 0 ≤ 57)) (a : Nat) (n : Nat × Nat) (ha : a < s1.size) (h : numF s1 a = some n) : numF (s1 ++ s2) (0 + a) = some (n.1, 0 + n.2) := by
  rw [Nat.zero_add, Nat.zero_add]
  unfold numF at h ⊢
  rw [scan_left hnd 6 a 0 (by omega), pk_left s1 s2 ha]; exact h
theorem num_right (s1 s2 : ByteArray) (a : Nat) (n : Nat × Nat) (h : numF s2 a = some n) : numF (s1 ++ s2) (s1.size + a) = some (n.1, s1.size + n.2) := by
  unfold numF at h ⊢
  rw [scan_right, pk_right]
  split at h
  · cases h
  rename_i hc
  injection h with h
  rw [h] at hc ⊢
  dsimp only
  rw [if_neg (by omega)]
theorem pr_more {s : ByteArray} {k : Nat} {m : Bool} {d a : Nat} {ks : List Nat} {r : Tr × Nat} (j : Nat) (ha : a ≤ s.size) (h : pr s k m d a ks = some r) : pr s (k + j) m d a ks = some r := by
  have hr := pr_range s _ _ _ _ _ _ h
  have := pr_shift (s := s) (s' := s) (c := 0) (L := s.size + 1) j (by omega) (fun i _ => by rw [Nat.zero_add]) (fun a n _ h => by rw [Nat.zero_add, Nat.zero_add]; exact h) k m d a ks r h (by omega)
  rw [Nat.zero_add, Nat.zero_add] at this
  exact this
/-- the rows of the first text go on with those of the second -/
theorem pr_rows {s1 s2 : ByteArray} (hnd : ¬ (48 ≤ pk s2 0 ∧ pk s2 0 ≤ 57)) {K : Nat} {q2 : Tr × Nat} (h2 : pr (s1 ++ s2) (K + 1) false 0 s1.size [] = some q2) :
    ∀ k a r, a ≤ s1.size → pr s1 k false 0 a [] = some r → r.2 = s1.size → pr (s1 ++ s2) (k + K) false 0 a [] = some (r.1.app q2.1, q2.2) := by
  have hsz : (s1 ++ s2).size = s1.size + s2.size := ByteArray.size_append ..
  intro k
  induction k with
  | zero => intro a r _ h; cases h
  | succ k ih =>
    intro a r ha h hr
    have inner : ∀ m d b ks f, pr s1 k m d b ks = some f → f.2 < s1.size → pr (s1 ++ s2) (k + K) m d b ks = some f := fun m d b ks f hf hl => by
      have := pr_shift (s := s1) (s' := s1 ++ s2) (c := 0) (L := s1.size) K (Nat.le_refl _) (fun i hi => by rw [Nat.zero_add]; exact pk_left s1 s2 hi) (fun a n ha h => num_left hnd a n ha h) k m d b ks f hf hl
      rw [Nat.zero_add, Nat.zero_add] at this
      exact this
    rw [show k + 1 + K = k + K + 1 by omega]
    by_cases hla : a < s1.size
    rotate_left 1
    · obtain rfl : a = s1.size := by omega
      have hz : pk s1 s1.size = 0 := pk_out hla
      rw [pr, hz, if_neg (by decide), if_neg (by decide), if_neg (by decide), if_neg (by decide)] at h
      injection h with h; subst h
      have := pr_more k (by omega) h2
      rw [show k + K + 1 = K + 1 + k by omega, this]; rfl
    rw [pr] at h ⊢
    rw [pk_left s1 s2 hla]
    split at h
    · rename_i hc
      obtain ⟨q, hq, rfl⟩ := Option.map_eq_some_iff.1 h
      rw [if_pos hc, ih _ _ (by omega) hq hr]; rfl
    rename_i hc; rw [if_neg hc]
    split at h
    · rename_i hc2
      obtain ⟨n, hnn, h⟩ := Option.bind_eq_some_iff.1 h
      obtain ⟨q, hq, rfl⟩ := Option.map_eq_some_iff.1 h
      have h1 := numF_range hnn
      have hl1 : a + 1 < s1.size := by have := h1.2.2 (by omega); omega
      have hnl := num_left hnd _ _ hl1 hnn
      rw [Nat.zero_add, Nat.zero_add] at hnl
      rw [if_pos hc2, hnl, Option.bind_some]
      dsimp only
      rw [ih _ _ (h1.2.2 (by omega)) hq hr]; rfl
    rename_i hc2; rw [if_neg hc2]
    split at h
    · rename_i hc3
      split at h
      · cases h
      rename_i hc4
      have hl := pk_lt (s := s1) (i := a + 1) (by omega)
      obtain ⟨f, hf, h⟩ := Option.bind_eq_some_iff.1 h
      split at h
      · cases h
      rename_i hc5
      have hl2 := pk_lt (s := s1) (i := f.2) (by omega)
      obtain ⟨q, hq, rfl⟩ := Option.map_eq_some_iff.1 h
      rw [if_pos hc3, pk_left s1 s2 hl, if_neg hc4, inner _ _ _ _ _ hf hl2, Option.bind_some, pk_left s1 s2 hl2, if_neg hc5, ih _ _ (by omega) hq hr]; rfl
    rename_i hc3; rw [if_neg hc3]
    split at h
    · rename_i hc4
      obtain ⟨f, hf, h⟩ := Option.bind_eq_some_iff.1 h
      split at h
      · cases h
      rename_i hc5
      have hl2 := pk_lt (s := s1) (i := f.2) (by omega)
      obtain ⟨q, hq, rfl⟩ := Option.map_eq_some_iff.1 h
      rw [if_pos hc4, inner _ _ _ _ _ hf hl2, Option.bind_some, pk_left s1 s2 hl2, if_neg hc5, ih _ _ (by omega) hq hr]; rfl
    · injection h with h; subst h
      dsimp only at hr; omega
theorem parse_app {s1 s2 : ByteArray} {t1 t2 : Tr} (h1 : parseF s1 = some t1) (h2 : parseF s2 = some t2) (hz : s1.size + s2.size ≤ 1000) : parseF (s1 ++ s2) = some (t1.app t2) := by
  have hsz : (s1 ++ s2).size = s1.size + s2.size := ByteArray.size_append ..
  unfold parseF at h1 h2
  rw [if_neg (by omega)] at h1 h2
  obtain ⟨r1, hr1, h1⟩ := Option.bind_eq_some_iff.1 h1
  split at h1
  · cases h1
  injection h1 with h1
  obtain ⟨r2, hr2, h2⟩ := Option.bind_eq_some_iff.1 h2
  split at h2
  · cases h2
  rename_i hn1 hn2
  injection h2 with h2
  have g1 := pr_range s1 _ _ _ _ _ _ hr1
  have g2 := pr_range s2 _ _ _ _ _ _ hr2
  have hnd : ¬ (48 ≤ pk s2 0 ∧ pk s2 0 ≤ 57) := fun hd => by
    have hl := pk_lt (s := s2) (i := 0) (by omega)
    rw [pr, if_neg (by omega), if_neg (by omega), if_neg (by omega), if_neg (by omega)] at hr2
    injection hr2 with hr2; subst hr2
    exact hn2 hl
  have e2 := pr_shift (s := s2) (s' := s1 ++ s2) (c := s1.size) (L := s2.size + 1) 0 (by omega) (fun i _ => pk_right s1 s2 i) (fun a n _ h => num_right s1 s2 a n h) _ _ _ _ _ _ hr2 (by omega)
  rw [Nat.add_zero, Nat.add_zero] at e2
  have h3 := pr_rows (K := s2.size) hnd e2 (s1.size + 1) 0 r1 (Nat.zero_le _) hr1 (by omega)
  unfold parseF
  rw [if_neg (by omega), hsz, show s1.size + s2.size + 1 = s1.size + 1 + s2.size by omega, h3, Option.bind_some]
  dsimp only
  rw [if_neg (by omega), h1, h2]
theorem ly_app : ∀ (t u : Tr) (v : VS), t.wf false → ly (t.app u) none v = (ly t none v).bind fun a => (ly u none a.2).bind fun b => .ok (a.1 ++ b.1, b.2)
  | .nil, u, v, _ => by
    rw [Tr.app, ly]
    show _ = (ly u none v).bind fun b => .ok ([] ++ b.1, b.2)
    cases ly u none v with
    | error e => rfl
    | ok b => rfl
  | .arm .., _, _, h => by cases h
  | .sign k n a t, u, v, h => by
    have ih := fun v => ly_app t u v h.2.2.2.2
    rw [Tr.app, ly, ly]
    generalize (if k = 117 then _ else _ : LR) = X
    cases X with
    | error e => rfl
    | ok x =>
      show ((ly (t.app u) none x.2).bind fun b => .ok (x.1 ++ b.1, b.2)) = ((ly t none x.2).bind fun b => .ok (x.1 ++ b.1, b.2)).bind _
      rw [ih]
      cases ly t none x.2 with
      | error e => rfl
      | ok b =>
        show ((ly u none b.2).bind fun c => .ok (b.1 ++ c.1, c.2)).bind _ = (ly u none b.2).bind fun c => .ok ((x.1 ++ b.1) ++ c.1, c.2)
        cases ly u none b.2 with
        | error e => rfl
        | ok c => show Except.ok (x.1 ++ (b.1 ++ c.1), c.2) = _; rw [← List.append_assoc]; rfl
theorem ly_frame {t : Tr} (hw : t.wf false) {v : VS} {l : List UInt8} (h : ly t none v = .ok (l, [], [])) (hz : l.length ≤ 65536) : ∀ N0 T0, ly t none (v.1 ++ N0, v.2 ++ T0) = .ok (l, N0, T0) := by
  have ht := laid_takes hw h [] l.length [] [] (by omega)
  rw [if_pos (Int.le_refl _), cutR_all _ _ (by simp), List.append_nil, Int.sub_self] at ht
  obtain ⟨l2, X, Y, b, x, y, q⟩ := tk_ly t none _ _ hw (by dsimp only; rw [mkb_size]; omega) ht
  dsimp only at b x y
  rw [List.nil_append] at x y
  rw [List.nil_append] at x y
  have hb : bl (cutR [] (0 : Int)).s = [] := by
    have := cutR_all [] 0 (by simp)
    rw [show ((0 : Int)) = ((0 : Nat) : Int) from rfl] at *
    rw [this]; rfl
  rw [bl_mkb, hb, List.append_nil] at b
  intro N0 T0
  rw [x, y, b]
  exact q N0 T0
/-- both forms, both values -/
theorem enc_rows {f1 f2 a b : ByteArray} {N1 N2 : List Int} {T1 T2 : List ByteArray} (h1 : encodeF f1 N1 T1 = .ok a) (h2 : encodeF f2 N2 T2 = .ok b) (hz : f1.size + f2.size ≤ 1000) (hab : a.size + b.size ≤ 65536) :
    encodeF (f1 ++ f2) (N1 ++ N2) (T1 ++ T2) = .ok (a ++ b) := by
  unfold encodeF at h1 h2 ⊢
  split at h1
  · cases h1
  rename_i t1 ht1
  split at h2
  · cases h2
  rename_i t2 ht2
  rw [parse_app ht1 ht2 hz]
  dsimp only
  obtain ⟨l1, e1, z1, rfl⟩ := encodeT_ok h1
  obtain ⟨l2, e2, z2, rfl⟩ := encodeT_ok h2
  obtain ⟨w1, _⟩ := parseF_wf ht1
  rw [mkb_size, mkb_size] at hab
  unfold encodeT
  rw [ly_app _ _ _ w1, ly_frame (v := (N1, T1)) w1 e1 z1]
  show (match (ly t2 none (N2, T2)).bind fun b => .ok (l1 ++ b.1, b.2) with | .error e => _ | .ok r => _) = _
  rw [e2]
  show (if ([] : List Int) ≠ [] ∨ ([] : List ByteArray) ≠ [] then (Except.error 4 : Except Int ByteArray) else if 65536 < (l1 ++ l2).length then .error 2 else .ok (mkb (l1 ++ l2))) = _
  rw [if_neg (by simp), if_neg (by rw [List.length_append]; omega), mkb_append]
theorem getN_err {a b : Int} {v : VS} {e : Int} (h : getN a b v = .error e) : e = 4 := by
  unfold getN at h
  split at h
  · injection h with h; exact h.symm
  · split at h
    · cases h
    · injection h with h; exact h.symm
theorem getT_err {a b : Nat} {v : VS} {e : Int} (h : getT a b v = .error e) : e = 4 := by
  unfold getT at h
  split at h
  · injection h with h; exact h.symm
  · split at h
    · cases h
    · injection h with h; exact h.symm
theorem repL_err {f : VS → LR} (hf : ∀ v e, f v = .error e → e = 4) : ∀ (k : Nat) (v : VS) (e : Int), repL f k v = .error e → e = 4
  | 0, _, _, h => by cases h
  | k + 1, v, e, h => by
    rw [repL] at h
    rcases bind_err h with h | ⟨a, _, h⟩
    · exact hf _ _ h
    · rcases bind_err h with h | ⟨b, _, h⟩
      · exact repL_err hf k _ _ h
      · cases h
theorem ly_err : ∀ (t : Tr) (m : Option Int) (v : VS) (e : Int), ly t m v = .error e → e = 4
  | .nil, none, _, _, h => by rw [ly] at h; cases h
  | .nil, some _, _, _, h => by rw [ly] at h; injection h with h; exact h.symm
  | .sign .., some _, _, _, h => by rw [ly] at h; injection h with h; exact h.symm
  | .arm .., none, _, _, h => by rw [ly] at h; injection h with h; exact h.symm
  | .arm k y f t, some n, v, e, h => by
    rw [ly] at h
    split at h
    · exact ly_err f none v e h
    · exact ly_err t (some n) v e h
  | .sign k n a t, none, v, e, h => by
    rw [ly] at h
    rcases bind_err h with h | ⟨x, _, h⟩
    · split at h
      · rcases bind_err h with h | ⟨x, _, h⟩
        · exact getN_err h
        · cases h
      split at h
      · rcases bind_err h with h | ⟨x, _, h⟩
        · exact getN_err h
        · cases h
      split at h
      · rcases bind_err h with h | ⟨x, _, h⟩
        · exact getN_err h
        · cases h
      split at h
      · rcases bind_err h with h | ⟨x, _, h⟩
        · exact getT_err h
        · cases h
      split at h
      · rcases bind_err h with h | ⟨x, _, h⟩
        · exact getT_err h
        · cases h
      split at h
      · rcases bind_err h with h | ⟨x, _, h⟩
        · exact getN_err h
        · split at h
          · rcases bind_err h with h | ⟨b, _, h⟩
            · exact ly_err a (some 0) _ _ h
            · cases h
          · cases h
      split at h
      · rcases bind_err h with h | ⟨x, _, h⟩
        · exact getN_err h
        · rcases bind_err h with h | ⟨b, _, h⟩
          · exact repL_err (fun v e h => ly_err a (some 0) v e h) _ _ _ h
          · cases h
      split at h
      · rcases bind_err h with h | ⟨x, _, h⟩
        · exact getN_err h
        · rcases bind_err h with h | ⟨b, _, h⟩
          · exact ly_err a (some _) _ _ h
          · cases h
      · cases h
    · rcases bind_err h with h | ⟨b, _, h⟩
      · exact ly_err t none _ _ h
      · cases h
theorem encodeF_err {f : ByteArray} {N : List Int} {T : List ByteArray} {e : Int} (h : encodeF f N T = .error e) : e = 1 ∨ e = 2 ∨ e = 4 := by
  unfold encodeF at h
  split at h
  · injection h with h; exact .inl h.symm
  · unfold encodeT at h
    split at h
    · rename_i e' he; injection h with h; rw [← h]; exact .inr (.inr (ly_err _ _ _ _ he))
    · split at h
      · injection h with h; exact .inr (.inr h.symm)
      · split at h
        · injection h with h; exact .inr (.inl h.symm)
        · cases h
theorem encodeF_size {f : ByteArray} {N : List Int} {T : List ByteArray} {s : ByteArray} (h : encodeF f N T = .ok s) : s.size ≤ 65536 := by
  unfold encodeF at h
  split at h
  · cases h
  · obtain ⟨l, _, hz, rfl⟩ := encodeT_ok h
    rw [mkb_size]; exact hz
end Go.Proofs.Ytpmhjjfcipjnoaa

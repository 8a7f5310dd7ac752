/- Layer 2: how much is taken of how many bytes. -/
import Derived.Test.YtpmhjjfcipjnoaaSnC
namespace Go.Proofs.Ytpmhjjfcipjnoaa
open Go Go.RowKit

def tz (v : VS) : Nat := (v.2.map fun s => s.size).sum
theorem getN_tz {a b : Int} {v : VS} {x : Int × VS} (h : getN a b v = .ok x) : tz v = tz x.2 := by
  obtain ⟨h1, h2, _⟩ := getN_ok h
  unfold tz; rw [h2]
theorem getT_tz {a b : Nat} {v : VS} {x : ByteArray × VS} (h : getT a b v = .ok x) : tz v = x.1.size + tz x.2 := by
  obtain ⟨h1, h2, _⟩ := getT_ok h
  unfold tz; rw [h1, List.map_cons, List.sum_cons]
theorem le_fixed (s : ByteArray) : s.size ≤ (fixed (bl s)).length := by
  rw [fixed, List.length_append, bl_length]; omega
theorem le_opaq (s : ByteArray) : s.size ≤ (opaq (bl s)).length := by
  rw [opaq, List.length_append]; have := le_fixed s; omega
theorem repL_tz {h : VS → LR} (hh : ∀ v l v', h v = .ok (l, v') → tz v ≤ l.length + tz v') : ∀ (k : Nat) (v : VS) (l : List UInt8) (v' : VS), repL h k v = .ok (l, v') → tz v ≤ l.length + tz v'
  | 0, v, l, v', he => by rw [repL] at he; injection he with he; injection he with h1 h2; subst h1 h2; simp
  | k + 1, v, l, v', he => by
    rw [repL] at he
    obtain ⟨⟨a, v1⟩, h1, he⟩ := bind_ok.1 he
    obtain ⟨⟨b, v2⟩, h2, he⟩ := bind_ok.1 he
    injection he with he; injection he with h3 h4; subst h3 h4
    have e1 := hh v a v1 h1
    have e2 := repL_tz hh k v1 b v2 h2
    simp only [List.length_append, be_length]
    omega
theorem ly_tz : ∀ (t : Tr) (m : Option Int) (v : VS) (l : List UInt8) (v' : VS), ly t m v = .ok (l, v') → tz v ≤ l.length + tz v'
  | .nil, none, v, l, v', h => by
    rw [ly] at h
    injection h with h; injection h with h1 h2; subst h1 h2
    simp
  | .nil, some _, _, _, _, h => by rw [ly] at h; cases h
  | .sign .., some _, _, _, _, h => by rw [ly] at h; cases h
  | .arm .., none, _, _, _, h => by rw [ly] at h; cases h
  | .arm k y f t, some n, v, l, v', h => by
    rw [ly] at h
    split at h
    · exact ly_tz f none v l v' h
    · exact ly_tz t (some n) v l v' h
  | .sign k n a t, none, v, l, v', h => by
    rw [ly] at h
    obtain ⟨⟨l1, v1⟩, h1, h⟩ := bind_ok.1 h
    obtain ⟨⟨l2, v2⟩, h2, h⟩ := bind_ok.1 h
    injection h with h; injection h with h3 h4; subst h3 h4
    have e2 := ly_tz t none v1 l2 v2 h2
    have hstep : tz v ≤ l1.length + tz v1 := by
      split at h1
      · obtain ⟨x, hx, h1⟩ := bind_ok.1 h1
        injection h1 with h1; injection h1 with e1 e2; subst e1 e2
        have := getN_tz hx
        omega
      split at h1
      · obtain ⟨x, hx, h1⟩ := bind_ok.1 h1
        injection h1 with h1; injection h1 with e1 e2; subst e1 e2
        have := getN_tz hx
        omega
      split at h1
      · obtain ⟨x, hx, h1⟩ := bind_ok.1 h1
        injection h1 with h1; injection h1 with e1 e2; subst e1 e2
        have := getN_tz hx
        omega
      split at h1
      · obtain ⟨x, hx, h1⟩ := bind_ok.1 h1
        injection h1 with h1; injection h1 with e1 e2; subst e1 e2
        have := getT_tz hx
        have := le_opaq x.1
        omega
      split at h1
      · obtain ⟨x, hx, h1⟩ := bind_ok.1 h1
        injection h1 with h1; injection h1 with e1 e2; subst e1 e2
        have := getT_tz hx
        have := le_fixed x.1
        omega
      split at h1
      · obtain ⟨x, hx, h1⟩ := bind_ok.1 h1
        have := getN_tz hx
        split at h1
        · obtain ⟨b, hb, h1⟩ := bind_ok.1 h1
          injection h1 with h1; injection h1 with e1 e2; subst e1 e2
          have := ly_tz a (some 0) x.2 b.1 b.2 hb
          simp only [List.length_append, be_length]; omega
        · injection h1 with h1; injection h1 with e1 e2; subst e1 e2
          omega
      split at h1
      · obtain ⟨x, hx, h1⟩ := bind_ok.1 h1
        have := getN_tz hx
        obtain ⟨b, hb, h1⟩ := bind_ok.1 h1
        injection h1 with h1; injection h1 with e1 e2; subst e1 e2
        have := repL_tz (h := fun v => ly a (some 0) v) (fun v l v' h => ly_tz a (some 0) v l v' h) _ _ _ _ hb
        simp only [List.length_append, be_length]; omega
      split at h1
      · obtain ⟨x, hx, h1⟩ := bind_ok.1 h1
        have := getN_tz hx
        obtain ⟨b, hb, h1⟩ := bind_ok.1 h1
        injection h1 with h1; injection h1 with e1 e2; subst e1 e2
        have := ly_tz a (some _) x.2 b.1 b.2 hb
        simp only [List.length_append, be_length]; omega
      · injection h1 with h1; injection h1 with e1 e2; subst e1 e2
        simp
    simp only [List.length_append]
    omega
theorem dec_bound {form s : ByteArray} {v : VS} (h : decodeF form s = .ok v) : v.1.length + v.2.length ≤ 65537000 ∧ tz v ≤ 65536 ∧ encodeF form v.1 v.2 = .ok s ∧ s.size ≤ 65536 := by
  obtain ⟨t, ht, hd⟩ := decodeF_ok h
  obtain ⟨hw, hsg⟩ := parseF_wf ht
  obtain ⟨hs, hl⟩ := decodeT_ok hw hd
  refine ⟨?_, ?_, by rw [encodeF, ht]; exact dec_enc hw hd, hs⟩
  · unfold decodeT at hd
    rw [if_neg (by omega)] at hd
    cases hk : tk t none (⟨s, 0⟩, [], []) with
    | error e => rw [hk] at hd; cases hd
    | ok st =>
      rw [hk] at hd
      dsimp only at hd
      split at hd
      · injection hd with hd; subst hd
        obtain ⟨_, _, X, Y, x1, y1, l1⟩ := tk_grow _ _ _ _ hk
        dsimp only at x1 y1 l1
        rw [x1, y1, List.nil_append, List.nil_append]
        have : t.sg * (1 + (s.size - st.1.s.size)) ≤ 1000 * (1 + 65536) := Nat.mul_le_mul hsg (by omega)
        omega
      · cases hd
  · have := ly_tz t none v _ _ hl
    rw [bl_length] at this
    simp [tz] at this ⊢
    omega
theorem wgt_tz (v : VS) : wgt v = 16 * (v.1.length + v.2.length) + tz v := by
  unfold wgt tz
  induction v.2 with
  | nil => simp
  | cons x r ih => simp only [List.map_cons, List.sum_cons, List.length_cons] at ih ⊢; omega
theorem DecE.ans {w0 w' : World} {F : List Assn} {f s : ByteArray} {x : Ending} (h : DecE w0 F (decodeF f s) x w') :
    ∃ (N : List Int) (T : List ByteArray) (e : Int) (A : Option Addr) (c : Nat) (B : Option Addr) (d : Nat), x = .returned (.tuple #[.agg #[.slice A N.length c, .slice B T.length d], .int .i64 e]) ∧ ((e = 0 ∧ decodeF f s = .ok (N, T)) ∨ (e ≠ 0 ∧ decodeF f s = .error e ∧ N = [] ∧ T = [])) ∧
      St w0 w' (Row 3 1 A N.length c (ivs N) :: Row 9 1 B T.length d (svs T) :: F) := by
  cases ho : decodeF f s with
  | error e =>
    rw [ho] at h
    exact ⟨[], [], e, none, 0, none, 0, h.1, .inr ⟨decodeF_err ho, rfl, rfl, rfl⟩, (h.2.nilRow _ _).nilRow _ _⟩
  | ok v =>
    rw [ho] at h
    obtain ⟨A, c, B, d, h1, h2⟩ := h
    exact ⟨v.1, v.2, 0, A, c, B, d, h1, .inl ⟨rfl, rfl⟩, h2⟩
theorem tz_mem {T : List ByteArray} {N : List Int} {x : ByteArray} (hx : x ∈ T) : x.size ≤ tz (N, T) := by
  unfold tz
  dsimp only
  induction T with
  | nil => cases hx
  | cons y r ih =>
    rw [List.map_cons, List.sum_cons]
    rcases List.mem_cons.1 hx with rfl | hx
    · omega
    · have := ih hx; omega
end Go.Proofs.Ytpmhjjfcipjnoaa

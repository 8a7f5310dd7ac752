/- Layer 2: how long a value is when it is laid. No program here. -/
import Derived.Test.YtkkpcjpdpjpohaaSmW
namespace Go.Proofs.Ytkkpcjpdpjpohaa
open Go Go.RowKit

def wgt (v : VS) : Nat := 16 * v.1.length + (v.2.map fun s => 16 + s.size).sum
/-- no list of nothing -/
def Tr.full : Tr → Prop
  | .nil => True
  | .sign k _ a t => (k = 42 → ∃ f, a = .arm 0 false f .nil ∧ f.len ≠ 0) ∧ a.full ∧ t.full
  | .arm _ _ f t => f.full ∧ t.full
theorem pr_full (s : ByteArray) : ∀ k m d at_ ks r, pr s k m d at_ ks = some r → r.1.full := by
  intro k
  induction k with
  | zero => intro m d at_ ks r h; cases h
  | succ k ih =>
    intro m d at_ ks r h
    cases m with
    | false =>
      rw [pr] at h
      split at h
      · obtain ⟨q, hq, rfl⟩ := Option.map_eq_some_iff.1 h
        exact ⟨by omega, trivial, ih _ _ _ _ _ hq⟩
      split at h
      · obtain ⟨n, hn, h⟩ := Option.bind_eq_some_iff.1 h
        obtain ⟨q, hq, rfl⟩ := Option.map_eq_some_iff.1 h
        exact ⟨by omega, trivial, ih _ _ _ _ _ hq⟩
      split at h
      · split at h
        · cases h
        obtain ⟨f, hf, h⟩ := Option.bind_eq_some_iff.1 h
        split at h
        · cases h
        rename_i h3
        obtain ⟨q, hq, rfl⟩ := Option.map_eq_some_iff.1 h
        exact ⟨fun h42 => ⟨_, rfl, fun h0 => h3 (.inr ⟨h42, h0⟩)⟩, ⟨ih _ _ _ _ _ hf, trivial⟩, ih _ _ _ _ _ hq⟩
      split at h
      · obtain ⟨f, hf, h⟩ := Option.bind_eq_some_iff.1 h
        split at h
        · cases h
        obtain ⟨q, hq, rfl⟩ := Option.map_eq_some_iff.1 h
        exact ⟨by omega, ih _ _ _ _ _ hf, ih _ _ _ _ _ hq⟩
      · injection h with h; subst h; trivial
    | true =>
      rw [pr] at h
      obtain ⟨n, hn, h⟩ := Option.bind_eq_some_iff.1 h
      split at h
      · cases h
      obtain ⟨f, hf, h⟩ := Option.bind_eq_some_iff.1 h
      split at h
      · injection h with h; subst h; exact ⟨ih _ _ _ _ _ hf, trivial⟩
      · obtain ⟨q, hq, rfl⟩ := Option.map_eq_some_iff.1 h
        exact ⟨ih _ _ _ _ _ hf, ih _ _ _ _ _ hq⟩
theorem parseF_full {s : ByteArray} {t : Tr} (h : parseF s = some t) : t.full := by
  unfold parseF at h
  split at h
  · cases h
  obtain ⟨r, hr, h⟩ := Option.bind_eq_some_iff.1 h
  split at h
  · cases h
  injection h with h; subst h
  exact pr_full s _ _ _ _ _ _ hr
theorem getN_wgt {a b : Int} {v : VS} {x : Int × VS} (h : getN a b v = .ok x) : wgt v = 16 + wgt x.2 := by
  obtain ⟨h1, h2, _⟩ := getN_ok h
  unfold wgt; rw [h1, h2, List.length_cons]; omega
theorem getT_wgt {a b : Nat} {v : VS} {x : ByteArray × VS} (h : getT a b v = .ok x) : wgt v = 16 + x.1.size + wgt x.2 := by
  obtain ⟨h1, h2, _⟩ := getT_ok h
  unfold wgt; rw [h1, h2, List.map_cons, List.sum_cons]; omega
theorem fixed_le' (s : ByteArray) : (fixed (bl s)).length ≤ s.size + 3 := by
  rw [fixed, List.length_append, zeros, List.length_replicate, bl_length]; unfold padn; omega
theorem opaq_le' (s : ByteArray) : (opaq (bl s)).length ≤ s.size + 7 := by
  rw [opaq, List.length_append, be_length]; have := fixed_le' s; omega
theorem repL_len {h : VS → LR} (hh : ∀ v l v', h v = .ok (l, v') → l.length + 4 + wgt v' ≤ wgt v) : ∀ (k : Nat) (v : VS) (l : List UInt8) (v' : VS), repL h k v = .ok (l, v') → l.length + wgt v' ≤ wgt v
  | 0, v, l, v', he => by rw [repL] at he; injection he with he; injection he with h1 h2; subst h1 h2; simp
  | k + 1, v, l, v', he => by
    rw [repL] at he
    obtain ⟨⟨a, v1⟩, h1, he⟩ := bind_ok.1 he
    obtain ⟨⟨b, v2⟩, h2, he⟩ := bind_ok.1 he
    injection he with he; injection he with h3 h4; subst h3 h4
    have e1 := hh v a v1 h1
    have e2 := repL_len hh k v1 b v2 h2
    simp only [List.length_append, be_length]
    omega
theorem ly_len : ∀ (t : Tr) (m : Option Int) (v : VS) (l : List UInt8) (v' : VS), t.wf m.isSome → t.full → ly t m v = .ok (l, v') → l.length + wgt v' ≤ wgt v ∧ (m = none → t.len ≠ 0 → l.length + 4 + wgt v' ≤ wgt v)
  | .nil, none, v, l, v', _, _, h => by
    rw [ly] at h
    injection h with h; injection h with h1 h2; subst h1 h2
    exact ⟨by simp, fun _ h => absurd rfl h⟩
  | .nil, some _, _, _, _, _, _, h => by rw [ly] at h; cases h
  | .sign .., some _, _, _, _, _, _, h => by rw [ly] at h; cases h
  | .arm .., none, _, _, _, _, _, h => by rw [ly] at h; cases h
  | .arm k y f t, some n, v, l, v', hw, hu, h => by
    rw [ly] at h
    obtain ⟨_, hwf, hwt⟩ := hw
    obtain ⟨huf, hut⟩ := hu
    split at h
    · exact ⟨(ly_len f none v l v' hwf huf h).1, fun h => by cases h⟩
    · exact ⟨(ly_len t (some n) v l v' hwt hut h).1, fun h => by cases h⟩
  | .sign k n a t, none, v, l, v', hw, hu, h => by
    rw [ly] at h
    obtain ⟨hk, hn, hka, hwa, hwt⟩ := hw
    obtain ⟨hu42, hua, hut⟩ := hu
    obtain ⟨⟨l1, v1⟩, h1, h⟩ := bind_ok.1 h
    obtain ⟨⟨l2, v2⟩, h2, h⟩ := bind_ok.1 h
    injection h with h; injection h with h3 h4; subst h3 h4
    have e2 := (ly_len t none v1 l2 v2 hwt hut h2).1
    have hstep : l1.length + 4 + wgt v1 ≤ wgt v := by
      split at h1
      · obtain ⟨x, hx, h1⟩ := bind_ok.1 h1
        injection h1 with h1; injection h1 with e1 e2; subst e1 e2
        have := getN_wgt hx
        rw [be_length]; omega
      split at h1
      · obtain ⟨x, hx, h1⟩ := bind_ok.1 h1
        injection h1 with h1; injection h1 with e1 e2; subst e1 e2
        have := getN_wgt hx
        rw [be_length]; omega
      split at h1
      · obtain ⟨x, hx, h1⟩ := bind_ok.1 h1
        injection h1 with h1; injection h1 with e1 e2; subst e1 e2
        have := getN_wgt hx
        rw [be_length]; omega
      split at h1
      · obtain ⟨x, hx, h1⟩ := bind_ok.1 h1
        injection h1 with h1; injection h1 with e1 e2; subst e1 e2
        have := getT_wgt hx
        have := opaq_le' x.1
        omega
      split at h1
      · obtain ⟨x, hx, h1⟩ := bind_ok.1 h1
        injection h1 with h1; injection h1 with e1 e2; subst e1 e2
        have := getT_wgt hx
        have := fixed_le' x.1
        omega
      split at h1
      · obtain ⟨x, hx, h1⟩ := bind_ok.1 h1
        have := getN_wgt hx
        split at h1
        · obtain ⟨b, hb, h1⟩ := bind_ok.1 h1
          injection h1 with h1; injection h1 with e1 e2; subst e1 e2
          have := (ly_len a (some 0) x.2 b.1 b.2 hwa hua hb).1
          simp only [List.length_append, be_length]; omega
        · injection h1 with h1; injection h1 with e1 e2; subst e1 e2
          rw [be_length]; omega
      split at h1
      · rename_i hkk
        obtain ⟨x, hx, h1⟩ := bind_ok.1 h1
        have := getN_wgt hx
        obtain ⟨b, hb, h1⟩ := bind_ok.1 h1
        injection h1 with h1; injection h1 with e1 e2; subst e1 e2
        obtain ⟨f, hf, hf0⟩ := hu42 hkk
        have := repL_len (h := fun v => ly a (some 0) v) (fun v l v' h => by
          subst hf
          rw [ly, if_pos (.inr rfl)] at h
          exact (ly_len f none v l v' hwa.2.1 hua.1 h).2 rfl hf0) _ _ _ _ hb
        simp only [List.length_append, be_length]; omega
      split at h1
      · obtain ⟨x, hx, h1⟩ := bind_ok.1 h1
        have := getN_wgt hx
        obtain ⟨b, hb, h1⟩ := bind_ok.1 h1
        injection h1 with h1; injection h1 with e1 e2; subst e1 e2
        have := (ly_len a (some _) x.2 b.1 b.2 hwa hua hb).1
        simp only [List.length_append, be_length]; omega
      · exfalso; clear hu42 hka; omega
    simp only [List.length_append]
    exact ⟨by omega, fun _ _ => by omega⟩
end Go.Proofs.Ytkkpcjpdpjpohaa

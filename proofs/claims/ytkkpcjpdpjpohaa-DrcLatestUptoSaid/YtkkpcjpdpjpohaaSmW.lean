/- Layer 2: laid and taken, as a whole. No program here. -/
import Derived.Test.YtkkpcjpdpjpohaaSmV
namespace Go.Proofs.Ytkkpcjpdpjpohaa
open Go Go.RowKit

theorem cutR_start (s : ByteArray) (c : Nat) : (⟨s.extract 0 c, 0⟩ : RS) = cutR (bl s ++ []) c := by
  rw [cutR_pos _ _ (by omega), List.append_nil, Int.toNat_natCast]
  congr 1
  apply bl_inj
  rw [bl_extract, bl_mkb, List.drop_zero, Nat.sub_zero]
theorem RS.fin0 {r : RS} (h : r.fin = 0) : r.e = 0 ∧ r.s.size = 0 := by
  unfold RS.fin at h
  split at h
  · rename_i h1
    split at h
    · rename_i h2; exact ⟨h1, h2⟩
    · cases h
  · rename_i h1; exact absurd h h1
/-- what was taken as a whole: the bytes, laid and taken -/
theorem decodeT_ok {t : Tr} {s : ByteArray} {v : VS} (hw : t.wf false) (h : decodeT t s = .ok v) : s.size ≤ 65536 ∧ ly t none v = .ok (bl s, [], []) := by
  unfold decodeT at h
  split at h
  · cases h
  rename_i hz
  split at h
  · cases h
  rename_i st hst
  split at h
  · rename_i hf
    injection h with h; subst h
    obtain ⟨h1, h2⟩ := RS.fin0 hf
    obtain ⟨l, X, Y, b, x, y, q⟩ := tk_ly t none _ _ hw (by dsimp only; omega) hst
    dsimp only at b x y
    rw [List.nil_append] at x y
    have hb : bl st.1.s = [] := List.eq_nil_of_length_eq_zero (by rw [bl_length]; exact h2)
    rw [hb, List.append_nil] at b
    have := q [] []
    rw [List.append_nil, List.append_nil, ← x, ← y, ← b] at this
    exact ⟨by omega, this⟩
  · cases h
theorem laid_takes {t : Tr} {v : VS} {l : List UInt8} (hw : t.wf false) (h : ly t none v = .ok (l, [], [])) : Takes (tk t none) l v.1 v.2 := by
  obtain ⟨X, Y, x, y, q⟩ := ly_takes t none v l ([], []) hw h
  rw [List.append_nil] at x y
  rw [x, y]; exact q
theorem laid_decode {t : Tr} {v : VS} {l : List UInt8} (hw : t.wf false) (h : ly t none v = .ok (l, [], [])) (hz : l.length ≤ 65536) : decodeT t (mkb l) = .ok v := by
  have ht := laid_takes hw h [] l.length [] [] (by omega)
  rw [if_pos (Int.le_refl _), cutR_all _ _ (by simp), List.append_nil, Int.sub_self] at ht
  unfold decodeT
  rw [if_neg (by rw [mkb_size]; omega), ht]
  dsimp only
  rw [cutR_fin, if_pos (show (if (0 : Int) < 0 then (5 : Int) else 0) = 0 from rfl)]
  simp
theorem encodeT_ok {t : Tr} {N : List Int} {T : List ByteArray} {s : ByteArray} (h : encodeT t N T = .ok s) : ∃ l, ly t none (N, T) = .ok (l, [], []) ∧ l.length ≤ 65536 ∧ s = mkb l := by
  unfold encodeT at h
  split at h
  · cases h
  rename_i r hr
  split at h
  · cases h
  rename_i h1
  split at h
  · cases h
  injection h with h
  obtain ⟨l, n, t'⟩ := r
  dsimp only at h1 h
  have hn : n = [] := Decidable.byContradiction fun x => h1 (.inl x)
  have ht : t' = [] := Decidable.byContradiction fun x => h1 (.inr x)
  subst hn ht
  exact ⟨l, hr, by dsimp only at *; omega, h.symm⟩
theorem enc_dec {t : Tr} {N : List Int} {T : List ByteArray} {s : ByteArray} (hw : t.wf false) (h : encodeT t N T = .ok s) : decodeT t s = .ok (N, T) := by
  obtain ⟨l, hl, hz, rfl⟩ := encodeT_ok h
  exact laid_decode hw hl hz
theorem dec_enc {t : Tr} {s : ByteArray} {v : VS} (hw : t.wf false) (h : decodeT t s = .ok v) : encodeT t v.1 v.2 = .ok s := by
  obtain ⟨hz, hl⟩ := decodeT_ok hw h
  unfold encodeT
  rw [show (v.1, v.2) = v from rfl, hl]
  dsimp only
  rw [if_neg (by simp), if_neg (by rw [bl_length]; omega), mkb_bl]
theorem decodeF_ok {form s : ByteArray} {v : VS} (h : decodeF form s = .ok v) : ∃ t, parseF form = some t ∧ decodeT t s = .ok v := by
  unfold decodeF at h
  split at h
  · cases h
  · rename_i t ht; exact ⟨t, ht, h⟩
theorem dec_short {form s : ByteArray} {v : VS} (h : decodeF form s = .ok v) : (∀ c, c < s.size → decodeF form (s.extract 0 c) = .error 5) ∧ (s.size ≤ 65000 → decodeF form (s ++ ⟨#[0, 0, 0, 0]⟩) = .error 6) := by
  obtain ⟨t, ht, hd⟩ := decodeF_ok h
  obtain ⟨hw, _⟩ := parseF_wf ht
  obtain ⟨hz, hl⟩ := decodeT_ok hw hd
  have htk := laid_takes hw hl
  constructor
  · intro c hc
    unfold decodeF
    rw [ht]
    show decodeT t _ = _
    unfold decodeT
    have hsz : (s.extract 0 c).size ≤ s.size := extract_le ..
    rw [if_neg (by omega), cutR_start, htk [] c [] [] (by omega), if_neg (by rw [bl_length]; omega)]
  · intro h65
    unfold decodeF
    rw [ht]
    show decodeT t _ = _
    unfold decodeT
    have hs4 : (s ++ ⟨#[0, 0, 0, 0]⟩ : ByteArray) = mkb (bl s ++ [0, 0, 0, 0]) := by
      apply bl_inj; rw [bl_append, bl_mkb]; rfl
    have hsz : (mkb (bl s ++ [0, 0, 0, 0])).size = s.size + 4 := by rw [mkb_size, List.length_append, bl_length]; rfl
    rw [hs4, if_neg (by omega), show (⟨mkb (bl s ++ [0, 0, 0, 0]), 0⟩ : RS) = cutR (bl s ++ [0, 0, 0, 0]) ((s.size + 4 : Nat) : Int) from (cutR_all _ _ (by rw [List.length_append, bl_length]; simp)).symm, htk [0, 0, 0, 0] _ [] [] (by omega), if_pos (by rw [bl_length]; omega)]
    dsimp only
    rw [show cutR [0, 0, 0, 0] (((s.size + 4 : Nat) : Int) - (bl s).length) = ⟨mkb [0, 0, 0, 0], 0⟩ from cutR_all _ _ (by rw [bl_length]; simp; omega)]
    rw [show (⟨mkb [0, 0, 0, 0], 0⟩ : RS).fin = 6 from by decide, if_neg (by decide)]
theorem putN_err {n : Int} {st : TS} {e : Int} (h : putN n st = .error e) : e ≠ 0 := by
  unfold putN at h
  split at h
  · cases h
  · rename_i h1; injection h with h; subst h; exact h1
theorem putT_err {n : ByteArray} {st : TS} {e : Int} (h : putT n st = .error e) : e ≠ 0 := by
  unfold putT at h
  split at h
  · cases h
  · rename_i h1; injection h with h; subst h; exact h1
theorem bind_err {α β : Type} {x : Except Int α} {f : α → Except Int β} {e : Int} (h : x.bind f = .error e) : x = .error e ∨ ∃ a, x = .ok a ∧ f a = .error e := by
  cases x with
  | error e' =>
    left
    have h' : (Except.error e' : Except Int β) = .error e := h
    injection h' with h'; rw [h']
  | ok a => right; exact ⟨a, rfl, h⟩
theorem starL_err {f : TS → Except Int TS} (hf : ∀ st e, f st = .error e → e ≠ 0) (hg : ∀ st st', f st = .ok st' → st'.1.s.size ≤ st.1.s.size) {i : Nat} : ∀ (k : Nat) (st : TS) (e : Int), st.1.s.size < k → starL f i k st = .error e → e ≠ 0
  | 0, _, _, h, _ => by omega
  | k + 1, (r, N, T), e, h, he => by
    rw [starL] at he
    split at he
    · rename_i hb
      obtain ⟨_, _, h2⟩ := RS.bool_true hb
      rcases bind_err he with he | ⟨a, ha, he⟩
      · exact hf _ _ he
      · have := hg _ _ ha
        exact starL_err hf hg k a e (by dsimp only at *; omega) he
    · split at he
      · cases he
      · rename_i h1; injection he with he; subst he; exact h1
theorem tk_err : ∀ (t : Tr) (m : Option Int) (st : TS) (e : Int), tk t m st = .error e → e ≠ 0
  | .nil, none, _, _, h => by rw [tk] at h; cases h
  | .nil, some _, _, _, h => by rw [tk] at h; injection h with h; subst h; decide
  | .sign .., some _, _, _, h => by rw [tk] at h; injection h with h; subst h; decide
  | .arm .., none, _, _, h => by rw [tk] at h; injection h with h; subst h; decide
  | .arm k y f t, some n, st, e, h => by
    rw [tk] at h
    split at h
    · exact tk_err f none st e h
    · exact tk_err t (some n) st e h
  | .sign k n a t, none, (r, N, T), e, h => by
    rw [tk] at h
    rcases bind_err h with h | ⟨st1, _, h⟩
    · split at h
      · exact putN_err h
      split at h
      · exact putN_err h
      split at h
      · exact putN_err h
      split at h
      · exact putT_err h
      split at h
      · exact putT_err h
      split at h
      · rcases bind_err h with h | ⟨st0, _, h⟩
        · exact putN_err h
        · split at h
          · exact tk_err a (some 0) st0 e h
          · cases h
      split at h
      · rcases bind_err h with h | ⟨st0, _, h⟩
        · exact putN_err h
        · exact starL_err (fun st e h => tk_err a (some 0) st e h) (fun st st' h => (tk_grow a (some 0) st st' h).size) _ _ _ (Nat.lt_succ_self _) h
      split at h
      · rcases bind_err h with h | ⟨st0, _, h⟩
        · exact putN_err h
        · exact tk_err a (some _) st0 e h
      · cases h
    · exact tk_err t none st1 e h
theorem decodeF_err {form s : ByteArray} {e : Int} (h : decodeF form s = .error e) : e ≠ 0 := by
  unfold decodeF at h
  split at h
  · injection h with h; subst h; decide
  · unfold decodeT at h
    split at h
    · injection h with h; subst h; decide
    · split at h
      · rename_i e' he; injection h with h; subst h; exact tk_err _ _ _ _ he
      · split at h
        · cases h
        · rename_i h1; injection h with h; subst h; exact h1
end Go.Proofs.Ytkkpcjpdpjpohaa

/- Layer 2's reference: what its Layer does, in plain Lean. -/
import Derived.Test.YtpmhjjfcipjnoaaSmQ
namespace Go.Proofs.Ytpmhjjfcipjnoaa
open Go Go.RowKit

structure Ls where
  ni : Nat
  ti : Nat
  out : List UInt8
  sz : Nat
  bad : Bool
namespace Ls
def put (s : Ls) (l : List UInt8) : Ls := { s with sz := s.sz + l.length, out := if s.sz + l.length ≤ 65536 then s.out ++ l else s.out }
def fail (s : Ls) : Ls := { s with bad := true }
def num (p : LP) (word : Bool) (s : Ls) : Int × Ls :=
  if p.N.length ≤ s.ni ∨ s.bad = true then (0, s.fail)
  else if word = true ∧ (p.N.getD s.ni 0 < 0 ∨ 4294967295 < p.N.getD s.ni 0) then (0, { s with ni := s.ni + 1, bad := true })
  else (p.N.getD s.ni 0, { s with ni := s.ni + 1 })
def txt (p : LP) (s : Ls) : ByteArray × Ls :=
  if p.T.length ≤ s.ti ∨ s.bad = true then (⟨#[]⟩, s.fail) else (p.T.getD s.ti ⟨#[]⟩, { s with ti := s.ti + 1 })
def rest (p : LP) (s : Ls) : VS := (p.N.drop s.ni, p.T.drop s.ti)
def ok (s : Ls) (B : List UInt8) : Prop := s.bad = false ∧ s.sz = B.length ∧ (B.length ≤ 65536 → s.out = B) ∧ s.out.length ≤ 65536
def pot (p : LP) (s : Ls) : Nat := if s.bad = true then s.sz else s.sz + wgt (s.rest p)
end Ls
def reL (f : Ls → Ls) : Nat → Ls → Ls
  | 0, s => s
  | k + 1, s => if s.bad = true then s else reL f k (f (s.put (be 1 4)))
/-- what a sign does: 'f' what its arms do at a number -/
def sgL (p : LP) (k n : Nat) (f : Int → Ls → Ls) (s : Ls) : Ls :=
  if k = 117 then (s.num p true).2.put (be (s.num p true).1 4)
  else if k = 113 then (s.num p false).2.put (be (s.num p false).1 8)
  else if k = 98 then (if 1 < (s.num p true).1 then (s.num p true).2.fail else (s.num p true).2).put (be (s.num p true).1 4)
  else if k = 111 then (if n < (s.txt p).1.size then (s.txt p).2.fail else (s.txt p).2.put (opaq (bl (s.txt p).1)))
  else if k = 102 then (if (s.txt p).1.size ≠ n then (s.txt p).2.fail else (s.txt p).2.put (fixed (bl (s.txt p).1)))
  else if k = 63 then (if (s.num p true).1 = 1 ∧ (s.num p true).2.bad = false then f 0 ((s.num p true).2.put (be 1 4)) else (if 1 < (s.num p true).1 then (s.num p true).2.fail else (s.num p true).2).put (be (s.num p true).1 4))
  else if k = 42 then (reL (f 0) (s.num p false).1.toNat (if (s.num p false).1 < 0 then (s.num p false).2.fail else (s.num p false).2)).put (be 0 4)
  else if k = 60 then (if (s.num p true).2.bad = true then (s.num p true).2.put (be (s.num p true).1 4) else f (s.num p true).1 ((s.num p true).2.put (be (s.num p true).1 4)))
  else s
def layL (p : LP) : Tr → Option Int → Ls → Ls
  | .nil, none, s => s
  | .nil, some _, s => s.fail
  | .sign .., some _, s => s.fail
  | .arm .., none, s => s.fail
  | .arm k y f t, some n, s => if y = true ∨ (k : Int) = n then layL p f none s else layL p t (some n) s
  | .sign k n a t, none, s => layL p t none (sgL p k n (fun m s => layL p a (some m) s) s)

namespace Ls
theorem put_bad (s : Ls) (l : List UInt8) : (s.put l).bad = s.bad := rfl
theorem put_ok {s : Ls} {B : List UInt8} (h : s.ok B) (l : List UInt8) : (s.put l).ok (B ++ l) := by
  obtain ⟨h1, h2, h3, h4⟩ := h
  refine ⟨h1, by show s.sz + l.length = _; rw [h2, List.length_append], fun hl => ?_, ?_⟩
  · rw [List.length_append] at hl
    show (if s.sz + l.length ≤ 65536 then s.out ++ l else s.out) = _
    rw [if_pos (by omega), h3 (by omega)]
  · show (if s.sz + l.length ≤ 65536 then s.out ++ l else s.out).length ≤ 65536
    split
    · rw [List.length_append, h3 (by omega)]; omega
    · exact h4
theorem put_rest (p : LP) (s : Ls) (l : List UInt8) : (s.put l).rest p = s.rest p := rfl
theorem num_bad {p : LP} {w : Bool} {s : Ls} (h : s.bad = true) : (s.num p w).2.bad = true ∧ (s.num p w).1 = 0 := by
  unfold num; rw [if_pos (.inr h)]; exact ⟨rfl, rfl⟩
theorem txt_bad {p : LP} {s : Ls} (h : s.bad = true) : (s.txt p).2.bad = true ∧ (s.txt p).1 = ⟨#[]⟩ := by
  unfold txt; rw [if_pos (.inr h)]; exact ⟨rfl, rfl⟩
theorem drop_getD {α : Type} (l : List α) (i : Nat) (d : α) (h : i < l.length) : l.drop i = l.getD i d :: l.drop (i + 1) := by
  rw [List.drop_eq_getElem_cons h]
  simp [List.getD, h]
/-- a number that is there -/
theorem num_cases (p : LP) (w : Bool) {s : Ls} {B : List UInt8} (h : s.ok B) : ((s.num p w).2.bad = true ∧ (s.num p w).1 = 0 ∧ ((s.rest p).1 = [] ∨ (w = true ∧ ∃ x N, (s.rest p).1 = x :: N ∧ (x < 0 ∨ 4294967295 < x)))) ∨
    (∃ N, (s.rest p).1 = (s.num p w).1 :: N ∧ (w = true → 0 ≤ (s.num p w).1 ∧ (s.num p w).1 ≤ 4294967295) ∧ (s.num p w).2.rest p = (N, (s.rest p).2) ∧ (s.num p w).2.ok B) := by
  unfold num
  obtain ⟨h1, h2⟩ := h
  by_cases hl : p.N.length ≤ s.ni
  · rw [if_pos (.inl hl)]
    exact .inl ⟨rfl, rfl, .inl (List.drop_eq_nil_of_le hl)⟩
  rw [if_neg (fun hh => hh.elim hl (fun h => by rw [h1] at h; cases h))]
  have hd := drop_getD p.N s.ni 0 (by omega)
  split
  · rename_i hw
    exact .inl ⟨rfl, rfl, .inr ⟨hw.1, _, _, hd, hw.2⟩⟩
  · rename_i hw
    refine .inr ⟨_, hd, fun hh => ?_, rfl, h1, h2⟩
    dsimp only
    constructor
    · exact Int.not_lt.1 fun h => hw ⟨hh, .inl h⟩
    · exact Int.not_lt.1 fun h => hw ⟨hh, .inr h⟩
theorem txt_cases (p : LP) {s : Ls} {B : List UInt8} (h : s.ok B) : ((s.txt p).2.bad = true ∧ (s.txt p).1 = ⟨#[]⟩ ∧ (s.rest p).2 = []) ∨
    (∃ T, (s.rest p).2 = (s.txt p).1 :: T ∧ (s.txt p).2.rest p = ((s.rest p).1, T) ∧ (s.txt p).2.ok B) := by
  unfold txt
  obtain ⟨h1, h2⟩ := h
  by_cases hl : p.T.length ≤ s.ti
  · rw [if_pos (.inl hl)]
    exact .inl ⟨rfl, rfl, List.drop_eq_nil_of_le hl⟩
  rw [if_neg (fun hh => hh.elim hl (fun h => by rw [h1] at h; cases h))]
  exact .inr ⟨_, drop_getD p.T s.ti ⟨#[]⟩ (by omega), rfl, h1, h2⟩
end Ls
theorem reL_bad {f : Ls → Ls} (k : Nat) {s : Ls} (h : s.bad = true) : reL f k s = s := by
  cases k with
  | zero => rfl
  | succ k => rw [reL, if_pos h]
theorem sgL_bad (p : LP) (k n : Nat) (f : Int → Ls → Ls) {s : Ls} (h : s.bad = true) : (sgL p k n f s).bad = true := by
  have h1 := fun w => Ls.num_bad (p := p) (w := w) h
  have h2 := Ls.txt_bad (p := p) h
  unfold sgL
  repeat' split
  all_goals first
    | exact (h1 _).1
    | exact h2.1
    | rfl
    | exact h
    | (rename_i hh; exact absurd hh.2 (by rw [(h1 _).1]; decide))
    | (rename_i hh; exact absurd (h1 _).1 hh)
    | (rw [reL_bad _ (by first | exact (h1 _).1 | rfl)]; first | exact (h1 _).1 | rfl)
theorem layL_bad (p : LP) : ∀ (t : Tr) (m : Option Int) (s : Ls), s.bad = true → (layL p t m s).bad = true
  | .nil, none, s, h => h
  | .nil, some _, s, _ => rfl
  | .sign .., some _, s, _ => rfl
  | .arm .., none, s, _ => rfl
  | .arm k y f t, some n, s, h => by
    rw [layL]
    split
    · exact layL_bad p f none s h
    · exact layL_bad p t (some n) s h
  | .sign k n a t, none, s, h => by
    rw [layL]
    exact layL_bad p t none _ (sgL_bad p k n _ h)
/-- what a computation of a value comes to -/
def Agr (p : LP) (B : List UInt8) (o : LR) (s : Ls) : Prop := match o with
  | .error _ => s.bad = true
  | .ok r => s.ok (B ++ r.1) ∧ s.rest p = r.2
theorem reL_ly {p : LP} {f : Ls → Ls} {h : VS → LR} (hf : ∀ s B, s.ok B → Agr p B (h (s.rest p)) (f s)) : ∀ (k : Nat) (s : Ls) (B : List UInt8), s.ok B → Agr p B (repL h k (s.rest p)) (reL f k s)
  | 0, s, B, hs => by rw [repL, reL]; exact ⟨by rw [List.append_nil]; exact hs, rfl⟩
  | k + 1, s, B, hs => by
    rw [repL, reL, if_neg (by rw [hs.1]; decide)]
    have h1 := hf (s.put (be 1 4)) _ (Ls.put_ok hs _)
    rw [Ls.put_rest] at h1
    cases ho : h (s.rest p) with
    | error e =>
      rw [ho] at h1
      have h1 : (f (s.put (be 1 4))).bad = true := h1
      show (reL f k (f (s.put (be 1 4)))).bad = true
      rw [reL_bad _ h1]; exact h1
    | ok r =>
      rw [ho] at h1
      obtain ⟨h2, h3⟩ := h1
      have h4 := reL_ly hf k _ _ h2
      rw [h3] at h4
      show Agr p B ((repL h k r.2).bind fun b => (.ok (be 1 4 ++ r.1 ++ b.1, b.2) : LR)) _
      cases ho2 : repL h k r.2 with
      | error e => rw [ho2] at h4; exact h4
      | ok q =>
        rw [ho2] at h4
        obtain ⟨h5, h6⟩ := h4
        refine ⟨?_, h6⟩
        show Ls.ok _ (B ++ (be 1 4 ++ r.1 ++ q.1))
        simp only [List.append_assoc] at h5 ⊢
        exact h5
theorem Agr.bind {p : LP} {B : List UInt8} {o : LR} {s : Ls} (h : Agr p B o s) {g : Ls → Ls} {k : VS → LR} (hb : ∀ s, s.bad = true → (g s).bad = true) (hg : ∀ s B, s.ok B → Agr p B (k (s.rest p)) (g s)) :
    Agr p B (o.bind fun a => (k a.2).bind fun b => .ok (a.1 ++ b.1, b.2)) (g s) := by
  cases o with
  | error e => exact hb s h
  | ok r =>
    obtain ⟨h1, h2⟩ := h
    have h3 := hg s _ h1
    rw [h2] at h3
    show Agr p B ((k r.2).bind fun b => (.ok (r.1 ++ b.1, b.2) : LR)) _
    cases ho : k r.2 with
    | error e => rw [ho] at h3; exact h3
    | ok q =>
      rw [ho] at h3
      obtain ⟨h4, h5⟩ := h3
      exact ⟨by show Ls.ok _ (B ++ (r.1 ++ q.1)); rw [← List.append_assoc]; exact h4, h5⟩
theorem getN_head {a b x : Int} {N : List Int} {v : VS} (h : v.1 = x :: N) : getN a b v = if a ≤ x ∧ x ≤ b then .ok (x, N, v.2) else .error 4 := by
  obtain ⟨v1, v2⟩ := v
  dsimp only at h; subst h; rfl
theorem getN_none {a b : Int} {v : VS} (h : v.1 = []) : getN a b v = .error 4 := by
  obtain ⟨v1, v2⟩ := v
  dsimp only at h; subst h; rfl
theorem getT_head {a b : Nat} {x : ByteArray} {T : List ByteArray} {v : VS} (h : v.2 = x :: T) : getT a b v = if a ≤ x.size ∧ x.size ≤ b then .ok (x, v.1, T) else .error 4 := by
  obtain ⟨v1, v2⟩ := v
  dsimp only at h; subst h; rfl
theorem getT_none {a b : Nat} {v : VS} (h : v.2 = []) : getT a b v = .error 4 := by
  obtain ⟨v1, v2⟩ := v
  dsimp only at h; subst h; rfl
/-- a number that is missing, or too great -/
theorem getN_bad {p : LP} {s : Ls} {b : Int} (hb : b ≤ 4294967295) (h : (s.rest p).1 = [] ∨ (true = true ∧ ∃ x N, (s.rest p).1 = x :: N ∧ (x < 0 ∨ 4294967295 < x))) : getN 0 b (s.rest p) = .error 4 := by
  rcases h with h | ⟨_, x, N, h, hx⟩
  · exact getN_none h
  · rw [getN_head h, if_neg (by omega)]
theorem sgL_ly {p : LP} (hr : ∀ x ∈ p.N, -9223372036854775808 ≤ x ∧ x ≤ 9223372036854775807) (k n : Nat) (a : Tr) (hk : k = 117 ∨ k = 113 ∨ k = 98 ∨ k = 111 ∨ k = 102 ∨ k = 63 ∨ k = 42 ∨ k = 60)
    (ha : ∀ m s B, s.ok B → Agr p B (ly a (some m) (s.rest p)) (layL p a (some m) s)) (s : Ls) (B : List UInt8) (hs : s.ok B) :
    Agr p B (if k = 117 then (getN 0 4294967295 (s.rest p)).bind fun x => .ok (be x.1 4, x.2)
    else if k = 113 then (getN (-9223372036854775808) 9223372036854775807 (s.rest p)).bind fun x => .ok (be x.1 8, x.2)
    else if k = 98 then (getN 0 1 (s.rest p)).bind fun x => .ok (be x.1 4, x.2)
    else if k = 111 then (getT 0 n (s.rest p)).bind fun x => .ok (opaq (bl x.1), x.2)
    else if k = 102 then (getT n n (s.rest p)).bind fun x => .ok (fixed (bl x.1), x.2)
    else if k = 63 then (getN 0 1 (s.rest p)).bind fun x => if x.1 = 1 then (ly a (some 0) x.2).bind fun b => .ok (be x.1 4 ++ b.1, b.2) else .ok (be x.1 4, x.2)
    else if k = 42 then (getN 0 9223372036854775807 (s.rest p)).bind fun x => (repL (fun v => ly a (some 0) v) x.1.toNat x.2).bind fun b => .ok (b.1 ++ be 0 4, b.2)
    else if k = 60 then (getN 0 4294967295 (s.rest p)).bind fun x => (ly a (some x.1) x.2).bind fun b => .ok (be x.1 4 ++ b.1, b.2)
    else .ok ([], s.rest p)) (sgL p k n (fun m s => layL p a (some m) s) s) := by
  unfold sgL
  by_cases e117 : k = 117
  · rw [if_pos e117, if_pos e117]
    rcases Ls.num_cases p true hs with ⟨h1, h2, h3⟩ | ⟨N, h1, h2, h3, h4⟩
    · rw [getN_bad (by decide) h3]; exact h1
    · rw [getN_head h1, if_pos (h2 rfl)]
      exact ⟨Ls.put_ok h4 _, h3⟩
  rw [if_neg e117, if_neg e117]
  by_cases e113 : k = 113
  · rw [if_pos e113, if_pos e113]
    rcases Ls.num_cases p false hs with ⟨h1, h2, h3⟩ | ⟨N, h1, h2, h3, h4⟩
    · rcases h3 with h3 | ⟨h3, _⟩
      · rw [getN_none h3]; exact h1
      · cases h3
    · rw [getN_head h1, if_pos (hr _ (List.mem_of_mem_drop (by show _ ∈ (s.rest p).1; rw [h1]; exact List.mem_cons_self ..)))]
      exact ⟨Ls.put_ok h4 _, h3⟩
  rw [if_neg e113, if_neg e113]
  by_cases e98 : k = 98
  · rw [if_pos e98, if_pos e98]
    rcases Ls.num_cases p true hs with ⟨h1, h2, h3⟩ | ⟨N, h1, h2, h3, h4⟩
    · rw [getN_bad (by decide) h3, h2, if_neg (by decide)]; exact h1
    · have h2 := h2 rfl
      rw [getN_head h1]
      by_cases hx : (s.num p true).1 ≤ 1
      · rw [if_pos ⟨h2.1, hx⟩, if_neg (by omega)]
        exact ⟨Ls.put_ok h4 _, h3⟩
      · rw [if_neg (fun h => hx h.2), if_pos (by omega)]; rfl
  rw [if_neg e98, if_neg e98]
  by_cases e111 : k = 111
  · rw [if_pos e111, if_pos e111]
    rcases Ls.txt_cases p hs with ⟨h1, h2, h3⟩ | ⟨T, h1, h2, h3⟩
    · rw [getT_none h3, h2, if_neg (by show ¬ n < 0; omega)]; exact h1
    · rw [getT_head h1]
      by_cases hx : (s.txt p).1.size ≤ n
      · rw [if_pos ⟨Nat.zero_le _, hx⟩, if_neg (by omega)]
        exact ⟨Ls.put_ok h3 _, h2⟩
      · rw [if_neg (fun h => hx h.2), if_pos (by omega)]; rfl
  rw [if_neg e111, if_neg e111]
  by_cases e102 : k = 102
  · rw [if_pos e102, if_pos e102]
    rcases Ls.txt_cases p hs with ⟨h1, h2, h3⟩ | ⟨T, h1, h2, h3⟩
    · rw [getT_none h3, h2]
      split
      · rfl
      · exact h1
    · rw [getT_head h1]
      by_cases hx : (s.txt p).1.size = n
      · rw [if_pos ⟨by omega, by omega⟩, if_neg (fun h => h hx)]
        exact ⟨Ls.put_ok h3 _, h2⟩
      · rw [if_neg (fun h => hx (by omega)), if_pos hx]; rfl
  rw [if_neg e102, if_neg e102]
  by_cases e63 : k = 63
  · rw [if_pos e63, if_pos e63]
    rcases Ls.num_cases p true hs with ⟨h1, h2, h3⟩ | ⟨N, h1, h2, h3, h4⟩
    · rw [getN_bad (by decide) h3, h2, if_neg (fun h => absurd h.1 (by decide)), if_neg (by decide)]; exact h1
    · have h2 := h2 rfl
      rw [getN_head h1]
      by_cases hx : (s.num p true).1 = 1
      · rw [if_pos (by omega), if_pos ⟨hx, h4.1⟩]
        have h5 := ha 0 _ _ (Ls.put_ok h4 (be 1 4))
        rw [Ls.put_rest, h3] at h5
        show Agr p B (if (s.num p true).1 = 1 then (ly a (some 0) (N, (s.rest p).2)).bind fun b => (.ok (be (s.num p true).1 4 ++ b.1, b.2) : LR) else _) _
        rw [if_pos hx, hx]
        cases ho : ly a (some 0) (N, (s.rest p).2) with
        | error e => rw [ho] at h5; exact h5
        | ok q =>
          rw [ho] at h5
          exact ⟨by show Ls.ok _ (B ++ (be 1 4 ++ q.1)); rw [← List.append_assoc]; exact h5.1, h5.2⟩
      · rw [if_neg (show ¬ ((s.num p true).1 = 1 ∧ (s.num p true).2.bad = false) from fun h => hx h.1)]
        by_cases hx1 : (s.num p true).1 ≤ 1
        · rw [if_pos ⟨h2.1, hx1⟩, if_neg (by omega)]
          show Agr p B (if (s.num p true).1 = 1 then _ else (.ok (be (s.num p true).1 4, (N, (s.rest p).2)) : LR)) _
          rw [if_neg hx]
          exact ⟨Ls.put_ok h4 _, h3⟩
        · rw [if_neg (fun h => hx1 h.2), if_pos (by omega)]; rfl
  rw [if_neg e63, if_neg e63]
  by_cases e42 : k = 42
  · rw [if_pos e42, if_pos e42]
    rcases Ls.num_cases p false hs with ⟨h1, h2, h3⟩ | ⟨N, h1, h2, h3, h4⟩
    · rcases h3 with h3 | ⟨h3, _⟩
      · rw [getN_none h3, h2, if_neg (by decide)]
        show (reL _ _ _).bad = true
        rw [reL_bad _ h1]; exact h1
      · cases h3
    · have hx2 := hr _ (List.mem_of_mem_drop (show (s.num p false).1 ∈ p.N.drop s.ni by show _ ∈ (s.rest p).1; rw [h1]; exact List.mem_cons_self ..))
      rw [getN_head h1]
      by_cases hx : (s.num p false).1 < 0
      · rw [if_neg (by omega), if_pos hx]
        show (reL _ _ _).bad = true
        rw [reL_bad _ rfl]; rfl
      · rw [if_pos (by omega), if_neg hx]
        have h5 := reL_ly (f := fun s => layL p a (some 0) s) (h := fun v => ly a (some 0) v) (fun s B h => ha 0 s B h) (s.num p false).1.toNat _ _ h4
        rw [h3] at h5
        show Agr p B ((repL (fun v => ly a (some 0) v) (s.num p false).1.toNat (N, (s.rest p).2)).bind fun b => (.ok (b.1 ++ be 0 4, b.2) : LR)) _
        cases ho : repL (fun v => ly a (some 0) v) (s.num p false).1.toNat (N, (s.rest p).2) with
        | error e => rw [ho] at h5; exact h5
        | ok q =>
          rw [ho] at h5
          exact ⟨by show Ls.ok _ (B ++ (q.1 ++ be 0 4)); rw [← List.append_assoc]; exact Ls.put_ok h5.1 _, h5.2⟩
  rw [if_neg e42, if_neg e42]
  have e60 : k = 60 := by omega
  rw [if_pos e60, if_pos e60]
  rcases Ls.num_cases p true hs with ⟨h1, h2, h3⟩ | ⟨N, h1, h2, h3, h4⟩
  · rw [getN_bad (by decide) h3, if_pos h1]; exact h1
  · rw [getN_head h1, if_pos (h2 rfl), if_neg (by rw [h4.1]; decide)]
    have h5 := ha (s.num p true).1 _ _ (Ls.put_ok h4 (be (s.num p true).1 4))
    rw [Ls.put_rest, h3] at h5
    show Agr p B ((ly a (some (s.num p true).1) (N, (s.rest p).2)).bind fun b => (.ok (be (s.num p true).1 4 ++ b.1, b.2) : LR)) _
    cases ho : ly a (some (s.num p true).1) (N, (s.rest p).2) with
    | error e => rw [ho] at h5; exact h5
    | ok q =>
      rw [ho] at h5
      exact ⟨by show Ls.ok _ (B ++ (be _ 4 ++ q.1)); rw [← List.append_assoc]; exact h5.1, h5.2⟩
theorem layL_ly {p : LP} (hr : ∀ x ∈ p.N, -9223372036854775808 ≤ x ∧ x ≤ 9223372036854775807) : ∀ (t : Tr) (m : Option Int) (s : Ls) (B : List UInt8), t.wf m.isSome → s.ok B → Agr p B (ly t m (s.rest p)) (layL p t m s)
  | .nil, none, s, B, _, hs => by rw [ly, layL]; exact ⟨by rw [List.append_nil]; exact hs, rfl⟩
  | .nil, some _, s, _, _, _ => by rw [ly, layL]; rfl
  | .sign .., some _, s, _, _, _ => by rw [ly, layL]; rfl
  | .arm .., none, s, _, _, _ => by rw [ly, layL]; rfl
  | .arm k y f t, some n, s, B, hw, hs => by
    rw [ly, layL]
    obtain ⟨_, hwf, hwt⟩ := hw
    split
    · exact layL_ly hr f none s B hwf hs
    · exact layL_ly hr t (some n) s B hwt hs
  | .sign k n a t, none, s, B, hw, hs => by
    rw [ly, layL]
    obtain ⟨hk, hn, hka, hwa, hwt⟩ := hw
    exact Agr.bind (sgL_ly hr k n a hk (fun m s B h => layL_ly hr a (some m) s B hwa h) s B hs) (layL_bad p t none) (fun s B h => layL_ly hr t none s B hwt h)

/-! ### how much it can grow -/
theorem Ls.put_pot (p : LP) (s : Ls) (l : List UInt8) : (s.put l).pot p = s.pot p + l.length := by
  show (if s.bad = true then s.sz + l.length else s.sz + l.length + wgt (s.rest p)) = (if s.bad = true then s.sz else s.sz + wgt (s.rest p)) + l.length
  split <;> omega
theorem Ls.fail_pot (p : LP) (s : Ls) : s.fail.pot p ≤ s.pot p := by
  show s.sz ≤ (if s.bad = true then s.sz else s.sz + wgt (s.rest p))
  split <;> omega
theorem Ls.sz_pot (p : LP) (s : Ls) : s.sz ≤ s.pot p := by
  unfold Ls.pot; split <;> omega
theorem wgt_num (p : LP) (ni ti : Nat) (h : ni < p.N.length) : wgt (p.N.drop ni, p.T.drop ti) = 16 + wgt (p.N.drop (ni + 1), p.T.drop ti) := by
  rw [Ls.drop_getD p.N ni 0 h]; unfold wgt; simp only [List.length_cons]; omega
theorem wgt_txt (p : LP) (ni ti : Nat) (h : ti < p.T.length) : wgt (p.N.drop ni, p.T.drop ti) = 16 + (p.T.getD ti ⟨#[]⟩).size + wgt (p.N.drop ni, p.T.drop (ti + 1)) := by
  rw [Ls.drop_getD p.T ti ⟨#[]⟩ h]; unfold wgt; simp only [List.map_cons, List.sum_cons]; omega
theorem Ls.num_pot (p : LP) (w : Bool) (s : Ls) : (s.num p w).2.pot p ≤ s.pot p ∧ ((s.num p w).2.bad = false → (s.num p w).2.pot p + 16 ≤ s.pot p) := by
  unfold Ls.num
  split
  · exact ⟨s.fail_pot p, fun h => by cases h⟩
  rename_i h
  have h1 : s.bad = false := by cases hb : s.bad; rfl; exact absurd (.inr hb) h
  have h2 := wgt_num p s.ni s.ti (by omega)
  split
  · refine ⟨?_, fun h => by cases h⟩
    show s.sz ≤ s.pot p
    exact s.sz_pot p
  · have h3 : s.pot p = s.sz + wgt (p.N.drop s.ni, p.T.drop s.ti) := by unfold Ls.pot Ls.rest; rw [h1]; rfl
    have h4 : Ls.pot p { s with ni := s.ni + 1 } = s.sz + wgt (p.N.drop (s.ni + 1), p.T.drop s.ti) := by unfold Ls.pot Ls.rest; dsimp only; rw [h1]; rfl
    dsimp only
    omega
theorem Ls.txt_pot (p : LP) (s : Ls) : (s.txt p).2.pot p ≤ s.pot p ∧ ((s.txt p).2.bad = false → (s.txt p).2.pot p + 16 + (s.txt p).1.size ≤ s.pot p) ∧ ((s.txt p).2.bad = true → (s.txt p).1 = ⟨#[]⟩) := by
  unfold Ls.txt
  split
  · exact ⟨s.fail_pot p, (fun h => by cases h), fun _ => rfl⟩
  rename_i h
  have h1 : s.bad = false := by cases hb : s.bad; rfl; exact absurd (.inr hb) h
  have h2 := wgt_txt p s.ni s.ti (by omega)
  have h3 : s.pot p = s.sz + wgt (p.N.drop s.ni, p.T.drop s.ti) := by unfold Ls.pot Ls.rest; rw [h1]; rfl
  have h4 : Ls.pot p { s with ti := s.ti + 1 } = s.sz + wgt (p.N.drop s.ni, p.T.drop (s.ti + 1)) := by unfold Ls.pot Ls.rest; dsimp only; rw [h1]; rfl
  dsimp only
  exact ⟨by omega, fun _ => by omega, fun h => by rw [h1] at h; cases h⟩
theorem reL_pot {p : LP} {f : Ls → Ls} {K : Nat} (hK : ∀ s, (f s).pot p ≤ s.pot p + K) (hg : ∀ s, (f s).bad = false → (f s).pot p + 4 ≤ s.pot p) : ∀ (k : Nat) (s : Ls), (reL f k s).pot p ≤ s.pot p + K + 4 ∧ ((reL f k s).bad = false → (reL f k s).pot p ≤ s.pot p)
  | 0, s => ⟨by rw [reL]; omega, fun _ => Nat.le_refl _⟩
  | k + 1, s => by
    rw [reL]
    split
    · exact ⟨by omega, fun _ => Nat.le_refl _⟩
    · have h1 := hK (s.put (be 1 4))
      have h2 := hg (s.put (be 1 4))
      rw [Ls.put_pot, be_length] at h1 h2
      cases hb : (f (s.put (be 1 4))).bad with
      | true =>
        rw [reL_bad _ hb]
        exact ⟨by omega, fun h => by rw [hb] at h; cases h⟩
      | false =>
        have h2 := h2 hb
        have h3 := reL_pot hK hg k (f (s.put (be 1 4)))
        exact ⟨by omega, fun h => by have := h3.2 h; omega⟩
theorem sgL_pot {p : LP} {k n K : Nat} {f : Int → Ls → Ls} (hk : k = 117 ∨ k = 113 ∨ k = 98 ∨ k = 111 ∨ k = 102 ∨ k = 63 ∨ k = 42 ∨ k = 60) (hK : ∀ m s, (f m s).pot p ≤ s.pot p + K) (hg : ∀ m s, (f m s).bad = false → (f m s).pot p ≤ s.pot p) (h42 : k = 42 → ∀ s, (f 0 s).bad = false → (f 0 s).pot p + 4 ≤ s.pot p) (s : Ls) :
    (sgL p k n f s).pot p ≤ s.pot p + K + 16 ∧ ((sgL p k n f s).bad = false → (sgL p k n f s).pot p + 4 ≤ s.pot p) := by
  have hn := fun w => s.num_pot p w
  have ht := s.txt_pot p
  unfold sgL
  split
  · rw [Ls.put_pot, Ls.put_bad, be_length]
    exact ⟨by have := (hn true).1; omega, fun h => by have := (hn true).2 h; omega⟩
  split
  · rw [Ls.put_pot, Ls.put_bad, be_length]
    exact ⟨by have := (hn false).1; omega, fun h => by have := (hn false).2 h; omega⟩
  split
  · rw [Ls.put_pot, Ls.put_bad, be_length]
    split
    · exact ⟨by have := (hn true).1; have := (s.num p true).2.fail_pot p; omega, fun h => by cases h⟩
    · exact ⟨by have := (hn true).1; omega, fun h => by have := (hn true).2 h; omega⟩
  split
  · split
    · exact ⟨by have := ht.1; have := (s.txt p).2.fail_pot p; omega, fun h => by cases h⟩
    · rw [Ls.put_pot, Ls.put_bad]
      have h1 := opaq_le' (s.txt p).1
      cases hb : (s.txt p).2.bad with
      | true =>
        have h2 := ht.2.2 hb
        rw [h2] at h1 ⊢
        have h3 : (⟨#[]⟩ : ByteArray).size = 0 := rfl
        exact ⟨by have := ht.1; omega, fun h => by cases h⟩
      | false =>
        have h2 := ht.2.1 hb
        exact ⟨by omega, fun _ => by omega⟩
  split
  · split
    · exact ⟨by have := ht.1; have := (s.txt p).2.fail_pot p; omega, fun h => by cases h⟩
    · rw [Ls.put_pot, Ls.put_bad]
      have h1 := fixed_le' (s.txt p).1
      cases hb : (s.txt p).2.bad with
      | true =>
        have h2 := ht.2.2 hb
        rw [h2] at h1 ⊢
        have h3 : (⟨#[]⟩ : ByteArray).size = 0 := rfl
        exact ⟨by have := ht.1; omega, fun h => by cases h⟩
      | false =>
        have h2 := ht.2.1 hb
        exact ⟨by omega, fun _ => by omega⟩
  split
  · split
    · rename_i hh
      have h1 := hK 0 ((s.num p true).2.put (be 1 4))
      have h2 := hg 0 ((s.num p true).2.put (be 1 4))
      rw [Ls.put_pot, be_length] at h1 h2
      have h3 := (hn true).2 hh.2
      exact ⟨by omega, fun h => by have := h2 h; omega⟩
    · rw [Ls.put_pot, Ls.put_bad, be_length]
      split
      · exact ⟨by have := (hn true).1; have := (s.num p true).2.fail_pot p; omega, fun h => by cases h⟩
      · exact ⟨by have := (hn true).1; omega, fun h => by have := (hn true).2 h; omega⟩
  split
  · rename_i hh
    rw [Ls.put_pot, Ls.put_bad, be_length]
    have h1 := reL_pot (p := p) (f := f 0) (K := K) (hK 0) (h42 hh) (s.num p false).1.toNat (if (s.num p false).1 < 0 then (s.num p false).2.fail else (s.num p false).2)
    have h0 := (s.num p false).2.fail_pot p
    have h2 := (hn false).1
    split at h1
    · rename_i hneg
      rw [if_pos hneg, reL_bad _ rfl]
      exact ⟨by omega, fun h => by cases h⟩
    · rename_i hneg
      rw [if_neg hneg]
      refine ⟨by omega, fun h => ?_⟩
      have h3 := h1.2 h
      cases hb : (s.num p false).2.bad with
      | true => rw [reL_bad _ hb, hb] at h; cases h
      | false => have := (hn false).2 hb; omega
  split
  · split
    · rename_i hb
      rw [Ls.put_pot, Ls.put_bad, be_length]
      exact ⟨by have := (hn true).1; omega, fun h => by rw [hb] at h; cases h⟩
    · rename_i hb
      have hb : (s.num p true).2.bad = false := by cases hq : (s.num p true).2.bad; rfl; exact absurd hq hb
      have h1 := hK (s.num p true).1 ((s.num p true).2.put (be (s.num p true).1 4))
      have h2 := hg (s.num p true).1 ((s.num p true).2.put (be (s.num p true).1 4))
      rw [Ls.put_pot, be_length] at h1 h2
      have h3 := (hn true).2 hb
      exact ⟨by omega, fun h => by have := h2 h; omega⟩
  · exfalso; omega
theorem layL_pot (p : LP) : ∀ (t : Tr) (m : Option Int) (s : Ls), t.wf m.isSome → t.full → (layL p t m s).pot p ≤ s.pot p + 16 * t.sg ∧ ((layL p t m s).bad = false → (layL p t m s).pot p + (if m = none ∧ t.len ≠ 0 then 4 else 0) ≤ s.pot p)
  | .nil, none, s, _, _ => ⟨by rw [layL]; omega, fun _ => by rw [layL, if_neg (fun h => h.2 rfl)]; exact Nat.le_refl _⟩
  | .nil, some _, s, _, _ => ⟨by rw [layL]; exact Nat.le_trans (s.fail_pot p) (Nat.le_add_right _ _), fun h => by rw [layL] at h; cases h⟩
  | .sign .., some _, s, _, _ => ⟨by rw [layL]; exact Nat.le_trans (s.fail_pot p) (Nat.le_add_right _ _), fun h => by rw [layL] at h; cases h⟩
  | .arm .., none, s, _, _ => ⟨by rw [layL]; exact Nat.le_trans (s.fail_pot p) (Nat.le_add_right _ _), fun h => by rw [layL] at h; cases h⟩
  | .arm k y f t, some n, s, hw, hu => by
    rw [layL]
    obtain ⟨_, hwf, hwt⟩ := hw
    obtain ⟨huf, hut⟩ := hu
    have hno : ¬ ((some n : Option Int) = none ∧ (Tr.arm k y f t).len ≠ 0) := fun h => by cases h.1
    rw [if_neg hno]
    split
    · have h1 := layL_pot p f none s hwf huf
      exact ⟨by simp only [Tr.sg]; omega, fun h => by have := h1.2 h; omega⟩
    · have h1 := layL_pot p t (some n) s hwt hut
      exact ⟨by simp only [Tr.sg]; omega, fun h => by have := h1.2 h; omega⟩
  | .sign k n a t, none, s, hw, hu => by
    rw [layL]
    obtain ⟨hk, hn, hka, hwa, hwt⟩ := hw
    obtain ⟨hu42, hua, hut⟩ := hu
    have ha := fun m s => layL_pot p a (some m) s hwa hua
    have h1 := sgL_pot (p := p) (n := n) (K := 16 * a.sg) (f := fun m s => layL p a (some m) s) hk (fun m s => (ha m s).1) (fun m s h => by have := (ha m s).2 h; omega) (fun h s hb => by
      obtain ⟨f, hf, hf0⟩ := hu42 h
      subst hf
      rw [layL, if_pos (.inr rfl)] at hb ⊢
      have := (layL_pot p f none s hwa.2.1 hua.1).2 hb
      rw [if_pos ⟨rfl, hf0⟩] at this
      exact this) s
    have h2 := layL_pot p t none (sgL p k n (fun m s => layL p a (some m) s) s) hwt hut
    refine ⟨by simp only [Tr.sg]; omega, fun h => ?_⟩
    have h3 := h2.2 h
    have hb : (sgL p k n (fun m s => layL p a (some m) s) s).bad = false := by
      cases hq : (sgL p k n (fun m s => layL p a (some m) s) s).bad with
      | false => rfl
      | true => rw [layL_bad p t none _ hq] at h; cases h
    have h4 := h1.2 hb
    split <;> omega
end Go.Proofs.Ytpmhjjfcipjnoaa

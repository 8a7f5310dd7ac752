/- Layer 4, the plain side: a disk, its queue, what is lost. -/
import Derived.Test.YtmlknjgcfplnlaaXdrP
namespace Go.Proofs.Ytmlknjgcfplnlaa
open Go.RowKit

structure DS where
  las : List ByteArray
  q : List (Nat × ByteArray)
  left : Int
  keep : Int
  off : Bool
  wr : Int
  fl : Int
/-- what lasts behind the first k of the queue, of which f tells which last -/
def lz (f : Nat → Bool) (q : List (Nat × ByteArray)) (las : List ByteArray) : Nat → List ByteArray
  | 0 => las
  | k + 1 => match q[k]? with
    | some p => if f k then (lz f q las k).set p.1 p.2 else lz f q las k
    | none => lz f q las k
theorem lz_length (f : Nat → Bool) (q : List (Nat × ByteArray)) (las : List ByteArray) (k : Nat) : (lz f q las k).length = las.length := by
  induction k with
  | zero => rfl
  | succ k ih =>
    rw [lz]
    split
    · split
      · rw [List.length_set, ih]
      · exact ih
    · exact ih
theorem lz_yes {f : Nat → Bool} {q : List (Nat × ByteArray)} {las : List ByteArray} {k n : Nat} {s : ByteArray} (h : q[k]? = some (n, s)) (hf : f k = true) : lz f q las (k + 1) = (lz f q las k).set n s := by
  rw [lz, h]; simp [hf]
theorem lz_no {f : Nat → Bool} {q : List (Nat × ByteArray)} {las : List ByteArray} {k n : Nat} {s : ByteArray} (h : q[k]? = some (n, s)) (hf : f k = false) : lz f q las (k + 1) = lz f q las k := by
  rw [lz, h]; simp [hf]
theorem lz_append (f : Nat → Bool) (q r : List (Nat × ByteArray)) (las : List ByteArray) : ∀ k, k ≤ q.length → lz f (q ++ r) las k = lz f q las k
  | 0, _ => rfl
  | k + 1, h => by
    rw [lz, lz, lz_append f q r las k (by omega), List.getElem?_append_left (by omega)]
theorem lz_mem (f : Nat → Bool) (q : List (Nat × ByteArray)) (las : List ByteArray) (P : ByteArray → Prop) (h1 : ∀ s ∈ las, P s) (h2 : ∀ p ∈ q, P p.2) : ∀ k, ∀ s ∈ lz f q las k, P s
  | 0, s, h => h1 s h
  | k + 1, s, h => by
    rw [lz] at h
    split at h
    · rename_i p hp
      split at h
      · rcases List.mem_or_eq_of_mem_set h with h | rfl
        · exact lz_mem f q las P h1 h2 k s h
        · exact h2 p (List.mem_of_getElem? hp)
      · exact lz_mem f q las P h1 h2 k s h
    · exact lz_mem f q las P h1 h2 k s h
def kb (keep : Int) (i : Nat) : Bool := decide ((keep % 18446744073709551616) / 2 ^ (i % 60) % 2 = 1)
def DS.now (d : DS) : List ByteArray := lz (fun _ => true) d.q d.las d.q.length
def DS.lose (d : DS) (keep : Int) : DS := { d with las := lz (kb keep) d.q d.las d.q.length, q := [] }
def DS.torn (d : DS) : Bool × DS := if d.left = 0 then (false, d) else (decide (d.left = 1), { d with left := d.left - 1 })
def DS.push (d : DS) (n : Nat) (s : ByteArray) : DS := { d with q := d.q ++ [(n, s)] }
def DS.dark (d : DS) : DS := { d.lose d.keep with off := true }
def DS.wrote (d : DS) : DS := { d with wr := d.wr + 1 }
def DS.flushed (d : DS) : DS := { d with las := d.now, q := [], fl := d.fl + 1 }
def DS.write (d : DS) (n : Int) (s : ByteArray) : Int × DS :=
  if n < 0 ∨ (d.las.length : Int) ≤ n ∨ 256 < s.size then (1, d) else
  if d.off = true then (20, d) else
  if (d.push n.toNat s).torn.1 = true then (20, (d.push n.toNat s).torn.2.dark) else (0, (d.push n.toNat s).torn.2.wrote)
def full (s : ByteArray) : ByteArray := mkb (bl s ++ zeros (256 - s.size))
def DS.read (d : DS) (n : Int) : ByteArray × Int :=
  if n < 0 ∨ (d.las.length : Int) ≤ n then (ByteArray.empty, 1) else
  if d.off = true then (ByteArray.empty, 20) else (full (d.now.getD n.toNat ByteArray.empty), 0)
def DS.flush (d : DS) : Int × DS :=
  if d.off = true then (20, d) else
  if d.torn.1 = true then (20, d.torn.2.dark) else (0, d.torn.2.flushed)
def DS.cut (d : DS) (n keep : Int) : DS := { d with left := max n 1, keep := keep }
def DS.on (d : DS) : DS := { d with off := false, left := 0 }
def DS.crash (d : DS) (keep : Int) : DS := (d.lose keep).on
def DS.new (n : Nat) : DS := ⟨List.replicate n ByteArray.empty, [], 0, 0, false, 0, 0⟩
/-- what always holds of a disk, of so many acts at most -/
structure DS.ok (d : DS) (N : Nat) : Prop where
  las : ∀ s ∈ d.las, s.size ≤ 256
  q : ∀ p ∈ d.q, p.1 < d.las.length ∧ p.2.size ≤ 256
  left : 0 ≤ d.left ∧ d.left ≤ 9223372036854775807
  ql : d.q.length ≤ N
  wr : 0 ≤ d.wr ∧ d.wr ≤ N
  fl : 0 ≤ d.fl ∧ d.fl ≤ N
theorem DS.now_length (d : DS) : d.now.length = d.las.length := lz_length ..
theorem DS.now_push (d : DS) (n : Nat) (s : ByteArray) : (d.push n s).now = d.now.set n s := by
  unfold DS.now DS.push
  dsimp only
  rw [List.length_append, List.length_singleton, lz_yes (n := n) (s := s) (by rw [List.getElem?_append_right (Nat.le_refl _), Nat.sub_self]; rfl) rfl, lz_append _ _ _ _ _ (Nat.le_refl _)]
theorem DS.now_nil (d : DS) (h : d.q = []) : d.now = d.las := by unfold DS.now; rw [h]; rfl
theorem DS.ok.ok_mono {d : DS} {N M : Nat} (h : d.ok N) (hm : N ≤ M) : d.ok M := ⟨h.las, h.q, h.left, Nat.le_trans h.ql hm, ⟨h.wr.1, by have := h.wr.2; omega⟩, ⟨h.fl.1, by have := h.fl.2; omega⟩⟩
theorem DS.ok.ok_lose {d : DS} {N : Nat} (h : d.ok N) (k : Int) : (d.lose k).ok N :=
  ⟨lz_mem _ _ _ _ h.las (fun p hp => (h.q p hp).2) _, fun p hp => (List.not_mem_nil hp).elim, h.left, Nat.zero_le _, h.wr, h.fl⟩
theorem DS.ok.ok_torn {d : DS} {N : Nat} (h : d.ok N) : d.torn.2.ok N := by
  unfold DS.torn
  split
  · exact h
  · have := h.left
    exact ⟨h.las, h.q, ⟨by dsimp only; omega, by dsimp only; omega⟩, h.ql, h.wr, h.fl⟩
theorem DS.ok.ok_push {d : DS} {N : Nat} (h : d.ok N) (n : Nat) (s : ByteArray) (hn : n < d.las.length) (hs : s.size ≤ 256) : (d.push n s).ok (N + 1) := by
  have hq := h.ql
  refine ⟨h.las, fun p hp => ?_, h.left, by simp only [DS.push, List.length_append, List.length_singleton]; omega, (h.ok_mono (Nat.le_succ N)).wr, (h.ok_mono (Nat.le_succ N)).fl⟩
  rcases List.mem_append.1 hp with hp | hp
  · exact h.q p hp
  · rw [List.mem_singleton] at hp; subst hp; exact ⟨hn, hs⟩
theorem DS.torn_las (d : DS) : d.torn.2.las = d.las ∧ d.torn.2.q = d.q ∧ d.torn.2.wr = d.wr ∧ d.torn.2.fl = d.fl ∧ d.torn.2.keep = d.keep ∧ d.torn.2.off = d.off := by
  unfold DS.torn; split <;> exact ⟨rfl, rfl, rfl, rfl, rfl, rfl⟩
theorem DS.ok.ok_write {d : DS} {N : Nat} (h : d.ok N) (n : Int) (s : ByteArray) : (d.write n s).2.ok (N + 1) := by
  unfold DS.write
  split
  · exact h.ok_mono (Nat.le_succ N)
  · rename_i hc
    split
    · exact h.ok_mono (Nat.le_succ N)
    · have hp := (h.ok_push n.toNat s (by omega) (by omega)).ok_torn
      split
      · have hl := hp.ok_lose (d.push n.toNat s).torn.2.keep
        exact ⟨hl.las, hl.q, hl.left, hl.ql, hl.wr, hl.fl⟩
      · have e := ((d.push n.toNat s).torn_las).2.2.1
        have hw := h.wr
        exact ⟨hp.las, hp.q, hp.left, hp.ql, ⟨by show 0 ≤ _ + 1; rw [e]; show 0 ≤ d.wr + 1; omega, by show _ + 1 ≤ _; rw [e]; show d.wr + 1 ≤ _; omega⟩, hp.fl⟩
theorem DS.ok.ok_flush {d : DS} {N : Nat} (h : d.ok N) : d.flush.2.ok (N + 1) := by
  unfold DS.flush
  split
  · exact h.ok_mono (Nat.le_succ N)
  · have hp := h.ok_torn
    split
    · have hl := (hp.ok_lose d.torn.2.keep).ok_mono (Nat.le_succ N)
      exact ⟨hl.las, hl.q, hl.left, hl.ql, hl.wr, hl.fl⟩
    · have hw := hp.fl
      have hp' := hp.ok_mono (Nat.le_succ N)
      refine ⟨lz_mem _ _ _ _ hp.las (fun p hp' => (hp.q p hp').2) _, fun p hp => (List.not_mem_nil hp).elim, hp.left, Nat.zero_le _, hp'.wr, ⟨?_, ?_⟩⟩
      · show 0 ≤ d.torn.2.fl + 1; omega
      · show d.torn.2.fl + 1 ≤ _; omega
theorem DS.ok.ok_on {d : DS} {N : Nat} (h : d.ok N) : d.on.ok N := ⟨h.las, h.q, ⟨Int.le_refl 0, by show (0 : Int) ≤ _; decide⟩, h.ql, h.wr, h.fl⟩
theorem DS.ok.ok_crash {d : DS} {N : Nat} (h : d.ok N) (k : Int) : (d.crash k).ok N := (h.ok_lose k).ok_on
theorem DS.ok.ok_cut {d : DS} {N : Nat} (h : d.ok N) (n k : Int) (hn : n ≤ 9223372036854775807) : (d.cut n k).ok N := ⟨h.las, h.q, ⟨by show 0 ≤ max n 1; omega, by show max n 1 ≤ _; omega⟩, h.ql, h.wr, h.fl⟩
theorem DS.ok_new (n : Nat) : (DS.new n).ok 0 := ⟨fun s hs => by rw [(List.mem_replicate.1 hs).2]; exact Nat.zero_le _, fun p hp => (List.not_mem_nil hp).elim, ⟨Int.le_refl 0, by show (0 : Int) ≤ _; decide⟩, Nat.zero_le _, ⟨Int.le_refl 0, Int.le_refl 0⟩, ⟨Int.le_refl 0, Int.le_refl 0⟩⟩
def strs (l : List ByteArray) : List Value := l.map fun s => .string s
def qC (p : Nat × ByteArray) : List Value := [.int .i64 p.1, .string p.2]
def qv (q : List (Nat × ByteArray)) : List Value := q.flatMap qC
def plV (q : List (Nat × ByteArray)) : List Value := q.map fun p => .int .i64 p.1
def txV (q : List (Nat × ByteArray)) : List Value := q.map fun p => .string (full p.2)
theorem strs_length (l : List ByteArray) : (strs l).length = l.length := List.length_map ..
theorem strs_one (l : List ByteArray) : ∀ u ∈ strs l, u.oneCell' = true := fun u hu => by
  obtain ⟨x, _, rfl⟩ := List.mem_map.1 hu; rfl
theorem qv_length (q : List (Nat × ByteArray)) : (qv q).length = q.length * 2 := by
  induction q with
  | nil => rfl
  | cons p q ih => rw [qv, List.flatMap_cons, List.length_append]; show 2 + (qv q).length = _; rw [ih]; simp; omega
theorem qv_get {q : List (Nat × ByteArray)} : ∀ {k : Nat} {p : Nat × ByteArray}, q[k]? = some p → (qv q)[k * 2]? = some (.int .i64 p.1) ∧ (qv q)[k * 2 + 1]? = some (.string p.2) := by
  induction q with
  | nil => intro k p h; simp at h
  | cons x q ih =>
    intro k p h
    have e : qv (x :: q) = .int .i64 x.1 :: .string x.2 :: qv q := rfl
    cases k with
    | zero => simp at h; subst h; rw [e]; exact ⟨rfl, rfl⟩
    | succ k =>
      have h' : q[k]? = some p := by simpa using h
      obtain ⟨h1, h2⟩ := ih h'
      rw [e, show (k + 1) * 2 = k * 2 + 1 + 1 by omega, List.getElem?_cons_succ, List.getElem?_cons_succ, List.getElem?_cons_succ]
      exact ⟨h1, by rw [List.getElem?_cons_succ]; exact h2⟩
theorem qv_snoc (q : List (Nat × ByteArray)) (p : Nat × ByteArray) : qv (q ++ [p]) = qv q ++ qC p := by simp [qv]
theorem strs_get {l : List ByteArray} {i : Nat} {x : ByteArray} (h : l[i]? = some x) : (strs l)[i]? = some (.string x) := by rw [strs, List.getElem?_map, h]; rfl
theorem strs_set (l : List ByteArray) (i : Nat) (x : ByteArray) : (strs l).set i (.string x) = strs (l.set i x) := by simp [strs, List.map_set]
end Go.Proofs.Ytmlknjgcfplnlaa

/- Layer 2: laying a value by a form, in plain Lean; what was laid is taken, what was taken was laid so. -/
import Derived.Test.YtkkpcjpdpjpohaaSmU
import Derived.Test.YtkkpcjpdpjpohaaXdrV
namespace Go.Proofs.Ytkkpcjpdpjpohaa
open Go Go.RowKit

/-- numbers and texts that are to be laid -/
abbrev VS := List Int × List ByteArray
abbrev LR := Except Int (List UInt8 × VS)
def getN (least most : Int) (v : VS) : Except Int (Int × VS) := match v.1 with
  | [] => .error 4
  | x :: N => if least ≤ x ∧ x ≤ most then .ok (x, N, v.2) else .error 4
def getT (least most : Nat) (v : VS) : Except Int (ByteArray × VS) := match v.2 with
  | [] => .error 4
  | x :: T => if least ≤ x.size ∧ x.size ≤ most then .ok (x, v.1, T) else .error 4
/-- a thing, so many times, each with its mark ahead -/
def repL (f : VS → LR) : Nat → VS → LR
  | 0, v => .ok ([], v)
  | k + 1, v => (f v).bind fun a => (repL f k a.2).bind fun b => .ok (be 1 4 ++ a.1 ++ b.1, b.2)
def ly : Tr → Option Int → VS → LR
  | .nil, none, v => .ok ([], v)
  | .nil, some _, _ => .error 4
  | .sign .., some _, _ => .error 4
  | .arm .., none, _ => .error 4
  | .arm k y f t, some n, v => if y = true ∨ (k : Int) = n then ly f none v else ly t (some n) v
  | .sign k n a t, none, v =>
    (if k = 117 then (getN 0 4294967295 v).bind fun x => .ok (be x.1 4, x.2)
    else if k = 113 then (getN (-9223372036854775808) 9223372036854775807 v).bind fun x => .ok (be x.1 8, x.2)
    else if k = 98 then (getN 0 1 v).bind fun x => .ok (be x.1 4, x.2)
    else if k = 111 then (getT 0 n v).bind fun x => .ok (opaq (bl x.1), x.2)
    else if k = 102 then (getT n n v).bind fun x => .ok (fixed (bl x.1), x.2)
    else if k = 63 then (getN 0 1 v).bind fun x => if x.1 = 1 then (ly a (some 0) x.2).bind fun b => .ok (be x.1 4 ++ b.1, b.2) else .ok (be x.1 4, x.2)
    else if k = 42 then (getN 0 9223372036854775807 v).bind fun x => (repL (fun v => ly a (some 0) v) x.1.toNat x.2).bind fun b => .ok (b.1 ++ be 0 4, b.2)
    else if k = 60 then (getN 0 4294967295 v).bind fun x => (ly a (some x.1) x.2).bind fun b => .ok (be x.1 4 ++ b.1, b.2)
    else .ok ([], v)).bind fun a => (ly t none a.2).bind fun b => .ok (a.1 ++ b.1, b.2)
def encodeT (t : Tr) (N : List Int) (T : List ByteArray) : Except Int ByteArray := match ly t none (N, T) with
  | .error e => .error e
  | .ok r => if r.2.1 ≠ [] ∨ r.2.2 ≠ [] then .error 4 else if 65536 < r.1.length then .error 2 else .ok (mkb r.1)
def encodeF (form : ByteArray) (N : List Int) (T : List ByteArray) : Except Int ByteArray := match parseF form with
  | none => .error 1
  | some t => encodeT t N T

theorem getN_ok {a b : Int} {v : VS} {x : Int × VS} (h : getN a b v = .ok x) : v.1 = x.1 :: x.2.1 ∧ v.2 = x.2.2 ∧ a ≤ x.1 ∧ x.1 ≤ b := by
  unfold getN at h
  split at h
  · cases h
  · split at h
    · injection h with h; subst h; rename_i h1 h2; exact ⟨h1, rfl, h2⟩
    · cases h
theorem getT_ok {a b : Nat} {v : VS} {x : ByteArray × VS} (h : getT a b v = .ok x) : v.2 = x.1 :: x.2.2 ∧ v.1 = x.2.1 ∧ a ≤ x.1.size ∧ x.1.size ≤ b := by
  unfold getT at h
  split at h
  · cases h
  · split at h
    · injection h with h; subst h; rename_i h1 h2; exact ⟨h1, rfl, h2⟩
    · cases h
/-- what is laid so is taken so, and cut short it is told -/
def Takes (f : TS → Except Int TS) (l : List UInt8) (X : List Int) (Y : List ByteArray) : Prop :=
  ∀ (rest : List UInt8) (c : Int) (N : List Int) (T : List ByteArray), 0 ≤ c → f (cutR (l ++ rest) c, N, T) = if (l.length : Int) ≤ c then .ok (cutR rest (c - l.length), N ++ X, T ++ Y) else .error 5
theorem cutR_e {l : List UInt8} {c : Int} : (cutR l c).e = if c < 0 then 5 else 0 := by unfold cutR; split <;> rfl
theorem putN_cut (x : Int) (rest : List UInt8) (c : Int) (N : List Int) (T : List ByteArray) : putN x (cutR rest c, N, T) = if 0 ≤ c then .ok (cutR rest c, N ++ [x], T) else .error 5 := by
  unfold putN
  dsimp only
  rw [cutR_e]
  by_cases h : c < 0
  · rw [if_pos h, if_neg (by decide), if_neg (by omega)]
  · rw [if_neg h, if_pos rfl, if_pos (by omega)]
theorem putT_cut (x : ByteArray) (rest : List UInt8) (c : Int) (N : List Int) (T : List ByteArray) : putT x (cutR rest c, N, T) = if 0 ≤ c then .ok (cutR rest c, N, T ++ [x]) else .error 5 := by
  unfold putT
  dsimp only
  rw [cutR_e]
  by_cases h : c < 0
  · rw [if_pos h, if_neg (by decide), if_neg (by omega)]
  · rw [if_neg h, if_pos rfl, if_pos (by omega)]
theorem Takes.nil : Takes (fun st => .ok st) [] [] [] := fun rest c N T hc => by
  rw [if_pos (by simpa using hc)]; simp
theorem Takes.seq {f g : TS → Except Int TS} {l1 l2 : List UInt8} {X1 X2 : List Int} {Y1 Y2 : List ByteArray} (hf : Takes f l1 X1 Y1) (hg : Takes g l2 X2 Y2) : Takes (fun st => (f st).bind g) (l1 ++ l2) (X1 ++ X2) (Y1 ++ Y2) := fun rest c N T hc => by
  dsimp only
  rw [List.append_assoc, hf (l2 ++ rest) c N T hc, List.length_append]
  by_cases h : (l1.length : Int) ≤ c
  · rw [if_pos h]
    show g (cutR (l2 ++ rest) (c - l1.length), N ++ X1, T ++ Y1) = _
    rw [hg rest (c - l1.length) (N ++ X1) (T ++ Y1) (by omega)]
    by_cases h2 : (l2.length : Int) ≤ c - l1.length
    · rw [if_pos h2, if_pos (by omega), List.append_assoc, List.append_assoc]
      congr 3
      omega
    · rw [if_neg h2, if_neg (by omega)]
  · rw [if_neg h, if_neg (by omega)]; rfl
theorem Takes.num4 {f : TS → Except Int TS} (x : Int) (hx : 0 ≤ x ∧ x ≤ 4294967295) (hf : ∀ r N T, f (r, N, T) = putN (r.nat 4).1 ((r.nat 4).2, N, T)) : Takes f (be x 4) [x] [] := fun rest c N T hc => by
  rw [hf, cutR_nat4, be_length]
  dsimp only
  rw [putN_cut]
  by_cases h : 4 ≤ c
  · rw [if_pos h, if_pos (by omega), if_pos (by omega), List.append_nil, show x % 4294967296 = x by omega]; rfl
  · rw [if_neg (by omega), if_neg (by omega)]
theorem Takes.num8 {f : TS → Except Int TS} (x : Int) (hx : -9223372036854775808 ≤ x ∧ x ≤ 9223372036854775807) (hf : ∀ r N T, f (r, N, T) = putN (r.nat 8).1 ((r.nat 8).2, N, T)) : Takes f (be x 8) [x] [] := fun rest c N T hc => by
  rw [hf, cutR_nat8 x hx, be_length]
  dsimp only
  rw [putN_cut]
  by_cases h : 8 ≤ c
  · rw [if_pos h, if_pos (by omega), if_pos (by omega), List.append_nil]; rfl
  · rw [if_neg (by omega), if_neg (by omega)]
theorem Takes.bit {f : TS → Except Int TS} (b : Bool) (hf : ∀ r N T, f (r, N, T) = putN (bitI r.bool.1) (r.bool.2, N, T)) : Takes f (be (bitI b) 4) [bitI b] [] := fun rest c N T hc => by
  have h := cutR_bool b rest c
  rw [hf, show bitI b = (if b then 1 else 0) from rfl, h, be_length]
  dsimp only
  rw [putN_cut]
  by_cases h : 4 ≤ c
  · rw [if_pos (by omega), if_pos (by omega), List.append_nil, decide_eq_true h, Bool.true_and]; rfl
  · rw [if_neg (by omega), if_neg (by omega)]
theorem Takes.opq {f : TS → Except Int TS} (s : ByteArray) (n : Nat) (hn : n ≤ 99999) (hs : s.size ≤ n) (hf : ∀ r N T, f (r, N, T) = putT (r.opqe n).1 ((r.opqe n).2, N, T)) : Takes f (opaq (bl s)) [] [s] := fun rest c N T hc => by
  rw [hf, cutR_opaq (bl s) rest c n (by rw [bl_length]; omega) (by rw [bl_length]; omega)]
  dsimp only
  rw [putT_cut]
  by_cases h : ((opaq (bl s)).length : Int) ≤ c
  · rw [if_pos (by omega), if_pos h, if_pos h, List.append_nil, mkb_bl]
  · rw [if_neg (by omega), if_neg h]
theorem Takes.fix {f : TS → Except Int TS} (s : ByteArray) (n : Nat) (hs : s.size = n) (hf : ∀ r N T, f (r, N, T) = putT (r.fixed n).1 ((r.fixed n).2, N, T)) : Takes f (fixed (bl s)) [] [s] := fun rest c N T hc => by
  have h := cutR_fixed (bl s) rest c
  rw [bl_length, hs] at h
  rw [hf, h]
  dsimp only
  rw [putT_cut]
  by_cases h : ((fixed (bl s)).length : Int) ≤ c
  · rw [if_pos (by omega), if_pos h, if_pos h, List.append_nil, mkb_bl]
  · rw [if_neg (by omega), if_neg h]
theorem bindNil (X : Except Int TS) : (X.bind fun st => tk .nil none st) = X := by
  cases X with
  | error e => rfl
  | ok S => show tk .nil none S = _; rw [tk]
theorem tkCons (k n : Nat) (a t : Tr) (st : TS) : tk (.sign k n a t) none st = (tk (.sign k n a .nil) none st).bind (tk t none) := by
  obtain ⟨r, N, T⟩ := st
  rw [tk, tk]
  generalize (if k = 117 then putN (r.nat 4).1 ((r.nat 4).2, N, T) else _) = X
  cases X with
  | error e => rfl
  | ok st => show tk t none st = (tk .nil none st).bind (tk t none); rw [tk]; rfl
theorem Takes.opt1 {f g : TS → Except Int TS} {l : List UInt8} {X : List Int} {Y : List ByteArray} (hf : ∀ r N T, f (r, N, T) = (putN (bitI r.bool.1) (r.bool.2, N, T)).bind fun st => if r.bool.1 = true then g st else .ok st) (hg : Takes g l X Y) : Takes f (be 1 4 ++ l) (1 :: X) Y := fun rest c N T hc => by
  have h := cutR_bool true (l ++ rest) c
  rw [hf, List.append_assoc, show (be 1 4 ++ (l ++ rest)) = (be (if true = true then 1 else 0) 4 ++ (l ++ rest)) from rfl, h, List.length_append, be_length]
  dsimp only
  rw [putN_cut]
  by_cases h4 : 4 ≤ c
  · rw [if_pos (by omega), decide_eq_true h4]
    show (if (true && true) = true then g (cutR (l ++ rest) (c - 4), N ++ [bitI (true && true)], T) else .ok (cutR (l ++ rest) (c - 4), N ++ [bitI (true && true)], T)) = _
    rw [Bool.and_self, if_pos rfl, hg rest (c - 4) _ T (by omega)]
    by_cases h2 : (l.length : Int) ≤ c - 4
    · rw [if_pos h2, if_pos (by omega), List.append_assoc]
      congr 3
      omega
    · rw [if_neg h2, if_neg (by omega)]
  · rw [if_neg (by omega), if_neg (by omega)]; rfl
theorem Takes.opt0 {f g : TS → Except Int TS} (hf : ∀ r N T, f (r, N, T) = (putN (bitI r.bool.1) (r.bool.2, N, T)).bind fun st => if r.bool.1 = true then g st else .ok st) : Takes f (be 0 4) [0] [] := fun rest c N T hc => by
  have h := cutR_bool false rest c
  rw [hf, show (be 0 4 ++ rest) = (be (if false = true then 1 else 0) 4 ++ rest) from rfl, h, be_length]
  dsimp only
  rw [putN_cut]
  by_cases h4 : 4 ≤ c
  · rw [if_pos (by omega), if_pos (by omega), Bool.and_false, List.append_nil]; rfl
  · rw [if_neg (by omega), if_neg (by omega)]; rfl
theorem Takes.alt {f : TS → Except Int TS} {g : Int → TS → Except Int TS} {l : List UInt8} {X : List Int} {Y : List ByteArray} (x : Int) (hx : 0 ≤ x ∧ x ≤ 4294967295) (hf : ∀ r N T, f (r, N, T) = (putN (r.nat 4).1 ((r.nat 4).2, N, T)).bind fun st => g (r.nat 4).1 st) (hg : Takes (g x) l X Y) : Takes f (be x 4 ++ l) (x :: X) Y := fun rest c N T hc => by
  rw [hf, List.append_assoc, cutR_nat4, List.length_append, be_length]
  dsimp only
  rw [putN_cut]
  by_cases h4 : 4 ≤ c
  · rw [if_pos (by omega), if_pos h4, show x % 4294967296 = x by omega]
    show g x (cutR (l ++ rest) (c - 4), N ++ [x], T) = _
    rw [hg rest (c - 4) _ T (by omega)]
    by_cases h2 : (l.length : Int) ≤ c - 4
    · rw [if_pos h2, if_pos (by omega), List.append_assoc]
      congr 3
      omega
    · rw [if_neg h2, if_neg (by omega)]
  · rw [if_neg (show ¬ 0 ≤ c - 4 by omega), if_neg (show ¬ ((4 + l.length : Nat) : Int) ≤ c by omega)]; rfl
theorem cutR_size (l : List UInt8) (c : Int) : (cutR l c).s.size = if c < 0 then 0 else min c.toNat l.length := by
  unfold cutR
  split
  · rfl
  · show (mkb _).size = _; rw [mkb_size, List.length_take]
theorem getD_set_self (N : List Int) (i : Nat) (v : Int) (X : List Int) (h : i < N.length) : (N.set i v ++ X).getD i 0 = v := by
  simp only [List.getD]
  rw [List.getElem?_append_left (by rw [List.length_set]; exact h), List.getElem?_set_self (by simpa using h)]; rfl
theorem set_getD (N : List Int) (i : Nat) (h : i < N.length) : N.set i (N.getD i 0) = N := by
  apply List.ext_getElem?
  intro j
  rw [List.getElem?_set]
  split
  · rename_i hj; subst hj; simp [List.getD, h]
  · rfl
theorem starL_takes {h : VS → LR} {g : TS → Except Int TS} (hg : ∀ v l v', h v = .ok (l, v') → ∃ X Y, v.1 = X ++ v'.1 ∧ v.2 = Y ++ v'.2 ∧ Takes g l X Y) : ∀ (k : Nat) (v : VS) (lb : List UInt8) (v' : VS), repL h k v = .ok (lb, v') →
    ∃ X Y, v.1 = X ++ v'.1 ∧ v.2 = Y ++ v'.2 ∧ ∀ (rest : List UInt8) (c : Int) (i : Nat) (N : List Int) (T : List ByteArray) (fuel : Nat), 0 ≤ c → i < N.length → (cutR (lb ++ be 0 4 ++ rest) c).s.size < fuel →
      starL g i fuel (cutR (lb ++ be 0 4 ++ rest) c, N, T) = if ((lb ++ be 0 4).length : Int) ≤ c then .ok (cutR rest (c - (lb ++ be 0 4).length), N.set i (N.getD i 0 + k) ++ X, T ++ Y) else .error 5
  | 0, v, lb, v', he => by
    rw [repL] at he
    injection he with he; injection he with h1 h2; subst h1 h2
    refine ⟨[], [], rfl, rfl, fun rest c i N T fuel hc hi hf => ?_⟩
    obtain ⟨fuel, rfl⟩ : ∃ z, fuel = z + 1 := ⟨fuel - 1, by omega⟩
    have hb := cutR_bool false rest c
    rw [starL, List.nil_append, show (be 0 4 ++ rest) = (be (if false = true then 1 else 0) 4 ++ rest) from rfl, hb, be_length, Bool.and_false]
    dsimp only
    rw [if_neg (by decide), cutR_e]
    by_cases h4 : 4 ≤ c
    · rw [if_neg (show ¬ c - 4 < 0 by omega), if_pos rfl, if_pos (by omega), List.append_nil, List.append_nil]
      congr 3
      rw [show N.getD i 0 + ((0 : Nat) : Int) = N.getD i 0 by omega, set_getD N i hi]
    · rw [if_pos (show c - 4 < 0 by omega), if_neg (by decide), if_neg (by omega)]
  | k + 1, v, lb, v', he => by
    rw [repL] at he
    obtain ⟨⟨a, v1⟩, h1, he⟩ := bind_ok.1 he
    obtain ⟨⟨b, v2⟩, h2, he⟩ := bind_ok.1 he
    injection he with he; injection he with h3 h4; subst h3 h4
    obtain ⟨Xa, Ya, x1, y1, ta⟩ := hg v a v1 h1
    obtain ⟨Xb, Yb, x2, y2, tb⟩ := starL_takes hg k v1 b v2 h2
    refine ⟨Xa ++ Xb, Ya ++ Yb, by rw [x1, x2, List.append_assoc], by rw [y1, y2, List.append_assoc], fun rest c i N T fuel hc hi hf => ?_⟩
    obtain ⟨fuel, rfl⟩ : ∃ z, fuel = z + 1 := ⟨fuel - 1, by omega⟩
    dsimp only at hf ⊢
    have hl : be 1 4 ++ a ++ b ++ be 0 4 ++ rest = be (if true = true then 1 else 0) 4 ++ (a ++ (b ++ be 0 4 ++ rest)) := by simp only [List.append_assoc, if_true]
    have hb := cutR_bool true (a ++ (b ++ be 0 4 ++ rest)) c
    rw [hl] at hf ⊢
    rw [starL, hb]
    have hlen : ((be 1 4 ++ a ++ b ++ be 0 4).length : Int) = 4 + a.length + (b ++ be 0 4).length := by simp only [List.length_append, be_length]; omega
    rw [hlen]
    by_cases h4 : 4 ≤ c
    · rw [decide_eq_true h4, Bool.true_and, if_pos rfl]
      dsimp only
      rw [ta (b ++ be 0 4 ++ rest) (c - 4) _ T (by omega)]
      by_cases h5 : (a.length : Int) ≤ c - 4
      · rw [if_pos h5]
        show starL g i fuel (cutR (b ++ be 0 4 ++ rest) (c - 4 - a.length), N.set i (N.getD i 0 + 1) ++ Xa, T ++ Ya) = _
        rw [tb rest (c - 4 - a.length) i _ _ fuel (by omega) (by rw [List.length_append, List.length_set]; omega) (by
          rw [cutR_size, if_neg (by omega)] at hf ⊢
          simp only [List.length_append, be_length] at hf ⊢
          omega), getD_set_self N i _ Xa hi]
        by_cases h6 : ((b ++ be 0 4).length : Int) ≤ c - 4 - a.length
        · rw [if_pos h6, if_pos (by omega), set_app (by rw [List.length_set]; exact hi), List.set_set, List.append_assoc, List.append_assoc]
          congr 3
          · omega
          · congr 2; omega
        · rw [if_neg h6, if_neg (by omega)]
      · rw [if_neg h5, if_neg (by omega)]; rfl
    · rw [decide_eq_false h4, Bool.false_and]
      dsimp only
      rw [if_neg (by decide), cutR_e, if_pos (show c - 4 < 0 by omega), if_neg (by decide), if_neg (by omega)]
/-- what was laid is taken as it was -/
theorem ly_takes : ∀ (t : Tr) (m : Option Int) (v : VS) (l : List UInt8) (v' : VS), t.wf m.isSome → ly t m v = .ok (l, v') → ∃ X Y, v.1 = X ++ v'.1 ∧ v.2 = Y ++ v'.2 ∧ Takes (tk t m) l X Y
  | .nil, none, v, l, v', _, h => by
    rw [ly] at h
    injection h with h; injection h with h1 h2; subst h1 h2
    exact ⟨[], [], rfl, rfl, fun rest c N T hc => by rw [tk]; exact Takes.nil rest c N T hc⟩
  | .nil, some _, _, _, _, _, h => by rw [ly] at h; cases h
  | .sign .., some _, _, _, _, _, h => by rw [ly] at h; cases h
  | .arm .., none, _, _, _, _, h => by rw [ly] at h; cases h
  | .arm k y f t, some n, v, l, v', hw, h => by
    rw [ly] at h
    obtain ⟨_, hwf, hwt⟩ := hw
    split at h
    · rename_i hc
      obtain ⟨X, Y, h1, h2, h3⟩ := ly_takes f none v l v' hwf h
      exact ⟨X, Y, h1, h2, fun rest c N T hc' => by rw [tk, if_pos hc]; exact h3 rest c N T hc'⟩
    · rename_i hc
      obtain ⟨X, Y, h1, h2, h3⟩ := ly_takes t (some n) v l v' hwt h
      exact ⟨X, Y, h1, h2, fun rest c N T hc' => by rw [tk, if_neg hc]; exact h3 rest c N T hc'⟩
  | .sign k n a t, none, v, l, v', hw, h => by
    rw [ly] at h
    obtain ⟨hk, hn, hka, hwa, hwt⟩ := hw
    obtain ⟨⟨l1, v1⟩, h1, h⟩ := bind_ok.1 h
    obtain ⟨⟨l2, v2⟩, h2, h⟩ := bind_ok.1 h
    injection h with h; injection h with h3 h4; subst h3 h4
    obtain ⟨X2, Y2, x2, y2, t2⟩ := ly_takes t none v1 l2 v2 hwt h2
    have hstep : ∃ X Y, v.1 = X ++ v1.1 ∧ v.2 = Y ++ v1.2 ∧ Takes (tk (.sign k n a .nil) none) l1 X Y := by
      split at h1
      · rename_i hkk; subst hkk
        obtain ⟨x, hx, h1⟩ := bind_ok.1 h1
        injection h1 with h1; injection h1 with e1 e2; subst e1 e2
        obtain ⟨g1, g2, g3, g4⟩ := getN_ok hx
        exact ⟨[x.1], [], g1, g2, Takes.num4 x.1 ⟨g3, g4⟩ fun r N T => by rw [tk, if_pos rfl, bindNil]⟩
      split at h1
      · rename_i hkk; subst hkk
        obtain ⟨x, hx, h1⟩ := bind_ok.1 h1
        injection h1 with h1; injection h1 with e1 e2; subst e1 e2
        obtain ⟨g1, g2, g3, g4⟩ := getN_ok hx
        exact ⟨[x.1], [], g1, g2, Takes.num8 x.1 ⟨g3, g4⟩ fun r N T => by rw [tk, if_neg (by decide), if_pos rfl, bindNil]⟩
      split at h1
      · rename_i hkk; subst hkk
        obtain ⟨x, hx, h1⟩ := bind_ok.1 h1
        injection h1 with h1; injection h1 with e1 e2; subst e1 e2
        obtain ⟨g1, g2, g3, g4⟩ := getN_ok hx
        have hb : x.1 = bitI (x.1 == 1) := by
          by_cases hx1 : x.1 = 1
          · rw [hx1]; rfl
          · rw [show (x.1 == 1) = false from beq_eq_false_iff_ne.2 hx1]; show x.1 = 0; omega
        refine ⟨[x.1], [], g1, g2, ?_⟩
        rw [hb]
        exact Takes.bit (x.1 == 1) fun r N T => by rw [tk, if_neg (by decide), if_neg (by decide), if_pos rfl, bindNil]
      split at h1
      · rename_i hkk; subst hkk
        obtain ⟨x, hx, h1⟩ := bind_ok.1 h1
        injection h1 with h1; injection h1 with e1 e2; subst e1 e2
        obtain ⟨g1, g2, g3, g4⟩ := getT_ok hx
        exact ⟨[], [x.1], g2, g1, Takes.opq x.1 n hn g4 fun r N T => by rw [tk, if_neg (by decide), if_neg (by decide), if_neg (by decide), if_pos rfl, bindNil]⟩
      split at h1
      · rename_i hkk; subst hkk
        obtain ⟨x, hx, h1⟩ := bind_ok.1 h1
        injection h1 with h1; injection h1 with e1 e2; subst e1 e2
        obtain ⟨g1, g2, g3, g4⟩ := getT_ok hx
        exact ⟨[], [x.1], g2, g1, Takes.fix x.1 n (by omega) fun r N T => by rw [tk, if_neg (by decide), if_neg (by decide), if_neg (by decide), if_neg (by decide), if_pos rfl, bindNil]⟩
      split at h1
      · rename_i hkk; subst hkk
        have hf : ∀ r N T, tk (.sign 63 n a .nil) none (r, N, T) = (putN (bitI r.bool.1) (r.bool.2, N, T)).bind fun st => if r.bool.1 = true then tk a (some 0) st else .ok st := fun r N T => by
          rw [tk, if_neg (by decide), if_neg (by decide), if_neg (by decide), if_neg (by decide), if_neg (by decide), if_pos rfl, bindNil]
        obtain ⟨x, hx, h1⟩ := bind_ok.1 h1
        obtain ⟨g1, g2, g3, g4⟩ := getN_ok hx
        split at h1
        · rename_i hx1
          obtain ⟨b, hb, h1⟩ := bind_ok.1 h1
          injection h1 with h1; injection h1 with e1 e2; subst e1 e2
          obtain ⟨X, Y, x3, y3, t3⟩ := ly_takes a (some 0) x.2 b.1 b.2 hwa hb
          rw [hx1] at g1 ⊢
          exact ⟨1 :: X, Y, by rw [g1, x3]; rfl, by rw [g2, y3], Takes.opt1 hf t3⟩
        · rename_i hx1
          injection h1 with h1; injection h1 with e1 e2; subst e1 e2
          have hx0 : x.1 = 0 := by omega
          rw [hx0] at g1 ⊢
          exact ⟨[0], [], g1, g2, Takes.opt0 hf⟩
      split at h1
      · rename_i hkk; subst hkk
        have hf : ∀ r N T, tk (.sign 42 n a .nil) none (r, N, T) = (putN 0 (r, N, T)).bind fun st => starL (fun st => tk a (some 0) st) N.length (st.1.s.size + 1) st := fun r N T => by
          rw [tk, if_neg (by decide), if_neg (by decide), if_neg (by decide), if_neg (by decide), if_neg (by decide), if_neg (by decide), if_pos rfl, bindNil]
        obtain ⟨x, hx, h1⟩ := bind_ok.1 h1
        obtain ⟨g1, g2, g3, g4⟩ := getN_ok hx
        obtain ⟨b, hb, h1⟩ := bind_ok.1 h1
        injection h1 with h1; injection h1 with e1 e2; subst e1 e2
        obtain ⟨X, Y, x3, y3, t3⟩ := starL_takes (g := fun st => tk a (some 0) st) (fun v l v' h => ly_takes a (some 0) v l v' hwa h) x.1.toNat x.2 b.1 b.2 hb
        refine ⟨x.1 :: X, Y, by rw [g1, x3]; rfl, by rw [g2, y3], fun rest c N T hc => ?_⟩
        rw [hf, putN_cut, if_pos hc]
        show starL (fun st => tk a (some 0) st) N.length ((cutR (b.1 ++ be 0 4 ++ rest) c).s.size + 1) (cutR (b.1 ++ be 0 4 ++ rest) c, N ++ [0], T) = _
        rw [t3 rest c N.length (N ++ [0]) T _ hc (by simp) (Nat.lt_succ_self _)]
        by_cases h5 : ((b.1 ++ be 0 4).length : Int) ≤ c
        · rw [if_pos h5, if_pos h5]
          congr 3
          have : (N ++ [(0 : Int)]).getD N.length 0 = 0 := by simp [List.getD]
          rw [this, List.set_append_right _ _ (Nat.le_refl _), Nat.sub_self, show (0 : Int) + (x.1.toNat : Int) = x.1 by omega]
          simp
        · rw [if_neg h5, if_neg h5]
      split at h1
      · rename_i hkk; subst hkk
        obtain ⟨x, hx, h1⟩ := bind_ok.1 h1
        obtain ⟨g1, g2, g3, g4⟩ := getN_ok hx
        obtain ⟨b, hb, h1⟩ := bind_ok.1 h1
        injection h1 with h1; injection h1 with e1 e2; subst e1 e2
        obtain ⟨X, Y, x3, y3, t3⟩ := ly_takes a (some x.1) x.2 b.1 b.2 hwa hb
        exact ⟨x.1 :: X, Y, by rw [g1, x3]; rfl, by rw [g2, y3], Takes.alt (g := fun z => tk a (some z)) x.1 ⟨g3, g4⟩ (fun r N T => by
          rw [tk, if_neg (by decide), if_neg (by decide), if_neg (by decide), if_neg (by decide), if_neg (by decide), if_neg (by decide), if_neg (by decide), if_pos rfl, bindNil]) t3⟩
      · exfalso; omega
    obtain ⟨X1, Y1, x1, y1, t1⟩ := hstep
    refine ⟨X1 ++ X2, Y1 ++ Y2, by rw [x1, x2, List.append_assoc], by rw [y1, y2, List.append_assoc], ?_⟩
    have := t1.seq t2
    rw [show (tk (.sign k n a t) none) = fun st => (tk (.sign k n a .nil) none st).bind (tk t none) from funext fun st => tkCons k n a t st]
    exact this
theorem getN_cons {a b x : Int} (h : a ≤ x ∧ x ≤ b) (N : List Int) (T : List ByteArray) : getN a b (x :: N, T) = .ok (x, N, T) := if_pos h
theorem getT_cons {a b : Nat} {x : ByteArray} (h : a ≤ x.size ∧ x.size ≤ b) (N : List Int) (T : List ByteArray) : getT a b (N, x :: T) = .ok (x, N, T) := if_pos h
/-- these were taken, and laid so they are these bytes -/
def Laid (h : VS → LR) (st st' : TS) : Prop := ∃ l X Y, bl st.1.s = l ++ bl st'.1.s ∧ st'.2.1 = st.2.1 ++ X ∧ st'.2.2 = st.2.2 ++ Y ∧ ∀ N0 T0, h (X ++ N0, Y ++ T0) = .ok (l, N0, T0)
theorem num_range8 (l : List UInt8) : -9223372036854775808 ≤ num l ∧ num l ≤ 9223372036854775807 := by
  rw [← num_unum]; unfold wrap64; omega
theorem bl_size {a b : ByteArray} {l : List UInt8} (h : bl a = l ++ bl b) : a.size = l.length + b.size := by
  have := congrArg List.length h
  rw [List.length_append, bl_length, bl_length] at this; exact this
theorem starL_ly {h : VS → LR} {f : TS → Except Int TS} {M : Nat} (hf : ∀ st st', st.1.s.size ≤ M → f st = .ok st' → Laid h st st') {i : Nat} : ∀ (k : Nat) (st st' : TS), st.1.s.size ≤ M → i < st.2.1.length → starL f i k st = .ok st' →
    ∃ cnt l X Y, 4 * cnt ≤ l.length ∧ bl st.1.s = l ++ be 0 4 ++ bl st'.1.s ∧ st'.2.1 = st.2.1.set i (st.2.1.getD i 0 + (cnt : Nat)) ++ X ∧ st'.2.2 = st.2.2 ++ Y ∧ ∀ N0 T0, repL h cnt (X ++ N0, Y ++ T0) = .ok (l, N0, T0)
  | 0, _, _, _, _, he => by cases he
  | k + 1, (r, N, T), st', hM, hi, he => by
    rw [starL] at he
    dsimp only at hM
    split at he
    · rename_i hb
      obtain ⟨h0, h1, h2⟩ := RS.bool_true hb
      have hinv := RS.bool_inv h1
      rw [hb, if_pos rfl] at hinv
      obtain ⟨a, ha, he⟩ := bind_ok.1 he
      obtain ⟨l1, X1, Y1, b1, x1, y1, q1⟩ := hf _ _ (by dsimp only; omega) ha
      dsimp only at hi b1 x1 y1
      have hsz := bl_size b1
      obtain ⟨cnt, l2, X2, Y2, hc4, b2, x2, y2, q2⟩ := starL_ly hf k a st' (by omega) (by rw [x1, List.length_append, List.length_set]; omega) he
      refine ⟨cnt + 1, be 1 4 ++ l1 ++ l2, X1 ++ X2, Y1 ++ Y2, by simp only [List.length_append, be_length]; omega, ?_, ?_, by rw [y2, y1, List.append_assoc], fun N0 T0 => ?_⟩
      · dsimp only
        rw [hinv, b1, b2]; simp only [List.append_assoc]
      · rw [x2, x1, getD_set_self N i _ X1 hi, set_app (by rw [List.length_set]; exact hi), List.set_set, List.append_assoc]
        dsimp only
        congr 2
        omega
      · rw [repL, List.append_assoc, List.append_assoc, q1]
        show ((repL h cnt (X2 ++ N0, Y2 ++ T0)).bind fun b => .ok (be 1 4 ++ l1 ++ b.1, b.2)) = _
        rw [q2]; rfl
    · rename_i hb
      split at he
      · rename_i h1
        injection he with he; subst he
        have hinv := RS.bool_inv h1
        rw [if_neg hb] at hinv
        refine ⟨0, [], [], [], by simp, by dsimp only; rw [hinv]; rfl, ?_, by simp, fun N0 T0 => by rw [repL]; rfl⟩
        dsimp only at hi ⊢
        rw [show N.getD i 0 + ((0 : Nat) : Int) = N.getD i 0 by omega, set_getD N i hi, List.append_nil]
      · cases he
/-- what was taken is laid as it was -/
theorem tk_ly : ∀ (t : Tr) (m : Option Int) (st st' : TS), t.wf m.isSome → st.1.s.size ≤ 9223372036854775807 → tk t m st = .ok st' → Laid (ly t m) st st'
  | .nil, none, st, st', _, _, h => by
    rw [tk] at h; injection h with h; subst h
    exact ⟨[], [], [], rfl, by simp, by simp, fun N0 T0 => by rw [ly]; rfl⟩
  | .nil, some _, _, _, _, _, h => by rw [tk] at h; cases h
  | .sign .., some _, _, _, _, _, h => by rw [tk] at h; cases h
  | .arm .., none, _, _, _, _, h => by rw [tk] at h; cases h
  | .arm k y f t, some n, st, st', hw, hz, h => by
    rw [tk] at h
    obtain ⟨_, hwf, hwt⟩ := hw
    split at h
    · rename_i hc
      obtain ⟨l, X, Y, h1, h2, h3, h4⟩ := tk_ly f none st st' hwf hz h
      exact ⟨l, X, Y, h1, h2, h3, fun N0 T0 => by rw [ly, if_pos hc]; exact h4 N0 T0⟩
    · rename_i hc
      obtain ⟨l, X, Y, h1, h2, h3, h4⟩ := tk_ly t (some n) st st' hwt hz h
      exact ⟨l, X, Y, h1, h2, h3, fun N0 T0 => by rw [ly, if_neg hc]; exact h4 N0 T0⟩
  | .sign k n a t, none, (r, N, T), st', hw, hz, h => by
    dsimp only at hz
    obtain ⟨hk, hn, hka, hwa, hwt⟩ := hw
    rw [tk] at h
    obtain ⟨st1, h1, h2⟩ := bind_ok.1 h
    have hstep : Laid (fun v => (if k = 117 then (getN 0 4294967295 v).bind fun x => .ok (be x.1 4, x.2)
        else if k = 113 then (getN (-9223372036854775808) 9223372036854775807 v).bind fun x => .ok (be x.1 8, x.2)
        else if k = 98 then (getN 0 1 v).bind fun x => .ok (be x.1 4, x.2)
        else if k = 111 then (getT 0 n v).bind fun x => .ok (opaq (bl x.1), x.2)
        else if k = 102 then (getT n n v).bind fun x => .ok (fixed (bl x.1), x.2)
        else if k = 63 then (getN 0 1 v).bind fun x => if x.1 = 1 then (ly a (some 0) x.2).bind fun b => .ok (be x.1 4 ++ b.1, b.2) else .ok (be x.1 4, x.2)
        else if k = 42 then (getN 0 9223372036854775807 v).bind fun x => (repL (fun v => ly a (some 0) v) x.1.toNat x.2).bind fun b => .ok (b.1 ++ be 0 4, b.2)
        else if k = 60 then (getN 0 4294967295 v).bind fun x => (ly a (some x.1) x.2).bind fun b => .ok (be x.1 4 ++ b.1, b.2)
        else .ok ([], v))) (r, N, T) st1 := by
      split at h1
      · rename_i hkk
        obtain ⟨e1, rfl⟩ := putN_ok h1
        refine ⟨be (r.nat 4).1 4, [(r.nat 4).1], [], RS.nat4_inv e1, rfl, by simp, fun N0 T0 => ?_⟩
        dsimp only
        rw [if_pos hkk, List.singleton_append, getN_cons (RS.nat4 r)]; rfl
      rename_i hk117
      split at h1
      · rename_i hkk
        obtain ⟨e1, rfl⟩ := putN_ok h1
        refine ⟨be (r.nat 8).1 8, [(r.nat 8).1], [], RS.nat8_inv e1, rfl, by simp, fun N0 T0 => ?_⟩
        dsimp only
        rw [if_neg hk117, if_pos hkk, List.singleton_append, getN_cons (show -9223372036854775808 ≤ (r.nat 8).1 ∧ (r.nat 8).1 ≤ 9223372036854775807 from num_range8 _)]; rfl
      rename_i hk113
      split at h1
      · rename_i hkk
        obtain ⟨e1, rfl⟩ := putN_ok h1
        refine ⟨be (bitI r.bool.1) 4, [bitI r.bool.1], [], RS.bool_inv e1, rfl, by simp, fun N0 T0 => ?_⟩
        dsimp only
        rw [if_neg hk117, if_neg hk113, if_pos hkk, List.singleton_append, getN_cons (by unfold bitI; split <;> decide)]; rfl
      rename_i hk98
      split at h1
      · rename_i hkk
        obtain ⟨e1, rfl⟩ := putT_ok h1
        obtain ⟨i1, i2⟩ := RS.opqe_inv e1
        refine ⟨opaq (bl (r.opqe n).1), [], [(r.opqe n).1], i1, by simp, rfl, fun N0 T0 => ?_⟩
        dsimp only
        rw [if_neg hk117, if_neg hk113, if_neg hk98, if_pos hkk, List.singleton_append, getT_cons ⟨Nat.zero_le _, by omega⟩]; rfl
      rename_i hk111
      split at h1
      · rename_i hkk
        obtain ⟨e1, rfl⟩ := putT_ok h1
        obtain ⟨i1, i2⟩ := RS.fixed_inv (by omega) e1
        refine ⟨fixed (bl (r.fixed n).1), [], [(r.fixed n).1], i1, by simp, rfl, fun N0 T0 => ?_⟩
        dsimp only
        rw [if_neg hk117, if_neg hk113, if_neg hk98, if_neg hk111, if_pos hkk, List.singleton_append, getT_cons ⟨by omega, by omega⟩]; rfl
      rename_i hk102
      split at h1
      · rename_i hkk
        obtain ⟨st0, h3, h4⟩ := bind_ok.1 h1
        obtain ⟨e1, rfl⟩ := putN_ok h3
        have hinv := RS.bool_inv e1
        dsimp only at e1
        split at h4
        · rename_i hb
          obtain ⟨l, X, Y, b3, x3, y3, q3⟩ := tk_ly a (some 0) _ st1 hwa (Nat.le_trans (RS.bool_le r) hz) h4
          dsimp only at b3 x3 y3
          rw [hb, if_pos rfl] at hinv
          rw [hb] at x3
          refine ⟨be 1 4 ++ l, 1 :: X, Y, by dsimp only; rw [hinv, b3, List.append_assoc], by dsimp only; rw [x3, List.append_assoc]; rfl, y3, fun N0 T0 => ?_⟩
          dsimp only
          rw [if_neg hk117, if_neg hk113, if_neg hk98, if_neg hk111, if_neg hk102, if_pos hkk, List.cons_append, getN_cons (by decide)]
          show (if (1 : Int) = 1 then (ly a (some 0) (X ++ N0, Y ++ T0)).bind (fun b => .ok (be 1 4 ++ b.1, b.2)) else (.ok (be 1 4, X ++ N0, Y ++ T0) : LR)) = _
          rw [if_pos rfl, q3]; rfl
        · rename_i hb
          injection h4 with h4; subst h4
          rw [if_neg hb] at hinv
          have hb' : bitI r.bool.1 = 0 := if_neg hb
          refine ⟨be 0 4, [0], [], hinv, by rw [← hb'], by simp, fun N0 T0 => ?_⟩
          dsimp only
          rw [if_neg hk117, if_neg hk113, if_neg hk98, if_neg hk111, if_neg hk102, if_pos hkk, List.singleton_append, getN_cons (by decide)]; rfl
      rename_i hk63
      split at h1
      · rename_i hkk
        obtain ⟨st0, h3, h4⟩ := bind_ok.1 h1
        obtain ⟨e1, rfl⟩ := putN_ok h3
        dsimp only at e1 h4
        obtain ⟨cnt, l, X, Y, hc4, b3, x3, y3, q3⟩ := starL_ly (h := fun v => ly a (some 0) v) (M := 9223372036854775807) (fun st st' hz h => tk_ly a (some 0) st st' hwa hz h) _ _ _ hz (by simp) h4
        dsimp only at b3 x3 y3
        have hcnt : (cnt : Int) ≤ 9223372036854775807 := by
          have := bl_size (l := l ++ be 0 4) b3
          rw [List.length_append] at this
          omega
        refine ⟨l ++ be 0 4, (cnt : Int) :: X, Y, b3, ?_, y3, fun N0 T0 => ?_⟩
        · dsimp only
          have : (N ++ [(0 : Int)]).getD N.length 0 = 0 := by simp [List.getD]
          rw [x3, this, List.set_append_right _ _ (Nat.le_refl _), Nat.sub_self]; simp
        · dsimp only
          rw [if_neg hk117, if_neg hk113, if_neg hk98, if_neg hk111, if_neg hk102, if_neg hk63, if_pos hkk, List.cons_append, getN_cons ⟨by omega, hcnt⟩]
          show ((repL (fun v => ly a (some 0) v) ((cnt : Int).toNat) (X ++ N0, Y ++ T0)).bind _) = _
          rw [Int.toNat_natCast, q3]; rfl
      rename_i hk42
      split at h1
      · rename_i hkk
        obtain ⟨st0, h3, h4⟩ := bind_ok.1 h1
        obtain ⟨e1, rfl⟩ := putN_ok h3
        have hinv := RS.nat4_inv e1
        obtain ⟨l, X, Y, b3, x3, y3, q3⟩ := tk_ly a (some _) _ st1 hwa (Nat.le_trans (RS.nat_le r 4) hz) h4
        dsimp only at b3 x3 y3
        refine ⟨be (r.nat 4).1 4 ++ l, (r.nat 4).1 :: X, Y, by dsimp only; rw [hinv, b3, List.append_assoc], by dsimp only; rw [x3, List.append_assoc]; rfl, y3, fun N0 T0 => ?_⟩
        dsimp only
        rw [if_neg hk117, if_neg hk113, if_neg hk98, if_neg hk111, if_neg hk102, if_neg hk63, if_neg hk42, if_pos hkk, List.cons_append, getN_cons (RS.nat4 r)]
        show ((ly a (some (r.nat 4).1) (X ++ N0, Y ++ T0)).bind _) = _
        rw [q3]; rfl
      · exfalso; omega
    obtain ⟨l1, X1, Y1, b1, x1, y1, q1⟩ := hstep
    dsimp only at q1 b1 x1 y1
    have hsz := bl_size b1
    obtain ⟨l2, X2, Y2, b2, x2, y2, q2⟩ := tk_ly t none st1 st' hwt (by omega) h2
    refine ⟨l1 ++ l2, X1 ++ X2, Y1 ++ Y2, by rw [b1, b2, List.append_assoc], by rw [x2, x1, List.append_assoc], by rw [y2, y1, List.append_assoc], fun N0 T0 => ?_⟩
    rw [ly, List.append_assoc, List.append_assoc, q1]
    show ((ly t none (X2 ++ N0, Y2 ++ T0)).bind fun b => .ok (l1 ++ b.1, b.2)) = _
    rw [q2]; rfl
end Go.Proofs.Ytkkpcjpdpjpohaa

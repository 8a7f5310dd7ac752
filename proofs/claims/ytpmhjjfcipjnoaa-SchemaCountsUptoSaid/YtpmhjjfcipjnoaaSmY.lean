/- Layer 2: a number's digits; the form of a list of texts, and what it lays. -/
import Derived.Test.YtpmhjjfcipjnoaaSmM
import Derived.Test.YtpmhjjfcipjnoaaSmX
import Derived.Test.YtpmhjjfcipjnoaaSmR
namespace Go.Proofs.Ytpmhjjfcipjnoaa
open Go Go.RowKit

def dgl : Nat → Nat → List Nat → List Nat
  | 0, _, acc => acc
  | f + 1, n, acc => if n < 10 then n :: acc else dgl f (n / 10) (n % 10 :: acc)
theorem dgl_spec : ∀ f n acc, 1 ≤ n → n < 10 ^ f → ∃ ds, dgl f n acc = ds ++ acc ∧ ds.foldl (fun m d => 10 * m + d) 0 = n ∧ 1 ≤ ds.length ∧ ds.length ≤ f ∧ (∀ d ∈ ds, d < 10) ∧ ds.head? ≠ some 0
  | 0, n, acc, h1, h2 => by simp at h2; omega
  | f + 1, n, acc, h1, h2 => by
    rw [dgl]
    split
    · rename_i h
      exact ⟨[n], rfl, by simp, by simp, by simp, by simpa using h, by simp; omega⟩
    · rename_i h
      obtain ⟨ds, e1, e2, e3, e4, e5, e6⟩ := dgl_spec f (n / 10) (n % 10 :: acc) (by omega) (by rw [Nat.pow_succ] at h2; omega)
      refine ⟨ds ++ [n % 10], by rw [e1]; simp, ?_, by simp, by simp; omega, ?_, ?_⟩
      · rw [List.foldl_append, e2]; simp only [List.foldl_cons, List.foldl_nil]; omega
      · intro d hd
        rcases List.mem_append.1 hd with h | h
        · exact e5 d h
        · simp at h; omega
      · rw [List.head?_append]
        cases ds with
        | nil => simp at e3
        | cons x r => simpa using e6
theorem scan_digits (s : ByteArray) : ∀ (ds : List Nat) (k a m : Nat), ds.length < k → (∀ i d, ds[i]? = some d → pk s (a + i) = 48 + d ∧ d < 10) → ¬ (48 ≤ pk s (a + ds.length) ∧ pk s (a + ds.length) ≤ 57) → scan s k a m = (ds.foldl (fun m d => 10 * m + d) m, a + ds.length)
  | [], k, a, m, hk, _, he => by
    obtain ⟨k, rfl⟩ : ∃ j, k = j + 1 := ⟨k - 1, by simp at hk; omega⟩
    rw [scan, if_neg (by simpa using he)]; rfl
  | d :: ds, k, a, m, hk, hd, he => by
    obtain ⟨k, rfl⟩ : ∃ j, k = j + 1 := ⟨k - 1, by simp at hk; omega⟩
    have h0 := hd 0 d rfl
    rw [Nat.add_zero] at h0
    rw [List.length_cons] at hk he
    rw [scan, if_pos (by omega), h0.1, scan_digits s ds k (a + 1) _ (by omega) (fun i x hx => by have := hd (i + 1) x hx; rwa [show a + 1 + i = a + (i + 1) by omega]) (by rwa [show a + 1 + ds.length = a + (ds.length + 1) by omega])]
    rw [List.foldl_cons, List.length_cons, show a + 1 + ds.length = a + (ds.length + 1) by omega, show 48 + d - 48 = d by omega]
def dbs (ds : List Nat) : List UInt8 := ds.map fun (d : Nat) => byt (48 + (d : Int))
theorem pk_mkb (l : List UInt8) (i : Nat) : pk (mkb l) i = (l[i]?.map (·.toNat)).getD 0 := by
  by_cases h : i < l.length
  · rw [pk_in (by rw [mkb_size]; exact h), List.getElem?_eq_getElem h]
    simp [mkb]
    rfl
  · rw [pk_out (by rw [mkb_size]; exact h), List.getElem?_eq_none (by omega)]; rfl
/-- the form of a list of texts, each of at most so many bytes -/
def cntF (n : Nat) : ByteArray := mkb (42 :: 40 :: 111 :: (dbs (dgl 5 n []) ++ [41]))
def cntT (n : Nat) : Tr := .sign 42 0 (.arm 0 false (.sign 111 n .nil .nil) .nil) .nil
theorem parse_count {s : ByteArray} {n e : Nat} (h0 : pk s 0 = 42) (h1 : pk s 1 = 40) (h2 : pk s 2 = 111) (hn : numF s 3 = some (n, e)) (he : pk s e = 41) (hz : s.size = e + 1) : parseF s = some (cntT n) := by
  have hr := numF_range hn
  dsimp only at hr
  obtain ⟨k, hk⟩ : ∃ k, e = k + 2 := ⟨e - 2, by omega⟩
  have ho : pk s (e + 1) = 0 := pk_out (by omega)
  unfold parseF
  rw [if_neg (by omega), hz, hk]
  have hp : pr s (k + 4) false 0 0 [] = some (cntT n, e + 1) := by
    simp [pr, h0, h1, h2, hn, he, ho, cntT, Tr.len]
  rw [show k + 2 + 1 + 1 = k + 4 by omega, hp, Option.bind_some]
  dsimp only
  rw [if_neg (by omega)]
theorem cnt_parse (n : Nat) (h1 : 1 ≤ n) (h2 : n ≤ 99999) : parseF (cntF n) = some (cntT n) ∧ (cntF n).size ≤ 9 := by
  obtain ⟨ds, e1, e2, e3, e4, e5, e6⟩ := dgl_spec 5 n [] h1 (by omega)
  rw [List.append_nil] at e1
  have hl : (dbs ds).length = ds.length := by simp [dbs]
  have hsz : (cntF n).size = 3 + ds.length + 1 := by rw [cntF, e1, mkb_size]; simp [dbs]; omega
  have hpd : ∀ i d, ds[i]? = some d → pk (cntF n) (3 + i) = 48 + d ∧ d < 10 := by
    intro i d hd
    have hd10 := e5 d (List.mem_of_getElem? hd)
    refine ⟨?_, hd10⟩
    have hi : i < ds.length := (List.getElem?_eq_some_iff.1 hd).1
    rw [cntF, e1, pk_mkb, show 3 + i = i + 1 + 1 + 1 by omega, List.getElem?_cons_succ, List.getElem?_cons_succ, List.getElem?_cons_succ, List.getElem?_append_left (by omega), dbs, List.getElem?_map, hd]
    show (byt (48 + (d : Int))).toNat = _
    have := byt_toNat (48 + (d : Int))
    omega
  have hpe : pk (cntF n) (3 + ds.length) = 41 := by
    rw [cntF, e1, pk_mkb, show 3 + ds.length = ds.length + 1 + 1 + 1 by omega, List.getElem?_cons_succ, List.getElem?_cons_succ, List.getElem?_cons_succ, List.getElem?_append_right (by omega), hl, Nat.sub_self]; rfl
  have hsc := scan_digits (cntF n) ds 6 3 0 (by omega) hpd (by rw [hpe]; decide)
  rw [e2] at hsc
  refine ⟨parse_count (e := 3 + ds.length) (by rw [cntF, pk_mkb]; rfl) (by rw [cntF, pk_mkb]; rfl) (by rw [cntF, pk_mkb]; rfl) ?_ hpe hsz, by omega⟩
  unfold numF
  rw [hsc]
  dsimp only
  rw [if_neg]
  intro hh
  rcases hh with h | h | ⟨h, h'⟩
  · omega
  · omega
  · cases ds with
    | nil => simp at e3
    | cons x r =>
      have := (hpd 0 x rfl).1
      rw [Nat.add_zero, h'] at this
      exact e6 (by simp; omega)
def lng (n : Nat) (T : List ByteArray) : Bool := T.any fun x => decide (n < x.size)
def szs (T : List ByteArray) : Nat := (T.map fun x => 8 + (x.size + 3) / 4 * 4).sum
theorem opaq_len (s : ByteArray) : (opaq (bl s)).length = 4 + (s.size + 3) / 4 * 4 := by
  rw [opaq, List.length_append, be_length, fixed, List.length_append, zeros, List.length_replicate, bl_length]; unfold padn; omega
theorem rep_txt (n : Nat) : ∀ T : List ByteArray, (lng n T = true → repL (fun v => ly (.arm 0 false (.sign 111 n .nil .nil) .nil) (some 0) v) T.length ([], T) = .error 4) ∧
    (lng n T = false → ∃ l, repL (fun v => ly (.arm 0 false (.sign 111 n .nil .nil) .nil) (some 0) v) T.length ([], T) = .ok (l, [], []) ∧ l.length = szs T)
  | [] => ⟨fun h => (by cases h), fun _ => ⟨[], rfl, rfl⟩⟩
  | x :: T => by
    have one : ly (.arm 0 false (.sign 111 n .nil .nil) .nil) (some 0) (([] : List Int), x :: T) = if n < x.size then .error 4 else .ok (opaq (bl x), [], T) := by
      rw [ly, if_pos (.inr rfl), ly, if_neg (by decide), if_neg (by decide), if_neg (by decide), if_pos rfl]
      by_cases h : n < x.size
      · rw [if_pos h, getT]; dsimp only; rw [if_neg (by omega)]; rfl
      · rw [if_neg h, getT_cons ⟨Nat.zero_le _, by omega⟩]
        show (Except.ok (opaq (bl x), [], T) : LR).bind _ = _
        show ((ly .nil none ([], T)).bind fun b => .ok (opaq (bl x) ++ b.1, b.2)) = _
        rw [ly]
        show Except.ok (opaq (bl x) ++ [], [], T) = _
        rw [List.append_nil]
    obtain ⟨i1, i2⟩ := rep_txt n T
    rw [List.length_cons, repL, one]
    have hl : lng n (x :: T) = (decide (n < x.size) || lng n T) := rfl
    rw [hl]
    by_cases h : n < x.size
    · rw [if_pos h, decide_eq_true h]
      exact ⟨fun _ => rfl, fun h => by cases h⟩
    · rw [if_neg h, decide_eq_false h, Bool.false_or]
      refine ⟨fun h => ?_, fun h => ?_⟩
      · show ((repL _ T.length ([], T)).bind fun b => .ok (be 1 4 ++ opaq (bl x) ++ b.1, b.2)) = _
        rw [i1 h]; rfl
      · obtain ⟨l, e1, e2⟩ := i2 h
        refine ⟨be 1 4 ++ opaq (bl x) ++ l, ?_, ?_⟩
        · show ((repL _ T.length ([], T)).bind fun b => .ok (be 1 4 ++ opaq (bl x) ++ b.1, b.2)) = _
          rw [e1]; rfl
        · rw [List.length_append, List.length_append, be_length, opaq_len, e2]
          unfold szs
          rw [List.map_cons, List.sum_cons]; omega
theorem enc_count (n : Nat) (h1 : 1 ≤ n) (h2 : n ≤ 99999) (T : List ByteArray) (hT : T.length ≤ 1000) : ∃ s : ByteArray, s.size = 4 + szs T ∧ encodeF (cntF n) [(T.length : Int)] T = if lng n T = true then .error 4 else if 65536 < 4 + szs T then .error 2 else .ok s := by
  obtain ⟨i1, i2⟩ := rep_txt n T
  have hly : ly (cntT n) none ([(T.length : Int)], T) = (repL (fun v => ly (.arm 0 false (.sign 111 n .nil .nil) .nil) (some 0) v) T.length ([], T)).bind fun b => .ok (b.1 ++ be 0 4, b.2) := by
    unfold cntT
    rw [ly, if_neg (by decide), if_neg (by decide), if_neg (by decide), if_neg (by decide), if_neg (by decide), if_neg (by decide), if_pos rfl, getN_cons ⟨by omega, by omega⟩]
    show ((repL _ ((T.length : Int)).toNat ([], T)).bind _).bind _ = _
    rw [Int.toNat_natCast]
    cases repL (fun v => ly (.arm 0 false (.sign 111 n .nil .nil) .nil) (some 0) v) T.length ([], T) with
    | error e => rfl
    | ok b =>
      show ((ly .nil none b.2).bind fun c => .ok ((b.1 ++ be 0 4) ++ c.1, c.2)) = _
      rw [ly]
      show Except.ok ((b.1 ++ be 0 4) ++ [], b.2) = _
      rw [List.append_nil]; rfl
  unfold encodeF
  rw [(cnt_parse n h1 h2).1]
  dsimp only
  unfold encodeT
  rw [hly]
  cases hl : lng n T with
  | true =>
    rw [i1 hl]
    exact ⟨mkb (List.replicate (4 + szs T) 0), by rw [mkb_size, List.length_replicate], rfl⟩
  | false =>
    obtain ⟨l, e1, e2⟩ := i2 hl
    refine ⟨mkb (l ++ be 0 4), by rw [mkb_size, List.length_append, be_length, e2]; omega, ?_⟩
    rw [e1, if_neg (by decide)]
    show (if ([] : List Int) ≠ [] ∨ ([] : List ByteArray) ≠ [] then (Except.error 4 : Except Int ByteArray) else if 65536 < (l ++ be 0 4).length then .error 2 else .ok (mkb (l ++ be 0 4))) = _
    rw [if_neg (by simp), List.length_append, be_length, e2, Nat.add_comm (szs T)]

theorem conv1 {P : Program} (src dst e : TypeId) (hs : P.underlying src = some (.slice e)) (he : P.underlying e = some (.int .u8)) (hd : P.underlying dst = some .string) (W : World) (x0 : Int) :
    (convert src dst (.slice (some ⟨W.heap.size, 0, none⟩) 1 1)).run P (W.alloc (.cells #[.int .u8 x0] e)) = .ok (.string (strOfNums [x0])) (W.alloc (.cells #[.int .u8 x0] e)) := by
  refine run_convert_bytes_arg _ src e hs he W.heap.size 0 1 1 [x0] rfl (fun i hi => ?_) dst hd
  rw [World.cell?_alloc_new]
  match i, hi with
  | 0, _ => rfl
theorem dbs_cons (d : Nat) (hd : d < 10) (l : List Nat) : strOfNums [(48 : Int) + d] ++ mkb (dbs l) = mkb (dbs (d :: l)) := by
  have : strOfNums [(48 : Int) + d] = mkb [byt (48 + (d : Int))] := by
    rw [← strOfNums_bytes]
    simp only [List.map_cons, List.map_nil]
    rw [byt_toNat]
    rw [show (48 + (d : Int)) % 256 = 48 + d by omega]
  rw [this, mkb_append, dbs, dbs, List.map_cons]; rfl
set_option maxRecDepth 100000 in
set_option maxHeartbeats 2000000 in
theorem digs_ok (n : Nat) (h1 : 1 ≤ n) (h2 : n ≤ 99999) {w0 w : World} {F : List Assn} (H : St w0 w F) :
    Calls Try.prog 17 #[.int .i64 n] w fun r w' => r = .returned (.string (mkb (dbs (dgl 5 n [])))) ∧ St w0 w' F := by
  have hcv := fun W x0 => conv1 (P := Try.prog) 66 9 5 Try.underlying66 Try.underlying5 Try.underlying9 W x0
  obtain ⟨D, hD⟩ : ∃ D, D = dgl 5 n [] := ⟨_, rfl⟩
  rw [← hD]
  have HD := Lib.hid hD; clear hD
  go_enter Try.func17, Try.ntmps17
  go_upto_region 2 with (fail)
  go_loopw [0, 3] (fun a s wr => ∃ (f q : Nat) (acc : List Nat), f ≤ 4 ∧ 1 ≤ q ∧ q < 10 ^ (f + 1) ∧ acc.length + f ≤ 4 ∧ Hid (D = dgl (f + 1) q acc) ∧ a = .int .i64 q ∧ s = .string (mkb (dbs acc)) ∧ St w0 wr F) (fun a _ _ => (intOf a).toNat)
  case atStart => exact ⟨4, n, [], Nat.le_refl _, h1, by omega, by simp, HD, rfl, rfl, H⟩
  case round =>
    obtain ⟨f, q, acc, hf, hq1, hq2, hac, HQ, rfl, rfl, H1⟩ := hrel
    have hq9 : q < 100000 := Nat.lt_of_lt_of_le hq2 (Nat.le_trans (Nat.pow_le_pow_right (by decide) (show f + 1 ≤ 5 by omega)) (by decide))
    have hz := (show (mkb (dbs acc)).size ≤ 4 from by rw [mkb_size, dbs, List.length_map]; omega)
    have hcat := dbs_cons (q % 10) (by omega) acc
    obtain ⟨t, ht⟩ : ∃ t, t = mkb (dbs acc) := ⟨_, rfl⟩
    rw [← ht] at hz hcat ⊢
    rw [show ((q % 10 : Nat) : Int) = (q : Int) % 10 by omega] at hcat
    have hsum : (strOfNums [(48 : Int) + (q : Int) % 10]).size + t.size ≤ 9223372036854775807 := by
      have : (strOfNums [(48 : Int) + (q : Int) % 10]).size = 1 := rfl
      omega
    have hac2 : (dbs (q % 10 :: acc)).length ≤ 5 := by rw [dbs, List.length_map, List.length_cons]; omega
    have HCAT := Lib.hid hcat; have HT := Lib.hid ht; clear hcat ht
    go_upto_region 3 with (fail)
    rw [HCAT.out]
    have H2 := H1.more (.cells #[.int .u8 (48 + (q : Int) % 10)] 5)
    generalize wr.alloc (.cells #[.int .u8 (48 + (q : Int) % 10)] 5) = w2 at *
    clear HCAT hsum hz HT H1
    by_cases h9 : q < 10
    · have h9I : (q : Int) / 10 < 1 := by omega
      have hDD : D = q :: acc := by rw [HQ.out, dgl, if_pos h9]
      rw [show q % 10 = q by omega]
      have HDD := Lib.hid hDD; clear hDD
      go_wp2_with (fail)
      go_ret
      rw [HDD.out]
      exact ⟨rfl, H2⟩
    · have h9I : ¬ (q : Int) / 10 < 1 := by omega
      obtain ⟨f, rfl⟩ : ∃ j, f = j + 1 := ⟨f - 1, by
        cases f with
        | zero => simp at hq2; omega
        | succ f => rfl⟩
      have hDD : D = dgl (f + 1) (q / 10) (q % 10 :: acc) := by rw [HQ.out, dgl, if_neg h9]
      have hlow : q / 10 < 10 ^ (f + 1) := by rw [Nat.pow_succ] at hq2; omega
      have HDD := Lib.hid hDD; clear hDD
      go_wp2_with (fail)
      exact ⟨⟨f, q / 10, q % 10 :: acc, by omega, by omega, hlow, by rw [List.length_cons]; omega, HDD, rfl, rfl, H2⟩, by simp only [intOf]; omega⟩
/-- the reading of a row that is owned -/
theorem RdS.row {w0 w : World} {A : Option Addr} {n c : Nat} {l : List ByteArray} {F : List Assn} (H : St w0 w (Row 9 1 A n c (svs l) :: F)) : RdS w A l := fun j x hx => by
  have hl := H.row_length
  rw [svs_length, Nat.mul_one] at hl
  have hj : j < l.length := (List.getElem?_eq_some_iff.1 hx).1
  obtain ⟨g, o, rfl⟩ := H.row_form (by omega)
  exact ⟨g, o, rfl, H.row_cell j (by rw [svs, List.getElem?_map, hx]; rfl)⟩
theorem RdI.row {w0 w : World} {A : Option Addr} {n c : Nat} {l : List Int} {F : List Assn} (H : St w0 w (Row 3 1 A n c (ivs l) :: F)) : RdI w A l := fun j x hx => by
  have hl := H.row_length
  rw [ivs_length, Nat.mul_one] at hl
  have hj : j < l.length := (List.getElem?_eq_some_iff.1 hx).1
  obtain ⟨g, o, rfl⟩ := H.row_form (by omega)
  exact ⟨g, o, rfl, H.row_cell j (by rw [ivs, List.getElem?_map, hx]; rfl)⟩
theorem RdS.src {w : World} {A : Option Addr} {l : List ByteArray} {n : Nat} (hn : n = l.length) (h : RdS w A l) : Src w A n (svs l) :=
  Src.of (by rw [svs_length, hn]) fun j u hu => by
    rw [svs, List.getElem?_map] at hu
    obtain ⟨x, hx, rfl⟩ := Option.map_eq_some_iff.1 hu
    exact h j x hx
theorem RdI.src {w : World} {A : Option Addr} {l : List Int} {n : Nat} (hn : n = l.length) (h : RdI w A l) : Src w A n (ivs l) :=
  Src.of (by rw [ivs_length, hn]) fun j u hu => by
    rw [ivs, List.getElem?_map] at hu
    obtain ⟨x, hx, rfl⟩ := Option.map_eq_some_iff.1 hu
    exact h j x hx
theorem ivs_one (l : List Int) : ∀ u ∈ ivs l, u.oneCell' = true := fun u hu => by
  obtain ⟨x, _, rfl⟩ := List.mem_map.1 hu; rfl
theorem svs_one (l : List ByteArray) : ∀ u ∈ svs l, u.oneCell' = true := fun u hu => by
  obtain ⟨x, _, rfl⟩ := List.mem_map.1 hu; rfl
theorem RdS.firsts {w : World} {A : Option Addr} {l : List ByteArray} (h : RdS w A l) (k : Nat) : RdS w A (l.take k) := fun j x hx => by
  rw [List.getElem?_take] at hx
  split at hx
  · exact h j x hx
  · cases hx
theorem RdI.firsts {w : World} {A : Option Addr} {l : List Int} (h : RdI w A l) (k : Nat) : RdI w A (l.take k) := fun j x hx => by
  rw [List.getElem?_take] at hx
  split at hx
  · exact h j x hx
  · cases hx
end Go.Proofs.Ytpmhjjfcipjnoaa

/- Layer 16: the cache of answers. -/
import Derived.Test.YtkkpcjpdpjpohaaSmR
import Derived.Laws.MakeOwn
namespace Go.Proofs.Ytkkpcjpdpjpohaa
open Go.RowKit

structure An where
  age : Int
  client : Int
  xid : Int
  call : ByteArray
  reply : ByteArray
def An.cells (x : An) : List Value := [.int .i64 x.age, .int .i64 x.client, .int .i64 x.xid, .string x.call, .string x.reply]
def An.zero : An := ⟨0, 0, 0, ⟨#[]⟩, ⟨#[]⟩⟩
structure DS where
  ps : List An
  age : Int
def ans (l : List An) : List Value := l.flatMap An.cells
theorem ans_length : ∀ l : List An, (ans l).length = l.length * 5
  | [] => rfl
  | x :: l => by show (x.cells ++ ans l).length = _; rw [List.length_append, ans_length l]; simp only [An.cells, List.length_cons, List.length_nil]; omega
theorem ans_get : ∀ (l : List An) (i : Nat) (x : An), l[i]? = some x → ∀ j u, x.cells[j]? = some u → (ans l)[i * 5 + j]? = some u
  | [], i, x, h, _, _, _ => by simp at h
  | y :: l, 0, x, h, j, u, hu => by
    simp at h; subst h
    show (y.cells ++ ans l)[0 * 5 + j]? = _
    rw [Nat.zero_mul, Nat.zero_add, List.getElem?_append_left (List.getElem?_eq_some_iff.1 hu).1]; exact hu
  | y :: l, i + 1, x, h, j, u, hu => by
    show (y.cells ++ ans l)[(i + 1) * 5 + j]? = _
    rw [List.getElem?_append_right (by show 5 ≤ _; omega), show (i + 1) * 5 + j - y.cells.length = i * 5 + j by show (i + 1) * 5 + j - 5 = _; omega]
    exact ans_get l i x (by simpa using h) j u hu
/-- a cache in block b -/
def DcS (w0 w : World) (F : List Assn) (b : Nat) (d : DS) : Prop := ∃ A, St w0 w (Pt b #[.slice A d.ps.length d.ps.length, .int .i64 d.age] 57 :: Row 59 5 A d.ps.length d.ps.length (ans d.ps) :: F)
theorem infoAns : (Try.prog.info? 59).map (fun i => (i.zero, i.size, i.bytes)) = some (some (.agg #[.int .i64 0, .int .i64 0, .int .i64 0, .string ByteArray.empty, .string ByteArray.empty]), 5, 56) := by kernel_rfl
def DS.new (size : Int) : DS := ⟨List.replicate (min (max size 1) 256).toNat An.zero, 0⟩
/-- the best so far, and one more -/
def better (client xid : Int) (call : ByteArray) (b x : An) : An := if b.age < x.age ∧ x.client = client ∧ x.xid = xid ∧ x.call = call then x else b
def DS.best (d : DS) (client xid : Int) (call : ByteArray) : An := d.ps.foldl (better client xid call) An.zero
theorem rep_ans_get (K i : Nat) (h : i < K * 5) (u : Value) (hu : An.zero.cells[i % 5]? = some u) : (ans (List.replicate K An.zero))[i]? = some u := by
  have := ans_get (List.replicate K An.zero) (i / 5) An.zero (by rw [List.getElem?_replicate, if_pos (by omega)]) (i % 5) u hu
  rwa [show i / 5 * 5 + i % 5 = i by omega] at this
set_option maxRecDepth 100000 in
theorem make_ans (K : Nat) (hK : K ≤ 256) (d : Int) (hd : d = K) (w : World) : (Instr.makeSlice 55 (.int .i64 d) (.int .i64 d)).run Try.prog w = .ok (.slice (some ⟨w.heap.size, 0, none⟩) K K) (w.alloc (.cells (ans (List.replicate K An.zero)).toArray 59)) := by
  subst hd
  obtain ⟨i0, hi, hz, hz1, hz2⟩ := info_parts infoAns
  have h := run_make (P := Try.prog) w 55 59 i0 _ Try.underlying55 hi hz .i64 .i64 K K (by omega) (Int.le_refl _) (by rw [hz2]; omega) (by omega)
  rw [h, hz1]
  congr 3
  apply Array.ext_getElem?
  intro i
  simp only [madeCells, Int.toNat_natCast, List.getElem?_toArray, Array.getElem?_map]
  by_cases h : i < K * 5
  · rw [Array.getElem?_range, if_pos h]
    have h5 : i % 5 < 5 := Nat.mod_lt _ (by decide)
    have hm : i % 5 = 0 ∨ i % 5 = 1 ∨ i % 5 = 2 ∨ i % 5 = 3 ∨ i % 5 = 4 := by omega
    rcases hm with hm | hm | hm | hm | hm
    all_goals
      rw [rep_ans_get K i h _ (by rw [hm]; rfl)]
      show some _ = _
      congr 1
      show (#[Value.int .i64 0, .int .i64 0, .int .i64 0, .string ByteArray.empty, .string ByteArray.empty] : Array Value)[i % 5]! = _
      rw [hm]; rfl
  · rw [Array.getElem?_range, if_neg h, List.getElem?_eq_none (by rw [ans_length, List.length_replicate]; omega)]; rfl
theorem St.wholeRow {w0 w : World} {L : List Assn} {b : Nat} {cs : List Value} {e : TypeId} (H : St w0 w (Pt b cs.toArray e :: L)) (size n : Nat) (hl : cs.length = n * size) (hn : n ≤ maxLen) :
    St w0 w (Row e size (some ⟨b, 0, none⟩) n n cs :: L) :=
  St.toRow (fr := (0, 0)) H hl (.inl (Nat.le_refl _)) (Nat.le_refl _) hn (by simp; omega) (fun j u h => by simpa using h)
-- §1 the argument of make, §2 why it is K, §3 why K is the size
set_option maxRecDepth 100000 in
set_option maxHeartbeats 2000000 in
theorem dnew_ok (size : Int) {w0 w : World} {F : List Assn} (H : St w0 w F) :
    Calls Try.prog 8 #[.int .i64 size] w fun x w' => ∃ b, x = .returned (.pointer (some ⟨b, 0, none⟩)) ∧ DcS w0 w' F b (DS.new size) := by
  by_cases h1 : size < 1
  · obtain ⟨K, hKK⟩ : ∃ K : Nat, K = 1 := ⟨_, rfl⟩
    obtain ⟨CS, hCS⟩ : ∃ CS, CS = (ans (List.replicate K An.zero)).toArray := ⟨_, rfl⟩
    have hmk : ∀ w, (Instr.makeSlice 55 (.int .i64 (1)) (.int .i64 (1))).run Try.prog w = .ok (.slice (some ⟨w.heap.size, 0, none⟩) K K) (w.alloc (.cells CS 59)) := fun w => by rw [hCS]; exact make_ans K (by omega) (1) (by omega) w
    have H2 := ((H.alloc (ans (List.replicate K An.zero)).toArray 59).wholeRow 5 K (by rw [ans_length, List.length_replicate]) (by unfold maxLen; omega)).alloc #[.slice (some ⟨w.heap.size, 0, none⟩) K K, .int .i64 0] 57
    rw [← hCS] at H2
    simp only [World.size_alloc] at H2
    have hK : (min (max (size) 1) 256).toNat = K := by omega
    have HK := Lib.hid hK
    clear hCS hK hKK
    go_enter Try.func8, Try.ntmps8
    go_wp2_with (fail)
    all_goals first
      | (exfalso; omega)
      | (go_ret
         refine ⟨_, rfl, some ⟨w.heap.size, 0, none⟩, ?_⟩
         have hl : (DS.new (size)).ps.length = K := by unfold DS.new; dsimp only; rw [List.length_replicate]; exact HK.out
         rw [hl]
         unfold DS.new
         rw [HK.out]
         exact H2)
  by_cases h2 : size = 1
  · subst h2
    obtain ⟨K, hKK⟩ : ∃ K : Nat, K = 1 := ⟨_, rfl⟩
    obtain ⟨CS, hCS⟩ : ∃ CS, CS = (ans (List.replicate K An.zero)).toArray := ⟨_, rfl⟩
    have hmk : ∀ w, (Instr.makeSlice 55 (.int .i64 (1)) (.int .i64 (1))).run Try.prog w = .ok (.slice (some ⟨w.heap.size, 0, none⟩) K K) (w.alloc (.cells CS 59)) := fun w => by rw [hCS]; exact make_ans K (by omega) (1) (by omega) w
    have H2 := ((H.alloc (ans (List.replicate K An.zero)).toArray 59).wholeRow 5 K (by rw [ans_length, List.length_replicate]) (by unfold maxLen; omega)).alloc #[.slice (some ⟨w.heap.size, 0, none⟩) K K, .int .i64 0] 57
    rw [← hCS] at H2
    simp only [World.size_alloc] at H2
    have hK : (min (max ((1 : Int)) 1) 256).toNat = K := by omega
    have HK := Lib.hid hK
    clear hCS hK hKK
    go_enter Try.func8, Try.ntmps8
    go_wp2_with (fail)
    all_goals first
      | (exfalso; omega)
      | (go_ret
         refine ⟨_, rfl, some ⟨w.heap.size, 0, none⟩, ?_⟩
         have hl : (DS.new ((1 : Int))).ps.length = K := by unfold DS.new; dsimp only; rw [List.length_replicate]; exact HK.out
         rw [hl]
         unfold DS.new
         rw [HK.out]
         exact H2)
  by_cases h3 : 256 < size
  · obtain ⟨K, hKK⟩ : ∃ K : Nat, K = 256 := ⟨_, rfl⟩
    obtain ⟨CS, hCS⟩ : ∃ CS, CS = (ans (List.replicate K An.zero)).toArray := ⟨_, rfl⟩
    have hmk : ∀ w, (Instr.makeSlice 55 (.int .i64 (256)) (.int .i64 (256))).run Try.prog w = .ok (.slice (some ⟨w.heap.size, 0, none⟩) K K) (w.alloc (.cells CS 59)) := fun w => by rw [hCS]; exact make_ans K (by omega) (256) (by omega) w
    have H2 := ((H.alloc (ans (List.replicate K An.zero)).toArray 59).wholeRow 5 K (by rw [ans_length, List.length_replicate]) (by unfold maxLen; omega)).alloc #[.slice (some ⟨w.heap.size, 0, none⟩) K K, .int .i64 0] 57
    rw [← hCS] at H2
    simp only [World.size_alloc] at H2
    have hK : (min (max (size) 1) 256).toNat = K := by omega
    have HK := Lib.hid hK
    clear hCS hK hKK
    go_enter Try.func8, Try.ntmps8
    go_wp2_with (fail)
    all_goals first
      | (exfalso; omega)
      | (go_ret
         refine ⟨_, rfl, some ⟨w.heap.size, 0, none⟩, ?_⟩
         have hl : (DS.new (size)).ps.length = K := by unfold DS.new; dsimp only; rw [List.length_replicate]; exact HK.out
         rw [hl]
         unfold DS.new
         rw [HK.out]
         exact H2)
  by_cases h4 : size = 256
  · subst h4
    obtain ⟨K, hKK⟩ : ∃ K : Nat, K = 256 := ⟨_, rfl⟩
    obtain ⟨CS, hCS⟩ : ∃ CS, CS = (ans (List.replicate K An.zero)).toArray := ⟨_, rfl⟩
    have hmk : ∀ w, (Instr.makeSlice 55 (.int .i64 (256)) (.int .i64 (256))).run Try.prog w = .ok (.slice (some ⟨w.heap.size, 0, none⟩) K K) (w.alloc (.cells CS 59)) := fun w => by rw [hCS]; exact make_ans K (by omega) (256) (by omega) w
    have H2 := ((H.alloc (ans (List.replicate K An.zero)).toArray 59).wholeRow 5 K (by rw [ans_length, List.length_replicate]) (by unfold maxLen; omega)).alloc #[.slice (some ⟨w.heap.size, 0, none⟩) K K, .int .i64 0] 57
    rw [← hCS] at H2
    simp only [World.size_alloc] at H2
    have hK : (min (max ((256 : Int)) 1) 256).toNat = K := by omega
    have HK := Lib.hid hK
    clear hCS hK hKK
    go_enter Try.func8, Try.ntmps8
    go_wp2_with (fail)
    all_goals first
      | (exfalso; omega)
      | (go_ret
         refine ⟨_, rfl, some ⟨w.heap.size, 0, none⟩, ?_⟩
         have hl : (DS.new ((256 : Int))).ps.length = K := by unfold DS.new; dsimp only; rw [List.length_replicate]; exact HK.out
         rw [hl]
         unfold DS.new
         rw [HK.out]
         exact H2)
  obtain ⟨K, hKK⟩ : ∃ K : Nat, size = K := ⟨size.toNat, by omega⟩
  obtain ⟨CS, hCS⟩ : ∃ CS, CS = (ans (List.replicate K An.zero)).toArray := ⟨_, rfl⟩
  have hmk : ∀ w, (Instr.makeSlice 55 (.int .i64 (size)) (.int .i64 (size))).run Try.prog w = .ok (.slice (some ⟨w.heap.size, 0, none⟩) K K) (w.alloc (.cells CS 59)) := fun w => by rw [hCS]; exact make_ans K (by omega) (size) (hKK) w
  have H2 := ((H.alloc (ans (List.replicate K An.zero)).toArray 59).wholeRow 5 K (by rw [ans_length, List.length_replicate]) (by unfold maxLen; omega)).alloc #[.slice (some ⟨w.heap.size, 0, none⟩) K K, .int .i64 0] 57
  rw [← hCS] at H2
  simp only [World.size_alloc] at H2
  have hK : (min (max (size) 1) 256).toNat = K := by omega
  have HK := Lib.hid hK
  clear hCS hK hKK
  go_enter Try.func8, Try.ntmps8
  go_wp2_with (fail)
  all_goals first
    | (exfalso; omega)
    | (go_ret
       refine ⟨_, rfl, some ⟨w.heap.size, 0, none⟩, ?_⟩
       have hl : (DS.new (size)).ps.length = K := by unfold DS.new; dsimp only; rw [List.length_replicate]; exact HK.out
       rw [hl]
       unfold DS.new
       rw [HK.out]
       exact H2)
theorem str_eq {x y : ByteArray} (h : x ≠ y) : (x.toList == y.toList) = false := by
  rw [beq_eq_false_iff_ne, ByteArray.toList_eq, ByteArray.toList_eq]
  exact fun he => h (bl_inj he)
set_option maxRecDepth 100000 in
set_option maxHeartbeats 4000000 in
theorem dlook_ok (b : Nat) (d : DS) (client xid : Int) (call : ByteArray) (hn : d.ps.length ≤ 256) {w0 w : World} {F : List Assn} (H : DcS w0 w F b d) :
    Calls Try.prog 10 #[.pointer (some ⟨b, 0, none⟩), .int .i64 client, .int .i64 xid, .string call] w fun x w' => x = .returned (.tuple #[.string (d.best client xid call).reply, .bool (decide ((d.best client xid call).age > 0))]) ∧ DcS w0 w' F b d := by
  obtain ⟨A, H⟩ := H
  obtain ⟨n, hnl⟩ : ∃ n, n = d.ps.length := ⟨_, rfl⟩
  rw [← hnl] at H hn
  have HNL := Lib.hid hnl; clear hnl
  have H1 := H.alloc An.zero.cells.toArray 59
  obtain ⟨b10, hb10⟩ : ∃ x, x = w.heap.size := ⟨_, rfl⟩
  obtain ⟨best, hbest⟩ : ∃ x, x = d.best client xid call := ⟨_, rfl⟩
  rw [← hbest]
  have HBE := Lib.hid hbest; clear hbest
  go_enter Try.func10, Try.ntmps10
  go_upto_region 4 with (fail)
  rw [show (#[.int .i64 0, .int .i64 0, .int .i64 0, .string ⟨#[]⟩, .string ⟨#[]⟩] : Array Value) = An.zero.cells.toArray from rfl]
  rw [← hb10] at H1 ⊢
  generalize w.alloc (.cells An.zero.cells.toArray 59) = w1 at *
  clear hb10 H
  have c0 := H1.r2.cell 0 rfl
  go_wp2_with (fail)
  clear c0
  go_loopw [20] (fun i wr => ∃ j : Nat, j ≤ n ∧ i = .int .i64 j ∧ ∃ bs : An, Hid (bs = (d.ps.take j).foldl (better client xid call) An.zero) ∧ St w0 wr (Pt b10 bs.cells.toArray 59 :: Pt b #[.slice A n n, .int .i64 d.age] 57 :: Row 59 5 A n n (ans d.ps) :: F)) (fun i _ => n - (intOf i).toNat)
  case atStart => exact ⟨0, Nat.zero_le _, rfl, An.zero, by show _ = _; rfl, H1⟩
  case round =>
    clear H1
    obtain ⟨j, hj, rfl, bs, HBS, H⟩ := hrel
    by_cases hlt : j < n
    · have hltI : (j : Int) < n := by omega
      obtain ⟨x, hx⟩ : ∃ x, d.ps[j]? = some x := ⟨_, List.getElem?_eq_getElem (by rw [← HNL.out]; exact hlt)⟩
      obtain ⟨g, og, rfl⟩ := H.r3.row_form (by omega)
      have e0 := H.r3.row_cell _ (ans_get d.ps j x hx 0 (.int .i64 x.age) rfl)
      have e1 := H.r3.row_cell _ (ans_get d.ps j x hx 1 (.int .i64 x.client) rfl)
      have e2 := H.r3.row_cell _ (ans_get d.ps j x hx 2 (.int .i64 x.xid) rfl)
      have e3 := H.r3.row_cell _ (ans_get d.ps j x hx 3 (.string x.call) rfl)
      have e4 := H.r3.row_cell _ (ans_get d.ps j x hx 4 (.string x.reply) rfl)
      rw [← Nat.add_assoc] at e0 e1 e2 e3 e4
      rw [Nat.add_zero] at e0
      have HX := Lib.hid hx; clear hx
      have H4 := H.alloc #[.int .i64 x.age, .int .i64 x.client, .int .i64 x.xid, .string x.call, .string x.reply] 59
      obtain ⟨b12, hb12⟩ : ∃ x, x = wr.heap.size := ⟨_, rfl⟩
      go_upto_region 7 with (fail)
      rw [← hb12] at H4 ⊢
      generalize wr.alloc (.cells #[.int .i64 x.age, .int .i64 x.client, .int .i64 x.xid, .string x.call, .string x.reply] 59) = w4 at *
      clear e0 e1 e2 e3 e4 hb12 H
      have k0 := H4.cell 0 rfl
      have k1 := H4.cell 1 rfl
      have k2 := H4.cell 2 rfl
      have k3 := H4.cell 3 rfl
      have k4 := H4.cell 4 rfl
      have s0 : w4.cell? ⟨b10, 0, none⟩ = some (.int .i64 bs.age) := H4.r2.cell 0 rfl
      by_cases h1 : bs.age < x.age
      rotate_left 1
      · have z1 : decide (bs.age < x.age) = false := decide_eq_false h1
        have H1' := Lib.hid h1; clear h1
        have hbt : better client xid call bs x = bs := if_neg (fun h => H1'.out h.1)
        have HBT := Lib.hid hbt; clear hbt
        go_wp2_with (fail)
        go_roundw
        case rel =>
          refine ⟨j + 1, by omega, by go_num, bs, ?_, H4.tail⟩
          show bs = (d.ps.take (j + 1)).foldl (better client xid call) An.zero
          rw [List.take_add_one, HX.out, List.foldl_append, ← HBS.out]
          exact HBT.out.symm
        case measure => simp [intOf]; omega
      have z1 : decide (bs.age < x.age) = true := decide_eq_true h1
      by_cases h2 : x.client = client
      rotate_left 1
      · have z2 : (x.client == client) = false := beq_eq_false_iff_ne.2 h2
        have H2' := Lib.hid h2; clear h2
        have hbt : better client xid call bs x = bs := if_neg (fun h => H2'.out h.2.1)
        have HBT := Lib.hid hbt; clear hbt
        go_wp2_with (fail)
        go_roundw
        case rel =>
          refine ⟨j + 1, by omega, by go_num, bs, ?_, H4.tail⟩
          show bs = (d.ps.take (j + 1)).foldl (better client xid call) An.zero
          rw [List.take_add_one, HX.out, List.foldl_append, ← HBS.out]
          exact HBT.out.symm
        case measure => simp [intOf]; omega
      have z2 : (x.client == client) = true := beq_iff_eq.2 h2
      by_cases h3 : x.xid = xid
      rotate_left 1
      · have z3 : (x.xid == xid) = false := beq_eq_false_iff_ne.2 h3
        have H3' := Lib.hid h3; clear h3 h2
        have hbt : better client xid call bs x = bs := if_neg (fun h => H3'.out h.2.2.1)
        have HBT := Lib.hid hbt; clear hbt
        go_wp2_with (fail)
        go_roundw
        case rel =>
          refine ⟨j + 1, by omega, by go_num, bs, ?_, H4.tail⟩
          show bs = (d.ps.take (j + 1)).foldl (better client xid call) An.zero
          rw [List.take_add_one, HX.out, List.foldl_append, ← HBS.out]
          exact HBT.out.symm
        case measure => simp [intOf]; omega
      have z3 : (x.xid == xid) = true := beq_iff_eq.2 h3
      by_cases h4 : x.call = call
      rotate_left 1
      · have z4 : (x.call.toList == call.toList) = false := str_eq h4
        have H4' := Lib.hid h4; clear h4 h3 h2
        have hbt : better client xid call bs x = bs := if_neg (fun h => H4'.out h.2.2.2)
        have HBT := Lib.hid hbt; clear hbt
        go_wp2_with (fail)
        go_roundw
        case rel =>
          refine ⟨j + 1, by omega, by go_num, bs, ?_, H4.tail⟩
          show bs = (d.ps.take (j + 1)).foldl (better client xid call) An.zero
          rw [List.take_add_one, HX.out, List.foldl_append, ← HBS.out]
          exact HBT.out.symm
        case measure => simp [intOf]; omega
      have z4 : (x.call.toList == call.toList) = true := by rw [h4]; simp
      have hbt : better client xid call bs x = x := if_pos ⟨h1, h2, h3, h4⟩
      have HBT := Lib.hid hbt
      clear hbt h1 h2 h3 h4
      go_wp2_with (with_reducible refine hold_store (ty := 59) ?_)
      unfold Hold
      with_reducible refine wpList_store_st (ty := 59) (H4.r2) (x.cells.toArray) ?_ ?_ ?_ ?_ ?_ ?_ ?_
      rfl
      rfl
      rfl
      rfl
      kernel_rfl
      rfl
      intro w5 H5
      clear k0 k1 k2 k3 k4 s0
      go_wp2_with (fail)
      go_roundw
      case rel =>
        refine ⟨j + 1, by omega, by go_num, x, ?_, H5.r2.tail⟩
        show x = (d.ps.take (j + 1)).foldl (better client xid call) An.zero
        rw [List.take_add_one, HX.out, List.foldl_append, ← HBS.out]
        exact HBT.out.symm
      case measure => simp [intOf]; omega
    · obtain rfl : j = n := by omega
      have hbs : bs = best := by
        rw [HBS.out, HBE.out, HNL.out, List.take_length]; rfl
      subst hbs
      have s0 : wr.cell? ⟨b10, 0, none⟩ = some (.int .i64 bs.age) := H.cell 0 rfl
      have s4 : wr.cell? ⟨b10, 4, none⟩ = some (.string bs.reply) := H.cell 4 rfl
      go_wp2_with (fail)
      go_quiet (fail)
      go_wp2_with (fail)
      go_ret2
      refine ⟨rfl, A, ?_⟩
      rw [← HNL.out]
      exact (H.drewN _).tail
end Go.Proofs.Ytkkpcjpdpjpohaa

/- Layer 3: words; replies as bytes. -/
import Derived.Test.YtkpcnklhboemcaaXdrS
import Derived.Test.YtkpcnklhboemcaaXdrG
import Derived.Test.YtkpcnklhboemcaaSLW
import Derived.Test.YtkpcnklhboemcaaSLP
namespace Go.Proofs.Ytkpcnklhboemcaa
open Go.RowKit

def isW (n : Int) : Bool := decide (0 ≤ n ∧ n ≤ 4294967295)
/-- numbers that stand behind a slice -/
def Rd (w : World) (A : Option Addr) (l : List Int) : Prop := ∀ (j : Nat) (x : Int), l[j]? = some x → ∃ b o, A = some ⟨b, o, none⟩ ∧ w.cell? ⟨b, o + j, none⟩ = some (.int .i64 x)
theorem all_false {l : List Int} {k : Nat} {x : Int} (h : l[k]? = some x) (hx : isW x = false) : l.all isW = false := by
  rw [List.all_eq_false]; exact ⟨x, List.mem_of_getElem? h, by simp [hx]⟩
theorem all_take {l : List Int} {k : Nat} {x : Int} (h : l[k]? = some x) (hx : isW x = true) (ht : (l.take k).all isW = true) : (l.take (k + 1)).all isW = true := by
  rw [List.take_add_one, h, List.all_append, ht]; simp [hx]
set_option maxHeartbeats 400000 in
theorem words_ok (A : Option Addr) (n c : Nat) (l : List Int) (hl : l.length = n) (hn : n ≤ 1099511627776) (w : World) (hA : Rd w A l) :
    Calls Try.prog 37 #[.slice A n c] w fun r w' => r = .returned (.bool (l.all isW)) ∧ w = w' := by
  have RA := Lib.hid hA; clear hA
  obtain ⟨res, hres⟩ : ∃ r, r = l.all isW := ⟨_, rfl⟩
  rw [← hres]
  have HL := Lib.hid hl; have HR := Lib.hid hres; clear hl hres
  go_enter Try.func37, Try.ntmps37
  go_wp2_with (fail)
  go_loop [4, 7] (fun u i => ∃ k : Nat, k ≤ n ∧ i = .int .i64 k ∧ Hid ((l.take k).all isW = true)) (fun _ i => n - (intOf i).toNat)
  case atStart => exact ⟨0, Nat.zero_le _, rfl, Lib.hid (by simp)⟩
  case round =>
    obtain ⟨k, hk, rfl, hT⟩ := hrel
    by_cases hlt : k < n
    · obtain ⟨x, hx⟩ : ∃ x, l[k]? = some x := ⟨_, List.getElem?_eq_getElem (by rw [HL.out]; exact hlt)⟩
      obtain ⟨b1, o1, hA1, c1⟩ := RA.out k x hx
      subst hA1
      have hkI : (k : Int) < n := by omega
      have HX := Lib.hid hx; clear hx
      by_cases h0 : x < 0
      · have h0' : decide (x < 0) = true := decide_eq_true h0
        go_wp2_with (fail)
        go_ret
        rw [HR.out, all_false HX.out (by unfold isW; rw [decide_eq_false]; omega)]
        exact ⟨rfl, rfl⟩
      · have h0' : decide (x < 0) = false := decide_eq_false h0
        by_cases h1 : 4294967295 < x
        · have h1' : decide (4294967295 < x) = true := decide_eq_true h1
          go_wp2_with (fail)
          go_ret
          rw [HR.out, all_false HX.out (by unfold isW; rw [decide_eq_false]; omega)]
          exact ⟨rfl, rfl⟩
        · have h1' : decide (4294967295 < x) = false := decide_eq_false h1
          have hs := all_take HX.out (by unfold isW; rw [decide_eq_true_eq]; omega) hT.out
          have HS := Lib.hid hs; clear hs
          go_wp2_with (fail)
          go_round
          case rel => exact ⟨k + 1, by omega, by go_num, HS⟩
          case measure => simp [intOf]; omega
    · obtain rfl : n = k := by omega
      have hr : res = true := by
        have h := hT.out
        rw [List.take_of_length_le (by rw [HL.out]; exact Nat.le_refl _)] at h
        rw [HR.out, h]
      have HR2 := Lib.hid hr; clear hr
      go_wp2_with (fail)
      go_ret
      rw [HR2.out]
      exact ⟨rfl, rfl⟩

/-- a reply -/
structure Rep where
  xid : Int
  v : Int
  low : Int
  high : Int
  body : ByteArray
def Rep.cells (r : Rep) : Array Value := #[.int .i64 r.xid, .int .i64 r.v, .int .i64 r.low, .int .i64 r.high, .string r.body]
def Rep.head (r : Rep) : List UInt8 := be r.xid 4 ++ be 1 4 ++ (if r.v ≤ 5 then be 0 4 ++ be 0 4 ++ opaq [] ++ be r.v 4 else be 1 4 ++ be (if r.v = 6 then 0 else 1) 4) ++ (if r.v = 2 ∨ r.v = 6 ∨ r.v = 7 then be r.low 4 else []) ++ (if r.v = 2 ∨ r.v = 6 then be r.high 4 else [])
def Rep.good (r : Rep) : Prop := (0 ≤ r.v ∧ r.v ≤ 7) ∧ (isW r.xid = true ∧ isW r.low = true ∧ isW r.high = true) ∧ (r.v = 2 ∨ r.v = 6 ∨ r.v = 7 ∨ r.low = 0) ∧ (r.v = 2 ∨ r.v = 6 ∨ r.high = 0) ∧ (r.v = 0 ∨ r.body = ByteArray.empty)
instance (r : Rep) : Decidable r.good := by unfold Rep.good; infer_instance
def Rep.put (r : Rep) : ByteArray × Int := if r.good then (if r.body.size % 4 = 0 ∧ r.head.length + r.body.size ≤ 65536 then (mkb r.head ++ r.body, 0) else (ByteArray.empty, 2)) else (ByteArray.empty, 4)

theorem isEmpty_iff (s : ByteArray) : s.toList.isEmpty = true ↔ s = ByteArray.empty := by
  rw [List.isEmpty_iff, ByteArray.toList_eq, Array.toList_eq_nil_iff]
  exact ⟨fun h => ByteArray.ext h, fun h => by rw [h]; rfl⟩
theorem opaq0_len : (opaq (bl ⟨#[]⟩)).length = 4 := by decide +kernel
theorem Rd_new (w : World) (l : List Int) (T : TypeId) : Rd (w.alloc (.cells (l.map (.int .i64 ·)).toArray T)) (some ⟨w.heap.size, 0, none⟩) l := by
  intro j x hx
  refine ⟨_, _, rfl, ?_⟩
  rw [Nat.zero_add, World.cell?_alloc_new]
  simp [hx]

theorem St.named {w0 w : World} {b : Nat} {mk : Value → Array Value} {T : TypeId} {l : List UInt8} {F : List Assn} (H : St w0 w (Wr b mk T l :: F)) : ∃ l', l' = l ∧ St w0 w (Wr b mk T l' :: F) := ⟨l, rfl, H⟩
theorem Rep.put_bad {r : Rep} (h : ¬ r.good) : r.put = (ByteArray.empty, 4) := by unfold Rep.put; rw [if_neg h]
theorem Rep.put_ok {r : Rep} (h : r.good) (h2 : r.body.size % 4 = 0 ∧ r.head.length + r.body.size ≤ 65536) : r.put = (mkb r.head ++ r.body, 0) := by unfold Rep.put; rw [if_pos h, if_pos h2]
theorem Rep.put_long {r : Rep} (h : r.good) (h2 : ¬ (r.body.size % 4 = 0 ∧ r.head.length + r.body.size ≤ 65536)) : r.put = (ByteArray.empty, 2) := by unfold Rep.put; rw [if_pos h, if_neg h2]
theorem three_W {x y z : Int} : [x, y, z].all isW = (isW x && (isW y && isW z)) := by simp
set_option maxRecDepth 100000 in
set_option maxHeartbeats 4000000 in
theorem putreply_0 (r : Rep) (hb : r.body.size ≤ 1099511627776) (hv : r.v = 0) {w0 w : World} {F : List Assn} (H0 : St w0 w F) :
    Calls Try.prog 16 #[.agg r.cells] w fun x w' => x = .returned (.tuple #[.string r.put.1, .int .i64 r.put.2]) ∧ St w0 w' F := by
  obtain ⟨xid, v, low, high, body⟩ := r
  dsimp only at hv hb
  obtain ⟨res, hres⟩ : ∃ x, x = Rep.put ⟨xid, v, low, high, body⟩ := ⟨_, rfl⟩
  rw [← hres]
  have HR := Lib.hid hres; clear hres
  dsimp only [Rep.cells] at *
  have H1 := H0.alloc #[.int .i64 xid, .int .i64 v, .int .i64 low, .int .i64 high, .string body] 49
  have H := (H1.alloc #[.slice none 0 0] 62).newWr
  simp only [World.size_alloc] at H
  subst hv
  go_enter Try.func16, Try.ntmps16
  go_wp2_with (fail)
  obtain ⟨bw, hbw⟩ : ∃ b, b = w.heap.size + 1 := ⟨_, rfl⟩
  obtain ⟨br, hbr⟩ : ∃ b, b = w.heap.size := ⟨_, rfl⟩
  rw [← hbw] at H ⊢
  rw [← hbr] at H ⊢
  generalize (w.alloc (.cells #[.int .i64 xid, .int .i64 0, .int .i64 low, .int .i64 high, .string body] 49)).alloc (.cells #[.slice none 0 0] 62) = w2 at *
  clear H1 H0 hbw hbr
  have p0 := H.r2.cell 0 rfl
  have p1 := H.r2.cell 1 rfl
  have p2 := H.r2.cell 2 rfl
  have p3 := H.r2.cell 3 rfl
  have p4 := H.r2.cell 4 rfl
  refine (wuint_ok _ _ mk_one _ _ _ (by simp only [List.length_append, be_length, List.length_nil, opaq0_len]; omega) H).mono ?_
  rintro x w1 ⟨rfl, H'⟩
  clear H p0 p1 p2 p3 p4
  have H := H'
  clear H'
  have p0 := H.r2.cell 0 rfl
  have p1 := H.r2.cell 1 rfl
  have p2 := H.r2.cell 2 rfl
  have p3 := H.r2.cell 3 rfl
  have p4 := H.r2.cell 4 rfl
  go_wp2_with (fail)
  refine (wuint_ok _ _ mk_one _ _ _ (by simp only [List.length_append, be_length, List.length_nil, opaq0_len]; omega) H).mono ?_
  rintro x w1 ⟨rfl, H'⟩
  clear H p0 p1 p2 p3 p4
  have H := H'
  clear H'
  have p0 := H.r2.cell 0 rfl
  have p1 := H.r2.cell 1 rfl
  have p2 := H.r2.cell 2 rfl
  have p3 := H.r2.cell 3 rfl
  have p4 := H.r2.cell 4 rfl
  go_wp2_with (fail)
  refine (wuint_ok _ _ mk_one _ _ _ (by simp only [List.length_append, be_length, List.length_nil, opaq0_len]; omega) H).mono ?_
  rintro x w1 ⟨rfl, H'⟩
  clear H p0 p1 p2 p3 p4
  have H := H'
  clear H'
  have p0 := H.r2.cell 0 rfl
  have p1 := H.r2.cell 1 rfl
  have p2 := H.r2.cell 2 rfl
  have p3 := H.r2.cell 3 rfl
  have p4 := H.r2.cell 4 rfl
  go_wp2_with (fail)
  refine (wuint_ok _ _ mk_one _ _ _ (by simp only [List.length_append, be_length, List.length_nil, opaq0_len]; omega) H).mono ?_
  rintro x w1 ⟨rfl, H'⟩
  clear H p0 p1 p2 p3 p4
  have H := H'
  clear H'
  have p0 := H.r2.cell 0 rfl
  have p1 := H.r2.cell 1 rfl
  have p2 := H.r2.cell 2 rfl
  have p3 := H.r2.cell 3 rfl
  have p4 := H.r2.cell 4 rfl
  go_wp2_with (fail)
  refine (wopaque_ok _ _ mk_one _ _ _ (by simp only [List.length_append, be_length, List.length_nil, opaq0_len]; omega) (by decide) H).mono ?_
  rintro x w1 ⟨rfl, H'⟩
  clear H p0 p1 p2 p3 p4
  have H := H'
  clear H'
  have p0 := H.r2.cell 0 rfl
  have p1 := H.r2.cell 1 rfl
  have p2 := H.r2.cell 2 rfl
  have p3 := H.r2.cell 3 rfl
  have p4 := H.r2.cell 4 rfl
  go_wp2_with (fail)
  refine (wuint_ok _ _ mk_one _ _ _ (by simp only [List.length_append, be_length, List.length_nil, opaq0_len]; omega) H).mono ?_
  rintro x w1 ⟨rfl, H'⟩
  clear H p0 p1 p2 p3 p4
  have H := H'
  clear H'
  have p0 := H.r2.cell 0 rfl
  have p1 := H.r2.cell 1 rfl
  have p2 := H.r2.cell 2 rfl
  have p3 := H.r2.cell 3 rfl
  have p4 := H.r2.cell 4 rfl
  go_wp2_with (fail)
  go_quiet (fail)
  have H' := H.drewN nq
  generalize w1.drewN nq = w1 at *
  clear H p0 p1 p2 p3 p4
  have H := H'
  clear H'
  have p0 := H.r2.cell 0 rfl
  have p1 := H.r2.cell 1 rfl
  have p2 := H.r2.cell 2 rfl
  have p3 := H.r2.cell 3 rfl
  have p4 := H.r2.cell 4 rfl
  go_wp2_with (fail)
  refine (words_ok _ 3 _ [xid, low, high] rfl (by decide) _ (Rd_new _ _ _)).mono ?_
  rintro x w2 ⟨rfl, rfl⟩
  have H' := H.more (.cells ([xid, low, high].map (.int .i64 ·)).toArray 3)
  generalize w1.alloc (.cells ([xid, low, high].map (.int .i64 ·)).toArray 3) = w1 at *
  clear H p0 p1 p2 p3 p4
  have H := H'
  clear H'
  have p0 := H.r2.cell 0 rfl
  have p1 := H.r2.cell 1 rfl
  have p2 := H.r2.cell 2 rfl
  have p3 := H.r2.cell 3 rfl
  have p4 := H.r2.cell 4 rfl
  generalize hW : ([xid, low, high].all isW) = W
  have HW := Lib.hid hW; clear hW
  have he := isEmpty_iff body
  cases W
  · go_wp2_with (fail)
    go_ret2
    exact ⟨by rw [HR.out, Rep.put_bad (by rintro ⟨g1, ⟨g2, g3, g4⟩, g5, g6, g7⟩; dsimp only at *; have h := HW.out; rw [three_W, g2, g3, g4] at h; cases h)]; rfl, H.tail.tail⟩
  · by_cases h0 : low = 0
    · have h0' : (low != 0) = false := by simp [h0]
      by_cases h1 : high = 0
      · have h1' : (high != 0) = false := by simp [h1]
        have hg : Rep.good ⟨xid, 0, low, high, body⟩ := by
          have h := HW.out
          rw [three_W, Bool.and_eq_true, Bool.and_eq_true] at h
          refine ⟨?_, h, ?_, ?_, ?_⟩ <;> dsimp only <;> first | omega | exact .inl rfl
        obtain ⟨L, hL, H2⟩ := H.named
        have hh : L = Rep.head ⟨xid, 0, low, high, body⟩ := by rw [hL]; simp [Rep.head, List.append_assoc, bl]
        have hLl : L.length ≤ 40 := by rw [hL]; simp only [List.length_append, be_length, List.length_nil, opaq0_len]; omega
        obtain ⟨S, hS⟩ : ∃ S, S = mkb L := ⟨_, rfl⟩
        have hS1 : S.size ≤ 40 := by rw [hS, mkb_size]; exact hLl
        have hS2 : S.size = (Rep.head ⟨xid, 0, low, high, body⟩).length := by rw [hS, mkb_size, hh]
        have hbb := bytes_ok _ _ mk_one _ _ H2
        rw [← hS] at hbb
        have HS := Lib.hid hS; have HH := Lib.hid hh; have HS2 := Lib.hid hS2; have HG := Lib.hid hg; clear hS hh hS2 hg hL hLl
        go_wp2_with (fail)
        refine hbb.mono ?_
        rintro x w2 ⟨rfl, rfl⟩
        clear hbb
        by_cases h4 : body.size % 4 = 0
        · have h4' : ((body.size : Int) % 4 == 0) = true := by simp; omega
          by_cases h5 : S.size + body.size ≤ 65536
          · have h5' : decide ((body.size : Int) ≤ 65536 - S.size) = true := decide_eq_true (by omega)
            go_wp2_with (fail)
            go_ret2
            exact ⟨by rw [HR.out, Rep.put_ok HG.out ⟨h4, by rw [← HS2.out]; exact h5⟩, ← HH.out, ← HS.out]; rfl, H.tail.tail⟩
          · have h5' : decide ((body.size : Int) ≤ 65536 - S.size) = false := decide_eq_false (by omega)
            go_wp2_with (fail)
            go_ret2
            exact ⟨by rw [HR.out, Rep.put_long HG.out (by rw [← HS2.out]; exact fun h => h5 h.2)]; rfl, H.tail.tail⟩
        · have h4' : ((body.size : Int) % 4 == 0) = false := by simp; omega
          go_wp2_with (fail)
          go_ret2
          exact ⟨by rw [HR.out, Rep.put_long HG.out (fun h => h4 h.1)]; rfl, H.tail.tail⟩
      · have h1' : (high != 0) = true := by simp [h1]
        go_wp2_with (fail)
        go_ret2
        exact ⟨by rw [HR.out, Rep.put_bad (by rintro ⟨g1, ⟨g2, g3, g4⟩, g5, g6, g7⟩; dsimp only at *; omega)]; rfl, H.tail.tail⟩
    · have h0' : (low != 0) = true := by simp [h0]
      go_wp2_with (fail)
      go_ret2
      exact ⟨by rw [HR.out, Rep.put_bad (by rintro ⟨g1, ⟨g2, g3, g4⟩, g5, g6, g7⟩; dsimp only at *; omega)]; rfl, H.tail.tail⟩
set_option maxRecDepth 100000 in
set_option maxHeartbeats 4000000 in
theorem putreply_2 (r : Rep) (hb : r.body.size ≤ 1099511627776) (hv : r.v = 2) {w0 w : World} {F : List Assn} (H0 : St w0 w F) :
    Calls Try.prog 16 #[.agg r.cells] w fun x w' => x = .returned (.tuple #[.string r.put.1, .int .i64 r.put.2]) ∧ St w0 w' F := by
  obtain ⟨xid, v, low, high, body⟩ := r
  dsimp only at hv hb
  obtain ⟨res, hres⟩ : ∃ x, x = Rep.put ⟨xid, v, low, high, body⟩ := ⟨_, rfl⟩
  rw [← hres]
  have HR := Lib.hid hres; clear hres
  dsimp only [Rep.cells] at *
  have H1 := H0.alloc #[.int .i64 xid, .int .i64 v, .int .i64 low, .int .i64 high, .string body] 49
  have H := (H1.alloc #[.slice none 0 0] 62).newWr
  simp only [World.size_alloc] at H
  subst hv
  go_enter Try.func16, Try.ntmps16
  go_wp2_with (fail)
  obtain ⟨bw, hbw⟩ : ∃ b, b = w.heap.size + 1 := ⟨_, rfl⟩
  obtain ⟨br, hbr⟩ : ∃ b, b = w.heap.size := ⟨_, rfl⟩
  rw [← hbw] at H ⊢
  rw [← hbr] at H ⊢
  generalize (w.alloc (.cells #[.int .i64 xid, .int .i64 2, .int .i64 low, .int .i64 high, .string body] 49)).alloc (.cells #[.slice none 0 0] 62) = w2 at *
  clear H1 H0 hbw hbr
  have p0 := H.r2.cell 0 rfl
  have p1 := H.r2.cell 1 rfl
  have p2 := H.r2.cell 2 rfl
  have p3 := H.r2.cell 3 rfl
  have p4 := H.r2.cell 4 rfl
  refine (wuint_ok _ _ mk_one _ _ _ (by simp only [List.length_append, be_length, List.length_nil, opaq0_len]; omega) H).mono ?_
  rintro x w1 ⟨rfl, H'⟩
  clear H p0 p1 p2 p3 p4
  have H := H'
  clear H'
  have p0 := H.r2.cell 0 rfl
  have p1 := H.r2.cell 1 rfl
  have p2 := H.r2.cell 2 rfl
  have p3 := H.r2.cell 3 rfl
  have p4 := H.r2.cell 4 rfl
  go_wp2_with (fail)
  refine (wuint_ok _ _ mk_one _ _ _ (by simp only [List.length_append, be_length, List.length_nil, opaq0_len]; omega) H).mono ?_
  rintro x w1 ⟨rfl, H'⟩
  clear H p0 p1 p2 p3 p4
  have H := H'
  clear H'
  have p0 := H.r2.cell 0 rfl
  have p1 := H.r2.cell 1 rfl
  have p2 := H.r2.cell 2 rfl
  have p3 := H.r2.cell 3 rfl
  have p4 := H.r2.cell 4 rfl
  go_wp2_with (fail)
  refine (wuint_ok _ _ mk_one _ _ _ (by simp only [List.length_append, be_length, List.length_nil, opaq0_len]; omega) H).mono ?_
  rintro x w1 ⟨rfl, H'⟩
  clear H p0 p1 p2 p3 p4
  have H := H'
  clear H'
  have p0 := H.r2.cell 0 rfl
  have p1 := H.r2.cell 1 rfl
  have p2 := H.r2.cell 2 rfl
  have p3 := H.r2.cell 3 rfl
  have p4 := H.r2.cell 4 rfl
  go_wp2_with (fail)
  refine (wuint_ok _ _ mk_one _ _ _ (by simp only [List.length_append, be_length, List.length_nil, opaq0_len]; omega) H).mono ?_
  rintro x w1 ⟨rfl, H'⟩
  clear H p0 p1 p2 p3 p4
  have H := H'
  clear H'
  have p0 := H.r2.cell 0 rfl
  have p1 := H.r2.cell 1 rfl
  have p2 := H.r2.cell 2 rfl
  have p3 := H.r2.cell 3 rfl
  have p4 := H.r2.cell 4 rfl
  go_wp2_with (fail)
  refine (wopaque_ok _ _ mk_one _ _ _ (by simp only [List.length_append, be_length, List.length_nil, opaq0_len]; omega) (by decide) H).mono ?_
  rintro x w1 ⟨rfl, H'⟩
  clear H p0 p1 p2 p3 p4
  have H := H'
  clear H'
  have p0 := H.r2.cell 0 rfl
  have p1 := H.r2.cell 1 rfl
  have p2 := H.r2.cell 2 rfl
  have p3 := H.r2.cell 3 rfl
  have p4 := H.r2.cell 4 rfl
  go_wp2_with (fail)
  refine (wuint_ok _ _ mk_one _ _ _ (by simp only [List.length_append, be_length, List.length_nil, opaq0_len]; omega) H).mono ?_
  rintro x w1 ⟨rfl, H'⟩
  clear H p0 p1 p2 p3 p4
  have H := H'
  clear H'
  have p0 := H.r2.cell 0 rfl
  have p1 := H.r2.cell 1 rfl
  have p2 := H.r2.cell 2 rfl
  have p3 := H.r2.cell 3 rfl
  have p4 := H.r2.cell 4 rfl
  go_wp2_with (fail)
  go_quiet (fail)
  have H' := H.drewN nq
  generalize w1.drewN nq = w1 at *
  clear H p0 p1 p2 p3 p4
  have H := H'
  clear H'
  have p0 := H.r2.cell 0 rfl
  have p1 := H.r2.cell 1 rfl
  have p2 := H.r2.cell 2 rfl
  have p3 := H.r2.cell 3 rfl
  have p4 := H.r2.cell 4 rfl
  go_wp2_with (fail)
  refine (words_ok _ 3 _ [xid, low, high] rfl (by decide) _ (Rd_new _ _ _)).mono ?_
  rintro x w2 ⟨rfl, rfl⟩
  have H' := H.more (.cells ([xid, low, high].map (.int .i64 ·)).toArray 3)
  generalize w1.alloc (.cells ([xid, low, high].map (.int .i64 ·)).toArray 3) = w1 at *
  clear H p0 p1 p2 p3 p4
  have H := H'
  clear H'
  have p0 := H.r2.cell 0 rfl
  have p1 := H.r2.cell 1 rfl
  have p2 := H.r2.cell 2 rfl
  have p3 := H.r2.cell 3 rfl
  have p4 := H.r2.cell 4 rfl
  generalize hW : ([xid, low, high].all isW) = W
  have HW := Lib.hid hW; clear hW
  have he := isEmpty_iff body
  cases W
  · go_wp2_with (fail)
    go_ret2
    exact ⟨by rw [HR.out, Rep.put_bad (by rintro ⟨g1, ⟨g2, g3, g4⟩, g5, g6, g7⟩; dsimp only at *; have h := HW.out; rw [three_W, g2, g3, g4] at h; cases h)]; rfl, H.tail.tail⟩
  · by_cases h0 : body = ByteArray.empty
    · have h0' : body.toList.isEmpty = true := he.2 h0
      have HB := Lib.hid h0
      clear he h0
      go_wp2_with (fail)
      refine (wuint_ok _ _ mk_one _ _ _ (by simp only [List.length_append, be_length, List.length_nil, opaq0_len]; omega) H).mono ?_
      rintro x w1 ⟨rfl, H'⟩
      clear H p0 p1 p2 p3 p4
      have H := H'
      clear H'
      have p0 := H.r2.cell 0 rfl
      have p1 := H.r2.cell 1 rfl
      have p2 := H.r2.cell 2 rfl
      have p3 := H.r2.cell 3 rfl
      have p4 := H.r2.cell 4 rfl
      go_wp2_with (fail)
      refine (wuint_ok _ _ mk_one _ _ _ (by simp only [List.length_append, be_length, List.length_nil, opaq0_len]; omega) H).mono ?_
      rintro x w1 ⟨rfl, H'⟩
      clear H p0 p1 p2 p3 p4
      have H := H'
      clear H'
      have p0 := H.r2.cell 0 rfl
      have p1 := H.r2.cell 1 rfl
      have p2 := H.r2.cell 2 rfl
      have p3 := H.r2.cell 3 rfl
      have p4 := H.r2.cell 4 rfl
      go_wp2_with (fail)
      have hg : Rep.good ⟨xid, 2, low, high, body⟩ := by
        have h := HW.out
        rw [three_W, Bool.and_eq_true, Bool.and_eq_true] at h
        refine ⟨?_, h, ?_, ?_, ?_⟩ <;> dsimp only <;> first | omega | exact .inr HB.out
      obtain ⟨L, hL, H2⟩ := H.named
      have hh : L = Rep.head ⟨xid, 2, low, high, body⟩ := by rw [hL]; simp [Rep.head, List.append_assoc, bl]
      have hLl : L.length ≤ 40 := by rw [hL]; simp only [List.length_append, be_length, List.length_nil, opaq0_len]; omega
      obtain ⟨S, hS⟩ : ∃ S, S = mkb L := ⟨_, rfl⟩
      have hS1 : S.size ≤ 40 := by rw [hS, mkb_size]; exact hLl
      have hS2 : S.size = (Rep.head ⟨xid, 2, low, high, body⟩).length := by rw [hS, mkb_size, hh]
      have hbb := bytes_ok _ _ mk_one _ _ H2
      rw [← hS] at hbb
      have HS := Lib.hid hS; have HH := Lib.hid hh; have HS2 := Lib.hid hS2; have HG := Lib.hid hg; clear hS hh hS2 hg hL hLl
      go_wp2_with (fail)
      refine hbb.mono ?_
      rintro x w2 ⟨rfl, rfl⟩
      clear hbb
      by_cases h4 : body.size % 4 = 0
      · have h4' : ((body.size : Int) % 4 == 0) = true := by simp; omega
        by_cases h5 : S.size + body.size ≤ 65536
        · have h5' : decide ((body.size : Int) ≤ 65536 - S.size) = true := decide_eq_true (by omega)
          go_wp2_with (fail)
          go_ret2
          exact ⟨by rw [HR.out, Rep.put_ok HG.out ⟨h4, by rw [← HS2.out]; exact h5⟩, ← HH.out, ← HS.out]; rfl, H.tail.tail⟩
        · have h5' : decide ((body.size : Int) ≤ 65536 - S.size) = false := decide_eq_false (by omega)
          go_wp2_with (fail)
          go_ret2
          exact ⟨by rw [HR.out, Rep.put_long HG.out (by rw [← HS2.out]; exact fun h => h5 h.2)]; rfl, H.tail.tail⟩
      · have h4' : ((body.size : Int) % 4 == 0) = false := by simp; omega
        go_wp2_with (fail)
        go_ret2
        exact ⟨by rw [HR.out, Rep.put_long HG.out (fun h => h4 h.1)]; rfl, H.tail.tail⟩
    · have h0' : body.toList.isEmpty = false := Bool.eq_false_iff.2 fun h => h0 (he.1 h)
      clear he
      go_wp2_with (fail)
      go_ret2
      exact ⟨by rw [HR.out, Rep.put_bad (by rintro ⟨g1, ⟨g2, g3, g4⟩, g5, g6, g7⟩; dsimp only at *; exact h0 (g7.resolve_left (by omega)))]; rfl, H.tail.tail⟩
set_option maxRecDepth 100000 in
set_option maxHeartbeats 4000000 in
theorem putreply_1 (r : Rep) (hb : r.body.size ≤ 1099511627776) (hv : r.v = 1 ∨ r.v = 3 ∨ r.v = 4 ∨ r.v = 5) {w0 w : World} {F : List Assn} (H0 : St w0 w F) :
    Calls Try.prog 16 #[.agg r.cells] w fun x w' => x = .returned (.tuple #[.string r.put.1, .int .i64 r.put.2]) ∧ St w0 w' F := by
  obtain ⟨xid, v, low, high, body⟩ := r
  dsimp only at hv hb
  obtain ⟨res, hres⟩ : ∃ x, x = Rep.put ⟨xid, v, low, high, body⟩ := ⟨_, rfl⟩
  rw [← hres]
  have HR := Lib.hid hres; clear hres
  dsimp only [Rep.cells] at *
  have H1 := H0.alloc #[.int .i64 xid, .int .i64 v, .int .i64 low, .int .i64 high, .string body] 49
  have H := (H1.alloc #[.slice none 0 0] 62).newWr
  simp only [World.size_alloc] at H
  have hv5 : v ≤ 5 := (by omega); have hv0 : 0 ≤ v := (by omega); have a1 : decide (v < 0) = false := decide_eq_false (by omega); have a2 : decide (7 < v) = false := decide_eq_false (by omega); have a3 : decide (v ≤ 5) = true := decide_eq_true hv5; have a4 : (v == 2) = false := beq_eq_false_iff_ne.2 (by omega)
  go_enter Try.func16, Try.ntmps16
  go_wp2_with (fail)
  obtain ⟨bw, hbw⟩ : ∃ b, b = w.heap.size + 1 := ⟨_, rfl⟩
  obtain ⟨br, hbr⟩ : ∃ b, b = w.heap.size := ⟨_, rfl⟩
  rw [← hbw] at H ⊢
  rw [← hbr] at H ⊢
  generalize (w.alloc (.cells #[.int .i64 xid, .int .i64 v, .int .i64 low, .int .i64 high, .string body] 49)).alloc (.cells #[.slice none 0 0] 62) = w2 at *
  clear H1 H0 hbw hbr
  have p0 := H.r2.cell 0 rfl
  have p1 := H.r2.cell 1 rfl
  have p2 := H.r2.cell 2 rfl
  have p3 := H.r2.cell 3 rfl
  have p4 := H.r2.cell 4 rfl
  refine (wuint_ok _ _ mk_one _ _ _ (by simp only [List.length_append, be_length, List.length_nil, opaq0_len]; omega) H).mono ?_
  rintro x w1 ⟨rfl, H'⟩
  clear H p0 p1 p2 p3 p4
  have H := H'
  clear H'
  have p0 := H.r2.cell 0 rfl
  have p1 := H.r2.cell 1 rfl
  have p2 := H.r2.cell 2 rfl
  have p3 := H.r2.cell 3 rfl
  have p4 := H.r2.cell 4 rfl
  go_wp2_with (fail)
  refine (wuint_ok _ _ mk_one _ _ _ (by simp only [List.length_append, be_length, List.length_nil, opaq0_len]; omega) H).mono ?_
  rintro x w1 ⟨rfl, H'⟩
  clear H p0 p1 p2 p3 p4
  have H := H'
  clear H'
  have p0 := H.r2.cell 0 rfl
  have p1 := H.r2.cell 1 rfl
  have p2 := H.r2.cell 2 rfl
  have p3 := H.r2.cell 3 rfl
  have p4 := H.r2.cell 4 rfl
  go_wp2_with (fail)
  refine (wuint_ok _ _ mk_one _ _ _ (by simp only [List.length_append, be_length, List.length_nil, opaq0_len]; omega) H).mono ?_
  rintro x w1 ⟨rfl, H'⟩
  clear H p0 p1 p2 p3 p4
  have H := H'
  clear H'
  have p0 := H.r2.cell 0 rfl
  have p1 := H.r2.cell 1 rfl
  have p2 := H.r2.cell 2 rfl
  have p3 := H.r2.cell 3 rfl
  have p4 := H.r2.cell 4 rfl
  go_wp2_with (fail)
  refine (wuint_ok _ _ mk_one _ _ _ (by simp only [List.length_append, be_length, List.length_nil, opaq0_len]; omega) H).mono ?_
  rintro x w1 ⟨rfl, H'⟩
  clear H p0 p1 p2 p3 p4
  have H := H'
  clear H'
  have p0 := H.r2.cell 0 rfl
  have p1 := H.r2.cell 1 rfl
  have p2 := H.r2.cell 2 rfl
  have p3 := H.r2.cell 3 rfl
  have p4 := H.r2.cell 4 rfl
  go_wp2_with (fail)
  refine (wopaque_ok _ _ mk_one _ _ _ (by simp only [List.length_append, be_length, List.length_nil, opaq0_len]; omega) (by decide) H).mono ?_
  rintro x w1 ⟨rfl, H'⟩
  clear H p0 p1 p2 p3 p4
  have H := H'
  clear H'
  have p0 := H.r2.cell 0 rfl
  have p1 := H.r2.cell 1 rfl
  have p2 := H.r2.cell 2 rfl
  have p3 := H.r2.cell 3 rfl
  have p4 := H.r2.cell 4 rfl
  go_wp2_with (fail)
  refine (wuint_ok _ _ mk_one _ _ _ (by simp only [List.length_append, be_length, List.length_nil, opaq0_len]; omega) H).mono ?_
  rintro x w1 ⟨rfl, H'⟩
  clear H p0 p1 p2 p3 p4
  have H := H'
  clear H'
  have p0 := H.r2.cell 0 rfl
  have p1 := H.r2.cell 1 rfl
  have p2 := H.r2.cell 2 rfl
  have p3 := H.r2.cell 3 rfl
  have p4 := H.r2.cell 4 rfl
  go_wp2_with (fail)
  have a5 : (v == 0) = false := beq_eq_false_iff_ne.2 (by omega)
  go_quiet (fail)
  have H' := H.drewN nq
  generalize w1.drewN nq = w1 at *
  clear H p0 p1 p2 p3 p4
  have H := H'
  clear H'
  have p0 := H.r2.cell 0 rfl
  have p1 := H.r2.cell 1 rfl
  have p2 := H.r2.cell 2 rfl
  have p3 := H.r2.cell 3 rfl
  have p4 := H.r2.cell 4 rfl
  go_wp2_with (fail)
  refine (words_ok _ 3 _ [xid, low, high] rfl (by decide) _ (Rd_new _ _ _)).mono ?_
  rintro x w2 ⟨rfl, rfl⟩
  have H' := H.more (.cells ([xid, low, high].map (.int .i64 ·)).toArray 3)
  generalize w1.alloc (.cells ([xid, low, high].map (.int .i64 ·)).toArray 3) = w1 at *
  clear H p0 p1 p2 p3 p4
  have H := H'
  clear H'
  have p0 := H.r2.cell 0 rfl
  have p1 := H.r2.cell 1 rfl
  have p2 := H.r2.cell 2 rfl
  have p3 := H.r2.cell 3 rfl
  have p4 := H.r2.cell 4 rfl
  generalize hW : ([xid, low, high].all isW) = W
  have HW := Lib.hid hW; clear hW
  have he := isEmpty_iff body
  cases W
  · go_wp2_with (fail)
    go_ret2
    exact ⟨by rw [HR.out, Rep.put_bad (by rintro ⟨g1, ⟨g2, g3, g4⟩, g5, g6, g7⟩; dsimp only at *; have h := HW.out; rw [three_W, g2, g3, g4] at h; cases h)]; rfl, H.tail.tail⟩
  · by_cases h2 : body = ByteArray.empty
    · have h2' : body.toList.isEmpty = true := he.2 h2
      have HB := Lib.hid h2
      clear he h2
      by_cases h0 : low = 0
      · have h0' : (low != 0) = false := by simp [h0]
        by_cases h1 : high = 0
        · have h1' : (high != 0) = false := by simp [h1]
          have hg : Rep.good ⟨xid, v, low, high, body⟩ := by
            have h := HW.out
            rw [three_W, Bool.and_eq_true, Bool.and_eq_true] at h
            refine ⟨?_, h, ?_, ?_, ?_⟩ <;> dsimp only <;> first | omega | exact .inr HB.out
          obtain ⟨L, hL, H2⟩ := H.named
          have hh : L = Rep.head ⟨xid, v, low, high, body⟩ := by rw [hL]; simp [Rep.head, List.append_assoc, bl, hv5, show ¬ (v = 2 ∨ v = 6 ∨ v = 7) by omega, show ¬ (v = 2 ∨ v = 6) by omega]
          have hLl : L.length ≤ 40 := by rw [hL]; simp only [List.length_append, be_length, List.length_nil, opaq0_len]; omega
          obtain ⟨S, hS⟩ : ∃ S, S = mkb L := ⟨_, rfl⟩
          have hS1 : S.size ≤ 40 := by rw [hS, mkb_size]; exact hLl
          have hS2 : S.size = (Rep.head ⟨xid, v, low, high, body⟩).length := by rw [hS, mkb_size, hh]
          have hbb := bytes_ok _ _ mk_one _ _ H2
          rw [← hS] at hbb
          have HS := Lib.hid hS; have HH := Lib.hid hh; have HS2 := Lib.hid hS2; have HG := Lib.hid hg; clear hS hh hS2 hg hL hLl
          go_wp2_with (fail)
          refine hbb.mono ?_
          rintro x w2 ⟨rfl, rfl⟩
          clear hbb
          by_cases h4 : body.size % 4 = 0
          · have h4' : ((body.size : Int) % 4 == 0) = true := by simp; omega
            by_cases h5 : S.size + body.size ≤ 65536
            · have h5' : decide ((body.size : Int) ≤ 65536 - S.size) = true := decide_eq_true (by omega)
              go_wp2_with (fail)
              go_ret2
              exact ⟨by rw [HR.out, Rep.put_ok HG.out ⟨h4, by rw [← HS2.out]; exact h5⟩, ← HH.out, ← HS.out]; rfl, H.tail.tail⟩
            · have h5' : decide ((body.size : Int) ≤ 65536 - S.size) = false := decide_eq_false (by omega)
              go_wp2_with (fail)
              go_ret2
              exact ⟨by rw [HR.out, Rep.put_long HG.out (by rw [← HS2.out]; exact fun h => h5 h.2)]; rfl, H.tail.tail⟩
          · have h4' : ((body.size : Int) % 4 == 0) = false := by simp; omega
            go_wp2_with (fail)
            go_ret2
            exact ⟨by rw [HR.out, Rep.put_long HG.out (fun h => h4 h.1)]; rfl, H.tail.tail⟩
        · have h1' : (high != 0) = true := by simp [h1]
          go_wp2_with (fail)
          go_ret2
          exact ⟨by rw [HR.out, Rep.put_bad (by rintro ⟨g1, ⟨g2, g3, g4⟩, g5, g6, g7⟩; dsimp only at *; omega)]; rfl, H.tail.tail⟩
      · have h0' : (low != 0) = true := by simp [h0]
        go_wp2_with (fail)
        go_ret2
        exact ⟨by rw [HR.out, Rep.put_bad (by rintro ⟨g1, ⟨g2, g3, g4⟩, g5, g6, g7⟩; dsimp only at *; omega)]; rfl, H.tail.tail⟩
    · have h2' : body.toList.isEmpty = false := Bool.eq_false_iff.2 fun h => h2 (he.1 h)
      clear he
      by_cases h0 : low = 0
      · have h0' : (low != 0) = false := by simp [h0]
        by_cases h1 : high = 0
        · have h1' : (high != 0) = false := by simp [h1]
          go_wp2_with (fail)
          go_ret2
          exact ⟨by rw [HR.out, Rep.put_bad (by rintro ⟨g1, ⟨g2, g3, g4⟩, g5, g6, g7⟩; dsimp only at *; exact h2 (g7.resolve_left (by omega)))]; rfl, H.tail.tail⟩
        · have h1' : (high != 0) = true := by simp [h1]
          go_wp2_with (fail)
          go_ret2
          exact ⟨by rw [HR.out, Rep.put_bad (by rintro ⟨g1, ⟨g2, g3, g4⟩, g5, g6, g7⟩; dsimp only at *; omega)]; rfl, H.tail.tail⟩
      · have h0' : (low != 0) = true := by simp [h0]
        go_wp2_with (fail)
        go_ret2
        exact ⟨by rw [HR.out, Rep.put_bad (by rintro ⟨g1, ⟨g2, g3, g4⟩, g5, g6, g7⟩; dsimp only at *; omega)]; rfl, H.tail.tail⟩
set_option maxRecDepth 100000 in
set_option maxHeartbeats 4000000 in
theorem putreply_6 (r : Rep) (hb : r.body.size ≤ 1099511627776) (hv : r.v = 6) {w0 w : World} {F : List Assn} (H0 : St w0 w F) :
    Calls Try.prog 16 #[.agg r.cells] w fun x w' => x = .returned (.tuple #[.string r.put.1, .int .i64 r.put.2]) ∧ St w0 w' F := by
  obtain ⟨xid, v, low, high, body⟩ := r
  dsimp only at hv hb
  obtain ⟨res, hres⟩ : ∃ x, x = Rep.put ⟨xid, v, low, high, body⟩ := ⟨_, rfl⟩
  rw [← hres]
  have HR := Lib.hid hres; clear hres
  dsimp only [Rep.cells] at *
  have H1 := H0.alloc #[.int .i64 xid, .int .i64 v, .int .i64 low, .int .i64 high, .string body] 49
  have H := (H1.alloc #[.slice none 0 0] 62).newWr
  simp only [World.size_alloc] at H
  subst hv
  go_enter Try.func16, Try.ntmps16
  go_wp2_with (fail)
  obtain ⟨bw, hbw⟩ : ∃ b, b = w.heap.size + 1 := ⟨_, rfl⟩
  obtain ⟨br, hbr⟩ : ∃ b, b = w.heap.size := ⟨_, rfl⟩
  rw [← hbw] at H ⊢
  rw [← hbr] at H ⊢
  generalize (w.alloc (.cells #[.int .i64 xid, .int .i64 6, .int .i64 low, .int .i64 high, .string body] 49)).alloc (.cells #[.slice none 0 0] 62) = w2 at *
  clear H1 H0 hbw hbr
  have p0 := H.r2.cell 0 rfl
  have p1 := H.r2.cell 1 rfl
  have p2 := H.r2.cell 2 rfl
  have p3 := H.r2.cell 3 rfl
  have p4 := H.r2.cell 4 rfl
  refine (wuint_ok _ _ mk_one _ _ _ (by simp only [List.length_append, be_length, List.length_nil, opaq0_len]; omega) H).mono ?_
  rintro x w1 ⟨rfl, H'⟩
  clear H p0 p1 p2 p3 p4
  have H := H'
  clear H'
  have p0 := H.r2.cell 0 rfl
  have p1 := H.r2.cell 1 rfl
  have p2 := H.r2.cell 2 rfl
  have p3 := H.r2.cell 3 rfl
  have p4 := H.r2.cell 4 rfl
  go_wp2_with (fail)
  refine (wuint_ok _ _ mk_one _ _ _ (by simp only [List.length_append, be_length, List.length_nil, opaq0_len]; omega) H).mono ?_
  rintro x w1 ⟨rfl, H'⟩
  clear H p0 p1 p2 p3 p4
  have H := H'
  clear H'
  have p0 := H.r2.cell 0 rfl
  have p1 := H.r2.cell 1 rfl
  have p2 := H.r2.cell 2 rfl
  have p3 := H.r2.cell 3 rfl
  have p4 := H.r2.cell 4 rfl
  go_wp2_with (fail)
  refine (wuint_ok _ _ mk_one _ _ _ (by simp only [List.length_append, be_length, List.length_nil, opaq0_len]; omega) H).mono ?_
  rintro x w1 ⟨rfl, H'⟩
  clear H p0 p1 p2 p3 p4
  have H := H'
  clear H'
  have p0 := H.r2.cell 0 rfl
  have p1 := H.r2.cell 1 rfl
  have p2 := H.r2.cell 2 rfl
  have p3 := H.r2.cell 3 rfl
  have p4 := H.r2.cell 4 rfl
  go_wp2_with (fail)
  refine (wuint_ok _ _ mk_one _ _ _ (by simp only [List.length_append, be_length, List.length_nil, opaq0_len]; omega) H).mono ?_
  rintro x w1 ⟨rfl, H'⟩
  clear H p0 p1 p2 p3 p4
  have H := H'
  clear H'
  have p0 := H.r2.cell 0 rfl
  have p1 := H.r2.cell 1 rfl
  have p2 := H.r2.cell 2 rfl
  have p3 := H.r2.cell 3 rfl
  have p4 := H.r2.cell 4 rfl
  go_wp2_with (fail)
  refine (words_ok _ 3 _ [xid, low, high] rfl (by decide) _ (Rd_new _ _ _)).mono ?_
  rintro x w2 ⟨rfl, rfl⟩
  have H' := H.more (.cells ([xid, low, high].map (.int .i64 ·)).toArray 3)
  generalize w1.alloc (.cells ([xid, low, high].map (.int .i64 ·)).toArray 3) = w1 at *
  clear H p0 p1 p2 p3 p4
  have H := H'
  clear H'
  have p0 := H.r2.cell 0 rfl
  have p1 := H.r2.cell 1 rfl
  have p2 := H.r2.cell 2 rfl
  have p3 := H.r2.cell 3 rfl
  have p4 := H.r2.cell 4 rfl
  generalize hW : ([xid, low, high].all isW) = W
  have HW := Lib.hid hW; clear hW
  have he := isEmpty_iff body
  cases W
  · go_wp2_with (fail)
    go_ret2
    exact ⟨by rw [HR.out, Rep.put_bad (by rintro ⟨g1, ⟨g2, g3, g4⟩, g5, g6, g7⟩; dsimp only at *; have h := HW.out; rw [three_W, g2, g3, g4] at h; cases h)]; rfl, H.tail.tail⟩
  · by_cases h0 : body = ByteArray.empty
    · have h0' : body.toList.isEmpty = true := he.2 h0
      have HB := Lib.hid h0
      clear he h0
      go_wp2_with (fail)
      refine (wuint_ok _ _ mk_one _ _ _ (by simp only [List.length_append, be_length, List.length_nil, opaq0_len]; omega) H).mono ?_
      rintro x w1 ⟨rfl, H'⟩
      clear H p0 p1 p2 p3 p4
      have H := H'
      clear H'
      have p0 := H.r2.cell 0 rfl
      have p1 := H.r2.cell 1 rfl
      have p2 := H.r2.cell 2 rfl
      have p3 := H.r2.cell 3 rfl
      have p4 := H.r2.cell 4 rfl
      go_wp2_with (fail)
      refine (wuint_ok _ _ mk_one _ _ _ (by simp only [List.length_append, be_length, List.length_nil, opaq0_len]; omega) H).mono ?_
      rintro x w1 ⟨rfl, H'⟩
      clear H p0 p1 p2 p3 p4
      have H := H'
      clear H'
      have p0 := H.r2.cell 0 rfl
      have p1 := H.r2.cell 1 rfl
      have p2 := H.r2.cell 2 rfl
      have p3 := H.r2.cell 3 rfl
      have p4 := H.r2.cell 4 rfl
      go_wp2_with (fail)
      have hg : Rep.good ⟨xid, 6, low, high, body⟩ := by
        have h := HW.out
        rw [three_W, Bool.and_eq_true, Bool.and_eq_true] at h
        refine ⟨?_, h, ?_, ?_, ?_⟩ <;> dsimp only <;> first | omega | exact .inr HB.out
      obtain ⟨L, hL, H2⟩ := H.named
      have hh : L = Rep.head ⟨xid, 6, low, high, body⟩ := by rw [hL]; simp [Rep.head, List.append_assoc, bl]
      have hLl : L.length ≤ 40 := by rw [hL]; simp only [List.length_append, be_length, List.length_nil, opaq0_len]; omega
      obtain ⟨S, hS⟩ : ∃ S, S = mkb L := ⟨_, rfl⟩
      have hS1 : S.size ≤ 40 := by rw [hS, mkb_size]; exact hLl
      have hS2 : S.size = (Rep.head ⟨xid, 6, low, high, body⟩).length := by rw [hS, mkb_size, hh]
      have hbb := bytes_ok _ _ mk_one _ _ H2
      rw [← hS] at hbb
      have HS := Lib.hid hS; have HH := Lib.hid hh; have HS2 := Lib.hid hS2; have HG := Lib.hid hg; clear hS hh hS2 hg hL hLl
      go_wp2_with (fail)
      refine hbb.mono ?_
      rintro x w2 ⟨rfl, rfl⟩
      clear hbb
      by_cases h4 : body.size % 4 = 0
      · have h4' : ((body.size : Int) % 4 == 0) = true := by simp; omega
        by_cases h5 : S.size + body.size ≤ 65536
        · have h5' : decide ((body.size : Int) ≤ 65536 - S.size) = true := decide_eq_true (by omega)
          go_wp2_with (fail)
          go_ret2
          exact ⟨by rw [HR.out, Rep.put_ok HG.out ⟨h4, by rw [← HS2.out]; exact h5⟩, ← HH.out, ← HS.out]; rfl, H.tail.tail⟩
        · have h5' : decide ((body.size : Int) ≤ 65536 - S.size) = false := decide_eq_false (by omega)
          go_wp2_with (fail)
          go_ret2
          exact ⟨by rw [HR.out, Rep.put_long HG.out (by rw [← HS2.out]; exact fun h => h5 h.2)]; rfl, H.tail.tail⟩
      · have h4' : ((body.size : Int) % 4 == 0) = false := by simp; omega
        go_wp2_with (fail)
        go_ret2
        exact ⟨by rw [HR.out, Rep.put_long HG.out (fun h => h4 h.1)]; rfl, H.tail.tail⟩
    · have h0' : body.toList.isEmpty = false := Bool.eq_false_iff.2 fun h => h0 (he.1 h)
      clear he
      go_wp2_with (fail)
      go_ret2
      exact ⟨by rw [HR.out, Rep.put_bad (by rintro ⟨g1, ⟨g2, g3, g4⟩, g5, g6, g7⟩; dsimp only at *; exact h0 (g7.resolve_left (by omega)))]; rfl, H.tail.tail⟩
set_option maxRecDepth 100000 in
set_option maxHeartbeats 4000000 in
theorem putreply_7 (r : Rep) (hb : r.body.size ≤ 1099511627776) (hv : r.v = 7) {w0 w : World} {F : List Assn} (H0 : St w0 w F) :
    Calls Try.prog 16 #[.agg r.cells] w fun x w' => x = .returned (.tuple #[.string r.put.1, .int .i64 r.put.2]) ∧ St w0 w' F := by
  obtain ⟨xid, v, low, high, body⟩ := r
  dsimp only at hv hb
  obtain ⟨res, hres⟩ : ∃ x, x = Rep.put ⟨xid, v, low, high, body⟩ := ⟨_, rfl⟩
  rw [← hres]
  have HR := Lib.hid hres; clear hres
  dsimp only [Rep.cells] at *
  have H1 := H0.alloc #[.int .i64 xid, .int .i64 v, .int .i64 low, .int .i64 high, .string body] 49
  have H := (H1.alloc #[.slice none 0 0] 62).newWr
  simp only [World.size_alloc] at H
  subst hv
  go_enter Try.func16, Try.ntmps16
  go_wp2_with (fail)
  obtain ⟨bw, hbw⟩ : ∃ b, b = w.heap.size + 1 := ⟨_, rfl⟩
  obtain ⟨br, hbr⟩ : ∃ b, b = w.heap.size := ⟨_, rfl⟩
  rw [← hbw] at H ⊢
  rw [← hbr] at H ⊢
  generalize (w.alloc (.cells #[.int .i64 xid, .int .i64 7, .int .i64 low, .int .i64 high, .string body] 49)).alloc (.cells #[.slice none 0 0] 62) = w2 at *
  clear H1 H0 hbw hbr
  have p0 := H.r2.cell 0 rfl
  have p1 := H.r2.cell 1 rfl
  have p2 := H.r2.cell 2 rfl
  have p3 := H.r2.cell 3 rfl
  have p4 := H.r2.cell 4 rfl
  refine (wuint_ok _ _ mk_one _ _ _ (by simp only [List.length_append, be_length, List.length_nil, opaq0_len]; omega) H).mono ?_
  rintro x w1 ⟨rfl, H'⟩
  clear H p0 p1 p2 p3 p4
  have H := H'
  clear H'
  have p0 := H.r2.cell 0 rfl
  have p1 := H.r2.cell 1 rfl
  have p2 := H.r2.cell 2 rfl
  have p3 := H.r2.cell 3 rfl
  have p4 := H.r2.cell 4 rfl
  go_wp2_with (fail)
  refine (wuint_ok _ _ mk_one _ _ _ (by simp only [List.length_append, be_length, List.length_nil, opaq0_len]; omega) H).mono ?_
  rintro x w1 ⟨rfl, H'⟩
  clear H p0 p1 p2 p3 p4
  have H := H'
  clear H'
  have p0 := H.r2.cell 0 rfl
  have p1 := H.r2.cell 1 rfl
  have p2 := H.r2.cell 2 rfl
  have p3 := H.r2.cell 3 rfl
  have p4 := H.r2.cell 4 rfl
  go_wp2_with (fail)
  refine (wuint_ok _ _ mk_one _ _ _ (by simp only [List.length_append, be_length, List.length_nil, opaq0_len]; omega) H).mono ?_
  rintro x w1 ⟨rfl, H'⟩
  clear H p0 p1 p2 p3 p4
  have H := H'
  clear H'
  have p0 := H.r2.cell 0 rfl
  have p1 := H.r2.cell 1 rfl
  have p2 := H.r2.cell 2 rfl
  have p3 := H.r2.cell 3 rfl
  have p4 := H.r2.cell 4 rfl
  go_wp2_with (fail)
  refine (wuint_ok _ _ mk_one _ _ _ (by simp only [List.length_append, be_length, List.length_nil, opaq0_len]; omega) H).mono ?_
  rintro x w1 ⟨rfl, H'⟩
  clear H p0 p1 p2 p3 p4
  have H := H'
  clear H'
  have p0 := H.r2.cell 0 rfl
  have p1 := H.r2.cell 1 rfl
  have p2 := H.r2.cell 2 rfl
  have p3 := H.r2.cell 3 rfl
  have p4 := H.r2.cell 4 rfl
  go_wp2_with (fail)
  refine (words_ok _ 3 _ [xid, low, high] rfl (by decide) _ (Rd_new _ _ _)).mono ?_
  rintro x w2 ⟨rfl, rfl⟩
  have H' := H.more (.cells ([xid, low, high].map (.int .i64 ·)).toArray 3)
  generalize w1.alloc (.cells ([xid, low, high].map (.int .i64 ·)).toArray 3) = w1 at *
  clear H p0 p1 p2 p3 p4
  have H := H'
  clear H'
  have p0 := H.r2.cell 0 rfl
  have p1 := H.r2.cell 1 rfl
  have p2 := H.r2.cell 2 rfl
  have p3 := H.r2.cell 3 rfl
  have p4 := H.r2.cell 4 rfl
  generalize hW : ([xid, low, high].all isW) = W
  have HW := Lib.hid hW; clear hW
  have he := isEmpty_iff body
  cases W
  · go_wp2_with (fail)
    go_ret2
    exact ⟨by rw [HR.out, Rep.put_bad (by rintro ⟨g1, ⟨g2, g3, g4⟩, g5, g6, g7⟩; dsimp only at *; have h := HW.out; rw [three_W, g2, g3, g4] at h; cases h)]; rfl, H.tail.tail⟩
  · by_cases h0 : body = ByteArray.empty
    · have h0' : body.toList.isEmpty = true := he.2 h0
      have HB := Lib.hid h0
      clear he h0
      by_cases h1 : high = 0
      · have h1' : (high != 0) = false := by simp [h1]
        go_wp2_with (fail)
        refine (wuint_ok _ _ mk_one _ _ _ (by simp only [List.length_append, be_length, List.length_nil, opaq0_len]; omega) H).mono ?_
        rintro x w1 ⟨rfl, H'⟩
        clear H p0 p1 p2 p3 p4
        have H := H'
        clear H'
        have p0 := H.r2.cell 0 rfl
        have p1 := H.r2.cell 1 rfl
        have p2 := H.r2.cell 2 rfl
        have p3 := H.r2.cell 3 rfl
        have p4 := H.r2.cell 4 rfl
        go_wp2_with (fail)
        have hg : Rep.good ⟨xid, 7, low, high, body⟩ := by
          have h := HW.out
          rw [three_W, Bool.and_eq_true, Bool.and_eq_true] at h
          refine ⟨?_, h, ?_, ?_, ?_⟩ <;> dsimp only <;> first | omega | exact .inr HB.out
        obtain ⟨L, hL, H2⟩ := H.named
        have hh : L = Rep.head ⟨xid, 7, low, high, body⟩ := by rw [hL]; simp [Rep.head, List.append_assoc, bl]
        have hLl : L.length ≤ 40 := by rw [hL]; simp only [List.length_append, be_length, List.length_nil, opaq0_len]; omega
        obtain ⟨S, hS⟩ : ∃ S, S = mkb L := ⟨_, rfl⟩
        have hS1 : S.size ≤ 40 := by rw [hS, mkb_size]; exact hLl
        have hS2 : S.size = (Rep.head ⟨xid, 7, low, high, body⟩).length := by rw [hS, mkb_size, hh]
        have hbb := bytes_ok _ _ mk_one _ _ H2
        rw [← hS] at hbb
        have HS := Lib.hid hS; have HH := Lib.hid hh; have HS2 := Lib.hid hS2; have HG := Lib.hid hg; clear hS hh hS2 hg hL hLl
        go_wp2_with (fail)
        refine hbb.mono ?_
        rintro x w2 ⟨rfl, rfl⟩
        clear hbb
        by_cases h4 : body.size % 4 = 0
        · have h4' : ((body.size : Int) % 4 == 0) = true := by simp; omega
          by_cases h5 : S.size + body.size ≤ 65536
          · have h5' : decide ((body.size : Int) ≤ 65536 - S.size) = true := decide_eq_true (by omega)
            go_wp2_with (fail)
            go_ret2
            exact ⟨by rw [HR.out, Rep.put_ok HG.out ⟨h4, by rw [← HS2.out]; exact h5⟩, ← HH.out, ← HS.out]; rfl, H.tail.tail⟩
          · have h5' : decide ((body.size : Int) ≤ 65536 - S.size) = false := decide_eq_false (by omega)
            go_wp2_with (fail)
            go_ret2
            exact ⟨by rw [HR.out, Rep.put_long HG.out (by rw [← HS2.out]; exact fun h => h5 h.2)]; rfl, H.tail.tail⟩
        · have h4' : ((body.size : Int) % 4 == 0) = false := by simp; omega
          go_wp2_with (fail)
          go_ret2
          exact ⟨by rw [HR.out, Rep.put_long HG.out (fun h => h4 h.1)]; rfl, H.tail.tail⟩
      · have h1' : (high != 0) = true := by simp [h1]
        go_wp2_with (fail)
        go_ret2
        exact ⟨by rw [HR.out, Rep.put_bad (by rintro ⟨g1, ⟨g2, g3, g4⟩, g5, g6, g7⟩; dsimp only at *; omega)]; rfl, H.tail.tail⟩
    · have h0' : body.toList.isEmpty = false := Bool.eq_false_iff.2 fun h => h0 (he.1 h)
      clear he
      by_cases h1 : high = 0
      · have h1' : (high != 0) = false := by simp [h1]
        go_wp2_with (fail)
        go_ret2
        exact ⟨by rw [HR.out, Rep.put_bad (by rintro ⟨g1, ⟨g2, g3, g4⟩, g5, g6, g7⟩; dsimp only at *; exact h0 (g7.resolve_left (by omega)))]; rfl, H.tail.tail⟩
      · have h1' : (high != 0) = true := by simp [h1]
        go_wp2_with (fail)
        go_ret2
        exact ⟨by rw [HR.out, Rep.put_bad (by rintro ⟨g1, ⟨g2, g3, g4⟩, g5, g6, g7⟩; dsimp only at *; omega)]; rfl, H.tail.tail⟩
set_option maxRecDepth 100000 in
set_option maxHeartbeats 4000000 in
theorem putreply_n (r : Rep) (hb : r.body.size ≤ 1099511627776) (hv : r.v < 0) {w0 w : World} {F : List Assn} (H0 : St w0 w F) :
    Calls Try.prog 16 #[.agg r.cells] w fun x w' => x = .returned (.tuple #[.string r.put.1, .int .i64 r.put.2]) ∧ St w0 w' F := by
  obtain ⟨xid, v, low, high, body⟩ := r
  dsimp only at hv hb
  obtain ⟨res, hres⟩ : ∃ x, x = Rep.put ⟨xid, v, low, high, body⟩ := ⟨_, rfl⟩
  rw [← hres]
  have HR := Lib.hid hres; clear hres
  dsimp only [Rep.cells] at *
  have H1 := H0.alloc #[.int .i64 xid, .int .i64 v, .int .i64 low, .int .i64 high, .string body] 49
  have H := (H1.alloc #[.slice none 0 0] 62).newWr
  simp only [World.size_alloc] at H
  have a1 : decide (v < 0) = true := decide_eq_true hv
  go_enter Try.func16, Try.ntmps16
  go_wp2_with (fail)
  obtain ⟨bw, hbw⟩ : ∃ b, b = w.heap.size + 1 := ⟨_, rfl⟩
  obtain ⟨br, hbr⟩ : ∃ b, b = w.heap.size := ⟨_, rfl⟩
  rw [← hbw] at H ⊢
  rw [← hbr] at H ⊢
  generalize (w.alloc (.cells #[.int .i64 xid, .int .i64 v, .int .i64 low, .int .i64 high, .string body] 49)).alloc (.cells #[.slice none 0 0] 62) = w2 at *
  clear H1 H0 hbw hbr
  have p0 := H.r2.cell 0 rfl
  have p1 := H.r2.cell 1 rfl
  have p2 := H.r2.cell 2 rfl
  have p3 := H.r2.cell 3 rfl
  have p4 := H.r2.cell 4 rfl
  refine (wuint_ok _ _ mk_one _ _ _ (by simp only [List.length_append, be_length, List.length_nil, opaq0_len]; omega) H).mono ?_
  rintro x w1 ⟨rfl, H'⟩
  clear H p0 p1 p2 p3 p4
  have H := H'
  clear H'
  have p0 := H.r2.cell 0 rfl
  have p1 := H.r2.cell 1 rfl
  have p2 := H.r2.cell 2 rfl
  have p3 := H.r2.cell 3 rfl
  have p4 := H.r2.cell 4 rfl
  go_wp2_with (fail)
  refine (wuint_ok _ _ mk_one _ _ _ (by simp only [List.length_append, be_length, List.length_nil, opaq0_len]; omega) H).mono ?_
  rintro x w1 ⟨rfl, H'⟩
  clear H p0 p1 p2 p3 p4
  have H := H'
  clear H'
  have p0 := H.r2.cell 0 rfl
  have p1 := H.r2.cell 1 rfl
  have p2 := H.r2.cell 2 rfl
  have p3 := H.r2.cell 3 rfl
  have p4 := H.r2.cell 4 rfl
  go_wp2_with (fail)
  go_ret2
  exact ⟨by rw [HR.out, Rep.put_bad (by rintro ⟨g1, _⟩; dsimp only at *; omega)]; rfl, H.tail.tail⟩
set_option maxRecDepth 100000 in
set_option maxHeartbeats 4000000 in
theorem putreply_m (r : Rep) (hb : r.body.size ≤ 1099511627776) (hv : 7 < r.v) {w0 w : World} {F : List Assn} (H0 : St w0 w F) :
    Calls Try.prog 16 #[.agg r.cells] w fun x w' => x = .returned (.tuple #[.string r.put.1, .int .i64 r.put.2]) ∧ St w0 w' F := by
  obtain ⟨xid, v, low, high, body⟩ := r
  dsimp only at hv hb
  obtain ⟨res, hres⟩ : ∃ x, x = Rep.put ⟨xid, v, low, high, body⟩ := ⟨_, rfl⟩
  rw [← hres]
  have HR := Lib.hid hres; clear hres
  dsimp only [Rep.cells] at *
  have H1 := H0.alloc #[.int .i64 xid, .int .i64 v, .int .i64 low, .int .i64 high, .string body] 49
  have H := (H1.alloc #[.slice none 0 0] 62).newWr
  simp only [World.size_alloc] at H
  have a1 : decide (v < 0) = false := decide_eq_false (by omega); have a2 : decide (7 < v) = true := decide_eq_true hv
  go_enter Try.func16, Try.ntmps16
  go_wp2_with (fail)
  obtain ⟨bw, hbw⟩ : ∃ b, b = w.heap.size + 1 := ⟨_, rfl⟩
  obtain ⟨br, hbr⟩ : ∃ b, b = w.heap.size := ⟨_, rfl⟩
  rw [← hbw] at H ⊢
  rw [← hbr] at H ⊢
  generalize (w.alloc (.cells #[.int .i64 xid, .int .i64 v, .int .i64 low, .int .i64 high, .string body] 49)).alloc (.cells #[.slice none 0 0] 62) = w2 at *
  clear H1 H0 hbw hbr
  have p0 := H.r2.cell 0 rfl
  have p1 := H.r2.cell 1 rfl
  have p2 := H.r2.cell 2 rfl
  have p3 := H.r2.cell 3 rfl
  have p4 := H.r2.cell 4 rfl
  refine (wuint_ok _ _ mk_one _ _ _ (by simp only [List.length_append, be_length, List.length_nil, opaq0_len]; omega) H).mono ?_
  rintro x w1 ⟨rfl, H'⟩
  clear H p0 p1 p2 p3 p4
  have H := H'
  clear H'
  have p0 := H.r2.cell 0 rfl
  have p1 := H.r2.cell 1 rfl
  have p2 := H.r2.cell 2 rfl
  have p3 := H.r2.cell 3 rfl
  have p4 := H.r2.cell 4 rfl
  go_wp2_with (fail)
  refine (wuint_ok _ _ mk_one _ _ _ (by simp only [List.length_append, be_length, List.length_nil, opaq0_len]; omega) H).mono ?_
  rintro x w1 ⟨rfl, H'⟩
  clear H p0 p1 p2 p3 p4
  have H := H'
  clear H'
  have p0 := H.r2.cell 0 rfl
  have p1 := H.r2.cell 1 rfl
  have p2 := H.r2.cell 2 rfl
  have p3 := H.r2.cell 3 rfl
  have p4 := H.r2.cell 4 rfl
  go_wp2_with (fail)
  go_ret2
  exact ⟨by rw [HR.out, Rep.put_bad (by rintro ⟨g1, _⟩; dsimp only at *; omega)]; rfl, H.tail.tail⟩
theorem putreply_ok (r : Rep) (hb : r.body.size ≤ 1099511627776) {w0 w : World} {F : List Assn} (H0 : St w0 w F) :
    Calls Try.prog 16 #[.agg r.cells] w fun x w' => x = .returned (.tuple #[.string r.put.1, .int .i64 r.put.2]) ∧ St w0 w' F := by
  have h : r.v < 0 ∨ r.v = 0 ∨ (r.v = 1 ∨ r.v = 3 ∨ r.v = 4 ∨ r.v = 5) ∨ r.v = 2 ∨ r.v = 6 ∨ r.v = 7 ∨ 7 < r.v := by omega
  rcases h with h | h | h | h | h | h | h
  · exact putreply_n r hb h H0
  · exact putreply_0 r hb h H0
  · exact putreply_1 r hb h H0
  · exact putreply_2 r hb h H0
  · exact putreply_6 r hb h H0
  · exact putreply_7 r hb h H0
  · exact putreply_m r hb h H0
end Go.Proofs.Ytkpcnklhboemcaa

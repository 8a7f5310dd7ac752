/- Layer 3's reference: replies as bytes. -/
import Derived.Test.YtkpcnklhboemcaaRpA
import Derived.Deep.RegionHeld3
import Derived.Deep.DeepCutAuto
namespace Go.Proofs.Ytkpcnklhboemcaa
open Go.RowKit

theorem refword_ok (n : Int) (w : World) : Calls Try.prog 25 #[.int .i64 n] w fun r w' => r = .returned (.bool (isW n)) ∧ w = w' := by
  by_cases h0 : 0 ≤ n
  · have h0' : decide (0 ≤ n) = true := decide_eq_true h0
    by_cases h1 : n ≤ 4294967295
    · have h1' : decide (n ≤ 4294967295) = true := decide_eq_true h1
      have e : isW n = true := by unfold isW; rw [decide_eq_true_eq]; exact ⟨h0, h1⟩
      rw [e]; clear e
      go_enter Try.func25, Try.ntmps25
      go_wp2_with (fail)
      go_ret
      exact ⟨rfl, rfl⟩
    · have h1' : decide (n ≤ 4294967295) = false := decide_eq_false h1
      have e : isW n = false := by unfold isW; rw [decide_eq_false]; exact fun h => h1 h.2
      rw [e]; clear e
      go_enter Try.func25, Try.ntmps25
      go_wp2_with (fail)
      go_ret
      exact ⟨rfl, rfl⟩
  · have h0' : decide (0 ≤ n) = false := decide_eq_false h0
    have e : isW n = false := by unfold isW; rw [decide_eq_false]; exact fun h => h0 h.1
    rw [e]; clear e
    go_enter Try.func25, Try.ntmps25
    go_wp2_with (fail)
    go_ret
    exact ⟨rfl, rfl⟩
theorem refuint4 (n : Int) {w0 w : World} {F : List Assn} (H : St w0 w F) :
    Calls Try.prog 26 #[.int .i64 n] w fun r w' => r = .returned (.string (mkb (be n 4))) ∧ (mkb (be n 4)).size = 4 ∧ St w0 w' F :=
  (refuint_ok n H).mono fun r w' ⟨h1, h2⟩ => ⟨h1, by rw [mkb_size, be_length], h2⟩
set_option maxRecDepth 100000 in
set_option maxHeartbeats 4000000 in
theorem refput_w (r : Rep) (hb : r.body.size ≤ 1099511627776) (hv : r.v < 0 ∨ 7 < r.v ∨ isW r.xid = false ∨ isW r.low = false ∨ isW r.high = false) {w0 w : World} {F : List Assn} (H0 : St w0 w F) :
    Calls Try.prog 17 #[.agg r.cells] w fun x w' => x = .returned (.tuple #[.string r.put.1, .int .i64 r.put.2]) ∧ St w0 w' F := by
  have gx := hv; have gl := hv; have gh := hv
  obtain ⟨xid, v, low, high, body⟩ := r
  dsimp only at hv hb gx gl gh
  obtain ⟨res, hres⟩ : ∃ x, x = Rep.put ⟨xid, v, low, high, body⟩ := ⟨_, rfl⟩
  rw [← hres]
  have HR := Lib.hid hres; clear hres
  dsimp only [Rep.cells] at *
  have H := H0.alloc #[.int .i64 xid, .int .i64 v, .int .i64 low, .int .i64 high, .string body] 54
  clear gx gl gh; have HV := Lib.hid hv
  have p0 := H.cell 0 rfl
  have p1 := H.cell 1 rfl
  have p2 := H.cell 2 rfl
  have p3 := H.cell 3 rfl
  have p4 := H.cell 4 rfl
  obtain ⟨br, hbr⟩ : ∃ b, b = w.heap.size := ⟨_, rfl⟩
  go_enter Try.func17, Try.ntmps17
  go_upto_region 1 with (fail)
  rw [← hbr] at H p0 p1 p2 p3 p4 ⊢
  generalize w.alloc (.cells #[.int .i64 xid, .int .i64 v, .int .i64 low, .int .i64 high, .string body] 54) = w2 at *
  clear H0 hbr
  by_cases h1 : v < 0
  · have a1 : decide (v < 0) = true := decide_eq_true h1
    clear hv
    go_wp2_with (fail)
    go_ret2
    exact ⟨by rw [HR.out, Rep.put_bad (by rintro ⟨g1, ⟨g2, g3, g4⟩, g5, g6, g7⟩; dsimp only at *; omega)]; rfl, H.tail⟩
  · have a1 : decide (v < 0) = false := decide_eq_false h1
    by_cases h2 : 7 < v
    · have a2 : decide (7 < v) = true := decide_eq_true h2
      clear hv
      go_wp2_with (fail)
      go_ret2
      exact ⟨by rw [HR.out, Rep.put_bad (by rintro ⟨g1, ⟨g2, g3, g4⟩, g5, g6, g7⟩; dsimp only at *; omega)]; rfl, H.tail⟩
    · have a2 : decide (7 < v) = false := decide_eq_false h2
      have hv := (hv.resolve_left h1).resolve_left h2
      cases gx : isW xid
      · clear hv
        go_wp2_with (go_at_call 25; refine (refword_ok _ _).mono ?_; rintro x w2 ⟨rfl, rfl⟩)
        go_ret2
        exact ⟨by rw [HR.out, Rep.put_bad (by rintro ⟨g1, ⟨g2, g3, g4⟩, g5, g6, g7⟩; dsimp only at *; rw [gx] at g2; cases g2)]; rfl, H.tail⟩
      · cases gl : isW low
        · clear hv
          go_wp2_with (go_at_call 25; refine (refword_ok _ _).mono ?_; rintro x w2 ⟨rfl, rfl⟩)
          go_ret2
          exact ⟨by rw [HR.out, Rep.put_bad (by rintro ⟨g1, ⟨g2, g3, g4⟩, g5, g6, g7⟩; dsimp only at *; rw [gl] at g3; cases g3)]; rfl, H.tail⟩
        · have gh : isW high = false := (hv.resolve_left (by rw [gx]; nofun)).resolve_left (by rw [gl]; nofun)
          clear hv
          go_wp2_with (go_at_call 25; refine (refword_ok _ _).mono ?_; rintro x w2 ⟨rfl, rfl⟩)
          go_ret2
          exact ⟨by rw [HR.out, Rep.put_bad (by rintro ⟨g1, ⟨g2, g3, g4⟩, g5, g6, g7⟩; dsimp only at *; rw [gh] at g4; cases g4)]; rfl, H.tail⟩
set_option maxRecDepth 100000 in
set_option maxHeartbeats 4000000 in
theorem refput_0 (r : Rep) (hb : r.body.size ≤ 1099511627776) (gx : isW r.xid = true) (gl : isW r.low = true) (gh : isW r.high = true) (hv : r.v = 0) {w0 w : World} {F : List Assn} (H0 : St w0 w F) :
    Calls Try.prog 17 #[.agg r.cells] w fun x w' => x = .returned (.tuple #[.string r.put.1, .int .i64 r.put.2]) ∧ St w0 w' F := by
  obtain ⟨xid, v, low, high, body⟩ := r
  dsimp only at hv hb gx gl gh
  obtain ⟨res, hres⟩ : ∃ x, x = Rep.put ⟨xid, v, low, high, body⟩ := ⟨_, rfl⟩
  rw [← hres]
  have HR := Lib.hid hres; clear hres
  dsimp only [Rep.cells] at *
  have H := H0.alloc #[.int .i64 xid, .int .i64 v, .int .i64 low, .int .i64 high, .string body] 54
  subst hv
  have p0 := H.cell 0 rfl
  have p1 := H.cell 1 rfl
  have p2 := H.cell 2 rfl
  have p3 := H.cell 3 rfl
  have p4 := H.cell 4 rfl
  obtain ⟨br, hbr⟩ : ∃ b, b = w.heap.size := ⟨_, rfl⟩
  go_enter Try.func17, Try.ntmps17
  go_upto_region 1 with (fail)
  rw [← hbr] at H p0 p1 p2 p3 p4 ⊢
  generalize w.alloc (.cells #[.int .i64 xid, .int .i64 0, .int .i64 low, .int .i64 high, .string body] 54) = w2 at *
  clear H0 hbr
  by_cases h0 : low = 0
  · have h0' : (low != 0) = false := by simp [h0]
    by_cases h1 : high = 0
    · have h1' : (high != 0) = false := by simp [h1]
      go_wp2_with (go_at_call 25; refine (refword_ok _ _).mono ?_; rintro x w2 ⟨rfl, rfl⟩)
      refine (refuint4 _ H).mono ?_
      rintro x w1 ⟨rfl, z1, H'⟩
      clear H p0 p1 p2 p3 p4
      have H := H'
      clear H'
      have p0 := H.cell 0 rfl
      have p1 := H.cell 1 rfl
      have p2 := H.cell 2 rfl
      have p3 := H.cell 3 rfl
      have p4 := H.cell 4 rfl
      go_wp2_with (fail)
      refine (refuint4 _ H).mono ?_
      rintro x w1 ⟨rfl, z2, H'⟩
      clear H p0 p1 p2 p3 p4
      have H := H'
      clear H'
      have p0 := H.cell 0 rfl
      have p1 := H.cell 1 rfl
      have p2 := H.cell 2 rfl
      have p3 := H.cell 3 rfl
      have p4 := H.cell 4 rfl
      go_wp2_with (fail)
      go_region_held3 (fun w' => w'.cell? ⟨br, 1, none⟩ = some (.int .i64 0)) (first | exact p1 | exact H.cell 1 rfl) (first | (go_at_call 26; refine (refuint4 _ H.drew).mono ?_; rintro x w1 ⟨rfl, zs, H⟩) | (go_at_call 26; refine (refuint4 _ H).mono ?_; rintro x w1 ⟨rfl, zs, H⟩))
      have H' := H
      clear H p0 p1 p2 p3 p4
      have H := H'
      clear H'
      have p0 := H.cell 0 rfl
      have p1 := H.cell 1 rfl
      have p2 := H.cell 2 rfl
      have p3 := H.cell 3 rfl
      have p4 := H.cell 4 rfl
      have hg : Rep.good ⟨xid, 0, low, high, body⟩ := by
        refine ⟨?_, ⟨gx, gl, gh⟩, ?_, ?_, ?_⟩ <;> dsimp only <;> first | omega | exact .inl rfl
      have HG := Lib.hid hg; clear hg
      obtain ⟨S, hS⟩ : ∃ S, S = mkb (be xid 4) ++ mkb (be 1 4) ++ (mkb (be 0 4) ++ mkb (be 0 4) ++ mkb (be 0 4) ++ mkb (be 0 4)) := ⟨_, rfl⟩
      rw [← hS]
      have hh : S = mkb (Rep.head ⟨xid, 0, low, high, body⟩) := by rw [hS]; simp only [mkb_append]; refine congrArg mkb ?_; simp [Rep.head, List.append_assoc]; rfl
      have hS1 : S.size ≤ 40 := by rw [hS]; simp [ByteArray.size_append, mkb_size, be_length]
      have hS2 : S.size = (Rep.head ⟨xid, 0, low, high, body⟩).length := by rw [hh, mkb_size]
      have HS := Lib.hid hS; have HH := Lib.hid hh; have HS2 := Lib.hid hS2; clear hS hh hS2
      go_upto_region 16 with (fail)
      obtain ⟨T, hT⟩ : ∃ T, T = S ++ body := ⟨_, rfl⟩
      rw [← hT]
      have hT2 : T.size = S.size + body.size := by rw [hT, ByteArray.size_append]
      have HT := Lib.hid hT; have HT2 := Lib.hid hT2; clear hT hT2
      by_cases h4 : body.size % 4 = 0
      · have h4' : ((body.size : Int) % 4 != 0) = false := by simp; omega
        by_cases h5 : T.size ≤ 65536
        · have h5' : decide (65536 < (T.size : Int)) = false := decide_eq_false (by omega)
          go_wp2_with (fail)
          go_ret2
          exact ⟨by rw [HR.out, Rep.put_ok HG.out ⟨h4, by rw [← HS2.out]; have := HT2.out; dsimp only; omega⟩, ← HH.out, HT.out]; rfl, H.tail⟩
        · have h5' : decide (65536 < (T.size : Int)) = true := decide_eq_true (by omega)
          go_wp2_with (fail)
          go_ret2
          exact ⟨by rw [HR.out, Rep.put_long HG.out (by rw [← HS2.out]; have := HT2.out; dsimp only; omega)]; rfl, H.tail⟩
      · have h4' : ((body.size : Int) % 4 != 0) = true := by simp; omega
        go_wp2_with (fail)
        go_ret2
        exact ⟨by rw [HR.out, Rep.put_long HG.out (fun h => h4 h.1)]; rfl, H.tail⟩
    · have h1' : (high != 0) = true := by simp [h1]
      go_wp2_with (go_at_call 25; refine (refword_ok _ _).mono ?_; rintro x w2 ⟨rfl, rfl⟩)
      go_ret2
      exact ⟨by rw [HR.out, Rep.put_bad (by rintro ⟨g1, ⟨g2, g3, g4⟩, g5, g6, g7⟩; dsimp only at *; omega)]; rfl, H.tail⟩
  · have h0' : (low != 0) = true := by simp [h0]
    go_wp2_with (go_at_call 25; refine (refword_ok _ _).mono ?_; rintro x w2 ⟨rfl, rfl⟩)
    go_ret2
    exact ⟨by rw [HR.out, Rep.put_bad (by rintro ⟨g1, ⟨g2, g3, g4⟩, g5, g6, g7⟩; dsimp only at *; omega)]; rfl, H.tail⟩
set_option maxRecDepth 100000 in
set_option maxHeartbeats 4000000 in
theorem refput_1 (r : Rep) (hb : r.body.size ≤ 1099511627776) (gx : isW r.xid = true) (gl : isW r.low = true) (gh : isW r.high = true) (hv : r.v = 1 ∨ r.v = 3 ∨ r.v = 4 ∨ r.v = 5) {w0 w : World} {F : List Assn} (H0 : St w0 w F) :
    Calls Try.prog 17 #[.agg r.cells] w fun x w' => x = .returned (.tuple #[.string r.put.1, .int .i64 r.put.2]) ∧ St w0 w' F := by
  obtain ⟨xid, v, low, high, body⟩ := r
  dsimp only at hv hb gx gl gh
  obtain ⟨res, hres⟩ : ∃ x, x = Rep.put ⟨xid, v, low, high, body⟩ := ⟨_, rfl⟩
  rw [← hres]
  have HR := Lib.hid hres; clear hres
  dsimp only [Rep.cells] at *
  have H := H0.alloc #[.int .i64 xid, .int .i64 v, .int .i64 low, .int .i64 high, .string body] 54
  have hv5 : v ≤ 5 := (by omega); have hv0 : 0 ≤ v := (by omega); have a1 : decide (v < 0) = false := decide_eq_false (by omega); have a2 : decide (7 < v) = false := decide_eq_false (by omega); have a3 : (v == 2) = false := beq_eq_false_iff_ne.2 (by omega); have a4 : (v == 6) = false := beq_eq_false_iff_ne.2 (by omega); have a5 : (v != 7) = true := bne_iff_ne.2 (by omega); have a6 : (v != 0) = true := bne_iff_ne.2 (by omega); have a7 : (v == 7) = false := beq_eq_false_iff_ne.2 (by omega)
  have p0 := H.cell 0 rfl
  have p1 := H.cell 1 rfl
  have p2 := H.cell 2 rfl
  have p3 := H.cell 3 rfl
  have p4 := H.cell 4 rfl
  obtain ⟨br, hbr⟩ : ∃ b, b = w.heap.size := ⟨_, rfl⟩
  go_enter Try.func17, Try.ntmps17
  go_upto_region 1 with (fail)
  rw [← hbr] at H p0 p1 p2 p3 p4 ⊢
  generalize w.alloc (.cells #[.int .i64 xid, .int .i64 v, .int .i64 low, .int .i64 high, .string body] 54) = w2 at *
  clear H0 hbr
  have he := isEmpty_iff body
  by_cases h0 : low = 0
  · have h0' : (low != 0) = false := by simp [h0]
    by_cases h1 : high = 0
    · have h1' : (high != 0) = false := by simp [h1]
      by_cases h2 : body = ByteArray.empty
      · have h2' : body.toList.isEmpty = true := he.2 h2
        have HB := Lib.hid h2
        clear he h2
        go_wp2_with (go_at_call 25; refine (refword_ok _ _).mono ?_; rintro x w2 ⟨rfl, rfl⟩)
        refine (refuint4 _ H).mono ?_
        rintro x w1 ⟨rfl, z1, H'⟩
        clear H p0 p1 p2 p3 p4
        have H := H'
        clear H'
        have p0 := H.cell 0 rfl
        have p1 := H.cell 1 rfl
        have p2 := H.cell 2 rfl
        have p3 := H.cell 3 rfl
        have p4 := H.cell 4 rfl
        go_wp2_with (fail)
        refine (refuint4 _ H).mono ?_
        rintro x w1 ⟨rfl, z2, H'⟩
        clear H p0 p1 p2 p3 p4
        have H := H'
        clear H'
        have p0 := H.cell 0 rfl
        have p1 := H.cell 1 rfl
        have p2 := H.cell 2 rfl
        have p3 := H.cell 3 rfl
        have p4 := H.cell 4 rfl
        go_wp2_with (fail)
        go_region_held3 (fun w' => w'.cell? ⟨br, 1, none⟩ = some (.int .i64 v)) (first | exact p1 | exact H.cell 1 rfl) (first | (go_at_call 26; refine (refuint4 _ H.drew).mono ?_; rintro x w1 ⟨rfl, zs, H⟩) | (go_at_call 26; refine (refuint4 _ H).mono ?_; rintro x w1 ⟨rfl, zs, H⟩))
        have H' := H
        clear H p0 p1 p2 p3 p4
        have H := H'
        clear H'
        have p0 := H.cell 0 rfl
        have p1 := H.cell 1 rfl
        have p2 := H.cell 2 rfl
        have p3 := H.cell 3 rfl
        have p4 := H.cell 4 rfl
        have hg : Rep.good ⟨xid, v, low, high, body⟩ := by
          refine ⟨?_, ⟨gx, gl, gh⟩, ?_, ?_, ?_⟩ <;> dsimp only <;> first | omega | exact .inr HB.out
        have HG := Lib.hid hg; clear hg
        obtain ⟨S, hS⟩ : ∃ S, S = mkb (be xid 4) ++ mkb (be 1 4) ++ (mkb (be 0 4) ++ mkb (be 0 4) ++ mkb (be 0 4) ++ mkb (be v 4)) := ⟨_, rfl⟩
        rw [← hS]
        have hh : S = mkb (Rep.head ⟨xid, v, low, high, body⟩) := by rw [hS]; simp only [mkb_append]; refine congrArg mkb ?_; simp [Rep.head, List.append_assoc, hv5, show ¬ (v = 2 ∨ v = 6 ∨ v = 7) by omega, show ¬ (v = 2 ∨ v = 6) by omega]; rfl
        have hS1 : S.size ≤ 40 := by rw [hS]; simp [ByteArray.size_append, mkb_size, be_length]
        have hS2 : S.size = (Rep.head ⟨xid, v, low, high, body⟩).length := by rw [hh, mkb_size]
        have HS := Lib.hid hS; have HH := Lib.hid hh; have HS2 := Lib.hid hS2; clear hS hh hS2
        go_upto_region 16 with (fail)
        obtain ⟨T, hT⟩ : ∃ T, T = S ++ body := ⟨_, rfl⟩
        rw [← hT]
        have hT2 : T.size = S.size + body.size := by rw [hT, ByteArray.size_append]
        have HT := Lib.hid hT; have HT2 := Lib.hid hT2; clear hT hT2
        by_cases h4 : body.size % 4 = 0
        · have h4' : ((body.size : Int) % 4 != 0) = false := by simp; omega
          by_cases h5 : T.size ≤ 65536
          · have h5' : decide (65536 < (T.size : Int)) = false := decide_eq_false (by omega)
            go_wp2_with (fail)
            go_ret2
            exact ⟨by rw [HR.out, Rep.put_ok HG.out ⟨h4, by rw [← HS2.out]; have := HT2.out; dsimp only; omega⟩, ← HH.out, HT.out]; rfl, H.tail⟩
          · have h5' : decide (65536 < (T.size : Int)) = true := decide_eq_true (by omega)
            go_wp2_with (fail)
            go_ret2
            exact ⟨by rw [HR.out, Rep.put_long HG.out (by rw [← HS2.out]; have := HT2.out; dsimp only; omega)]; rfl, H.tail⟩
        · have h4' : ((body.size : Int) % 4 != 0) = true := by simp; omega
          go_wp2_with (fail)
          go_ret2
          exact ⟨by rw [HR.out, Rep.put_long HG.out (fun h => h4 h.1)]; rfl, H.tail⟩
      · have h2' : body.toList.isEmpty = false := Bool.eq_false_iff.2 fun h => h2 (he.1 h)
        clear he
        go_wp2_with (go_at_call 25; refine (refword_ok _ _).mono ?_; rintro x w2 ⟨rfl, rfl⟩)
        go_ret2
        exact ⟨by rw [HR.out, Rep.put_bad (by rintro ⟨g1, ⟨g2, g3, g4⟩, g5, g6, g7⟩; dsimp only at *; exact h2 (g7.resolve_left (by omega)))]; rfl, H.tail⟩
    · have h1' : (high != 0) = true := by simp [h1]
      go_wp2_with (go_at_call 25; refine (refword_ok _ _).mono ?_; rintro x w2 ⟨rfl, rfl⟩)
      go_ret2
      exact ⟨by rw [HR.out, Rep.put_bad (by rintro ⟨g1, ⟨g2, g3, g4⟩, g5, g6, g7⟩; dsimp only at *; omega)]; rfl, H.tail⟩
  · have h0' : (low != 0) = true := by simp [h0]
    go_wp2_with (go_at_call 25; refine (refword_ok _ _).mono ?_; rintro x w2 ⟨rfl, rfl⟩)
    go_ret2
    exact ⟨by rw [HR.out, Rep.put_bad (by rintro ⟨g1, ⟨g2, g3, g4⟩, g5, g6, g7⟩; dsimp only at *; omega)]; rfl, H.tail⟩
set_option maxRecDepth 100000 in
set_option maxHeartbeats 4000000 in
theorem refput_2 (r : Rep) (hb : r.body.size ≤ 1099511627776) (gx : isW r.xid = true) (gl : isW r.low = true) (gh : isW r.high = true) (hv : r.v = 2) {w0 w : World} {F : List Assn} (H0 : St w0 w F) :
    Calls Try.prog 17 #[.agg r.cells] w fun x w' => x = .returned (.tuple #[.string r.put.1, .int .i64 r.put.2]) ∧ St w0 w' F := by
  obtain ⟨xid, v, low, high, body⟩ := r
  dsimp only at hv hb gx gl gh
  obtain ⟨res, hres⟩ : ∃ x, x = Rep.put ⟨xid, v, low, high, body⟩ := ⟨_, rfl⟩
  rw [← hres]
  have HR := Lib.hid hres; clear hres
  dsimp only [Rep.cells] at *
  have H := H0.alloc #[.int .i64 xid, .int .i64 v, .int .i64 low, .int .i64 high, .string body] 54
  subst hv
  have p0 := H.cell 0 rfl
  have p1 := H.cell 1 rfl
  have p2 := H.cell 2 rfl
  have p3 := H.cell 3 rfl
  have p4 := H.cell 4 rfl
  obtain ⟨br, hbr⟩ : ∃ b, b = w.heap.size := ⟨_, rfl⟩
  go_enter Try.func17, Try.ntmps17
  go_upto_region 1 with (fail)
  rw [← hbr] at H p0 p1 p2 p3 p4 ⊢
  generalize w.alloc (.cells #[.int .i64 xid, .int .i64 2, .int .i64 low, .int .i64 high, .string body] 54) = w2 at *
  clear H0 hbr
  have he := isEmpty_iff body
  by_cases h2 : body = ByteArray.empty
  · have h2' : body.toList.isEmpty = true := he.2 h2
    have HB := Lib.hid h2
    clear he h2
    go_wp2_with (go_at_call 25; refine (refword_ok _ _).mono ?_; rintro x w2 ⟨rfl, rfl⟩)
    refine (refuint4 _ H).mono ?_
    rintro x w1 ⟨rfl, z1, H'⟩
    clear H p0 p1 p2 p3 p4
    have H := H'
    clear H'
    have p0 := H.cell 0 rfl
    have p1 := H.cell 1 rfl
    have p2 := H.cell 2 rfl
    have p3 := H.cell 3 rfl
    have p4 := H.cell 4 rfl
    go_wp2_with (fail)
    refine (refuint4 _ H).mono ?_
    rintro x w1 ⟨rfl, z2, H'⟩
    clear H p0 p1 p2 p3 p4
    have H := H'
    clear H'
    have p0 := H.cell 0 rfl
    have p1 := H.cell 1 rfl
    have p2 := H.cell 2 rfl
    have p3 := H.cell 3 rfl
    have p4 := H.cell 4 rfl
    go_wp2_with (fail)
    go_region_held3 (fun w' => w'.cell? ⟨br, 1, none⟩ = some (.int .i64 2)) (first | exact p1 | exact H.cell 1 rfl) (first | (go_at_call 26; refine (refuint4 _ H.drew).mono ?_; rintro x w1 ⟨rfl, zs, H⟩) | (go_at_call 26; refine (refuint4 _ H).mono ?_; rintro x w1 ⟨rfl, zs, H⟩))
    have H' := H
    clear H p0 p1 p2 p3 p4
    have H := H'
    clear H'
    have p0 := H.cell 0 rfl
    have p1 := H.cell 1 rfl
    have p2 := H.cell 2 rfl
    have p3 := H.cell 3 rfl
    have p4 := H.cell 4 rfl
    go_wp2_with (fail)
    go_region_held3 (fun w' => w'.cell? ⟨br, 2, none⟩ = some (.int .i64 low) ∧ w'.cell? ⟨br, 3, none⟩ = some (.int .i64 high)) (first | exact ⟨p2, p3⟩ | exact ⟨H.cell 2 rfl, H.cell 3 rfl⟩) (first | (go_at_call 26; refine (refuint4 _ H.drew).mono ?_; rintro x w1 ⟨rfl, zs, H⟩) | (go_at_call 26; refine (refuint4 _ H).mono ?_; rintro x w1 ⟨rfl, zs, H⟩))
    have H' := H
    clear H p0 p1 p2 p3 p4
    have H := H'
    clear H'
    have p0 := H.cell 0 rfl
    have p1 := H.cell 1 rfl
    have p2 := H.cell 2 rfl
    have p3 := H.cell 3 rfl
    have p4 := H.cell 4 rfl
    have hg : Rep.good ⟨xid, 2, low, high, body⟩ := by
      refine ⟨?_, ⟨gx, gl, gh⟩, ?_, ?_, ?_⟩ <;> dsimp only <;> first | omega | exact .inr HB.out
    have HG := Lib.hid hg; clear hg
    obtain ⟨S, hS⟩ : ∃ S, S = mkb (be xid 4) ++ mkb (be 1 4) ++ (mkb (be 0 4) ++ mkb (be 0 4) ++ mkb (be 0 4) ++ mkb (be 2 4)) ++ (mkb (be low 4) ++ mkb (be high 4)) := ⟨_, rfl⟩
    rw [← hS]
    have hh : S = mkb (Rep.head ⟨xid, 2, low, high, body⟩) := by rw [hS]; simp only [mkb_append]; refine congrArg mkb ?_; simp [Rep.head, List.append_assoc]; rfl
    have hS1 : S.size ≤ 40 := by rw [hS]; simp [ByteArray.size_append, mkb_size, be_length]
    have hS2 : S.size = (Rep.head ⟨xid, 2, low, high, body⟩).length := by rw [hh, mkb_size]
    have HS := Lib.hid hS; have HH := Lib.hid hh; have HS2 := Lib.hid hS2; clear hS hh hS2
    go_upto_region 16 with (fail)
    obtain ⟨T, hT⟩ : ∃ T, T = S ++ body := ⟨_, rfl⟩
    rw [← hT]
    have hT2 : T.size = S.size + body.size := by rw [hT, ByteArray.size_append]
    have HT := Lib.hid hT; have HT2 := Lib.hid hT2; clear hT hT2
    by_cases h4 : body.size % 4 = 0
    · have h4' : ((body.size : Int) % 4 != 0) = false := by simp; omega
      by_cases h5 : T.size ≤ 65536
      · have h5' : decide (65536 < (T.size : Int)) = false := decide_eq_false (by omega)
        go_wp2_with (fail)
        go_ret2
        exact ⟨by rw [HR.out, Rep.put_ok HG.out ⟨h4, by rw [← HS2.out]; have := HT2.out; dsimp only; omega⟩, ← HH.out, HT.out]; rfl, H.tail⟩
      · have h5' : decide (65536 < (T.size : Int)) = true := decide_eq_true (by omega)
        go_wp2_with (fail)
        go_ret2
        exact ⟨by rw [HR.out, Rep.put_long HG.out (by rw [← HS2.out]; have := HT2.out; dsimp only; omega)]; rfl, H.tail⟩
    · have h4' : ((body.size : Int) % 4 != 0) = true := by simp; omega
      go_wp2_with (fail)
      go_ret2
      exact ⟨by rw [HR.out, Rep.put_long HG.out (fun h => h4 h.1)]; rfl, H.tail⟩
  · have h2' : body.toList.isEmpty = false := Bool.eq_false_iff.2 fun h => h2 (he.1 h)
    clear he
    go_wp2_with (go_at_call 25; refine (refword_ok _ _).mono ?_; rintro x w2 ⟨rfl, rfl⟩)
    go_ret2
    exact ⟨by rw [HR.out, Rep.put_bad (by rintro ⟨g1, ⟨g2, g3, g4⟩, g5, g6, g7⟩; dsimp only at *; exact h2 (g7.resolve_left (by omega)))]; rfl, H.tail⟩
set_option maxRecDepth 100000 in
set_option maxHeartbeats 4000000 in
theorem refput_6 (r : Rep) (hb : r.body.size ≤ 1099511627776) (gx : isW r.xid = true) (gl : isW r.low = true) (gh : isW r.high = true) (hv : r.v = 6) {w0 w : World} {F : List Assn} (H0 : St w0 w F) :
    Calls Try.prog 17 #[.agg r.cells] w fun x w' => x = .returned (.tuple #[.string r.put.1, .int .i64 r.put.2]) ∧ St w0 w' F := by
  obtain ⟨xid, v, low, high, body⟩ := r
  dsimp only at hv hb gx gl gh
  obtain ⟨res, hres⟩ : ∃ x, x = Rep.put ⟨xid, v, low, high, body⟩ := ⟨_, rfl⟩
  rw [← hres]
  have HR := Lib.hid hres; clear hres
  dsimp only [Rep.cells] at *
  have H := H0.alloc #[.int .i64 xid, .int .i64 v, .int .i64 low, .int .i64 high, .string body] 54
  subst hv
  have p0 := H.cell 0 rfl
  have p1 := H.cell 1 rfl
  have p2 := H.cell 2 rfl
  have p3 := H.cell 3 rfl
  have p4 := H.cell 4 rfl
  obtain ⟨br, hbr⟩ : ∃ b, b = w.heap.size := ⟨_, rfl⟩
  go_enter Try.func17, Try.ntmps17
  go_upto_region 1 with (fail)
  rw [← hbr] at H p0 p1 p2 p3 p4 ⊢
  generalize w.alloc (.cells #[.int .i64 xid, .int .i64 6, .int .i64 low, .int .i64 high, .string body] 54) = w2 at *
  clear H0 hbr
  have he := isEmpty_iff body
  by_cases h2 : body = ByteArray.empty
  · have h2' : body.toList.isEmpty = true := he.2 h2
    have HB := Lib.hid h2
    clear he h2
    go_wp2_with (go_at_call 25; refine (refword_ok _ _).mono ?_; rintro x w2 ⟨rfl, rfl⟩)
    refine (refuint4 _ H).mono ?_
    rintro x w1 ⟨rfl, z1, H'⟩
    clear H p0 p1 p2 p3 p4
    have H := H'
    clear H'
    have p0 := H.cell 0 rfl
    have p1 := H.cell 1 rfl
    have p2 := H.cell 2 rfl
    have p3 := H.cell 3 rfl
    have p4 := H.cell 4 rfl
    go_wp2_with (fail)
    refine (refuint4 _ H).mono ?_
    rintro x w1 ⟨rfl, z2, H'⟩
    clear H p0 p1 p2 p3 p4
    have H := H'
    clear H'
    have p0 := H.cell 0 rfl
    have p1 := H.cell 1 rfl
    have p2 := H.cell 2 rfl
    have p3 := H.cell 3 rfl
    have p4 := H.cell 4 rfl
    go_wp2_with (fail)
    refine (refuint4 _ H).mono ?_
    rintro x w1 ⟨rfl, z3, H'⟩
    clear H p0 p1 p2 p3 p4
    have H := H'
    clear H'
    have p0 := H.cell 0 rfl
    have p1 := H.cell 1 rfl
    have p2 := H.cell 2 rfl
    have p3 := H.cell 3 rfl
    have p4 := H.cell 4 rfl
    go_wp2_with (fail)
    refine (refuint4 _ H).mono ?_
    rintro x w1 ⟨rfl, z4, H'⟩
    clear H p0 p1 p2 p3 p4
    have H := H'
    clear H'
    have p0 := H.cell 0 rfl
    have p1 := H.cell 1 rfl
    have p2 := H.cell 2 rfl
    have p3 := H.cell 3 rfl
    have p4 := H.cell 4 rfl
    go_wp2_with (fail)
    go_region_held3 (fun w' => w'.cell? ⟨br, 2, none⟩ = some (.int .i64 low) ∧ w'.cell? ⟨br, 3, none⟩ = some (.int .i64 high)) (first | exact ⟨p2, p3⟩ | exact ⟨H.cell 2 rfl, H.cell 3 rfl⟩) (first | (go_at_call 26; refine (refuint4 _ H.drew).mono ?_; rintro x w1 ⟨rfl, zs, H⟩) | (go_at_call 26; refine (refuint4 _ H).mono ?_; rintro x w1 ⟨rfl, zs, H⟩))
    have H' := H
    clear H p0 p1 p2 p3 p4
    have H := H'
    clear H'
    have p0 := H.cell 0 rfl
    have p1 := H.cell 1 rfl
    have p2 := H.cell 2 rfl
    have p3 := H.cell 3 rfl
    have p4 := H.cell 4 rfl
    have hg : Rep.good ⟨xid, 6, low, high, body⟩ := by
      refine ⟨?_, ⟨gx, gl, gh⟩, ?_, ?_, ?_⟩ <;> dsimp only <;> first | omega | exact .inr HB.out
    have HG := Lib.hid hg; clear hg
    obtain ⟨S, hS⟩ : ∃ S, S = mkb (be xid 4) ++ mkb (be 1 4) ++ (mkb (be 1 4) ++ mkb (be 0 4)) ++ (mkb (be low 4) ++ mkb (be high 4)) := ⟨_, rfl⟩
    rw [← hS]
    have hh : S = mkb (Rep.head ⟨xid, 6, low, high, body⟩) := by rw [hS]; simp only [mkb_append]; refine congrArg mkb ?_; simp [Rep.head, List.append_assoc]
    have hS1 : S.size ≤ 40 := by rw [hS]; simp [ByteArray.size_append, mkb_size, be_length]
    have hS2 : S.size = (Rep.head ⟨xid, 6, low, high, body⟩).length := by rw [hh, mkb_size]
    have HS := Lib.hid hS; have HH := Lib.hid hh; have HS2 := Lib.hid hS2; clear hS hh hS2
    go_upto_region 16 with (fail)
    obtain ⟨T, hT⟩ : ∃ T, T = S ++ body := ⟨_, rfl⟩
    rw [← hT]
    have hT2 : T.size = S.size + body.size := by rw [hT, ByteArray.size_append]
    have HT := Lib.hid hT; have HT2 := Lib.hid hT2; clear hT hT2
    by_cases h4 : body.size % 4 = 0
    · have h4' : ((body.size : Int) % 4 != 0) = false := by simp; omega
      by_cases h5 : T.size ≤ 65536
      · have h5' : decide (65536 < (T.size : Int)) = false := decide_eq_false (by omega)
        go_wp2_with (fail)
        go_ret2
        exact ⟨by rw [HR.out, Rep.put_ok HG.out ⟨h4, by rw [← HS2.out]; have := HT2.out; dsimp only; omega⟩, ← HH.out, HT.out]; rfl, H.tail⟩
      · have h5' : decide (65536 < (T.size : Int)) = true := decide_eq_true (by omega)
        go_wp2_with (fail)
        go_ret2
        exact ⟨by rw [HR.out, Rep.put_long HG.out (by rw [← HS2.out]; have := HT2.out; dsimp only; omega)]; rfl, H.tail⟩
    · have h4' : ((body.size : Int) % 4 != 0) = true := by simp; omega
      go_wp2_with (fail)
      go_ret2
      exact ⟨by rw [HR.out, Rep.put_long HG.out (fun h => h4 h.1)]; rfl, H.tail⟩
  · have h2' : body.toList.isEmpty = false := Bool.eq_false_iff.2 fun h => h2 (he.1 h)
    clear he
    go_wp2_with (go_at_call 25; refine (refword_ok _ _).mono ?_; rintro x w2 ⟨rfl, rfl⟩)
    go_ret2
    exact ⟨by rw [HR.out, Rep.put_bad (by rintro ⟨g1, ⟨g2, g3, g4⟩, g5, g6, g7⟩; dsimp only at *; exact h2 (g7.resolve_left (by omega)))]; rfl, H.tail⟩
set_option maxRecDepth 100000 in
set_option maxHeartbeats 4000000 in
theorem refput_7 (r : Rep) (hb : r.body.size ≤ 1099511627776) (gx : isW r.xid = true) (gl : isW r.low = true) (gh : isW r.high = true) (hv : r.v = 7) {w0 w : World} {F : List Assn} (H0 : St w0 w F) :
    Calls Try.prog 17 #[.agg r.cells] w fun x w' => x = .returned (.tuple #[.string r.put.1, .int .i64 r.put.2]) ∧ St w0 w' F := by
  obtain ⟨xid, v, low, high, body⟩ := r
  dsimp only at hv hb gx gl gh
  obtain ⟨res, hres⟩ : ∃ x, x = Rep.put ⟨xid, v, low, high, body⟩ := ⟨_, rfl⟩
  rw [← hres]
  have HR := Lib.hid hres; clear hres
  dsimp only [Rep.cells] at *
  have H := H0.alloc #[.int .i64 xid, .int .i64 v, .int .i64 low, .int .i64 high, .string body] 54
  subst hv
  have p0 := H.cell 0 rfl
  have p1 := H.cell 1 rfl
  have p2 := H.cell 2 rfl
  have p3 := H.cell 3 rfl
  have p4 := H.cell 4 rfl
  obtain ⟨br, hbr⟩ : ∃ b, b = w.heap.size := ⟨_, rfl⟩
  go_enter Try.func17, Try.ntmps17
  go_upto_region 1 with (fail)
  rw [← hbr] at H p0 p1 p2 p3 p4 ⊢
  generalize w.alloc (.cells #[.int .i64 xid, .int .i64 7, .int .i64 low, .int .i64 high, .string body] 54) = w2 at *
  clear H0 hbr
  have he := isEmpty_iff body
  by_cases h1 : high = 0
  · have h1' : (high != 0) = false := by simp [h1]
    by_cases h2 : body = ByteArray.empty
    · have h2' : body.toList.isEmpty = true := he.2 h2
      have HB := Lib.hid h2
      clear he h2
      go_wp2_with (go_at_call 25; refine (refword_ok _ _).mono ?_; rintro x w2 ⟨rfl, rfl⟩)
      refine (refuint4 _ H).mono ?_
      rintro x w1 ⟨rfl, z1, H'⟩
      clear H p0 p1 p2 p3 p4
      have H := H'
      clear H'
      have p0 := H.cell 0 rfl
      have p1 := H.cell 1 rfl
      have p2 := H.cell 2 rfl
      have p3 := H.cell 3 rfl
      have p4 := H.cell 4 rfl
      go_wp2_with (fail)
      refine (refuint4 _ H).mono ?_
      rintro x w1 ⟨rfl, z2, H'⟩
      clear H p0 p1 p2 p3 p4
      have H := H'
      clear H'
      have p0 := H.cell 0 rfl
      have p1 := H.cell 1 rfl
      have p2 := H.cell 2 rfl
      have p3 := H.cell 3 rfl
      have p4 := H.cell 4 rfl
      go_wp2_with (fail)
      go_region_held3 (fun w' => w'.cell? ⟨br, 2, none⟩ = some (.int .i64 low)) (first | exact p2 | exact H.cell 2 rfl) (first | (go_at_call 26; refine (refuint4 _ H.drew).mono ?_; rintro x w1 ⟨rfl, zs, H⟩) | (go_at_call 26; refine (refuint4 _ H).mono ?_; rintro x w1 ⟨rfl, zs, H⟩))
      have H' := H
      clear H p0 p1 p2 p3 p4
      have H := H'
      clear H'
      have p0 := H.cell 0 rfl
      have p1 := H.cell 1 rfl
      have p2 := H.cell 2 rfl
      have p3 := H.cell 3 rfl
      have p4 := H.cell 4 rfl
      have hg : Rep.good ⟨xid, 7, low, high, body⟩ := by
        refine ⟨?_, ⟨gx, gl, gh⟩, ?_, ?_, ?_⟩ <;> dsimp only <;> first | omega | exact .inr HB.out
      have HG := Lib.hid hg; clear hg
      obtain ⟨S, hS⟩ : ∃ S, S = mkb (be xid 4) ++ mkb (be 1 4) ++ (mkb (be 1 4) ++ mkb (be 1 4) ++ mkb (be low 4)) := ⟨_, rfl⟩
      rw [← hS]
      have hh : S = mkb (Rep.head ⟨xid, 7, low, high, body⟩) := by rw [hS]; simp only [mkb_append]; refine congrArg mkb ?_; simp [Rep.head, List.append_assoc]
      have hS1 : S.size ≤ 40 := by rw [hS]; simp [ByteArray.size_append, mkb_size, be_length]
      have hS2 : S.size = (Rep.head ⟨xid, 7, low, high, body⟩).length := by rw [hh, mkb_size]
      have HS := Lib.hid hS; have HH := Lib.hid hh; have HS2 := Lib.hid hS2; clear hS hh hS2
      go_upto_region 16 with (fail)
      obtain ⟨T, hT⟩ : ∃ T, T = S ++ body := ⟨_, rfl⟩
      rw [← hT]
      have hT2 : T.size = S.size + body.size := by rw [hT, ByteArray.size_append]
      have HT := Lib.hid hT; have HT2 := Lib.hid hT2; clear hT hT2
      by_cases h4 : body.size % 4 = 0
      · have h4' : ((body.size : Int) % 4 != 0) = false := by simp; omega
        by_cases h5 : T.size ≤ 65536
        · have h5' : decide (65536 < (T.size : Int)) = false := decide_eq_false (by omega)
          go_wp2_with (fail)
          go_ret2
          exact ⟨by rw [HR.out, Rep.put_ok HG.out ⟨h4, by rw [← HS2.out]; have := HT2.out; dsimp only; omega⟩, ← HH.out, HT.out]; rfl, H.tail⟩
        · have h5' : decide (65536 < (T.size : Int)) = true := decide_eq_true (by omega)
          go_wp2_with (fail)
          go_ret2
          exact ⟨by rw [HR.out, Rep.put_long HG.out (by rw [← HS2.out]; have := HT2.out; dsimp only; omega)]; rfl, H.tail⟩
      · have h4' : ((body.size : Int) % 4 != 0) = true := by simp; omega
        go_wp2_with (fail)
        go_ret2
        exact ⟨by rw [HR.out, Rep.put_long HG.out (fun h => h4 h.1)]; rfl, H.tail⟩
    · have h2' : body.toList.isEmpty = false := Bool.eq_false_iff.2 fun h => h2 (he.1 h)
      clear he
      go_wp2_with (go_at_call 25; refine (refword_ok _ _).mono ?_; rintro x w2 ⟨rfl, rfl⟩)
      go_ret2
      exact ⟨by rw [HR.out, Rep.put_bad (by rintro ⟨g1, ⟨g2, g3, g4⟩, g5, g6, g7⟩; dsimp only at *; exact h2 (g7.resolve_left (by omega)))]; rfl, H.tail⟩
  · have h1' : (high != 0) = true := by simp [h1]
    go_wp2_with (go_at_call 25; refine (refword_ok _ _).mono ?_; rintro x w2 ⟨rfl, rfl⟩)
    go_ret2
    exact ⟨by rw [HR.out, Rep.put_bad (by rintro ⟨g1, ⟨g2, g3, g4⟩, g5, g6, g7⟩; dsimp only at *; omega)]; rfl, H.tail⟩
theorem refput_ok (r : Rep) (hb : r.body.size ≤ 1099511627776) {w0 w : World} {F : List Assn} (H0 : St w0 w F) :
    Calls Try.prog 17 #[.agg r.cells] w fun x w' => x = .returned (.tuple #[.string r.put.1, .int .i64 r.put.2]) ∧ St w0 w' F := by
  by_cases hw : r.v < 0 ∨ 7 < r.v ∨ isW r.xid = false ∨ isW r.low = false ∨ isW r.high = false
  · exact refput_w r hb hw H0
  · have gx : isW r.xid = true := by cases h : isW r.xid <;> simp_all
    have gl : isW r.low = true := by cases h : isW r.low <;> simp_all
    have gh : isW r.high = true := by cases h : isW r.high <;> simp_all
    have h0 : ¬ r.v < 0 := fun h => hw (.inl h)
    have h1 : ¬ 7 < r.v := fun h => hw (.inr (.inl h))
    have h : r.v = 0 ∨ (r.v = 1 ∨ r.v = 3 ∨ r.v = 4 ∨ r.v = 5) ∨ r.v = 2 ∨ r.v = 6 ∨ r.v = 7 := by omega
    rcases h with h | h | h | h | h
    · exact refput_0 r hb gx gl gh h H0
    · exact refput_1 r hb gx gl gh h H0
    · exact refput_2 r hb gx gl gh h H0
    · exact refput_6 r hb gx gl gh h H0
    · exact refput_7 r hb gx gl gh h H0
end Go.Proofs.Ytkpcnklhboemcaa

/- Layer 4: the document's disk. -/
import Derived.Test.YtmlknjgcfplnlaaSeD
namespace Go.Proofs.Ytmlknjgcfplnlaa
open Go.RowKit

def Rdk (b : Nat) (d : DS) : Assn :=
  exA fun p : (Option Addr × Nat) × (Option Addr × Nat) × (Option Addr × Nat) => star (Pt b #[.slice p.1.1 d.las.length p.1.2, .slice p.2.1.1 d.q.length p.2.1.2, .slice p.2.2.1 d.q.length p.2.2.2, .int .i64 d.left, .int .i64 d.keep, .bool d.off, .int .i64 d.wr, .int .i64 d.fl] 51) (star (Row 9 1 p.1.1 d.las.length p.1.2 (strs (d.las.map full))) (star (Row 3 1 p.2.1.1 d.q.length p.2.1.2 (plV d.q)) (Row 9 1 p.2.2.1 d.q.length p.2.2.2 (txV d.q))))
theorem St.openR {w0 w : World} {b : Nat} {d : DS} {F : List Assn} (H : St w0 w (Rdk b d :: F)) :
    ∃ A1 A2 A3 c1 c2 c3, St w0 w (Pt b #[.slice A1 d.las.length c1, .slice A2 d.q.length c2, .slice A3 d.q.length c3, .int .i64 d.left, .int .i64 d.keep, .bool d.off, .int .i64 d.wr, .int .i64 d.fl] 51 :: Row 9 1 A1 d.las.length c1 (strs (d.las.map full)) :: Row 3 1 A2 d.q.length c2 (plV d.q) :: Row 9 1 A3 d.q.length c3 (txV d.q) :: F) := by
  obtain ⟨p, H⟩ := H.unex
  have H1 := H.unstar
  have H2 := H1.r2.unstar
  have H3 := H2.r2.unstar
  exact ⟨p.1.1, p.2.1.1, p.2.2.1, p.1.2, p.2.1.2, p.2.2.2, H3.r4.r4.r2⟩
theorem St.shutR {w0 w : World} {b : Nat} {d : DS} {F : List Assn} {A1 A2 A3 : Option Addr} {c1 c2 c3 : Nat} {cs : Array Value} {n1 n2 n3 : Nat} {x1 x2 x3 : List Value} (hc : cs = #[.slice A1 d.las.length c1, .slice A2 d.q.length c2, .slice A3 d.q.length c3, .int .i64 d.left, .int .i64 d.keep, .bool d.off, .int .i64 d.wr, .int .i64 d.fl]) (h1 : n1 = d.las.length) (h2 : n2 = d.q.length) (h3 : n3 = d.q.length) (e1 : x1 = strs (d.las.map full)) (e2 : x2 = plV d.q) (e3 : x3 = txV d.q)
    (H : St w0 w (Pt b cs 51 :: Row 9 1 A1 n1 c1 x1 :: Row 3 1 A2 n2 c2 x2 :: Row 9 1 A3 n3 c3 x3 :: F)) : St w0 w (Rdk b d :: F) := by
  subst hc h1 h2 h3 e1 e2 e3
  have H1 := H.r4.r4.star
  have H2 := H1.r3.star
  have H3 := H2.r2.star
  exact St.ex ((A1, c1), (A2, c2), (A3, c3)) H3
theorem kb_bit2 (keep : Int) (k : Nat) : ((IntKind.u64.wrap keep / 2 ^ (k % 60)).tmod 2 == 1) = kb keep k := by
  rw [Int.tmod_eq_emod_of_nonneg (kb_range keep k).1, IntKind.wrap_u64]
  unfold kb
  rw [Bool.eq_iff_iff, beq_iff_eq, decide_eq_true_eq]
/-- noughts come to a text, up to 256 -/
def pad (s : ByteArray) (k : Nat) : List UInt8 := bl s ++ zeros k
theorem pad_snoc (s : ByteArray) (k : Nat) : pad s (k + 1) = pad s k ++ [0] := by
  unfold pad zeros
  rw [List.replicate_succ', List.append_assoc]
theorem pad_length (s : ByteArray) (k : Nat) : (pad s k).length = s.size + k := by unfold pad zeros; rw [List.length_append, bl_length, List.length_replicate]
theorem pad_zero (s : ByteArray) : bv (pad s 0) = Lib.strCells s := by unfold pad zeros; rw [List.replicate_zero, List.append_nil]; rfl
def lenOf' : Value → Nat
  | .slice _ n _ => n
  | _ => 0
theorem infoU8 : (Try.prog.info? 5).map (fun i => (i.zero, i.size, i.bytes)) = some (some (.int .u8 0), 1, 1) := by kernel_rfl
set_option maxHeartbeats 1000000 in
theorem full_ok (s : ByteArray) (hs : s.size ≤ 1099511627776) {w0 w : World} {F : List Assn} (H : St w0 w F) :
    Calls Try.prog 14 #[.string s] w fun r w' => r = .returned (.string (full s)) ∧ St w0 w' F := by
  obtain ⟨i0, hi, hz0, hz1, hz2⟩ := info_parts infoU8
  have hcv := fun (W : World) (x : ByteArray) => Lib.run_convert_string_bytes (P := Try.prog) W 9 67 5 x Try.underlying9 Try.underlying67 Try.underlying5
  have H2 := H.bytes 5 s (by unfold maxLen; omega)
  go_enter Try.func14, Try.ntmps14
  go_wp2_with (fail)
  go_loopw [3] (fun v wr => ∃ (n k : Nat) (A : Option Addr) (c : Nat), n = s.size + k ∧ n ≤ max s.size 256 ∧ v = .slice A n c ∧ St w0 wr (Row 5 1 A n c (bv (pad s k)) :: F)) (fun v _ => 256 - lenOf' v)
  case atStart => exact ⟨s.size, 0, _, _, rfl, by omega, rfl, by rw [pad_zero]; exact H2⟩
  case round =>
    obtain ⟨n, k, A, c, hn, hk, rfl, H3⟩ := hrel
    have HN := Lib.hid hn; clear hn
    have HC := Lib.hid hcv; clear hcv H2
    by_cases hlt : n < 256
    · have hltI : (n : Int) < 256 := by omega
      go_wp2_with (at_builtin; refine wpList_append_st (by rfl) _ _ _ (by rfl) 5 i0 (.int .u8 0) 1 1 Try.underlying67 hi hz0 hz1 hz2 rfl (by decide) A n c (bv (pad s k)) (H3.more _) (by rfl) ⟨_, 0, none⟩ 1 1 [.int .u8 0] (by rfl) rfl (World.news_of_block (heap_alloc_new _ _)) (fun u hu => by simp at hu; rcases hu with rfl; rfl) (by unfold maxLen; omega) (by omega) ?_; intro A4 c4 w4 H4)
      go_roundw
      case rel => exact ⟨n + 1, k + 1, A4, c4, by have := HN.out; omega, by omega, rfl, by rw [pad_snoc, bv_append]; exact H4⟩
      case measure => simp [lenOf']; omega
    · have hltI : decide ((n : Int) < 256) = false := decide_eq_false (by omega)
      have hcv2 := H3.toStr (P := Try.prog) (src := 67) (dst := 9) Try.underlying67 Try.underlying5 Try.underlying9
      have hf : full s = mkb (pad s k) := by
        have := HN.out
        unfold full pad
        by_cases h : s.size ≤ 256
        · rw [show 256 - s.size = k by omega]
        · rw [show 256 - s.size = 0 by omega, show k = 0 by omega]
      have HF := Lib.hid hf; clear hf
      go_wp2_with (fail)
      go_ret
      rw [HF.out]
      exact ⟨rfl, H3.tail⟩
theorem full_len (s : ByteArray) : (full s).size ≤ s.size + 256 := by
  rw [full, mkb_size, List.length_append, bl_length, zeros, List.length_replicate]; omega
theorem infoInt : (Try.prog.info? 3).map (fun i => (i.zero, i.size, i.bytes)) = some (some (.int .i64 0), 1, 8) := by kernel_rfl
theorem txV_snoc (q : List (Nat × ByteArray)) (p : Nat × ByteArray) : txV (q ++ [p]) = txV q ++ [.string (full p.2)] := by simp [txV]
theorem plV_snoc (q : List (Nat × ByteArray)) (p : Nat × ByteArray) : plV (q ++ [p]) = plV q ++ [.int .i64 p.1] := by simp [plV]
theorem txV_get {q : List (Nat × ByteArray)} {k : Nat} {p : Nat × ByteArray} (h : q[k]? = some p) : (txV q)[k]? = some (.string (full p.2)) := by rw [txV, List.getElem?_map, h]; rfl
theorem plV_get {q : List (Nat × ByteArray)} {k : Nat} {p : Nat × ByteArray} (h : q[k]? = some p) : (plV q)[k]? = some (.int .i64 p.1) := by rw [plV, List.getElem?_map, h]; rfl
theorem fulls_get {l : List ByteArray} {i : Nat} {x : ByteArray} (h : l[i]? = some x) : (strs (l.map full))[i]? = some (.string (full x)) := strs_get (by rw [List.getElem?_map, h]; rfl)
theorem fulls_set (l : List ByteArray) (i : Nat) (x : ByteArray) : (strs (l.map full)).set i (.string (full x)) = strs ((l.set i x).map full) := by rw [strs_set, List.map_set]
set_option maxHeartbeats 2000000 in
theorem rlose_ok (b : Nat) (d : DS) (keep : Int) (N : Nat) (ok : d.ok N) (hN : N ≤ 1099511627776) {w0 w : World} {F : List Assn} (H : St w0 w (Rdk b d :: F)) :
    Calls Try.prog 20 #[.pointer (some ⟨b, 0, none⟩), .int .i64 keep] w fun r w' => r = .returned (.tuple #[]) ∧ St w0 w' (Rdk b (d.lose keep) :: F) := by
  obtain ⟨A1, A2, A3, c1, c2, c3, H1⟩ := H.openR
  have hql := ok.ql
  have hq := ok.q
  have HQ := Lib.hid hq; clear hq
  obtain ⟨m, hm⟩ : ∃ m, m = d.q.length := ⟨_, rfl⟩
  rw [← hm] at hql
  have H2 := H1
  rw [← hm] at H2
  have HM := Lib.hid hm; clear hm H1
  go_enter Try.func20, Try.ntmps20
  go_wp2_with (fail)
  go_loopw [4] (fun i wr => ∃ k : Nat, k ≤ m ∧ i = .int .i64 k ∧ St w0 wr (Pt b #[.slice A1 d.las.length c1, .slice A2 m c2, .slice A3 m c3, .int .i64 d.left, .int .i64 d.keep, .bool d.off, .int .i64 d.wr, .int .i64 d.fl] 51 :: Row 9 1 A1 d.las.length c1 (strs ((lz (kb keep) d.q d.las k).map full)) :: Row 3 1 A2 m c2 (plV d.q) :: Row 9 1 A3 m c3 (txV d.q) :: F)) (fun i _ => m - (intOf i).toNat)
  case atStart => exact ⟨0, Nat.zero_le _, rfl, H2⟩
  case round =>
    obtain ⟨k, hk, rfl, H3⟩ := hrel
    have d1 := H3.cell 1 rfl
    by_cases hlt : k < m
    · obtain ⟨p, hp⟩ : ∃ p, d.q[k]? = some p := ⟨_, List.getElem?_eq_getElem (by rw [← HM.out]; exact hlt)⟩
      obtain ⟨n, s⟩ := p
      obtain ⟨hnl, hsz⟩ := HQ.out _ (List.mem_of_getElem? hp)
      dsimp only at hnl hsz
      have q1 := txV_get hp
      have q0 := plV_get hp
      have hkI : (k : Int) < m := by omega
      have hbit := kb_bit2 keep k
      have hzl := lz_length (kb keep) d.q d.las k
      have hy := lz_yes (f := kb keep) (las := d.las) hp
      have hn := lz_no (f := kb keep) (las := d.las) hp
      generalize lz (kb keep) d.q d.las k = L at *
      have HZ := Lib.hid hzl; have HY := Lib.hid hy; have HNO := Lib.hid hn; clear hp hzl hy hn H2
      cases hkb : kb keep k
      · rw [hkb] at hbit
        have HK := Lib.hid hkb; clear hkb
        go_wp2_with (fail)
        go_roundw
        case rel => exact ⟨k + 1, by omega, by go_num, by rw [HNO.out HK.out]; exact H3⟩
        case measure => simp [intOf]; omega
      · rw [hkb] at hbit
        have HK := Lib.hid hkb; clear hkb
        go_wp2_with (fail)
        obtain ⟨g1, o1, hA⟩ := (H3.r2).row_form (by omega)
        subst hA
        obtain ⟨g2, o2, hA⟩ := (H3.r3).row_form (by omega)
        subst hA
        obtain ⟨g3, o3, hA⟩ := (H3.r4).row_form (by omega)
        subst hA
        refine wp_region_held_drew (S := fun w' => w'.cell? ⟨b, 0, none⟩ = some (.slice (some ⟨g1, o1, none⟩) d.las.length c1) ∧ w'.cell? ⟨b, 1, none⟩ = some (.slice (some ⟨g2, o2, none⟩) m c2) ∧ w'.cell? ⟨b, 2, none⟩ = some (.slice (some ⟨g3, o3, none⟩) m c3) ∧ w'.cell? ⟨g2, o2 + k, none⟩ = some (.int .i64 n) ∧ w'.cell? ⟨g3, o3 + k, none⟩ = some (.string (full s))) (by kernel_rfl) ⟨H3.drew.cell 0 rfl, H3.drew.cell 1 rfl, H3.drew.cell 2 rfl, H3.drew.r3.row_cell k q0, H3.drew.r4.row_cell k q1⟩ (fun hHeld => ?_)
        have H6 := H3.drew
        generalize wr.drew = wd at *
        obtain ⟨y, hy⟩ : ∃ y, L[n]? = some y := ⟨_, List.getElem?_eq_getElem (by rw [HZ.out]; exact hnl)⟩
        have hnI : (n : Int) < d.las.length := by omega
        have HYY := Lib.hid hy; clear hy d1
        refine rg_take (i := 0) (v := ?_) rfl (by kernel_rfl) (by kernel_rfl) (by kernel_rfl) (fun _ _ _ h => h) (Or.inl ⟨by kernel_rfl, ?_⟩) (by assumption) ?_
        rotate_left 1
        · intro w' hSw
          try dsimp only at hSw
          go_simp
          first | done | with_reducible rfl
        try simp only [Act.put, List.setIfInBounds_toArray, List.set_cons_zero, List.set_cons_succ]
        refine rg_take (i := 1) (v := ?_) rfl (by kernel_rfl) (by kernel_rfl) (by kernel_rfl) (fun _ _ _ h => h) (Or.inl ⟨by kernel_rfl, ?_⟩) (by assumption) ?_
        rotate_left 1
        · intro w' hSw
          try dsimp only at hSw
          go_simp
          first | done | with_reducible rfl
        try simp only [Act.put, List.setIfInBounds_toArray, List.set_cons_zero, List.set_cons_succ]
        refine rg_take (i := 2) (v := ?_) rfl (by kernel_rfl) (by kernel_rfl) (by kernel_rfl) (fun _ _ _ h => h) (Or.inl ⟨by kernel_rfl, ?_⟩) (by assumption) ?_
        rotate_left 1
        · intro w' hSw
          try dsimp only at hSw
          go_simp
          first | done | with_reducible rfl
        try simp only [Act.put, List.setIfInBounds_toArray, List.set_cons_zero, List.set_cons_succ]
        refine rg_take (i := 3) (v := ?_) rfl (by kernel_rfl) (by kernel_rfl) (by kernel_rfl) (fun _ _ _ h => h) (Or.inl ⟨by kernel_rfl, ?_⟩) (by assumption) ?_
        rotate_left 1
        · intro w' hSw
          try dsimp only at hSw
          go_simp
          first | done | with_reducible rfl
        try simp only [Act.put, List.setIfInBounds_toArray, List.set_cons_zero, List.set_cons_succ]
        refine rg_take (i := 4) (v := ?_) rfl (by kernel_rfl) (by kernel_rfl) (by kernel_rfl) (fun _ _ _ h => h) (Or.inl ⟨by kernel_rfl, ?_⟩) (by assumption) ?_
        rotate_left 1
        · intro w' hSw
          try dsimp only at hSw
          go_simp
          first | done | with_reducible rfl
        try simp only [Act.put, List.setIfInBounds_toArray, List.set_cons_zero, List.set_cons_succ]
        refine rg_take (i := 5) (v := ?_) rfl (by kernel_rfl) (by kernel_rfl) (by kernel_rfl) (fun _ _ _ h => h) (Or.inl ⟨by kernel_rfl, ?_⟩) (by assumption) ?_
        rotate_left 1
        · intro w' hSw
          try dsimp only at hSw
          go_simp
          first | done | with_reducible rfl
        try simp only [Act.put, List.setIfInBounds_toArray, List.set_cons_zero, List.set_cons_succ]
        refine rg_take (i := 6) (v := ?_) rfl (by kernel_rfl) (by kernel_rfl) (by kernel_rfl) (fun _ _ _ h => h) (Or.inl ⟨by kernel_rfl, ?_⟩) (by assumption) ?_
        rotate_left 1
        · intro w' hSw
          try dsimp only at hSw
          go_simp
          first | done | with_reducible rfl
        try simp only [Act.put, List.setIfInBounds_toArray, List.set_cons_zero, List.set_cons_succ]
        refine rg_take (i := 7) (v := ?_) rfl (by kernel_rfl) (by kernel_rfl) (by kernel_rfl) (fun _ _ _ h => h) (Or.inl ⟨by kernel_rfl, ?_⟩) (by assumption) ?_
        rotate_left 1
        · intro w' hSw
          try dsimp only at hSw
          go_simp
          first | done | with_reducible rfl
        try simp only [Act.put, List.setIfInBounds_toArray, List.set_cons_zero, List.set_cons_succ]
        refine rg_take (i := 8) (v := ?_) rfl (by kernel_rfl) (by kernel_rfl) (by kernel_rfl) (fun _ _ _ h => h) (Or.inl ⟨by kernel_rfl, ?_⟩) (by assumption) ?_
        rotate_left 1
        · intro w' hSw
          try dsimp only at hSw
          go_simp
          first | done | with_reducible rfl
        try simp only [Act.put, List.setIfInBounds_toArray, List.set_cons_zero, List.set_cons_succ]
        refine rg_take (i := 9) (v := ?_) rfl (by kernel_rfl) (by kernel_rfl) (by kernel_rfl) (fun _ _ _ h => h) (Or.inl ⟨by kernel_rfl, ?_⟩) (by assumption) ?_
        rotate_left 1
        · intro w' hSw
          try dsimp only at hSw
          go_simp
          first | done | with_reducible rfl
        try simp only [Act.put, List.setIfInBounds_toArray, List.set_cons_zero, List.set_cons_succ]
        refine rg_take (i := 10) (v := ?_) rfl (by kernel_rfl) (by kernel_rfl) (by kernel_rfl) (fun _ _ _ h => h) (Or.inl ⟨by kernel_rfl, ?_⟩) (by assumption) ?_
        rotate_left 1
        · intro w' hSw
          try dsimp only at hSw
          go_simp
          first | done | with_reducible rfl
        try simp only [Act.put, List.setIfInBounds_toArray, List.set_cons_zero, List.set_cons_succ]
        refine rg_take (i := 11) (v := ?_) rfl (by kernel_rfl) (by kernel_rfl) (by kernel_rfl) (fun _ _ _ h => h) (Or.inl ⟨by kernel_rfl, ?_⟩) (by assumption) ?_
        rotate_left 1
        · intro w' hSw
          try dsimp only at hSw
          go_simp
          first | done | with_reducible rfl
        try simp only [Act.put, List.setIfInBounds_toArray, List.set_cons_zero, List.set_cons_succ]
        refine rg_take (i := 12) (v := ?_) rfl (by kernel_rfl) (by kernel_rfl) (by kernel_rfl) (fun _ _ _ h => h) (Or.inl ⟨by kernel_rfl, ?_⟩) (by assumption) ?_
        rotate_left 1
        · intro w' hSw
          try dsimp only at hSw
          go_simp
          first | done | with_reducible rfl
        try simp only [Act.put, List.setIfInBounds_toArray, List.set_cons_zero, List.set_cons_succ]
        refine rg_take (i := 13) (v := ?_) rfl (by kernel_rfl) (by kernel_rfl) (by kernel_rfl) (fun _ _ _ h => h) (Or.inl ⟨by kernel_rfl, ?_⟩) (by assumption) ?_
        rotate_left 1
        · intro w' hSw
          try dsimp only at hSw
          go_simp
          first | done | with_reducible rfl
        try simp only [Act.put, List.setIfInBounds_toArray, List.set_cons_zero, List.set_cons_succ]
        refine rg_take (i := 14) (v := ?_) rfl (by kernel_rfl) (by kernel_rfl) (by kernel_rfl) (fun _ _ _ h => h) (Or.inl ⟨by kernel_rfl, ?_⟩) (by assumption) ?_
        rotate_left 1
        · intro w' hSw
          try dsimp only at hSw
          go_simp
          first | done | with_reducible rfl
        try simp only [Act.put, List.setIfInBounds_toArray, List.set_cons_zero, List.set_cons_succ]
        refine rg_take (i := 15) (v := ?_) rfl (by kernel_rfl) (by kernel_rfl) (by kernel_rfl) (fun _ _ _ h => h) (Or.inl ⟨by kernel_rfl, ?_⟩) (by assumption) ?_
        rotate_left 1
        · intro w' hSw
          try dsimp only at hSw
          go_simp
          first | done | with_reducible rfl
        try simp only [Act.put, List.setIfInBounds_toArray, List.set_cons_zero, List.set_cons_succ]
        refine rg_take (i := 16) (v := ?_) rfl (by kernel_rfl) (by kernel_rfl) (by kernel_rfl) (fun _ _ _ h => h) (Or.inl ⟨by kernel_rfl, ?_⟩) (by assumption) ?_
        rotate_left 1
        · intro w' hSw
          try dsimp only at hSw
          go_simp
          first | done | with_reducible rfl
        try simp only [Act.put, List.setIfInBounds_toArray, List.set_cons_zero, List.set_cons_succ]
        refine rg_take (i := 17) (v := ?_) rfl (by kernel_rfl) (by kernel_rfl) (by kernel_rfl) (fun _ _ _ h => h) (Or.inl ⟨by kernel_rfl, ?_⟩) (by assumption) ?_
        rotate_left 1
        · intro w' hSw
          try dsimp only at hSw
          go_simp
          first | done | with_reducible rfl
        try simp only [Act.put, List.setIfInBounds_toArray, List.set_cons_zero, List.set_cons_succ]
        refine rg_take (i := 18) (v := ?_) rfl (by kernel_rfl) (by kernel_rfl) (by kernel_rfl) (fun _ _ _ h => h) (Or.inl ⟨by kernel_rfl, ?_⟩) (by assumption) ?_
        rotate_left 1
        · intro w' hSw
          try dsimp only at hSw
          go_simp
          first | done | with_reducible rfl
        try simp only [Act.put, List.setIfInBounds_toArray, List.set_cons_zero, List.set_cons_succ]
        refine wpAnyH_ready (rs := [19]) (by kernel_rfl) (by simp) ?_
        refine rg_cons rfl (fun K hK => ?_) AllReadyH.nil
        have a3 := H6.r2.row_cell n (fulls_get HYY.out)
        have a4 := H6.r2.row_frozen n (by have := H6.r2.row_cases; rcases this with ⟨h, _⟩ | ⟨_, _, _, _, _, _, _, h, _⟩ <;> omega)
        have H7 := (H6.r2.setCell_row n (by rw [strs_length, List.length_map, HZ.out]; exact hnl) (.string (full s))).r2
        rw [fulls_set, ← HY.out HK.out] at H7
        go_simp
        refine hK.out _ _ ⟨H7.cell 0 rfl, H7.cell 1 rfl, H7.cell 2 rfl, H7.r3.row_cell k q0, H7.r4.row_cell k q1⟩ (fun hHeld => ?_)
        clear hK a3 a4
        try simp only [Act.put, List.setIfInBounds_toArray, List.set_cons_zero, List.set_cons_succ]
        refine wpAnyH_done (by kernel_rfl) ?_ _
        go_wp2_with (fail)
        go_roundw
        case rel => exact ⟨k + 1, by omega, by go_num, H7⟩
        case measure => simp [intOf]; omega
    · obtain rfl : m = k := by omega
      have H4 := (H3.set 1 (.slice none 0 0)).set 2 (.slice none 0 0)
      have d2 := H3.cell 2 rfl
      have f1 := H3.frozen 1
      have f2 := H3.frozen 2
      obtain ⟨L, hL⟩ : ∃ L, L = lz (kb keep) d.q d.las m := ⟨_, rfl⟩
      rw [← hL] at H4
      have hfin : d.lose keep = ⟨L, [], d.left, d.keep, d.off, d.wr, d.fl⟩ := by rw [hL, HM.out]; rfl
      have hll : L.length = d.las.length := by rw [hL, lz_length]
      have HF := Lib.hid hfin; have HLL := Lib.hid hll; clear hL hfin hll H2 H3
      go_wp2_with (fail)
      go_end0
      rw [HF.out]
      exact ⟨rfl, St.shutR (A2 := none) (A3 := none) (c2 := 0) (c3 := 0) (n2 := 0) (n3 := 0) (x2 := []) (x3 := []) (by rw [HLL.out]; rfl) HLL.out.symm rfl rfl rfl rfl rfl (((((H4.ord 4 [2, 3, 0, 1]).tail.tail.nilRow 9 1).nilRow 3 1)).ord 4 [2, 3, 0, 1])⟩
end Go.Proofs.Ytmlknjgcfplnlaa

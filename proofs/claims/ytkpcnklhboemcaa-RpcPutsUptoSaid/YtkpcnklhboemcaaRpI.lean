/- Layer 3: a credential taken apart. -/
import Derived.Test.YtkpcnklhboemcaaRpH
import Derived.Test.YtkpcnklhboemcaaRpC
import Derived.Test.YtkpcnklhboemcaaSLA
import Derived.Test.YtkpcnklhboemcaaRgn
namespace Go.Proofs.Ytkpcnklhboemcaa
open Go.RowKit

theorem infoInt : (Try.prog.info? 3).map (fun i => (i.zero, i.size, i.bytes)) = some (some (.int .i64 0), 1, 8) := by kernel_rfl
def iv (x : Int) : Value := .int .i64 x
def ivs (l : List Int) : List Value := l.map iv
theorem ivs_length (l : List Int) : (ivs l).length = l.length := List.length_map ..
theorem ivs_snoc (l : List Int) (x : Int) : ivs (l ++ [x]) = ivs l ++ [.int .i64 x] := by simp [ivs, iv]
/-- so many numbers -/
def nats (r : RS) : Nat → List Int × RS
  | 0 => ([], r)
  | n + 1 => ((nats r n).1 ++ [((nats r n).2.nat 4).1], ((nats r n).2.nat 4).2)
theorem nats_len (r : RS) : ∀ n, (nats r n).1.length = n
  | 0 => rfl
  | n + 1 => by rw [nats, List.length_append, nats_len r n]; rfl
theorem nats_le (r : RS) : ∀ n, (nats r n).2.s.size ≤ r.s.size
  | 0 => Nat.le_refl _
  | n + 1 => Nat.le_trans (RS.nat_le _ 4) (nats_le r n)
/-- stamp, machine, uid, gid, groups -/
structure Cre where
  stamp : Int
  mach : ByteArray
  uid : Int
  gid : Int
  groups : List Int
def Cre.open (s : ByteArray) : Option Cre :=
  let a := (⟨s, 0⟩ : RS).nat 4
  let m := a.2.opqe 255
  let u := m.2.nat 4
  let g := u.2.nat 4
  let k := g.2.nat 4
  if 16 < k.1 then none
  else if (nats k.2 k.1.toNat).2.fin = 0 then some ⟨a.1, m.1, u.1, g.1, (nats k.2 k.1.toNat).1⟩ else none
abbrev callC (xid prog vers proc : Int) (unix : Bool) (stamp : Int) (mach : ByteArray) (uid gid : Int) (A : Option Addr) (n d : Nat) (args : ByteArray) : Array Value := #[.int .i64 xid, .int .i64 prog, .int .i64 vers, .int .i64 proc, .bool unix, .int .i64 stamp, .string mach, .int .i64 uid, .int .i64 gid, .slice A n d, .string args]
/-- how it ends -/
def COpen (w0 : World) (F : List Assn) (bc : Nat) (xid prog vers proc : Int) (o : Option Cre) (x : Ending) (w' : World) : Prop := match o with
  | none => x = .returned (.bool false) ∧ ∃ cs : Array Value, cs.size = 11 ∧ cs[0]? = some (.int .i64 xid) ∧ St w0 w' (Pt bc cs 30 :: F)
  | some k => x = .returned (.bool true) ∧ ∃ A d, St w0 w' (Pt bc (callC xid prog vers proc true k.stamp k.mach k.uid k.gid A k.groups.length d ⟨#[]⟩) 30 :: Row 3 1 A k.groups.length d (ivs k.groups) :: F)
set_option maxRecDepth 100000 in
set_option maxHeartbeats 16000000 in
theorem copen_ok (bc : Nat) (s : ByteArray) (hs : s.size ≤ 1099511627776) (xid prog vers proc : Int) {w0 w : World} {F : List Assn} (H0 : St w0 w (Pt bc (callC xid prog vers proc true 0 ⟨#[]⟩ 0 0 none 0 0 ⟨#[]⟩) 30 :: F)) :
    Calls Try.prog 47 #[.pointer (some ⟨bc, 0, none⟩), .string s] w (COpen w0 F bc xid prog vers proc (Cre.open s)) := by
  go_enter Try.func47, Try.ntmps47
  go_wp2_with (fail)
  refine (open_ok s H0).mono ?_
  rintro x w3 ⟨rb, rfl, H⟩
  clear H0
  go_wp2_with (fail)
  obtain ⟨q1, hq1⟩ : ∃ q, q = RS.nat (⟨s, 0⟩) 4 := ⟨_, rfl⟩
  have hc := uint_ok rb (⟨s, 0⟩) (by first | omega | (dsimp only; omega)) H
  have lq1 : q1.2.s.size ≤ s.size := by rw [hq1]; exact Nat.le_trans (RS.nat_le _ 4) (by first | omega | exact Nat.le_refl _)
  have nq1 := RS.nat4 (⟨s, 0⟩)
  rw [← hq1] at hc nq1
  have Eq1 := Lib.hid hq1; clear hq1
  refine hc.mono ?_
  rintro x w1 ⟨rfl, H'⟩
  clear hc H
  have H := H'
  clear H'
  have c5 := H.r2.cell 5 rfl
  have f5 := H.r2.frozen 5
  go_upto_region 3 with (fail)
  have H' := (H.r2.set 5 (.int .i64 q1.1)).r2
  generalize w1.setCell ⟨bc, 5, none⟩ (.int .i64 q1.1) = w1 at *
  clear H c5 f5
  have H := H'
  clear H'
  try dsimp only [callC, List.setIfInBounds_toArray, List.set_cons_zero, List.set_cons_succ] at H
  go_wp2_with (fail)
  obtain ⟨q2, hq2⟩ : ∃ q, q = RS.opqe q1.2 255 := ⟨_, rfl⟩
  have hc := opaque_ok rb q1.2 255 (by omega) H
  have lq2 : q2.2.s.size ≤ s.size := by rw [hq2]; exact Nat.le_trans (RS.opqe_le _ 255) lq1
  rw [← hq2] at hc
  have Eq2 := Lib.hid hq2; clear hq2
  refine hc.mono ?_
  rintro x w1 ⟨rfl, H'⟩
  clear hc H
  have H := H'
  clear H'
  have c5 := H.r2.cell 6 rfl
  have f5 := H.r2.frozen 6
  go_upto_region 4 with (fail)
  have H' := (H.r2.set 6 (.string q2.1)).r2
  generalize w1.setCell ⟨bc, 6, none⟩ (.string q2.1) = w1 at *
  clear H c5 f5
  have H := H'
  clear H'
  try dsimp only [callC, List.setIfInBounds_toArray, List.set_cons_zero, List.set_cons_succ] at H
  go_wp2_with (fail)
  obtain ⟨q3, hq3⟩ : ∃ q, q = RS.nat (q2.2) 4 := ⟨_, rfl⟩
  have hc := uint_ok rb (q2.2) (by first | omega | (dsimp only; omega)) H
  have lq3 : q3.2.s.size ≤ s.size := by rw [hq3]; exact Nat.le_trans (RS.nat_le _ 4) (by first | omega | exact Nat.le_refl _)
  have nq3 := RS.nat4 (q2.2)
  rw [← hq3] at hc nq3
  have Eq3 := Lib.hid hq3; clear hq3
  refine hc.mono ?_
  rintro x w1 ⟨rfl, H'⟩
  clear hc H
  have H := H'
  clear H'
  go_wp2_with (fail)
  obtain ⟨q4, hq4⟩ : ∃ q, q = RS.nat (q3.2) 4 := ⟨_, rfl⟩
  have hc := uint_ok rb (q3.2) (by first | omega | (dsimp only; omega)) H
  have lq4 : q4.2.s.size ≤ s.size := by rw [hq4]; exact Nat.le_trans (RS.nat_le _ 4) (by first | omega | exact Nat.le_refl _)
  have nq4 := RS.nat4 (q3.2)
  rw [← hq4] at hc nq4
  have Eq4 := Lib.hid hq4; clear hq4
  refine hc.mono ?_
  rintro x w1 ⟨rfl, H'⟩
  clear hc H
  have H := H'
  clear H'
  have c2 := H.r2.cell 7 rfl
  have f2 := H.r2.frozen 7
  have c3 := (H.r2.set 7 (.int .i64 q3.1)).cell 8 rfl
  have f3 := (H.r2.set 7 (.int .i64 q3.1)).frozen 8
  go_upto_region 5 with (fail)
  have H' := ((H.r2.set 7 (.int .i64 q3.1)).set 8 (.int .i64 q4.1)).r2
  generalize (w1.setCell ⟨bc, 7, none⟩ (.int .i64 q3.1)).setCell ⟨bc, 8, none⟩ (.int .i64 q4.1) = w1 at *
  clear H c2 f2 c3 f3
  have H := H'
  clear H'
  try dsimp only [callC, List.setIfInBounds_toArray, List.set_cons_zero, List.set_cons_succ] at H
  go_wp2_with (fail)
  obtain ⟨q5, hq5⟩ : ∃ q, q = RS.nat (q4.2) 4 := ⟨_, rfl⟩
  have hc := uint_ok rb (q4.2) (by first | omega | (dsimp only; omega)) H
  have lq5 : q5.2.s.size ≤ s.size := by rw [hq5]; exact Nat.le_trans (RS.nat_le _ 4) (by first | omega | exact Nat.le_refl _)
  have nq5 := RS.nat4 (q4.2)
  rw [← hq5] at hc nq5
  have Eq5 := Lib.hid hq5; clear hq5
  refine hc.mono ?_
  rintro x w1 ⟨rfl, H'⟩
  clear hc H
  have H := H'
  clear H'
  by_cases h1 : 16 < q5.1
  · have h1' : decide (16 < q5.1) = true := decide_eq_true h1
    have HN : Hid (Cre.open s = none) := by
      show _ = _
      unfold Cre.open
      simp only [← Eq1.out, ← Eq2.out, ← Eq3.out, ← Eq4.out, ← Eq5.out]
      rw [if_pos h1]
    go_wp2_with (fail)
    go_ret
    rw [HN.out]
    exact ⟨rfl, _, rfl, rfl, H.tail⟩
  have h1' : decide (16 < q5.1) = false := decide_eq_false h1
  obtain ⟨n, hn⟩ : ∃ n : Nat, q5.1 = n := ⟨q5.1.toNat, by omega⟩
  obtain ⟨v5, r5⟩ := q5
  dsimp only at hn
  subst hn
  dsimp only at h1 h1' lq5 nq5 H ⊢
  have hn16 : n ≤ 16 := by omega
  obtain ⟨i0, hi, hz0, hz1, hz2⟩ := info_parts infoInt
  have H' := (H.nilRow 3 1).r3.r3
  clear H
  have H := H'
  clear H'
  have hr5 : r5.s.size ≤ 1099511627776 := by omega
  go_wp2_with (fail)
  go_loopw [36] (fun i wr => ∃ k : Nat, k ≤ n ∧ i = .int .i64 k ∧ ∃ A d, St w0 wr (Pt bc (callC xid prog vers proc true q1.1 q2.1 q3.1 q4.1 A k d ⟨#[]⟩) 30 :: Row 3 1 A k d (ivs (nats r5 k).1) :: Rdr rb (nats r5 k).2 :: F)) (fun i _ => n - (intOf i).toNat)
  case atStart => exact ⟨0, Nat.zero_le _, rfl, none, 0, H.r3.r3⟩
  case round =>
    clear H
    obtain ⟨k, hk, rfl, A, d, H⟩ := hrel
    have hnl := nats_le r5 k
    by_cases hlt : k < n
    · have hkI : (k : Int) < n := by omega
      have H2 := H.drew
      go_upto_region 10 with (fail)
      refine wp_region_held_drew (S := fun _ => True) (by kernel_rfl) trivial (fun hHeld => ?_)
      generalize wr.drew = w6 at *
      clear H
      refine rg_take (i := 0) (v := ?_) rfl (by kernel_rfl) (by kernel_rfl) (by kernel_rfl) (fun _ _ _ h => h) (Or.inl ⟨by kernel_rfl, ?_⟩) (by assumption) ?_
      rotate_left 1
      · intro w' hSw
        try dsimp only at hSw
        go_simp
        first | done | with_reducible rfl
      try simp only [Act.put, List.setIfInBounds_toArray, List.set_cons_zero, List.set_cons_succ]
      refine rg_take (i := 1) (v := ?_) rfl (by kernel_rfl) (by kernel_rfl) (by kernel_rfl) (fun _ _ _ h => h) (Or.inl ⟨by kernel_rfl, ?_⟩) (by assumption) ?_
      rotate_left 1
      · intro w' hSw
        try dsimp only at hSw
        go_simp
        first | done | with_reducible rfl
      try simp only [Act.put, List.setIfInBounds_toArray, List.set_cons_zero, List.set_cons_succ]
      refine rg_take (i := 2) (v := ?_) rfl (by kernel_rfl) (by kernel_rfl) (by kernel_rfl) (fun _ _ _ h => h) (Or.inl ⟨by kernel_rfl, ?_⟩) (by assumption) ?_
      rotate_left 1
      · intro w' hSw
        try dsimp only at hSw
        go_simp
        first | done | with_reducible rfl
      try simp only [Act.put, List.setIfInBounds_toArray, List.set_cons_zero, List.set_cons_succ]
      refine rg_take (i := 3) (v := ?_) rfl (by kernel_rfl) (by kernel_rfl) (by kernel_rfl) (fun _ _ _ h => h) (Or.inl ⟨by kernel_rfl, ?_⟩) (by assumption) ?_
      rotate_left 1
      · intro w' hSw
        try dsimp only at hSw
        go_simp
        first | done | with_reducible rfl
      try simp only [Act.put, List.setIfInBounds_toArray, List.set_cons_zero, List.set_cons_succ]
      refine rg_take (i := 4) (v := ?_) rfl (by kernel_rfl) (by kernel_rfl) (by kernel_rfl) (fun _ _ _ h => h) (Or.inl ⟨by kernel_rfl, ?_⟩) (by assumption) ?_
      rotate_left 1
      · intro w' hSw
        try dsimp only at hSw
        go_simp
        first | done | with_reducible rfl
      try simp only [Act.put, List.setIfInBounds_toArray, List.set_cons_zero, List.set_cons_succ]
      refine rg_take (i := 6) (v := ?_) rfl (by kernel_rfl) (by kernel_rfl) (by kernel_rfl) (fun _ _ _ h => h) (Or.inl ⟨by kernel_rfl, ?_⟩) (by assumption) ?_
      rotate_left 1
      · intro w' hSw
        try dsimp only at hSw
        go_simp
        first | done | with_reducible rfl
      try simp only [Act.put, List.setIfInBounds_toArray, List.set_cons_zero, List.set_cons_succ]
      refine wpAnyH_ready (rs := [5, 7]) (by kernel_rfl) (by simp) ?_
      refine rg_cons rfl (fun K hK => ?_) (rg_cons rfl (fun K hK => ?_) AllReadyH.nil)
      · have p9 := (H2).cell 9 rfl
        go_simp
        refine hK.out _ _ trivial (fun _ => ?_)
        clear hK
        try simp only [Act.put, List.setIfInBounds_toArray, List.set_cons_zero, List.set_cons_succ]
        clear p9
        refine wpAnyH_ready (rs := [7]) (by kernel_rfl) (by simp) ?_
        refine rg_cons rfl (fun K hK => ?_) AllReadyH.nil
        go_simp
        refine (uint_ok rb _ (by omega) H2.r3).mono ?_
        rintro x w7 ⟨rfl, H3⟩
        refine hK.out _ _ trivial (fun _ => ?_)
        clear hK
        try simp only [Act.put, List.setIfInBounds_toArray, List.set_cons_zero, List.set_cons_succ]
        refine wpAnyH_ready (rs := [8]) (by kernel_rfl) (by simp) ?_
        refine rg_cons rfl (fun K hK => ?_) AllReadyH.nil
        have H4 := H3.more (.cells #[.int .i64 ((nats r5 k).2.nat 4).1] 3)
        have hnw : (w7.alloc (.cells #[.int .i64 ((nats r5 k).2.nat 4).1] 3)).heap[w7.heap.size]? = some (.cells #[.int .i64 ((nats r5 k).2.nat 4).1] 3) := heap_alloc_new _ _
        go_simp
        refine hK.out _ _ trivial (fun _ => ?_)
        clear hK
        try simp only [Act.put, List.setIfInBounds_toArray, List.set_cons_zero, List.set_cons_succ]
        generalize w7.heap.size = x8 at *
        generalize w7.alloc (.cells #[.int .i64 ((nats r5 k).2.nat 4).1] 3) = w8 at *
        refine wpAnyH_ready (rs := [9]) (by kernel_rfl) (by simp) ?_
        refine rg_cons rfl (fun K hK => ?_) AllReadyH.nil
        have hnws := World.news_of_block hnw
        refine step_append_st rfl _ _ _ rfl 3 i0 (.int .i64 0) 1 8 Try.underlying23 hi hz0 hz1 hz2 rfl (by decide) A k d (ivs (nats r5 k).1) H4.r3 rfl ⟨x8, 0, none⟩ 1 1 [.int .i64 ((nats r5 k).2.nat 4).1] rfl rfl hnws (fun u hu => by simp at hu; subst hu; rfl) (by unfold maxLen; omega) (by omega) ?_
        intro A5 d5 w9 H5
        rw [← ivs_snoc] at H5
        have H6 := H5.r3
        refine hK.out _ _ trivial (fun _ => ?_)
        clear hK
        try simp only [Act.put, List.setIfInBounds_toArray, List.set_cons_zero, List.set_cons_succ]
        refine rg_take (i := 10) (v := ?_) rfl (by kernel_rfl) (by kernel_rfl) (by kernel_rfl) (fun _ _ _ h => h) (Or.inl ⟨by kernel_rfl, ?_⟩) (by assumption) ?_
        rotate_left 1
        · intro w' hSw
          try dsimp only at hSw
          go_simp
          first | done | with_reducible rfl
        try simp only [Act.put, List.setIfInBounds_toArray, List.set_cons_zero, List.set_cons_succ]
        refine rg_take (i := 11) (v := ?_) rfl (by kernel_rfl) (by kernel_rfl) (by kernel_rfl) (fun _ _ _ h => h) (Or.inl ⟨by kernel_rfl, ?_⟩) (by assumption) ?_
        rotate_left 1
        · intro w' hSw
          try dsimp only at hSw
          go_simp
          first | done | with_reducible rfl
        try simp only [Act.put, List.setIfInBounds_toArray, List.set_cons_zero, List.set_cons_succ]
        refine rg_take (i := 12) (v := ?_) rfl (by kernel_rfl) (by kernel_rfl) (by kernel_rfl) (fun _ _ _ h => h) (Or.inl ⟨by kernel_rfl, ?_⟩) (by assumption) ?_
        rotate_left 1
        · intro w' hSw
          try dsimp only at hSw
          go_simp
          first | done | with_reducible rfl
        try simp only [Act.put, List.setIfInBounds_toArray, List.set_cons_zero, List.set_cons_succ]
        refine wpAnyH_ready (rs := [13]) (by kernel_rfl) (by simp) ?_
        refine rg_cons rfl (fun K hK => ?_) AllReadyH.nil
        have p9 := H6.cell 9 rfl
        have f9 := H6.frozen 9
        have H7 := H6.set 9 (.slice A5 (k + 1) d5)
        go_simp
        refine hK.out _ _ trivial (fun _ => ?_)
        clear hK
        try simp only [Act.put, List.setIfInBounds_toArray, List.set_cons_zero, List.set_cons_succ]
        refine wpAnyH_done (by kernel_rfl) ?_ _
        go_wp2_with (fail)
        go_roundw
        case rel => exact ⟨k + 1, by omega, by go_num, A5, d5, H7⟩
        case measure => simp [intOf]; omega
      · go_simp
        refine (uint_ok rb _ (by omega) H2.r3).mono ?_
        rintro x w7 ⟨rfl, H3⟩
        refine hK.out _ _ trivial (fun _ => ?_)
        clear hK
        try simp only [Act.put, List.setIfInBounds_toArray, List.set_cons_zero, List.set_cons_succ]
        refine wpAnyH_ready (rs := [5, 8]) (by kernel_rfl) (by simp) ?_
        refine rg_cons rfl (fun K hK => ?_) (rg_cons rfl (fun K hK => ?_) AllReadyH.nil)
        · have p9 := (H3.r2).cell 9 rfl
          go_simp
          refine hK.out _ _ trivial (fun _ => ?_)
          clear hK
          try simp only [Act.put, List.setIfInBounds_toArray, List.set_cons_zero, List.set_cons_succ]
          clear p9
          refine wpAnyH_ready (rs := [8]) (by kernel_rfl) (by simp) ?_
          refine rg_cons rfl (fun K hK => ?_) AllReadyH.nil
          have H4 := H3.more (.cells #[.int .i64 ((nats r5 k).2.nat 4).1] 3)
          have hnw : (w7.alloc (.cells #[.int .i64 ((nats r5 k).2.nat 4).1] 3)).heap[w7.heap.size]? = some (.cells #[.int .i64 ((nats r5 k).2.nat 4).1] 3) := heap_alloc_new _ _
          go_simp
          refine hK.out _ _ trivial (fun _ => ?_)
          clear hK
          try simp only [Act.put, List.setIfInBounds_toArray, List.set_cons_zero, List.set_cons_succ]
          generalize w7.heap.size = x8 at *
          generalize w7.alloc (.cells #[.int .i64 ((nats r5 k).2.nat 4).1] 3) = w8 at *
          refine wpAnyH_ready (rs := [9]) (by kernel_rfl) (by simp) ?_
          refine rg_cons rfl (fun K hK => ?_) AllReadyH.nil
          have hnws := World.news_of_block hnw
          refine step_append_st rfl _ _ _ rfl 3 i0 (.int .i64 0) 1 8 Try.underlying23 hi hz0 hz1 hz2 rfl (by decide) A k d (ivs (nats r5 k).1) H4.r3 rfl ⟨x8, 0, none⟩ 1 1 [.int .i64 ((nats r5 k).2.nat 4).1] rfl rfl hnws (fun u hu => by simp at hu; subst hu; rfl) (by unfold maxLen; omega) (by omega) ?_
          intro A5 d5 w9 H5
          rw [← ivs_snoc] at H5
          have H6 := H5.r3
          refine hK.out _ _ trivial (fun _ => ?_)
          clear hK
          try simp only [Act.put, List.setIfInBounds_toArray, List.set_cons_zero, List.set_cons_succ]
          refine rg_take (i := 10) (v := ?_) rfl (by kernel_rfl) (by kernel_rfl) (by kernel_rfl) (fun _ _ _ h => h) (Or.inl ⟨by kernel_rfl, ?_⟩) (by assumption) ?_
          rotate_left 1
          · intro w' hSw
            try dsimp only at hSw
            go_simp
            first | done | with_reducible rfl
          try simp only [Act.put, List.setIfInBounds_toArray, List.set_cons_zero, List.set_cons_succ]
          refine rg_take (i := 11) (v := ?_) rfl (by kernel_rfl) (by kernel_rfl) (by kernel_rfl) (fun _ _ _ h => h) (Or.inl ⟨by kernel_rfl, ?_⟩) (by assumption) ?_
          rotate_left 1
          · intro w' hSw
            try dsimp only at hSw
            go_simp
            first | done | with_reducible rfl
          try simp only [Act.put, List.setIfInBounds_toArray, List.set_cons_zero, List.set_cons_succ]
          refine rg_take (i := 12) (v := ?_) rfl (by kernel_rfl) (by kernel_rfl) (by kernel_rfl) (fun _ _ _ h => h) (Or.inl ⟨by kernel_rfl, ?_⟩) (by assumption) ?_
          rotate_left 1
          · intro w' hSw
            try dsimp only at hSw
            go_simp
            first | done | with_reducible rfl
          try simp only [Act.put, List.setIfInBounds_toArray, List.set_cons_zero, List.set_cons_succ]
          refine wpAnyH_ready (rs := [13]) (by kernel_rfl) (by simp) ?_
          refine rg_cons rfl (fun K hK => ?_) AllReadyH.nil
          have p9 := H6.cell 9 rfl
          have f9 := H6.frozen 9
          have H7 := H6.set 9 (.slice A5 (k + 1) d5)
          go_simp
          refine hK.out _ _ trivial (fun _ => ?_)
          clear hK
          try simp only [Act.put, List.setIfInBounds_toArray, List.set_cons_zero, List.set_cons_succ]
          refine wpAnyH_done (by kernel_rfl) ?_ _
          go_wp2_with (fail)
          go_roundw
          case rel => exact ⟨k + 1, by omega, by go_num, A5, d5, H7⟩
          case measure => simp [intOf]; omega
        · have H4 := H3.more (.cells #[.int .i64 ((nats r5 k).2.nat 4).1] 3)
          have hnw : (w7.alloc (.cells #[.int .i64 ((nats r5 k).2.nat 4).1] 3)).heap[w7.heap.size]? = some (.cells #[.int .i64 ((nats r5 k).2.nat 4).1] 3) := heap_alloc_new _ _
          go_simp
          refine hK.out _ _ trivial (fun _ => ?_)
          clear hK
          try simp only [Act.put, List.setIfInBounds_toArray, List.set_cons_zero, List.set_cons_succ]
          generalize w7.heap.size = x8 at *
          generalize w7.alloc (.cells #[.int .i64 ((nats r5 k).2.nat 4).1] 3) = w8 at *
          refine wpAnyH_ready (rs := [5]) (by kernel_rfl) (by simp) ?_
          refine rg_cons rfl (fun K hK => ?_) AllReadyH.nil
          have p9 := (H4.r2).cell 9 rfl
          go_simp
          refine hK.out _ _ trivial (fun _ => ?_)
          clear hK
          try simp only [Act.put, List.setIfInBounds_toArray, List.set_cons_zero, List.set_cons_succ]
          clear p9
          refine wpAnyH_ready (rs := [9]) (by kernel_rfl) (by simp) ?_
          refine rg_cons rfl (fun K hK => ?_) AllReadyH.nil
          have hnws := World.news_of_block hnw
          refine step_append_st rfl _ _ _ rfl 3 i0 (.int .i64 0) 1 8 Try.underlying23 hi hz0 hz1 hz2 rfl (by decide) A k d (ivs (nats r5 k).1) H4.r3 rfl ⟨x8, 0, none⟩ 1 1 [.int .i64 ((nats r5 k).2.nat 4).1] rfl rfl hnws (fun u hu => by simp at hu; subst hu; rfl) (by unfold maxLen; omega) (by omega) ?_
          intro A5 d5 w9 H5
          rw [← ivs_snoc] at H5
          have H6 := H5.r3
          refine hK.out _ _ trivial (fun _ => ?_)
          clear hK
          try simp only [Act.put, List.setIfInBounds_toArray, List.set_cons_zero, List.set_cons_succ]
          refine rg_take (i := 10) (v := ?_) rfl (by kernel_rfl) (by kernel_rfl) (by kernel_rfl) (fun _ _ _ h => h) (Or.inl ⟨by kernel_rfl, ?_⟩) (by assumption) ?_
          rotate_left 1
          · intro w' hSw
            try dsimp only at hSw
            go_simp
            first | done | with_reducible rfl
          try simp only [Act.put, List.setIfInBounds_toArray, List.set_cons_zero, List.set_cons_succ]
          refine rg_take (i := 11) (v := ?_) rfl (by kernel_rfl) (by kernel_rfl) (by kernel_rfl) (fun _ _ _ h => h) (Or.inl ⟨by kernel_rfl, ?_⟩) (by assumption) ?_
          rotate_left 1
          · intro w' hSw
            try dsimp only at hSw
            go_simp
            first | done | with_reducible rfl
          try simp only [Act.put, List.setIfInBounds_toArray, List.set_cons_zero, List.set_cons_succ]
          refine rg_take (i := 12) (v := ?_) rfl (by kernel_rfl) (by kernel_rfl) (by kernel_rfl) (fun _ _ _ h => h) (Or.inl ⟨by kernel_rfl, ?_⟩) (by assumption) ?_
          rotate_left 1
          · intro w' hSw
            try dsimp only at hSw
            go_simp
            first | done | with_reducible rfl
          try simp only [Act.put, List.setIfInBounds_toArray, List.set_cons_zero, List.set_cons_succ]
          refine wpAnyH_ready (rs := [13]) (by kernel_rfl) (by simp) ?_
          refine rg_cons rfl (fun K hK => ?_) AllReadyH.nil
          have p9 := H6.cell 9 rfl
          have f9 := H6.frozen 9
          have H7 := H6.set 9 (.slice A5 (k + 1) d5)
          go_simp
          refine hK.out _ _ trivial (fun _ => ?_)
          clear hK
          try simp only [Act.put, List.setIfInBounds_toArray, List.set_cons_zero, List.set_cons_succ]
          refine wpAnyH_done (by kernel_rfl) ?_ _
          go_wp2_with (fail)
          go_roundw
          case rel => exact ⟨k + 1, by omega, by go_num, A5, d5, H7⟩
          case measure => simp [intOf]; omega
    · obtain rfl : n = k := by omega
      go_wp2_with (fail)
      refine (end_ok _ _ H.r3).mono ?_
      rintro x w7 ⟨rfl, rfl⟩
      by_cases hf : (nats r5 n).2.fin = 0
      · have hf' : ((nats r5 n).2.fin == 0) = true := beq_iff_eq.2 hf
        have HN : Hid (Cre.open s = some ⟨q1.1, q2.1, q3.1, q4.1, (nats r5 n).1⟩) := by
          show _ = _
          unfold Cre.open
          simp only [← Eq1.out, ← Eq2.out, ← Eq3.out, ← Eq4.out, ← Eq5.out]
          rw [if_neg (by omega), Int.toNat_natCast, if_pos hf]
        clear hf
        go_wp2_with (fail)
        go_ret
        rw [HN.out]
        refine ⟨rfl, A, d, ?_⟩
        dsimp only
        rw [nats_len]
        exact H.r3.tail
      · have hf' : ((nats r5 n).2.fin == 0) = false := beq_eq_false_iff_ne.2 hf
        have HN : Hid (Cre.open s = none) := by
          show _ = _
          unfold Cre.open
          simp only [← Eq1.out, ← Eq2.out, ← Eq3.out, ← Eq4.out, ← Eq5.out]
          rw [if_neg (by omega), Int.toNat_natCast, if_neg hf]
        clear hf
        go_wp2_with (fail)
        go_ret
        rw [HN.out]
        exact ⟨rfl, _, rfl, rfl, H.r2.tail.r2.tail⟩
end Go.Proofs.Ytkpcnklhboemcaa

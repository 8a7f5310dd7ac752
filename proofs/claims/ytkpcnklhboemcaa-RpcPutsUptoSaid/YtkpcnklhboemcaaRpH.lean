/- Layer 3: calls as bytes, walked. -/
import Derived.Test.YtkpcnklhboemcaaRpG
namespace Go.Proofs.Ytkpcnklhboemcaa
open Go.RowKit

def wl (l : List Int) : List UInt8 := l.flatMap (be · 4)
theorem wl_snoc (l : List Int) (x : Int) : wl (l ++ [x]) = wl l ++ be x 4 := by simp [wl]
theorem wl_take {l : List Int} {k : Nat} {x : Int} (h : l[k]? = some x) : wl (l.take (k + 1)) = wl (l.take k) ++ be x 4 := by
  rw [List.take_add_one, h]; exact wl_snoc _ _
theorem wl_len (l : List Int) : (wl l).length = 4 * l.length := by
  induction l with
  | nil => rfl
  | cons x l ih => simp only [wl, List.flatMap_cons, List.length_append, be_length, List.length_cons] at *; omega
theorem wl_len_take (l : List Int) (k n : Nat) (h : l.length ≤ n) : (wl (l.take k)).length ≤ 4 * n := by
  rw [wl_len, List.length_take]; omega
def Cal.credB (c : Cal) : List UInt8 := be c.stamp 4 ++ opaq (bl c.mach) ++ be c.uid 4 ++ be c.gid 4 ++ be c.groups.length 4 ++ wl c.groups
def Cal.head (c : Cal) : List UInt8 := be c.xid 4 ++ be 0 4 ++ be 2 4 ++ be c.prog 4 ++ be c.vers 4 ++ be c.proc 4 ++ (if c.unix then be 1 4 ++ opaq c.credB else be 0 4 ++ opaq []) ++ be 0 4 ++ opaq []
def Cal.put (c : Cal) : ByteArray × Int := if c.good then (if c.args.size % 4 = 0 ∧ c.head.length + c.args.size ≤ 65536 then (mkb c.head ++ c.args, 0) else (ByteArray.empty, 2)) else (ByteArray.empty, 4)
theorem opaq_len' (l : List UInt8) : (opaq l).length ≤ l.length + 7 := by
  rw [opaq, List.length_append, be_length, fixed, List.length_append, zeros, List.length_replicate]; unfold padn; omega
theorem Cal.credB_len (c : Cal) (h1 : c.mach.size ≤ 255) (h2 : c.groups.length ≤ 16) : c.credB.length ≤ 400 := by
  have := opaq_len' (bl c.mach)
  rw [bl_length] at this
  simp only [Cal.credB, List.length_append, be_length, wl_len]; omega
set_option maxRecDepth 100000 in
set_option maxHeartbeats 8000000 in
theorem cred_ok (c : Cal) (A : Option Addr) (d : Nat) (h1 : c.mach.size ≤ 255) (h2 : c.groups.length ≤ 16) (w : World) (hr : Rd w A c.groups) :
    Calls Try.prog 23 #[.agg (c.cells A d)] w fun x w' => x = .returned (.string (mkb c.credB)) ∧ St w w' [] := by
  obtain ⟨xid, prog, vers, proc, unix, stamp, mach, uid, gid, groups, args⟩ := c
  dsimp only at h1 h2 hr
  obtain ⟨res, hres⟩ : ∃ x, x = Cal.credB ⟨xid, prog, vers, proc, unix, stamp, mach, uid, gid, groups, args⟩ := ⟨_, rfl⟩
  rw [← hres]
  have HR := Lib.hid hres; clear hres
  dsimp only [Cal.cells] at *
  obtain ⟨n, hl⟩ : ∃ n, groups.length = n := ⟨_, rfl⟩
  rw [hl] at h2 ⊢
  have HL := Lib.hid hl; have RA := Lib.hid hr; clear hl hr
  have H1 := ((St.init w).alloc #[.int .i64 xid, .int .i64 prog, .int .i64 vers, .int .i64 proc, .bool unix, .int .i64 stamp, .string mach, .int .i64 uid, .int .i64 gid, .slice A n d, .string args] 30)
  have H := (H1.alloc #[.slice none 0 0] 62).newWr
  simp only [World.size_alloc] at H
  obtain ⟨b1, hb1⟩ : ∃ b, b = w.heap.size := ⟨_, rfl⟩
  obtain ⟨b3, hb3⟩ : ∃ b, b = w.heap.size + 1 := ⟨_, rfl⟩
  go_enter Try.func23, Try.ntmps23
  go_upto_region 2 with (fail)
  rw [← hb3] at H ⊢
  rw [← hb1] at H ⊢
  generalize (w.alloc (.cells #[.int .i64 xid, .int .i64 prog, .int .i64 vers, .int .i64 proc, .bool unix, .int .i64 stamp, .string mach, .int .i64 uid, .int .i64 gid, .slice A n d, .string args] 30)).alloc (.cells #[.slice none 0 0] 62) = w1 at *
  clear H1 hb1 hb3
  have ol := opaq_len' (bl mach)
  rw [bl_length] at ol
  have c5 := H.r2.cell 5 rfl
  go_wp2_with (fail)
  refine (wuint_ok _ _ mk_one _ _ _ (by simp only [List.length_append, be_length, List.length_nil, opaq0_len]; omega) H).mono ?_
  rintro x w1 ⟨rfl, H'⟩
  clear H
  have H := H'
  clear H'
  clear c5
  have c6 := H.r2.cell 6 rfl
  go_wp2_with (fail)
  refine (wopaque_ok _ _ mk_one _ _ _ (by simp only [List.length_append, be_length, List.length_nil, opaq0_len]; omega) (by omega) H).mono ?_
  rintro x w1 ⟨rfl, H'⟩
  clear H c6
  have H := H'
  clear H'
  have c7 := H.r2.cell 7 rfl
  go_wp2_with (fail)
  refine (wuint_ok _ _ mk_one _ _ _ (by simp only [List.length_append, be_length, List.length_nil, opaq0_len]; omega) H).mono ?_
  rintro x w1 ⟨rfl, H'⟩
  clear H
  have H := H'
  clear H'
  clear c7
  have c8 := H.r2.cell 8 rfl
  go_wp2_with (fail)
  refine (wuint_ok _ _ mk_one _ _ _ (by simp only [List.length_append, be_length, List.length_nil, opaq0_len]; omega) H).mono ?_
  rintro x w1 ⟨rfl, H'⟩
  clear H
  have H := H'
  clear H'
  clear c8
  have c9 := H.r2.cell 9 rfl
  go_wp2_with (fail)
  refine (wuint_ok _ _ mk_one _ _ _ (by simp only [List.length_append, be_length, List.length_nil, opaq0_len]; omega) H).mono ?_
  rintro x w1 ⟨rfl, H'⟩
  clear H
  have H := H'
  clear H'
  clear c9
  have c9 := H.r2.cell 9 rfl
  have HC := Lib.hid (show Cal.credB ⟨xid, prog, vers, proc, unix, stamp, mach, uid, gid, groups, args⟩ = ([] ++ be stamp 4 ++ opaq (bl mach) ++ be uid 4 ++ be gid 4 ++ be n 4) ++ wl groups from by rw [← HL.out]; rfl)
  have hlen : ([] ++ be stamp 4 ++ opaq (bl mach) ++ be uid 4 ++ be gid 4 ++ be n 4).length ≤ 300 := by simp only [List.length_append, be_length, List.length_nil]; omega
  generalize [] ++ be stamp 4 ++ opaq (bl mach) ++ be uid 4 ++ be gid 4 ++ be n 4 = L0 at *
  go_wp2_with (fail)
  clear c9
  go_loopw [5, 29] (fun _ i wr => ∃ k : Nat, k ≤ n ∧ i = .int .i64 k ∧ St w wr [Wr b3 one 62 (L0 ++ wl (groups.take k)), Pt b1 #[.int .i64 xid, .int .i64 prog, .int .i64 vers, .int .i64 proc, .bool unix, .int .i64 stamp, .string mach, .int .i64 uid, .int .i64 gid, .slice A n d, .string args] 30]) (fun _ i _ => n - (intOf i).toNat)
  case atStart => exact ⟨0, Nat.zero_le _, rfl, by simpa [wl] using H⟩
  case round =>
    clear H
    obtain ⟨k, hk, rfl, H⟩ := hrel
    have hwl := wl_len_take groups k n (by rw [HL.out]; exact Nat.le_refl _)
    by_cases hlt : k < n
    · obtain ⟨x, hx⟩ : ∃ x, groups[k]? = some x := ⟨_, List.getElem?_eq_getElem (by rw [HL.out]; exact hlt)⟩
      obtain ⟨ba, oa, hA, ca⟩ := RA.out.keep H k x hx
      subst hA
      have hkI : (k : Int) < n := by omega
      have hT := wl_take hx
      have HT := Lib.hid hT; clear hT hx
      go_wp2_with (fail)
      refine (wuint_ok _ _ mk_one _ _ _ (by rw [List.length_append]; omega) H).mono ?_
      rintro x w1 ⟨rfl, H'⟩
      rw [List.append_assoc, ← HT.out] at H'
      go_wp2_with (fail)
      go_roundw
      case rel => exact ⟨k + 1, by omega, by go_num, H'⟩
      case measure => simp [intOf]; omega
    · obtain rfl : n = k := by omega
      rw [List.take_of_length_le (by rw [HL.out]; exact Nat.le_refl _)] at H
      rw [← HC.out, ← HR.out] at H
      go_wp2_with (fail)
      refine (bytes_ok _ _ mk_one _ _ H).mono ?_
      rintro x w1 ⟨rfl, rfl⟩
      go_wp2_with (fail)
      go_ret
      exact ⟨rfl, H.tail.tail⟩

theorem Cal.put_bad {c : Cal} (h : ¬ c.good) : c.put = (ByteArray.empty, 4) := by unfold Cal.put; rw [if_neg h]
theorem Cal.put_ok {c : Cal} (h : c.good) (h2 : c.args.size % 4 = 0 ∧ c.head.length + c.args.size ≤ 65536) : c.put = (mkb c.head ++ c.args, 0) := by unfold Cal.put; rw [if_pos h, if_pos h2]
theorem Cal.put_long {c : Cal} (h : c.good) (h2 : ¬ (c.args.size % 4 = 0 ∧ c.head.length + c.args.size ≤ 65536)) : c.put = (ByteArray.empty, 2) := by unfold Cal.put; rw [if_pos h, if_neg h2]
abbrev six (c : Cal) : List Int := [c.xid, 0, 2, c.prog, c.vers, c.proc]
set_option maxRecDepth 100000 in
set_option maxHeartbeats 16000000 in
theorem putcall_ok (c : Cal) (A : Option Addr) (d : Nat) (hn : c.groups.length ≤ 1099511627776) (ha : c.args.size ≤ 1099511627776) (w : World) (hr : Rd w A c.groups) :
    Calls Try.prog 11 #[.agg (c.cells A d)] w fun x w' => x = .returned (.tuple #[.string c.put.1, .int .i64 c.put.2]) ∧ St w w' [] := by
  have hgd := fun w' (K : St w w' []) => good_ok c A d hn w' (hr.keep K)
  have hcr := fun (h : c.good) w' (K : St w w' []) => cred_ok c A d h.2.1.1 h.2.1.2 w' (hr.keep K)
  have hcl := fun (h : c.good) => Cal.credB_len c h.2.1.1 h.2.1.2
  obtain ⟨xid, prog, vers, proc, unix, stamp, mach, uid, gid, groups, args⟩ := c
  dsimp only at hn ha
  obtain ⟨res, hres⟩ : ∃ x, x = Cal.put ⟨xid, prog, vers, proc, unix, stamp, mach, uid, gid, groups, args⟩ := ⟨_, rfl⟩
  rw [← hres]
  have HR := Lib.hid hres; have HGD := Lib.hid hgd; have HCR := Lib.hid hcr; have HCL := Lib.hid hcl; clear hres hgd hcr hr hcl
  dsimp only [Cal.cells]
  obtain ⟨n, hl⟩ : ∃ n, groups.length = n := ⟨_, rfl⟩
  rw [hl] at hn ⊢
  have HL := Lib.hid hl; clear hl
  have H := ((St.init w).alloc #[.int .i64 xid, .int .i64 prog, .int .i64 vers, .int .i64 proc, .bool unix, .int .i64 stamp, .string mach, .int .i64 uid, .int .i64 gid, .slice A n d, .string args] 30)
  obtain ⟨b1, hb1⟩ : ∃ b, b = w.heap.size := ⟨_, rfl⟩
  go_enter Try.func11, Try.ntmps11
  go_upto_region 1 with (fail)
  rw [← hb1] at H ⊢
  generalize w.alloc (.cells #[.int .i64 xid, .int .i64 prog, .int .i64 vers, .int .i64 proc, .bool unix, .int .i64 stamp, .string mach, .int .i64 uid, .int .i64 gid, .slice A n d, .string args] 30) = w1 at *
  clear hb1
  have p0 := (H).cell 0 rfl
  have p1 := (H).cell 1 rfl
  have p2 := (H).cell 2 rfl
  have p3 := (H).cell 3 rfl
  have p4 := (H).cell 4 rfl
  have p5 := (H).cell 5 rfl
  have p6 := (H).cell 6 rfl
  have p7 := (H).cell 7 rfl
  have p8 := (H).cell 8 rfl
  have p9 := (H).cell 9 rfl
  have p10 := (H).cell 10 rfl
  go_wp2_with (fail)
  have hc := HGD.out _ H.tail
  dsimp only [Cal.cells] at hc
  rw [HL.out] at hc
  refine hc.mono ?_
  rintro x w2 ⟨rfl, K⟩
  have H' := H.frame K
  rw [List.nil_append] at H'
  clear hc K
  clear p0 p1 p2 p3 p4 p5 p6 p7 p8 p9 p10
  clear H
  have H := H'
  clear H'
  by_cases hg : Cal.good ⟨xid, prog, vers, proc, unix, stamp, mach, uid, gid, groups, args⟩
  rotate_left 1
  · rw [decide_eq_false hg]
    go_wp2_with (fail)
    go_ret2
    exact ⟨by rw [HR.out, Cal.put_bad hg]; rfl, H.tail⟩
  rw [decide_eq_true hg]
  have HG := Lib.hid hg; clear hg
  go_upto_region 4 with (fail)
  have H' := (H.alloc #[.slice none 0 0] 62).newWr
  obtain ⟨bw, hbw⟩ : ∃ b, b = w2.heap.size := ⟨_, rfl⟩
  rw [← hbw] at H' ⊢
  generalize w2.alloc (.cells #[.slice none 0 0] 62) = w1 at *
  clear hbw
  clear H
  have H := H'
  clear H'
  have p0 := (H.r2).cell 0 rfl
  have p1 := (H.r2).cell 1 rfl
  have p2 := (H.r2).cell 2 rfl
  have p3 := (H.r2).cell 3 rfl
  have p4 := (H.r2).cell 4 rfl
  have p5 := (H.r2).cell 5 rfl
  have p6 := (H.r2).cell 6 rfl
  have p7 := (H.r2).cell 7 rfl
  have p8 := (H.r2).cell 8 rfl
  have p9 := (H.r2).cell 9 rfl
  have p10 := (H.r2).cell 10 rfl
  have H' := H.alloc #[.int .i64 xid, .int .i64 0, .int .i64 2, .int .i64 prog, .int .i64 vers, .int .i64 proc] 3
  obtain ⟨bs, hbs⟩ : ∃ b, b = w1.heap.size := ⟨_, rfl⟩
  go_upto_region 5 with (fail)
  rw [← hbs] at H' ⊢
  generalize w1.alloc (.cells #[.int .i64 xid, .int .i64 0, .int .i64 2, .int .i64 prog, .int .i64 vers, .int .i64 proc] 3) = w1 at *
  clear hbs
  clear p0 p1 p2 p3 p4 p5 p6 p7 p8 p9 p10
  clear H
  have H := H'
  clear H'
  rw [show #[.int .i64 xid, .int .i64 0, .int .i64 2, .int .i64 prog, .int .i64 vers, .int .i64 proc] = ([xid, 0, 2, prog, vers, proc].map (Value.int .i64 ·)).toArray from rfl] at H
  obtain ⟨six, hsix⟩ : ∃ s, s = [xid, 0, 2, prog, vers, proc] := ⟨_, rfl⟩
  rw [← hsix] at H
  have hs6 : six.length = 6 := by rw [hsix]; rfl
  have HS6 := Lib.hid hsix; have HL6 := Lib.hid hs6; clear hsix hs6
  go_loopw [6, 21] (fun _ i wr => ∃ k : Nat, k ≤ 6 ∧ i = .int .i64 k ∧ St w wr [Pt bs (six.map (Value.int .i64 ·)).toArray 3, Wr bw one 62 (wl (six.take k)), Pt b1 #[.int .i64 xid, .int .i64 prog, .int .i64 vers, .int .i64 proc, .bool unix, .int .i64 stamp, .string mach, .int .i64 uid, .int .i64 gid, .slice A n d, .string args] 30]) (fun _ i _ => 6 - (intOf i).toNat)
  case atStart => exact ⟨0, Nat.zero_le _, rfl, H⟩
  case round =>
    clear H
    obtain ⟨k, hk, rfl, H⟩ := hrel
    by_cases hlt : k < 6
    · obtain ⟨x, hx⟩ : ∃ x, six[k]? = some x := ⟨_, List.getElem?_eq_getElem (by rw [HL6.out]; exact hlt)⟩
      have cx := H.cell k (v := .int .i64 x) (by simp [hx])
      have hwl := wl_len_take six k 6 (by rw [HL6.out]; exact Nat.le_refl _)
      have hkI : (k : Int) < 6 := by omega
      have hT := wl_take hx
      have HT := Lib.hid hT; clear hT hx
      go_wp2_with (fail)
      refine (wuint_ok _ _ mk_one _ _ _ (by omega) H.r2).mono ?_
      rintro x w1 ⟨rfl, H'⟩
      rw [← HT.out] at H'
      go_wp2_with (fail)
      go_roundw
      case rel => exact ⟨k + 1, by omega, by go_num, H'.r2⟩
      case measure => simp [intOf]; omega
    · obtain rfl : k = 6 := by omega
      rw [List.take_of_length_le (by rw [HL6.out]; exact Nat.le_refl _), HS6.out] at H
      have H' := H.tail
      clear H
      have H := H'
      clear H'
      clear HS6 HL6
      have p4 := H.r2.cell 4 rfl
      cases unix
      · go_wp2_with (fail)
        refine (wuint_ok _ _ mk_one _ _ _ (by simp only [List.length_append, be_length, List.length_nil, List.length_cons, opaq0_len, wl_len]; omega) H).mono ?_
        rintro x w1 ⟨rfl, H'⟩
        clear H
        have H := H'
        clear H'
        go_wp2_with (fail)
        refine (wopaque_ok _ _ mk_one _ _ _ (by simp only [List.length_append, be_length, List.length_nil, List.length_cons, opaq0_len, wl_len]; omega) (by decide) H).mono ?_
        rintro x w1 ⟨rfl, H'⟩
        clear H
        have H := H'
        clear H'
        go_wp2_with (fail)
        refine (wuint_ok _ _ mk_one _ _ _ (by simp only [List.length_append, be_length, List.length_nil, List.length_cons, opaq0_len, wl_len]; omega) H).mono ?_
        rintro x w1 ⟨rfl, H'⟩
        clear H
        have H := H'
        clear H'
        go_wp2_with (fail)
        refine (wopaque_ok _ _ mk_one _ _ _ (by simp only [List.length_append, be_length, List.length_nil, List.length_cons, opaq0_len, wl_len]; omega) (by decide) H).mono ?_
        rintro x w1 ⟨rfl, H'⟩
        clear H
        have H := H'
        clear H'
        go_wp2_with (fail)
        obtain ⟨L, hL, H2⟩ := H.named
        have hh : L = Cal.head ⟨xid, prog, vers, proc, false, stamp, mach, uid, gid, groups, args⟩ := by rw [hL]; simp [Cal.head, wl, List.append_assoc, bl]
        have hLl : L.length ≤ 500 := by rw [hL]; simp only [List.length_append, be_length, List.length_nil, opaq0_len, wl_len, List.length_cons]; omega
        obtain ⟨S, hS⟩ : ∃ S, S = mkb L := ⟨_, rfl⟩
        have hS1 : S.size ≤ 500 := by rw [hS, mkb_size]; exact hLl
        have hS2 : S.size = (Cal.head ⟨xid, prog, vers, proc, false, stamp, mach, uid, gid, groups, args⟩).length := by rw [hS, mkb_size, hh]
        have hbb := bytes_ok _ _ mk_one _ _ H2
        rw [← hS] at hbb
        have HS := Lib.hid hS; have HH := Lib.hid hh; have HS2 := Lib.hid hS2; clear hS hh hS2 hL hLl
        refine hbb.mono ?_
        rintro x w2 ⟨rfl, rfl⟩
        clear hbb
        have p10 := H.r2.cell 10 rfl
        by_cases h4 : args.size % 4 = 0
        · have h4' : ((args.size : Int) % 4 == 0) = true := by simp; omega
          by_cases h5 : S.size + args.size ≤ 65536
          · have h5' : decide ((args.size : Int) ≤ 65536 - S.size) = true := decide_eq_true (by omega)
            go_wp2_with (fail)
            go_ret2
            exact ⟨by rw [HR.out, Cal.put_ok HG.out ⟨h4, by rw [← HS2.out]; exact h5⟩, ← HH.out, ← HS.out]; rfl, H.tail.tail⟩
          · have h5' : decide ((args.size : Int) ≤ 65536 - S.size) = false := decide_eq_false (by omega)
            go_wp2_with (fail)
            go_ret2
            exact ⟨by rw [HR.out, Cal.put_long HG.out (by rw [← HS2.out]; exact fun h => h5 h.2)]; rfl, H.tail.tail⟩
        · have h4' : ((args.size : Int) % 4 == 0) = false := by simp; omega
          go_wp2_with (fail)
          go_ret2
          exact ⟨by rw [HR.out, Cal.put_long HG.out (fun h => h4 h.1)]; rfl, H.tail.tail⟩
      · go_wp2_with (fail)
        refine (wuint_ok _ _ mk_one _ _ _ (by simp only [List.length_append, be_length, List.length_nil, List.length_cons, opaq0_len, wl_len]; omega) H).mono ?_
        rintro x w1 ⟨rfl, H'⟩
        clear H
        have H := H'
        clear H'
        clear p4
        have p0 := (H.r2).cell 0 rfl
        have p1 := (H.r2).cell 1 rfl
        have p2 := (H.r2).cell 2 rfl
        have p3 := (H.r2).cell 3 rfl
        have p4 := (H.r2).cell 4 rfl
        have p5 := (H.r2).cell 5 rfl
        have p6 := (H.r2).cell 6 rfl
        have p7 := (H.r2).cell 7 rfl
        have p8 := (H.r2).cell 8 rfl
        have p9 := (H.r2).cell 9 rfl
        have p10 := (H.r2).cell 10 rfl
        go_wp2_with (fail)
        have hc := HCR.out HG.out _ H.tail.tail
        dsimp only [Cal.cells] at hc
        rw [HL.out] at hc
        have hcl := HCL.out HG.out
        obtain ⟨C, hC⟩ : ∃ C, C = Cal.credB ⟨xid, prog, vers, proc, true, stamp, mach, uid, gid, groups, args⟩ := ⟨_, rfl⟩
        rw [← hC] at hc hcl
        have HC := Lib.hid hC; clear hC
        refine hc.mono ?_
        rintro x w2 ⟨rfl, K⟩
        have H' := H.frame K
        rw [List.nil_append] at H'
        clear hc K
        clear p0 p1 p2 p3 p4 p5 p6 p7 p8 p9 p10
        clear H
        have H := H'
        clear H'
        have ol := opaq_len' C
        go_wp2_with (fail)
        refine (wopaque_ok _ _ mk_one _ _ _ (by simp only [List.length_append, be_length, List.length_nil, wl_len, List.length_cons]; omega) (by rw [mkb_size]; omega) H).mono ?_
        rintro x w1 ⟨rfl, H'⟩
        rw [bl_mkb] at H'
        clear H
        have H := H'
        clear H'
        go_wp2_with (fail)
        refine (wuint_ok _ _ mk_one _ _ _ (by simp only [List.length_append, be_length, List.length_nil, List.length_cons, opaq0_len, wl_len]; omega) H).mono ?_
        rintro x w1 ⟨rfl, H'⟩
        clear H
        have H := H'
        clear H'
        go_wp2_with (fail)
        refine (wopaque_ok _ _ mk_one _ _ _ (by simp only [List.length_append, be_length, List.length_nil, List.length_cons, opaq0_len, wl_len]; omega) (by decide) H).mono ?_
        rintro x w1 ⟨rfl, H'⟩
        clear H
        have H := H'
        clear H'
        go_wp2_with (fail)
        obtain ⟨L, hL, H2⟩ := H.named
        have hh : L = Cal.head ⟨xid, prog, vers, proc, true, stamp, mach, uid, gid, groups, args⟩ := by rw [hL]; simp [Cal.head, wl, List.append_assoc, HC.out, bl]
        have hLl : L.length ≤ 500 := by rw [hL]; simp only [List.length_append, be_length, List.length_nil, opaq0_len, wl_len, List.length_cons]; omega
        obtain ⟨S, hS⟩ : ∃ S, S = mkb L := ⟨_, rfl⟩
        have hS1 : S.size ≤ 500 := by rw [hS, mkb_size]; exact hLl
        have hS2 : S.size = (Cal.head ⟨xid, prog, vers, proc, true, stamp, mach, uid, gid, groups, args⟩).length := by rw [hS, mkb_size, hh]
        have hbb := bytes_ok _ _ mk_one _ _ H2
        rw [← hS] at hbb
        have HS := Lib.hid hS; have HH := Lib.hid hh; have HS2 := Lib.hid hS2; clear hS hh hS2 hL hLl
        refine hbb.mono ?_
        rintro x w2 ⟨rfl, rfl⟩
        clear hbb
        have p10 := H.r2.cell 10 rfl
        by_cases h4 : args.size % 4 = 0
        · have h4' : ((args.size : Int) % 4 == 0) = true := by simp; omega
          by_cases h5 : S.size + args.size ≤ 65536
          · have h5' : decide ((args.size : Int) ≤ 65536 - S.size) = true := decide_eq_true (by omega)
            go_wp2_with (fail)
            go_ret2
            exact ⟨by rw [HR.out, Cal.put_ok HG.out ⟨h4, by rw [← HS2.out]; exact h5⟩, ← HH.out, ← HS.out]; rfl, H.tail.tail⟩
          · have h5' : decide ((args.size : Int) ≤ 65536 - S.size) = false := decide_eq_false (by omega)
            go_wp2_with (fail)
            go_ret2
            exact ⟨by rw [HR.out, Cal.put_long HG.out (by rw [← HS2.out]; exact fun h => h5 h.2)]; rfl, H.tail.tail⟩
        · have h4' : ((args.size : Int) % 4 == 0) = false := by simp; omega
          go_wp2_with (fail)
          go_ret2
          exact ⟨by rw [HR.out, Cal.put_long HG.out (fun h => h4 h.1)]; rfl, H.tail.tail⟩
end Go.Proofs.Ytkpcnklhboemcaa

/- Layer 2: a value is laid. -/
import Derived.Test.YtkkpcjpdpjpohaaSmN
import Derived.Test.YtkkpcjpdpjpohaaSmX
namespace Go.Proofs.Ytkkpcjpdpjpohaa
open Go.RowKit

/-- a layer that has laid the bytes B, of which it holds what is not too long -/
def LyS (w0 w : World) (F : List Assn) (b : Nat) (p : LP) (ni ti : Nat) (B : List UInt8) : Prop :=
  ∃ W, (B.length ≤ 65536 → W = B) ∧ W.length ≤ 65536 ∧ St w0 w (Lyr b p ni ti B.length W :: F)
def LayE (w0 : World) (F : List Assn) (b : Nat) (p : LP) (B : List UInt8) (o : LR) (x : Ending) (w' : World) : Prop := match o with
  | .error e => x = pan e ∧ ∃ ni ti B', LyS w0 w' F b p ni ti B'
  | .ok r => x = .returned (.tuple #[]) ∧ ∃ ni ti, r.2 = (p.N.drop ni, p.T.drop ti) ∧ LyS w0 w' F b p ni ti (B ++ r.1)
structure LP.good (p : LP) (w : World) : Prop where
  rdN : RdI w p.AN p.N
  rdT : RdS w p.AT p.T
  lenN : p.N.length ≤ 1099511627776
  lenT : p.T.length ≤ 1099511627776
  szT : ∀ x ∈ p.T, x.size ≤ 1099511627776
def LayOK (k : Nat) : Prop := ∀ (t : Tr) (A : Option Addr) (c b : Nat) (p : LP) (ni ti : Nat) (B : List UInt8) (w0 w : World) (F : List Assn), t.sg < k → t.sg ≤ 1099511627776 → t.wf false → t.full → RdT w0 t A 0 → p.good w0 →
  B.length + wgt (p.N.drop ni, p.T.drop ti) ≤ 1125899906842624 → LyS w0 w F b p ni ti B →
  Calls Try.prog 34 #[.pointer (some ⟨b, 0, none⟩), .slice A t.len c] w (LayE w0 F b p B (ly t none (p.N.drop ni, p.T.drop ti)))
theorem ly_cons (k n : Nat) (a t : Tr) (v : VS) : ly (.sign k n a t) none v = (ly (.sign k n a .nil) none v).bind fun x => (ly t none x.2).bind fun y => .ok (x.1 ++ y.1, y.2) := by
  rw [ly, ly]
  generalize (if k = 117 then (getN 0 4294967295 v).bind fun x => (.ok (be x.1 4, x.2) : LR) else _) = X
  cases X with
  | error e => rfl
  | ok x =>
    show ((ly t none x.2).bind fun y => (.ok (x.1 ++ y.1, y.2) : LR)) = Except.bind (Except.bind (ly .nil none x.2) fun y => .ok (x.1 ++ y.1, y.2)) _
    rw [ly]
    show _ = (ly t none x.2).bind fun y => (.ok (x.1 ++ [] ++ y.1, y.2) : LR)
    rw [List.append_nil]
theorem bindL (X : LR) : (X.bind fun x => (ly .nil none x.2).bind fun y => (.ok (x.1 ++ y.1, y.2) : LR)) = X := by
  cases X with
  | error e => rfl
  | ok x =>
    show ((ly .nil none x.2).bind fun y => (.ok (x.1 ++ y.1, y.2) : LR)) = _
    rw [ly]; show (.ok (x.1 ++ [], x.2) : LR) = _; rw [List.append_nil]
theorem arm0_ly (f : Tr) (v : VS) : ly (.arm 0 false f .nil) (some 0) v = ly f none v := by rw [ly, if_pos (.inr rfl)]
-- §1 why it is wrong, §2 the layer with b5 behind it
-- §1 the bytes, §2 §3 the places behind, §4 why, §5 the layer with b5 behind it
theorem LyS.tailF {w0 w : World} {F : List Assn} {A : Assn} {b : Nat} {p : LP} {ni ti : Nat} {B : List UInt8} (H : LyS w0 w (A :: F) b p ni ti B) : LyS w0 w F b p ni ti B := by
  obtain ⟨W, h1, h2, H⟩ := H
  exact ⟨W, h1, h2, H.r2.tail⟩
theorem LyS.alloc {w0 w : World} {F : List Assn} {b : Nat} {p : LP} {ni ti : Nat} {B : List UInt8} (H : LyS w0 w F b p ni ti B) (cs : Array Value) (T : TypeId) : LyS w0 (w.alloc (.cells cs T)) (Pt w.heap.size cs T :: F) b p ni ti B := by
  obtain ⟨W, h1, h2, H⟩ := H
  exact ⟨W, h1, h2, (H.alloc cs T).r2⟩
theorem LyS.any {w0 w : World} {F : List Assn} {b : Nat} {p : LP} {ni ti : Nat} {B : List UInt8} (H : LyS w0 w F b p ni ti B) : ∃ G, St w0 w G := by
  obtain ⟨W, h1, h2, H⟩ := H
  exact ⟨_, H⟩
theorem LyS.front {w0 w : World} {F : List Assn} {A : Assn} {b : Nat} {p : LP} {ni ti : Nat} {B : List UInt8} (H : LyS w0 w (A :: F) b p ni ti B) : ∃ G, St w0 w (A :: G) := by
  obtain ⟨W, h1, h2, H⟩ := H
  exact ⟨_, H.r2⟩
/-- written, or too long -/
theorem LyS.wrote {w0 w : World} {F : List Assn} {b : Nat} {p : LP} {ni ti : Nat} {B l W : List UInt8} {sz : Nat} (hs : sz = B.length + l.length) (h : W = B) (hz : sz ≤ 65536) (H : St w0 w (Lyr b p ni ti sz (W ++ l) :: F)) : LyS w0 w F b p ni ti (B ++ l) := by
  subst h hs
  refine ⟨W ++ l, fun _ => rfl, by rw [List.length_append]; omega, ?_⟩
  rw [List.length_append]; exact H
theorem LyS.over {w0 w : World} {F : List Assn} {b : Nat} {p : LP} {ni ti : Nat} {B l W : List UInt8} {sz : Nat} (hs : sz = B.length + l.length) (hW : W.length ≤ 65536) (hz : ¬ sz ≤ 65536) (H : St w0 w (Lyr b p ni ti sz W :: F)) : LyS w0 w F b p ni ti (B ++ l) := by
  subst hs
  refine ⟨W, fun h => absurd h (by rw [List.length_append]; exact hz), hW, ?_⟩
  rw [List.length_append]; exact H
-- a number behind which all is done: §1 least, §2 most, §3 its bytes, §4 how many, §5 the writer's contract, §6 why the step is so (it is v1's getN)
-- a text behind which all is done: §1 least, §2 the bytes, §3 their length as the walk has it, §4 the writer's contract, §5 why, §6 what fits
theorem opt_no (f : Tr) (v : VS) : ((.ok (0, v) : Except Int (Int × VS)).bind fun x => if x.1 = 1 then (ly f none x.2).bind fun b => (.ok (be x.1 4 ++ b.1, b.2) : LR) else .ok (be x.1 4, x.2)) = .ok (be 0 4, v) := by
  show (if (0 : Int) = 1 then (ly f none v).bind (fun b => (.ok (be 0 4 ++ b.1, b.2) : LR)) else (.ok (be 0 4, v) : LR)) = _
  exact if_neg (by decide)
theorem opt_yes (f : Tr) (v : VS) : ((.ok (1, v) : Except Int (Int × VS)).bind fun x => if x.1 = 1 then (ly f none x.2).bind fun b => (.ok (be x.1 4 ++ b.1, b.2) : LR) else .ok (be x.1 4, x.2)) = (ly f none v).bind fun b => .ok (be 1 4 ++ b.1, b.2) := by
  show (if (1 : Int) = 1 then (ly f none v).bind (fun b => (.ok (be 1 4 ++ b.1, b.2) : LR)) else (.ok (be 1 4, v) : LR)) = _
  exact if_pos rfl
-- the arm of 0, as it lies
-- four bytes are put, or are too many: §1 the number, §2 §3 the places, §4 the bytes so far, §5 the bound, §6 what follows (HL, w7)
-- the form f is laid: §1 §2 the places, §3 the bytes so far, §4 the bound, §5 the layer
theorem ly_arms : ∀ (a : Tr) (n : Int) (v : VS), ly a (some n) v = match pickT a n with
    | none => .error 4
    | some f => ly f none v
  | .nil, _, _ => by rw [ly, pickT]; exact fun _ _ _ _ h => by cases h
  | .sign .., _, _ => by rw [ly, pickT]; exact fun _ _ _ _ h => by cases h
  | .arm k y f t, n, v => by
    rw [ly, pickT]
    split
    · rfl
    · exact ly_arms t n v
theorem pickT_full : ∀ {a : Tr} {n : Int} {f : Tr}, a.full → pickT a n = some f → f.full
  | .nil, _, _, _, h => by simp [pickT] at h
  | .sign .., _, _, _, h => by simp [pickT] at h
  | .arm k y g t, n, f, hu, h => by
    rw [pickT] at h
    split at h
    · injection h with h; subst h; exact hu.1
    · exact pickT_full hu.2 h
-- a round of a list: HL holds the mark
set_option maxRecDepth 100000 in
set_option maxHeartbeats 16000000 in
theorem lay_step (k : Nat) (IH : ∀ j, j < k → LayOK j) : LayOK k := by
  intro t0 A c b p ni ti B w0 w F hk hsgm hw hfu hr hg hb H
  obtain ⟨o, ho⟩ : ∃ o, o = ly t0 none (p.N.drop ni, p.T.drop ti) := ⟨_, rfl⟩
  rw [← ho]
  obtain ⟨N, hN⟩ : ∃ N, N = t0.len := ⟨_, rfl⟩
  have hNl : N ≤ 1099511627776 := by have h1 := t0.len_sg; omega
  rw [← hN]
  have HO := Lib.hid ho; have HN := Lib.hid hN; have HW := Lib.hid hw; have HFU := Lib.hid hfu; have HR := Lib.hid hr; have HG := Lib.hid hg; have HB := Lib.hid hb
  clear ho hN hw hfu hr hg hb
  go_enter Try.func34, Try.ntmps34
  go_wp2_with (fail)
  go_loopw [17] (fun i wr => ∃ (j : Nat) (u : Tr) (n1 t1 : Nat) (C : List UInt8), j + u.len = N ∧ i = .int .i64 j ∧ Hid (o = (ly u none (p.N.drop n1, p.T.drop t1)).bind fun y => .ok (C ++ y.1, y.2)) ∧ Hid (u.wf false) ∧ Hid u.full ∧ Hid (RdT w0 u A j) ∧ u.sg < k ∧ u.sg ≤ 1099511627776 ∧ Hid (B.length + C.length + wgt (p.N.drop n1, p.T.drop t1) ≤ 1125899906842624) ∧ LyS w0 wr F b p n1 t1 (B ++ C)) (fun i _ => N - (intOf i).toNat)
  case atStart =>
    refine ⟨0, t0, ni, ti, [], by rw [HN.out]; omega, rfl, ?_, HW.out, HFU.out, HR.out, hk, hsgm, HB.out, by rw [List.append_nil]; exact H⟩
    show _ = _
    rw [HO.out]
    cases ly t0 none (p.N.drop ni, p.T.drop ti) <;> rfl
  case round =>
    clear H HO HW HFU HR HB hk HN
    obtain ⟨j, u, n1, t1, C, hju, rfl, HO, HW, HFU, HR, hsg, hsm, HB, HT⟩ := hrel
    cases u with
    | nil =>
      have hj : j = N := by simpa [Tr.len] using hju
      have hlt : ¬ (j : Int) < N := by omega
      clear hju
      have HJ := Lib.hid hj; clear hj
      have hno : o = .ok (C ++ [], (p.N.drop n1, p.T.drop t1)) := by rw [HO.out, ly]; rfl
      have HNO := Lib.hid hno; clear hno
      go_wp2_with (fail)
      go_end0
      rw [HNO.out]
      exact ⟨rfl, n1, t1, rfl, by rw [List.append_nil]; exact HT⟩
    | arm k y a t => exact absurd HW.out (by simp [Tr.wf])
    | sign kk n a t =>
      have hlt : (j : Int) < N := by have : j + (t.len + 1) = N := hju; omega
      obtain ⟨G, HGG⟩ := HT.any
      obtain ⟨⟨g, og, rfl, e0, e1, B1, cB, e2, hrf⟩, hrt⟩ := RdT.keep HGG _ _ _ HR.out
      obtain ⟨⟨g', og', hA', _, _, B', cB', e2', hrf'⟩, hrt'⟩ := HR.out
      injection hA' with hA'; injection hA' with h1 h2; subst h1 h2
      have hBB : B' = B1 ∧ cB' = cB := by
        have : wr.cell? ⟨g, og + (3 * j + 2), none⟩ = some (.slice B' a.len cB') := by rw [HGG.old (World.block_lt_of_cell? w0 _ e2')]; exact e2'
        rw [e2] at this; injection this with this; injection this with h1 h2 h3; exact ⟨h1.symm, h3.symm⟩
      obtain ⟨rfl, rfl⟩ := hBB
      obtain ⟨hwk, hwn, hwa, hwf, hwt⟩ := HW.out
      obtain ⟨hfa, hff, hft⟩ := HFU.out
      rw [Nat.mul_comm 3 j] at e0 e1 e2
      rw [← Nat.add_assoc] at e1 e2
      have hjl : j + (t.len + 1) = N := hju
      have HRF := Lib.hid hrf'; have HRT := Lib.hid hrt'; have HWF := Lib.hid hwf; have HWT := Lib.hid hwt; have HWA := Lib.hid hwa; have HFA := Lib.hid hfa; have HFF := Lib.hid hff; have HFT := Lib.hid hft; have HWK := Lib.hid hwk
      have hOc : o = ((ly (.sign kk n a .nil) none (p.N.drop n1, p.T.drop t1)).bind fun x => (ly t none x.2).bind fun y => .ok (x.1 ++ y.1, y.2)).bind fun y => .ok (C ++ y.1, y.2) := by rw [HO.out, ly_cons]
      have HO := Lib.hid hOc
      clear hrf hrt e2' hrf' hrt' HR HW hwf hwt hju hwa hOc HGG hfa hff hft HFU hwk
      obtain ⟨ki, hki⟩ : ∃ ki : Int, ki = (kk : Int) := ⟨_, rfl⟩
      obtain ⟨al, hal⟩ : ∃ al, al = a.len := ⟨_, rfl⟩
      rw [← hki] at e0
      have HKI := Lib.hid hki; clear hki
      rw [← hal] at e2
      have HAL := Lib.hid hal; clear hal
      have HT4 := HT.alloc #[.int .u8 ki, .int .i64 n, .slice B' al cB'] 112
      obtain ⟨b5, hb5⟩ : ∃ x, x = wr.heap.size := ⟨_, rfl⟩
      go_upto_region 3 with (fail)
      rw [← hb5] at HT4 ⊢
      generalize wr.alloc (.cells #[.int .u8 ki, .int .i64 n, .slice B' al cB'] 112) = w4 at *
      clear e0 e1 e2 hb5 HT
      obtain ⟨G5, HG5⟩ := HT4.front
      have k0 := HG5.cell 0 rfl
      go_upto_region 4 with (fail)
      clear k0 HG5
      obtain ⟨W, hWB, hWz, HS⟩ := HT4
      have HWB := Lib.hid hWB; clear hWB
      by_cases e117 : kk = 117
      · as_aux_lemma =>
          have hki : ki = 117 := by rw [HKI.out, e117]; rfl
          subst hki
          have HK := Lib.hid e117; clear e117
          obtain ⟨q, hq⟩ : ∃ q, q = getN (0) (4294967295) (p.N.drop n1, p.T.drop t1) := ⟨_, rfl⟩
          have hnb := lnumber_ok b p n1 t1 (B ++ C).length W (0) (4294967295) HG.out.lenN HG.out.rdN HS
          rw [← hq] at hnb
          have hst : ly (.sign kk n a .nil) none (p.N.drop n1, p.T.drop t1) = q.bind fun x => .ok (be x.1 4, x.2) := by
            rw [ly, if_pos HK.out, bindL, hq]
          have HST := Lib.hid hst
          clear hst hq
          go_wp2_with (fail)
          refine hnb.mono ?_
          clear hnb HS
          intro x w5 hx
          cases q with
          | error e =>
            obtain ⟨rfl, HS⟩ := hx
            refine ⟨rfl, ?_⟩
            have hs1 : ly (.sign kk n a .nil) none (p.N.drop n1, p.T.drop t1) = .error _ := (by rw [HST.out]; rfl)
            rw [HO.out, hs1]
            exact ⟨rfl, _, _, _, (LyS.tailF ⟨W, HWB.out, hWz, HS⟩)⟩
          | ok x =>
            obtain ⟨rfl, hv, hlt1, HS⟩ := hx
            have HV := Lib.hid hv
            have hgr := grow_ok b p (n1 + 1) t1 (B ++ C).length 4 W (by have := HB.out; rw [List.length_append]; omega) HS
            have hs2 : ly (.sign kk n a .nil) none (p.N.drop n1, p.T.drop t1) = .ok (be x.1 4, (p.N.drop (n1 + 1), p.T.drop t1)) := by rw [HST.out, ← HV.out]; rfl
            have HS2 := Lib.hid hs2
            clear hv hs2 HS
            by_cases hz : (B ++ C).length + 4 ≤ 65536
            · rw [decide_eq_true hz] at hgr
              have HZ := Lib.hid hz; clear hz
              go_wp2_with (fail)
              refine hgr.mono ?_
              clear hgr
              rintro y w6 ⟨rfl, HS⟩
              go_wp2_with (fail)
              refine (wuint_ok b _ (p.hmk (n1 + 1) t1 ((B ++ C).length + 4)) 100 W x.1 (by omega) HS).mono ?_
              clear HS
              rintro y w7 ⟨rfl, HS⟩
              have hs1 : ly (.sign kk n a .nil) none (p.N.drop n1, p.T.drop t1) = .ok (be x.1 4, (p.N.drop (n1 + 1), p.T.drop (t1))) := HS2.out
              have hln := (ly_len (.sign kk n a .nil) none _ _ _ ⟨HWK.out, hwn, HWA.out, HWF.out, trivial⟩ ⟨HFA.out, HFF.out, trivial⟩ hs1).1
              have HLN := Lib.hid hln
              have HNX : Hid (o = (ly t none (p.N.drop (n1 + 1), p.T.drop (t1))).bind fun y => .ok ((C ++ (be x.1 4)) ++ y.1, y.2)) := by
                show _ = _
                rw [HO.out, hs1]
                show ((ly t none (p.N.drop (n1 + 1), p.T.drop (t1))).bind fun y => (.ok (be x.1 4 ++ y.1, y.2) : LR)).bind (fun y => .ok (C ++ y.1, y.2)) = _
                cases ly t none (p.N.drop (n1 + 1), p.T.drop (t1)) with
                | error e => rfl
                | ok y => show (.ok (C ++ (be x.1 4 ++ y.1), y.2) : LR) = .ok ((C ++ be x.1 4) ++ y.1, y.2); simp only [List.append_assoc]
              clear hs1 hln
              go_wp2_with (fail)
              go_roundw
              case rel =>
                refine ⟨j + 1, t, n1 + 1, t1, C ++ (be x.1 4), by omega, by go_num, HNX.out, HWT.out, HFT.out, HRT.out, by have := hsg; simp only [Tr.sg] at this; omega, by have := hsm; simp only [Tr.sg] at this; omega, ?_, by rw [← List.append_assoc]; exact (LyS.tailF (LyS.wrote (by rw [be_length]) (HWB.out (by have := HZ.out; omega)) HZ.out HS))⟩
                have h1 := HLN.out
                have h2 := HB.out
                show B.length + (C ++ be x.1 4).length + wgt (p.N.drop (n1 + 1), p.T.drop (t1)) ≤ 1125899906842624
                rw [List.length_append]
                omega
              case measure => simp [intOf]; omega
            · rw [decide_eq_false hz] at hgr
              have HZ := Lib.hid hz; clear hz
              go_wp2_with (fail)
              refine hgr.mono ?_
              clear hgr
              rintro y w6 ⟨rfl, HS⟩
              have hs1 : ly (.sign kk n a .nil) none (p.N.drop n1, p.T.drop t1) = .ok (be x.1 4, (p.N.drop (n1 + 1), p.T.drop (t1))) := HS2.out
              have hln := (ly_len (.sign kk n a .nil) none _ _ _ ⟨HWK.out, hwn, HWA.out, HWF.out, trivial⟩ ⟨HFA.out, HFF.out, trivial⟩ hs1).1
              have HLN := Lib.hid hln
              have HNX : Hid (o = (ly t none (p.N.drop (n1 + 1), p.T.drop (t1))).bind fun y => .ok ((C ++ (be x.1 4)) ++ y.1, y.2)) := by
                show _ = _
                rw [HO.out, hs1]
                show ((ly t none (p.N.drop (n1 + 1), p.T.drop (t1))).bind fun y => (.ok (be x.1 4 ++ y.1, y.2) : LR)).bind (fun y => .ok (C ++ y.1, y.2)) = _
                cases ly t none (p.N.drop (n1 + 1), p.T.drop (t1)) with
                | error e => rfl
                | ok y => show (.ok (C ++ (be x.1 4 ++ y.1), y.2) : LR) = .ok ((C ++ be x.1 4) ++ y.1, y.2); simp only [List.append_assoc]
              clear hs1 hln
              go_wp2_with (fail)
              go_roundw
              case rel =>
                refine ⟨j + 1, t, n1 + 1, t1, C ++ (be x.1 4), by omega, by go_num, HNX.out, HWT.out, HFT.out, HRT.out, by have := hsg; simp only [Tr.sg] at this; omega, by have := hsm; simp only [Tr.sg] at this; omega, ?_, by rw [← List.append_assoc]; exact (LyS.tailF (LyS.over (by rw [be_length]) hWz HZ.out HS))⟩
                have h1 := HLN.out
                have h2 := HB.out
                show B.length + (C ++ be x.1 4).length + wgt (p.N.drop (n1 + 1), p.T.drop (t1)) ≤ 1125899906842624
                rw [List.length_append]
                omega
              case measure => simp [intOf]; omega
      by_cases e113 : kk = 113
      · as_aux_lemma =>
          have hki : ki = 113 := by rw [HKI.out, e113]; rfl
          subst hki
          have HK := Lib.hid e113; clear e113
          obtain ⟨q, hq⟩ : ∃ q, q = getN (-9223372036854775808) (9223372036854775807) (p.N.drop n1, p.T.drop t1) := ⟨_, rfl⟩
          have hnb := lnumber_ok b p n1 t1 (B ++ C).length W (-9223372036854775808) (9223372036854775807) HG.out.lenN HG.out.rdN HS
          rw [← hq] at hnb
          have hst : ly (.sign kk n a .nil) none (p.N.drop n1, p.T.drop t1) = q.bind fun x => .ok (be x.1 8, x.2) := by
            rw [ly, if_neg (by have := HK.out; omega), if_pos HK.out, bindL, hq]
          have HST := Lib.hid hst
          clear hst hq
          go_wp2_with (fail)
          refine hnb.mono ?_
          clear hnb HS
          intro x w5 hx
          cases q with
          | error e =>
            obtain ⟨rfl, HS⟩ := hx
            refine ⟨rfl, ?_⟩
            have hs1 : ly (.sign kk n a .nil) none (p.N.drop n1, p.T.drop t1) = .error _ := (by rw [HST.out]; rfl)
            rw [HO.out, hs1]
            exact ⟨rfl, _, _, _, (LyS.tailF ⟨W, HWB.out, hWz, HS⟩)⟩
          | ok x =>
            obtain ⟨rfl, hv, hlt1, HS⟩ := hx
            have HV := Lib.hid hv
            have hgr := grow_ok b p (n1 + 1) t1 (B ++ C).length 8 W (by have := HB.out; rw [List.length_append]; omega) HS
            have hs2 : ly (.sign kk n a .nil) none (p.N.drop n1, p.T.drop t1) = .ok (be x.1 8, (p.N.drop (n1 + 1), p.T.drop t1)) := by rw [HST.out, ← HV.out]; rfl
            have HS2 := Lib.hid hs2
            clear hv hs2 HS
            by_cases hz : (B ++ C).length + 8 ≤ 65536
            · rw [decide_eq_true hz] at hgr
              have HZ := Lib.hid hz; clear hz
              go_wp2_with (fail)
              refine hgr.mono ?_
              clear hgr
              rintro y w6 ⟨rfl, HS⟩
              go_wp2_with (fail)
              refine (whyper_ok b _ (p.hmk (n1 + 1) t1 ((B ++ C).length + 8)) 100 W x.1 (by omega) HS).mono ?_
              clear HS
              rintro y w7 ⟨rfl, HS⟩
              have hs1 : ly (.sign kk n a .nil) none (p.N.drop n1, p.T.drop t1) = .ok (be x.1 8, (p.N.drop (n1 + 1), p.T.drop (t1))) := HS2.out
              have hln := (ly_len (.sign kk n a .nil) none _ _ _ ⟨HWK.out, hwn, HWA.out, HWF.out, trivial⟩ ⟨HFA.out, HFF.out, trivial⟩ hs1).1
              have HLN := Lib.hid hln
              have HNX : Hid (o = (ly t none (p.N.drop (n1 + 1), p.T.drop (t1))).bind fun y => .ok ((C ++ (be x.1 8)) ++ y.1, y.2)) := by
                show _ = _
                rw [HO.out, hs1]
                show ((ly t none (p.N.drop (n1 + 1), p.T.drop (t1))).bind fun y => (.ok (be x.1 8 ++ y.1, y.2) : LR)).bind (fun y => .ok (C ++ y.1, y.2)) = _
                cases ly t none (p.N.drop (n1 + 1), p.T.drop (t1)) with
                | error e => rfl
                | ok y => show (.ok (C ++ (be x.1 8 ++ y.1), y.2) : LR) = .ok ((C ++ be x.1 8) ++ y.1, y.2); simp only [List.append_assoc]
              clear hs1 hln
              go_wp2_with (fail)
              go_roundw
              case rel =>
                refine ⟨j + 1, t, n1 + 1, t1, C ++ (be x.1 8), by omega, by go_num, HNX.out, HWT.out, HFT.out, HRT.out, by have := hsg; simp only [Tr.sg] at this; omega, by have := hsm; simp only [Tr.sg] at this; omega, ?_, by rw [← List.append_assoc]; exact (LyS.tailF (LyS.wrote (by rw [be_length]) (HWB.out (by have := HZ.out; omega)) HZ.out HS))⟩
                have h1 := HLN.out
                have h2 := HB.out
                show B.length + (C ++ be x.1 8).length + wgt (p.N.drop (n1 + 1), p.T.drop (t1)) ≤ 1125899906842624
                rw [List.length_append]
                omega
              case measure => simp [intOf]; omega
            · rw [decide_eq_false hz] at hgr
              have HZ := Lib.hid hz; clear hz
              go_wp2_with (fail)
              refine hgr.mono ?_
              clear hgr
              rintro y w6 ⟨rfl, HS⟩
              have hs1 : ly (.sign kk n a .nil) none (p.N.drop n1, p.T.drop t1) = .ok (be x.1 8, (p.N.drop (n1 + 1), p.T.drop (t1))) := HS2.out
              have hln := (ly_len (.sign kk n a .nil) none _ _ _ ⟨HWK.out, hwn, HWA.out, HWF.out, trivial⟩ ⟨HFA.out, HFF.out, trivial⟩ hs1).1
              have HLN := Lib.hid hln
              have HNX : Hid (o = (ly t none (p.N.drop (n1 + 1), p.T.drop (t1))).bind fun y => .ok ((C ++ (be x.1 8)) ++ y.1, y.2)) := by
                show _ = _
                rw [HO.out, hs1]
                show ((ly t none (p.N.drop (n1 + 1), p.T.drop (t1))).bind fun y => (.ok (be x.1 8 ++ y.1, y.2) : LR)).bind (fun y => .ok (C ++ y.1, y.2)) = _
                cases ly t none (p.N.drop (n1 + 1), p.T.drop (t1)) with
                | error e => rfl
                | ok y => show (.ok (C ++ (be x.1 8 ++ y.1), y.2) : LR) = .ok ((C ++ be x.1 8) ++ y.1, y.2); simp only [List.append_assoc]
              clear hs1 hln
              go_wp2_with (fail)
              go_roundw
              case rel =>
                refine ⟨j + 1, t, n1 + 1, t1, C ++ (be x.1 8), by omega, by go_num, HNX.out, HWT.out, HFT.out, HRT.out, by have := hsg; simp only [Tr.sg] at this; omega, by have := hsm; simp only [Tr.sg] at this; omega, ?_, by rw [← List.append_assoc]; exact (LyS.tailF (LyS.over (by rw [be_length]) hWz HZ.out HS))⟩
                have h1 := HLN.out
                have h2 := HB.out
                show B.length + (C ++ be x.1 8).length + wgt (p.N.drop (n1 + 1), p.T.drop (t1)) ≤ 1125899906842624
                rw [List.length_append]
                omega
              case measure => simp [intOf]; omega
      by_cases e98 : kk = 98
      · as_aux_lemma =>
          have hki : ki = 98 := by rw [HKI.out, e98]; rfl
          subst hki
          have HK := Lib.hid e98; clear e98
          obtain ⟨q, hq⟩ : ∃ q, q = getN (0) (1) (p.N.drop n1, p.T.drop t1) := ⟨_, rfl⟩
          have hnb := lnumber_ok b p n1 t1 (B ++ C).length W (0) (1) HG.out.lenN HG.out.rdN HS
          rw [← hq] at hnb
          have hst : ly (.sign kk n a .nil) none (p.N.drop n1, p.T.drop t1) = q.bind fun x => .ok (be x.1 4, x.2) := by
            rw [ly, if_neg (by have := HK.out; omega), if_neg (by have := HK.out; omega), if_pos HK.out, bindL, hq]
          have HST := Lib.hid hst
          clear hst hq
          go_wp2_with (fail)
          refine hnb.mono ?_
          clear hnb HS
          intro x w5 hx
          cases q with
          | error e =>
            obtain ⟨rfl, HS⟩ := hx
            refine ⟨rfl, ?_⟩
            have hs1 : ly (.sign kk n a .nil) none (p.N.drop n1, p.T.drop t1) = .error _ := (by rw [HST.out]; rfl)
            rw [HO.out, hs1]
            exact ⟨rfl, _, _, _, (LyS.tailF ⟨W, HWB.out, hWz, HS⟩)⟩
          | ok x =>
            obtain ⟨rfl, hv, hlt1, HS⟩ := hx
            have HV := Lib.hid hv
            have hgr := grow_ok b p (n1 + 1) t1 (B ++ C).length 4 W (by have := HB.out; rw [List.length_append]; omega) HS
            have hs2 : ly (.sign kk n a .nil) none (p.N.drop n1, p.T.drop t1) = .ok (be x.1 4, (p.N.drop (n1 + 1), p.T.drop t1)) := by rw [HST.out, ← HV.out]; rfl
            have HS2 := Lib.hid hs2
            clear hv hs2 HS
            by_cases hz : (B ++ C).length + 4 ≤ 65536
            · rw [decide_eq_true hz] at hgr
              have HZ := Lib.hid hz; clear hz
              go_wp2_with (fail)
              refine hgr.mono ?_
              clear hgr
              rintro y w6 ⟨rfl, HS⟩
              go_wp2_with (fail)
              refine (wuint_ok b _ (p.hmk (n1 + 1) t1 ((B ++ C).length + 4)) 100 W x.1 (by omega) HS).mono ?_
              clear HS
              rintro y w7 ⟨rfl, HS⟩
              have hs1 : ly (.sign kk n a .nil) none (p.N.drop n1, p.T.drop t1) = .ok (be x.1 4, (p.N.drop (n1 + 1), p.T.drop (t1))) := HS2.out
              have hln := (ly_len (.sign kk n a .nil) none _ _ _ ⟨HWK.out, hwn, HWA.out, HWF.out, trivial⟩ ⟨HFA.out, HFF.out, trivial⟩ hs1).1
              have HLN := Lib.hid hln
              have HNX : Hid (o = (ly t none (p.N.drop (n1 + 1), p.T.drop (t1))).bind fun y => .ok ((C ++ (be x.1 4)) ++ y.1, y.2)) := by
                show _ = _
                rw [HO.out, hs1]
                show ((ly t none (p.N.drop (n1 + 1), p.T.drop (t1))).bind fun y => (.ok (be x.1 4 ++ y.1, y.2) : LR)).bind (fun y => .ok (C ++ y.1, y.2)) = _
                cases ly t none (p.N.drop (n1 + 1), p.T.drop (t1)) with
                | error e => rfl
                | ok y => show (.ok (C ++ (be x.1 4 ++ y.1), y.2) : LR) = .ok ((C ++ be x.1 4) ++ y.1, y.2); simp only [List.append_assoc]
              clear hs1 hln
              go_wp2_with (fail)
              go_roundw
              case rel =>
                refine ⟨j + 1, t, n1 + 1, t1, C ++ (be x.1 4), by omega, by go_num, HNX.out, HWT.out, HFT.out, HRT.out, by have := hsg; simp only [Tr.sg] at this; omega, by have := hsm; simp only [Tr.sg] at this; omega, ?_, by rw [← List.append_assoc]; exact (LyS.tailF (LyS.wrote (by rw [be_length]) (HWB.out (by have := HZ.out; omega)) HZ.out HS))⟩
                have h1 := HLN.out
                have h2 := HB.out
                show B.length + (C ++ be x.1 4).length + wgt (p.N.drop (n1 + 1), p.T.drop (t1)) ≤ 1125899906842624
                rw [List.length_append]
                omega
              case measure => simp [intOf]; omega
            · rw [decide_eq_false hz] at hgr
              have HZ := Lib.hid hz; clear hz
              go_wp2_with (fail)
              refine hgr.mono ?_
              clear hgr
              rintro y w6 ⟨rfl, HS⟩
              have hs1 : ly (.sign kk n a .nil) none (p.N.drop n1, p.T.drop t1) = .ok (be x.1 4, (p.N.drop (n1 + 1), p.T.drop (t1))) := HS2.out
              have hln := (ly_len (.sign kk n a .nil) none _ _ _ ⟨HWK.out, hwn, HWA.out, HWF.out, trivial⟩ ⟨HFA.out, HFF.out, trivial⟩ hs1).1
              have HLN := Lib.hid hln
              have HNX : Hid (o = (ly t none (p.N.drop (n1 + 1), p.T.drop (t1))).bind fun y => .ok ((C ++ (be x.1 4)) ++ y.1, y.2)) := by
                show _ = _
                rw [HO.out, hs1]
                show ((ly t none (p.N.drop (n1 + 1), p.T.drop (t1))).bind fun y => (.ok (be x.1 4 ++ y.1, y.2) : LR)).bind (fun y => .ok (C ++ y.1, y.2)) = _
                cases ly t none (p.N.drop (n1 + 1), p.T.drop (t1)) with
                | error e => rfl
                | ok y => show (.ok (C ++ (be x.1 4 ++ y.1), y.2) : LR) = .ok ((C ++ be x.1 4) ++ y.1, y.2); simp only [List.append_assoc]
              clear hs1 hln
              go_wp2_with (fail)
              go_roundw
              case rel =>
                refine ⟨j + 1, t, n1 + 1, t1, C ++ (be x.1 4), by omega, by go_num, HNX.out, HWT.out, HFT.out, HRT.out, by have := hsg; simp only [Tr.sg] at this; omega, by have := hsm; simp only [Tr.sg] at this; omega, ?_, by rw [← List.append_assoc]; exact (LyS.tailF (LyS.over (by rw [be_length]) hWz HZ.out HS))⟩
                have h1 := HLN.out
                have h2 := HB.out
                show B.length + (C ++ be x.1 4).length + wgt (p.N.drop (n1 + 1), p.T.drop (t1)) ≤ 1125899906842624
                rw [List.length_append]
                omega
              case measure => simp [intOf]; omega
      by_cases e111 : kk = 111
      · as_aux_lemma =>
          have hki : ki = 111 := by rw [HKI.out, e111]; rfl
          subst hki
          have HK := Lib.hid e111; clear e111
          obtain ⟨q, hq⟩ : ∃ q, q = getT (0) n (p.N.drop n1, p.T.drop t1) := ⟨_, rfl⟩
          have hnb := ltext_ok b p n1 t1 (B ++ C).length W (0) n HG.out.lenT (by omega) HG.out.szT HG.out.rdT HS
          rw [← hq] at hnb
          have hst : ly (.sign kk n a .nil) none (p.N.drop n1, p.T.drop t1) = q.bind fun x => .ok (opaq (bl x.1), x.2) := by
            rw [ly, if_neg (by have := HK.out; omega), if_neg (by have := HK.out; omega), if_neg (by have := HK.out; omega), if_pos HK.out, bindL, hq]
          have HST := Lib.hid hst
          have HQQ := Lib.hid hq
          clear hst hq
          have k1 := HS.r2.cell 1 rfl
          go_wp2_with (fail)
          refine hnb.mono ?_
          clear hnb HS k1
          intro x w5 hx
          cases q with
          | error e =>
            obtain ⟨rfl, HS⟩ := hx
            refine ⟨rfl, ?_⟩
            have hs1 : ly (.sign kk n a .nil) none (p.N.drop n1, p.T.drop t1) = .error _ := (by rw [HST.out]; rfl)
            rw [HO.out, hs1]
            exact ⟨rfl, _, _, _, (LyS.tailF ⟨W, HWB.out, hWz, HS⟩)⟩
          | ok x =>
            obtain ⟨rfl, hv, hlt1, HS⟩ := hx
            have HV := Lib.hid hv
            have hgt := getT_ok HQQ.out.symm
            have hxz : x.1.size ≤ n := hgt.2.2.2
            have hlen : (opaq (bl x.1)).length = 4 + x.1.size + padn x.1.size := by rw [opaq, List.length_append, be_length, fixed, List.length_append, zeros, List.length_replicate, bl_length]; omega
            have hgr := grow_ok b p n1 (t1 + 1) (B ++ C).length (4 + x.1.size + padn x.1.size) W (by have := HB.out; rw [List.length_append]; unfold padn; omega) HS
            have hs2 : ly (.sign kk n a .nil) none (p.N.drop n1, p.T.drop t1) = .ok (opaq (bl x.1), (p.N.drop n1, p.T.drop (t1 + 1))) := by rw [HST.out, ← HV.out]; rfl
            have HS2 := Lib.hid hs2
            have hpd := padn_bits (x.1.size : Int) (by omega)
            rw [Int.toNat_natCast] at hpd
            have HLE := Lib.hid hlen
            clear hv hs2 HS hgt hlen
            by_cases hz : (B ++ C).length + (4 + x.1.size + padn x.1.size) ≤ 65536
            · rw [decide_eq_true hz] at hgr
              have HZ := Lib.hid hz; clear hz
              have HGR := Lib.hid hgr; clear hgr
              go_wp2_with (fail)
              rw [show wrap64 (4 + (x.1.size : Int) + (padn x.1.size : Int)) = ((4 + x.1.size + padn x.1.size : Nat) : Int) from by
                have hp3 : padn x.1.size ≤ 3 := by unfold padn; omega
                unfold wrap64; omega]
              refine HGR.out.mono ?_
              clear HGR
              rintro y w6 ⟨rfl, HS⟩
              go_wp2_with (fail)
              refine (wopaque_ok b _ (p.hmk n1 (t1 + 1) ((B ++ C).length + (4 + x.1.size + padn x.1.size))) 100 W x.1 (by omega) (by omega) HS).mono ?_
              clear HS
              rintro y w7 ⟨rfl, HS⟩
              have hs1 : ly (.sign kk n a .nil) none (p.N.drop n1, p.T.drop t1) = .ok (opaq (bl x.1), (p.N.drop (n1), p.T.drop (t1 + 1))) := HS2.out
              have hln := (ly_len (.sign kk n a .nil) none _ _ _ ⟨HWK.out, hwn, HWA.out, HWF.out, trivial⟩ ⟨HFA.out, HFF.out, trivial⟩ hs1).1
              have HLN := Lib.hid hln
              have HNX : Hid (o = (ly t none (p.N.drop (n1), p.T.drop (t1 + 1))).bind fun y => .ok ((C ++ (opaq (bl x.1))) ++ y.1, y.2)) := by
                show _ = _
                rw [HO.out, hs1]
                show ((ly t none (p.N.drop (n1), p.T.drop (t1 + 1))).bind fun y => (.ok (opaq (bl x.1) ++ y.1, y.2) : LR)).bind (fun y => .ok (C ++ y.1, y.2)) = _
                cases ly t none (p.N.drop (n1), p.T.drop (t1 + 1)) with
                | error e => rfl
                | ok y => show (.ok (C ++ (opaq (bl x.1) ++ y.1), y.2) : LR) = .ok ((C ++ opaq (bl x.1)) ++ y.1, y.2); simp only [List.append_assoc]
              clear hs1 hln
              go_wp2_with (fail)
              go_roundw
              case rel =>
                refine ⟨j + 1, t, n1, t1 + 1, C ++ (opaq (bl x.1)), by omega, by go_num, HNX.out, HWT.out, HFT.out, HRT.out, by have := hsg; simp only [Tr.sg] at this; omega, by have := hsm; simp only [Tr.sg] at this; omega, ?_, by rw [← List.append_assoc]; exact (LyS.tailF (LyS.wrote (by rw [HLE.out]) (HWB.out (by have := HZ.out; omega)) HZ.out HS))⟩
                have h1 := HLN.out
                have h2 := HB.out
                show B.length + (C ++ opaq (bl x.1)).length + wgt (p.N.drop (n1), p.T.drop (t1 + 1)) ≤ 1125899906842624
                rw [List.length_append]
                omega
              case measure => simp [intOf]; omega
            · rw [decide_eq_false hz] at hgr
              have HZ := Lib.hid hz; clear hz
              have HGR := Lib.hid hgr; clear hgr
              go_wp2_with (fail)
              rw [show wrap64 (4 + (x.1.size : Int) + (padn x.1.size : Int)) = ((4 + x.1.size + padn x.1.size : Nat) : Int) from by
                have hp3 : padn x.1.size ≤ 3 := by unfold padn; omega
                unfold wrap64; omega]
              refine HGR.out.mono ?_
              clear HGR
              rintro y w6 ⟨rfl, HS⟩
              have hs1 : ly (.sign kk n a .nil) none (p.N.drop n1, p.T.drop t1) = .ok (opaq (bl x.1), (p.N.drop (n1), p.T.drop (t1 + 1))) := HS2.out
              have hln := (ly_len (.sign kk n a .nil) none _ _ _ ⟨HWK.out, hwn, HWA.out, HWF.out, trivial⟩ ⟨HFA.out, HFF.out, trivial⟩ hs1).1
              have HLN := Lib.hid hln
              have HNX : Hid (o = (ly t none (p.N.drop (n1), p.T.drop (t1 + 1))).bind fun y => .ok ((C ++ (opaq (bl x.1))) ++ y.1, y.2)) := by
                show _ = _
                rw [HO.out, hs1]
                show ((ly t none (p.N.drop (n1), p.T.drop (t1 + 1))).bind fun y => (.ok (opaq (bl x.1) ++ y.1, y.2) : LR)).bind (fun y => .ok (C ++ y.1, y.2)) = _
                cases ly t none (p.N.drop (n1), p.T.drop (t1 + 1)) with
                | error e => rfl
                | ok y => show (.ok (C ++ (opaq (bl x.1) ++ y.1), y.2) : LR) = .ok ((C ++ opaq (bl x.1)) ++ y.1, y.2); simp only [List.append_assoc]
              clear hs1 hln
              go_wp2_with (fail)
              go_roundw
              case rel =>
                refine ⟨j + 1, t, n1, t1 + 1, C ++ (opaq (bl x.1)), by omega, by go_num, HNX.out, HWT.out, HFT.out, HRT.out, by have := hsg; simp only [Tr.sg] at this; omega, by have := hsm; simp only [Tr.sg] at this; omega, ?_, by rw [← List.append_assoc]; exact (LyS.tailF (LyS.over (by rw [HLE.out]) hWz HZ.out HS))⟩
                have h1 := HLN.out
                have h2 := HB.out
                show B.length + (C ++ opaq (bl x.1)).length + wgt (p.N.drop (n1), p.T.drop (t1 + 1)) ≤ 1125899906842624
                rw [List.length_append]
                omega
              case measure => simp [intOf]; omega
      by_cases e102 : kk = 102
      · as_aux_lemma =>
          have hki : ki = 102 := by rw [HKI.out, e102]; rfl
          subst hki
          have HK := Lib.hid e102; clear e102
          obtain ⟨q, hq⟩ : ∃ q, q = getT (n) n (p.N.drop n1, p.T.drop t1) := ⟨_, rfl⟩
          have hnb := ltext_ok b p n1 t1 (B ++ C).length W (n) n HG.out.lenT (by omega) HG.out.szT HG.out.rdT HS
          rw [← hq] at hnb
          have hst : ly (.sign kk n a .nil) none (p.N.drop n1, p.T.drop t1) = q.bind fun x => .ok (fixed (bl x.1), x.2) := by
            rw [ly, if_neg (by have := HK.out; omega), if_neg (by have := HK.out; omega), if_neg (by have := HK.out; omega), if_neg (by have := HK.out; omega), if_pos HK.out, bindL, hq]
          have HST := Lib.hid hst
          have HQQ := Lib.hid hq
          clear hst hq
          have k1 := HS.r2.cell 1 rfl
          go_wp2_with (fail)
          refine hnb.mono ?_
          clear hnb HS k1
          intro x w5 hx
          cases q with
          | error e =>
            obtain ⟨rfl, HS⟩ := hx
            refine ⟨rfl, ?_⟩
            have hs1 : ly (.sign kk n a .nil) none (p.N.drop n1, p.T.drop t1) = .error _ := (by rw [HST.out]; rfl)
            rw [HO.out, hs1]
            exact ⟨rfl, _, _, _, (LyS.tailF ⟨W, HWB.out, hWz, HS⟩)⟩
          | ok x =>
            obtain ⟨rfl, hv, hlt1, HS⟩ := hx
            have HV := Lib.hid hv
            have hgt := getT_ok HQQ.out.symm
            have hxz : x.1.size ≤ n := hgt.2.2.2
            have hlen : (fixed (bl x.1)).length = x.1.size + padn x.1.size := by rw [fixed, List.length_append, zeros, List.length_replicate, bl_length]
            have hgr := grow_ok b p n1 (t1 + 1) (B ++ C).length (x.1.size + padn x.1.size) W (by have := HB.out; rw [List.length_append]; unfold padn; omega) HS
            have hs2 : ly (.sign kk n a .nil) none (p.N.drop n1, p.T.drop t1) = .ok (fixed (bl x.1), (p.N.drop n1, p.T.drop (t1 + 1))) := by rw [HST.out, ← HV.out]; rfl
            have HS2 := Lib.hid hs2
            have hpd := padn_bits (x.1.size : Int) (by omega)
            rw [Int.toNat_natCast] at hpd
            have HLE := Lib.hid hlen
            clear hv hs2 HS hgt hlen
            by_cases hz : (B ++ C).length + (x.1.size + padn x.1.size) ≤ 65536
            · rw [decide_eq_true hz] at hgr
              have HZ := Lib.hid hz; clear hz
              have HGR := Lib.hid hgr; clear hgr
              go_wp2_with (fail)
              rw [show wrap64 ((x.1.size : Int) + (padn x.1.size : Int)) = ((x.1.size + padn x.1.size : Nat) : Int) from by
                have hp3 : padn x.1.size ≤ 3 := by unfold padn; omega
                unfold wrap64; omega]
              refine HGR.out.mono ?_
              clear HGR
              rintro y w6 ⟨rfl, HS⟩
              go_wp2_with (fail)
              refine (wfixed_ok b _ (p.hmk n1 (t1 + 1) ((B ++ C).length + (x.1.size + padn x.1.size))) 100 W x.1 (by omega) (by omega) HS).mono ?_
              clear HS
              rintro y w7 ⟨rfl, HS⟩
              have hs1 : ly (.sign kk n a .nil) none (p.N.drop n1, p.T.drop t1) = .ok (fixed (bl x.1), (p.N.drop (n1), p.T.drop (t1 + 1))) := HS2.out
              have hln := (ly_len (.sign kk n a .nil) none _ _ _ ⟨HWK.out, hwn, HWA.out, HWF.out, trivial⟩ ⟨HFA.out, HFF.out, trivial⟩ hs1).1
              have HLN := Lib.hid hln
              have HNX : Hid (o = (ly t none (p.N.drop (n1), p.T.drop (t1 + 1))).bind fun y => .ok ((C ++ (fixed (bl x.1))) ++ y.1, y.2)) := by
                show _ = _
                rw [HO.out, hs1]
                show ((ly t none (p.N.drop (n1), p.T.drop (t1 + 1))).bind fun y => (.ok (fixed (bl x.1) ++ y.1, y.2) : LR)).bind (fun y => .ok (C ++ y.1, y.2)) = _
                cases ly t none (p.N.drop (n1), p.T.drop (t1 + 1)) with
                | error e => rfl
                | ok y => show (.ok (C ++ (fixed (bl x.1) ++ y.1), y.2) : LR) = .ok ((C ++ fixed (bl x.1)) ++ y.1, y.2); simp only [List.append_assoc]
              clear hs1 hln
              go_wp2_with (fail)
              go_roundw
              case rel =>
                refine ⟨j + 1, t, n1, t1 + 1, C ++ (fixed (bl x.1)), by omega, by go_num, HNX.out, HWT.out, HFT.out, HRT.out, by have := hsg; simp only [Tr.sg] at this; omega, by have := hsm; simp only [Tr.sg] at this; omega, ?_, by rw [← List.append_assoc]; exact (LyS.tailF (LyS.wrote (by rw [HLE.out]) (HWB.out (by have := HZ.out; omega)) HZ.out HS))⟩
                have h1 := HLN.out
                have h2 := HB.out
                show B.length + (C ++ fixed (bl x.1)).length + wgt (p.N.drop (n1), p.T.drop (t1 + 1)) ≤ 1125899906842624
                rw [List.length_append]
                omega
              case measure => simp [intOf]; omega
            · rw [decide_eq_false hz] at hgr
              have HZ := Lib.hid hz; clear hz
              have HGR := Lib.hid hgr; clear hgr
              go_wp2_with (fail)
              rw [show wrap64 ((x.1.size : Int) + (padn x.1.size : Int)) = ((x.1.size + padn x.1.size : Nat) : Int) from by
                have hp3 : padn x.1.size ≤ 3 := by unfold padn; omega
                unfold wrap64; omega]
              refine HGR.out.mono ?_
              clear HGR
              rintro y w6 ⟨rfl, HS⟩
              have hs1 : ly (.sign kk n a .nil) none (p.N.drop n1, p.T.drop t1) = .ok (fixed (bl x.1), (p.N.drop (n1), p.T.drop (t1 + 1))) := HS2.out
              have hln := (ly_len (.sign kk n a .nil) none _ _ _ ⟨HWK.out, hwn, HWA.out, HWF.out, trivial⟩ ⟨HFA.out, HFF.out, trivial⟩ hs1).1
              have HLN := Lib.hid hln
              have HNX : Hid (o = (ly t none (p.N.drop (n1), p.T.drop (t1 + 1))).bind fun y => .ok ((C ++ (fixed (bl x.1))) ++ y.1, y.2)) := by
                show _ = _
                rw [HO.out, hs1]
                show ((ly t none (p.N.drop (n1), p.T.drop (t1 + 1))).bind fun y => (.ok (fixed (bl x.1) ++ y.1, y.2) : LR)).bind (fun y => .ok (C ++ y.1, y.2)) = _
                cases ly t none (p.N.drop (n1), p.T.drop (t1 + 1)) with
                | error e => rfl
                | ok y => show (.ok (C ++ (fixed (bl x.1) ++ y.1), y.2) : LR) = .ok ((C ++ fixed (bl x.1)) ++ y.1, y.2); simp only [List.append_assoc]
              clear hs1 hln
              go_wp2_with (fail)
              go_roundw
              case rel =>
                refine ⟨j + 1, t, n1, t1 + 1, C ++ (fixed (bl x.1)), by omega, by go_num, HNX.out, HWT.out, HFT.out, HRT.out, by have := hsg; simp only [Tr.sg] at this; omega, by have := hsm; simp only [Tr.sg] at this; omega, ?_, by rw [← List.append_assoc]; exact (LyS.tailF (LyS.over (by rw [HLE.out]) hWz HZ.out HS))⟩
                have h1 := HLN.out
                have h2 := HB.out
                show B.length + (C ++ fixed (bl x.1)).length + wgt (p.N.drop (n1), p.T.drop (t1 + 1)) ≤ 1125899906842624
                rw [List.length_append]
                omega
              case measure => simp [intOf]; omega
      by_cases e63 : kk = 63
      · as_aux_lemma =>
          have hki : ki = 63 := by rw [HKI.out, e63]; rfl
          subst hki
          have HK := Lib.hid e63; clear e63
          obtain ⟨f, hf⟩ := HWA.out (.inl HK.out)
          have hRa := HRF.out
          rw [hf] at hRa
          obtain ⟨⟨ga, oa, hB', _, _, Bf, cf, ef, hrf⟩, _⟩ := hRa
          have hwff : f.wf false := by have := HWF.out; rw [hf] at this; exact this.2.1
          have hfuf : f.full := by have := HFF.out; rw [hf] at this; exact this.1
          have hal1 : al = 1 := by rw [HAL.out, hf]; rfl
          have hsgf : a.sg = 1 + f.sg := by rw [hf]; rfl
          have hsg2 : f.sg + 1 < k := by have := hsg; simp only [Tr.sg] at this; omega
          have hsg3 : f.sg ≤ 1099511627776 := by have := hsm; simp only [Tr.sg] at this; omega
          have HF := Lib.hid hf; have HRf := Lib.hid hrf; have HWf := Lib.hid hwff; have HFf := Lib.hid hfuf; have HEF := Lib.hid ef
          clear hf hrf hwff hfuf hsgf ef
          subst hB' hal1
          obtain ⟨q, hq⟩ : ∃ q, q = getN 0 1 (p.N.drop n1, p.T.drop t1) := ⟨_, rfl⟩
          have hnb := lnumber_ok b p n1 t1 (B ++ C).length W 0 1 HG.out.lenN HG.out.rdN HS
          rw [← hq] at hnb
          have hst : ly (.sign kk n a .nil) none (p.N.drop n1, p.T.drop t1) = q.bind fun x => if x.1 = 1 then (ly f none x.2).bind fun b => .ok (be x.1 4 ++ b.1, b.2) else .ok (be x.1 4, x.2) := by
            rw [ly, if_neg (by have := HK.out; omega), if_neg (by have := HK.out; omega), if_neg (by have := HK.out; omega), if_neg (by have := HK.out; omega), if_neg (by have := HK.out; omega), if_pos HK.out, bindL, hq, HF.out]
            rw [show (fun x : Int × VS => if x.1 = 1 then (ly (.arm 0 false f .nil) (some 0) x.2).bind fun b => (.ok (be x.1 4 ++ b.1, b.2) : LR) else .ok (be x.1 4, x.2)) = fun x => if x.1 = 1 then (ly f none x.2).bind fun b => .ok (be x.1 4 ++ b.1, b.2) else .ok (be x.1 4, x.2) from funext fun x => by rw [arm0_ly]]
          have HST := Lib.hid hst
          have HQQ := Lib.hid hq
          clear hst hq
          go_wp2_with (fail)
          refine hnb.mono ?_
          clear hnb HS
          intro x w5 hx
          cases q with
          | error e =>
            obtain ⟨rfl, HS⟩ := hx
            refine ⟨rfl, ?_⟩
            have hs1 : ly (.sign kk n a .nil) none (p.N.drop n1, p.T.drop t1) = .error _ := (by rw [HST.out]; rfl)
            rw [HO.out, hs1]
            exact ⟨rfl, _, _, _, (LyS.tailF ⟨W, HWB.out, hWz, HS⟩)⟩
          | ok x =>
            obtain ⟨x1, v2⟩ := x
            obtain ⟨rfl, hv, hlt1, HS⟩ := hx
            dsimp only at hv HS
            have hgt := getN_ok HQQ.out.symm
            have hqw := getN_wgt HQQ.out.symm
            dsimp only at hgt hqw
            rw [hv] at hqw
            obtain ⟨xb, hxb⟩ : ∃ xb : Bool, xb = (x1 == 1) := ⟨_, rfl⟩
            have HX0 : Hid (xb = false → x1 = 0) := fun h => by rw [hxb] at h; have := beq_eq_false_iff_ne.1 h; omega
            have HX1 : Hid (xb = true → x1 = 1) := fun h => by rw [hxb] at h; exact beq_iff_eq.1 h
            have HV := Lib.hid hv; have HQW := Lib.hid hqw
            clear hv hgt hqw hxb
            have hgr := grow_ok b p (n1 + 1) (t1) (B ++ C).length 4 W ((by have := HB.out; rw [List.length_append]; omega)) HS
            by_cases hz : (B ++ C).length + 4 ≤ 65536
            · rw [decide_eq_true hz] at hgr
              have HZ := Lib.hid hz; clear hz
              go_wp2_with (fail)
              refine hgr.mono ?_
              clear hgr
              rintro y w6 ⟨rfl, HS⟩
              go_wp2_with (fail)
              refine (wuint_ok b _ (p.hmk (n1 + 1) (t1) ((B ++ C).length + 4)) 100 W (x1) (by omega) HS).mono ?_
              clear HS
              rintro y w7 ⟨rfl, HS⟩
              have HL := LyS.wrote (B := B ++ C) (l := be (x1) 4) (by rw [be_length]) (HWB.out (by have := HZ.out; omega)) HZ.out HS
              clear HS
              cases xb with
              | false =>
                obtain rfl : x1 = 0 := HX0.out rfl
                have hb0 : ((0 : Int) == 1) = false := rfl
                have hs1 : ly (.sign kk n a .nil) none (p.N.drop n1, p.T.drop t1) = .ok (be 0 4, (p.N.drop (n1 + 1), p.T.drop (t1))) := (by rw [HST.out, opt_no, HV.out])
                have hln := (ly_len (.sign kk n a .nil) none _ _ _ ⟨HWK.out, hwn, HWA.out, HWF.out, trivial⟩ ⟨HFA.out, HFF.out, trivial⟩ hs1).1
                have HLN := Lib.hid hln
                have HNX : Hid (o = (ly t none (p.N.drop (n1 + 1), p.T.drop (t1))).bind fun y => .ok ((C ++ (be 0 4)) ++ y.1, y.2)) := by
                  show _ = _
                  rw [HO.out, hs1]
                  show ((ly t none (p.N.drop (n1 + 1), p.T.drop (t1))).bind fun y => (.ok (be 0 4 ++ y.1, y.2) : LR)).bind (fun y => .ok (C ++ y.1, y.2)) = _
                  cases ly t none (p.N.drop (n1 + 1), p.T.drop (t1)) with
                  | error e => rfl
                  | ok y => show (.ok (C ++ (be 0 4 ++ y.1), y.2) : LR) = .ok ((C ++ be 0 4) ++ y.1, y.2); simp only [List.append_assoc]
                clear hs1 hln
                go_wp2_with (fail)
                go_roundw
                case rel =>
                  refine ⟨j + 1, t, n1 + 1, t1, C ++ (be 0 4), by omega, by go_num, HNX.out, HWT.out, HFT.out, HRT.out, by have := hsg; simp only [Tr.sg] at this; omega, by have := hsm; simp only [Tr.sg] at this; omega, ?_, by rw [← List.append_assoc]; exact HL.tailF⟩
                  have h1 := HLN.out
                  have h2 := HB.out
                  show B.length + (C ++ be 0 4).length + wgt (p.N.drop (n1 + 1), p.T.drop (t1)) ≤ 1125899906842624
                  rw [List.length_append]
                  omega
                case measure => simp [intOf]; omega
              | true =>
                obtain rfl : x1 = 1 := HX1.out rfl
                have hb0 : ((1 : Int) == 1) = true := rfl
                obtain ⟨r, hr⟩ : ∃ r, r = ly f none (p.N.drop (n1 + 1), p.T.drop (t1)) := ⟨_, rfl⟩
                have hly := IH (f.sg + 1) hsg2 f Bf cf b p (n1 + 1) (t1) (B ++ C ++ be 1 4) w0 _ _ (Nat.lt_succ_self _) hsg3 HWf.out HFf.out HRf.out HG.out ((by have h1 := HB.out; have h2 := HQW.out; simp only [List.length_append, be_length]; omega)) (HL)
                rw [← hr] at hly
                have HRR := Lib.hid hr; clear hr
                obtain ⟨G9, HG9⟩ := HL.any
                obtain ⟨G8, HG8⟩ := HL.front
                have k2 := HG8.cell 2 rfl
                have ef : w7.cell? ⟨ga, oa + 2, none⟩ = some (.slice Bf f.len cf) := by
                  have h1 := HEF.out
                  rw [HG9.old (World.block_lt_of_cell? w0 _ h1)]; exact h1
                go_wp2_with (fail)
                refine hly.mono ?_
                clear hly k2 ef
                intro y w10 hx
                cases r with
                | error e =>
                  obtain ⟨rfl, n3, t3, B3, HL3⟩ := hx
                  refine ⟨rfl, ?_⟩
                  have hs1 : ly (.sign kk n a .nil) none (p.N.drop n1, p.T.drop t1) = .error _ := (by rw [HST.out, opt_yes, HV.out, ← HRR.out]; rfl)
                  rw [HO.out, hs1]
                  exact ⟨rfl, _, _, _, HL3.tailF⟩
                | ok r =>
                  obtain ⟨rfl, n3, t3, hv3, HL3⟩ := hx
                  obtain ⟨rl, rv⟩ := r
                  dsimp only at hv3 HL3
                  have HV3 := Lib.hid hv3; clear hv3
                  have hs1 : ly (.sign kk n a .nil) none (p.N.drop n1, p.T.drop t1) = .ok ((be 1 4 ++ rl), (p.N.drop (n3), p.T.drop (t3))) := (by rw [HST.out, opt_yes, HV.out, ← HRR.out, ← HV3.out]; rfl)
                  have hln := (ly_len (.sign kk n a .nil) none _ _ _ ⟨HWK.out, hwn, HWA.out, HWF.out, trivial⟩ ⟨HFA.out, HFF.out, trivial⟩ hs1).1
                  have HLN := Lib.hid hln
                  have HNX : Hid (o = (ly t none (p.N.drop (n3), p.T.drop (t3))).bind fun y => .ok ((C ++ ((be 1 4 ++ rl))) ++ y.1, y.2)) := by
                    show _ = _
                    rw [HO.out, hs1]
                    show ((ly t none (p.N.drop (n3), p.T.drop (t3))).bind fun y => (.ok ((be 1 4 ++ rl) ++ y.1, y.2) : LR)).bind (fun y => .ok (C ++ y.1, y.2)) = _
                    cases ly t none (p.N.drop (n3), p.T.drop (t3)) with
                    | error e => rfl
                    | ok y => show (.ok (C ++ ((be 1 4 ++ rl) ++ y.1), y.2) : LR) = .ok ((C ++ (be 1 4 ++ rl)) ++ y.1, y.2); simp only [List.append_assoc]
                  clear hs1 hln
                  go_wp2_with (fail)
                  go_roundw
                  case rel =>
                    refine ⟨j + 1, t, n3, t3, C ++ ((be 1 4 ++ rl)), by omega, by go_num, HNX.out, HWT.out, HFT.out, HRT.out, by have := hsg; simp only [Tr.sg] at this; omega, by have := hsm; simp only [Tr.sg] at this; omega, ?_, by rw [← List.append_assoc]; exact (by rw [← List.append_assoc]; exact HL3.tailF)⟩
                    have h1 := HLN.out
                    have h2 := HB.out
                    show B.length + (C ++ (be 1 4 ++ rl)).length + wgt (p.N.drop (n3), p.T.drop (t3)) ≤ 1125899906842624
                    rw [List.length_append]
                    omega
                  case measure => simp [intOf]; omega
            · rw [decide_eq_false hz] at hgr
              have HZ := Lib.hid hz; clear hz
              go_wp2_with (fail)
              refine hgr.mono ?_
              clear hgr
              rintro y w7 ⟨rfl, HS⟩
              have HL := LyS.over (B := B ++ C) (l := be (x1) 4) (by rw [be_length]) hWz HZ.out HS
              clear HS
              cases xb with
              | false =>
                obtain rfl : x1 = 0 := HX0.out rfl
                have hb0 : ((0 : Int) == 1) = false := rfl
                have hs1 : ly (.sign kk n a .nil) none (p.N.drop n1, p.T.drop t1) = .ok (be 0 4, (p.N.drop (n1 + 1), p.T.drop (t1))) := (by rw [HST.out, opt_no, HV.out])
                have hln := (ly_len (.sign kk n a .nil) none _ _ _ ⟨HWK.out, hwn, HWA.out, HWF.out, trivial⟩ ⟨HFA.out, HFF.out, trivial⟩ hs1).1
                have HLN := Lib.hid hln
                have HNX : Hid (o = (ly t none (p.N.drop (n1 + 1), p.T.drop (t1))).bind fun y => .ok ((C ++ (be 0 4)) ++ y.1, y.2)) := by
                  show _ = _
                  rw [HO.out, hs1]
                  show ((ly t none (p.N.drop (n1 + 1), p.T.drop (t1))).bind fun y => (.ok (be 0 4 ++ y.1, y.2) : LR)).bind (fun y => .ok (C ++ y.1, y.2)) = _
                  cases ly t none (p.N.drop (n1 + 1), p.T.drop (t1)) with
                  | error e => rfl
                  | ok y => show (.ok (C ++ (be 0 4 ++ y.1), y.2) : LR) = .ok ((C ++ be 0 4) ++ y.1, y.2); simp only [List.append_assoc]
                clear hs1 hln
                go_wp2_with (fail)
                go_roundw
                case rel =>
                  refine ⟨j + 1, t, n1 + 1, t1, C ++ (be 0 4), by omega, by go_num, HNX.out, HWT.out, HFT.out, HRT.out, by have := hsg; simp only [Tr.sg] at this; omega, by have := hsm; simp only [Tr.sg] at this; omega, ?_, by rw [← List.append_assoc]; exact HL.tailF⟩
                  have h1 := HLN.out
                  have h2 := HB.out
                  show B.length + (C ++ be 0 4).length + wgt (p.N.drop (n1 + 1), p.T.drop (t1)) ≤ 1125899906842624
                  rw [List.length_append]
                  omega
                case measure => simp [intOf]; omega
              | true =>
                obtain rfl : x1 = 1 := HX1.out rfl
                have hb0 : ((1 : Int) == 1) = true := rfl
                obtain ⟨r, hr⟩ : ∃ r, r = ly f none (p.N.drop (n1 + 1), p.T.drop (t1)) := ⟨_, rfl⟩
                have hly := IH (f.sg + 1) hsg2 f Bf cf b p (n1 + 1) (t1) (B ++ C ++ be 1 4) w0 _ _ (Nat.lt_succ_self _) hsg3 HWf.out HFf.out HRf.out HG.out ((by have h1 := HB.out; have h2 := HQW.out; simp only [List.length_append, be_length]; omega)) (HL)
                rw [← hr] at hly
                have HRR := Lib.hid hr; clear hr
                obtain ⟨G9, HG9⟩ := HL.any
                obtain ⟨G8, HG8⟩ := HL.front
                have k2 := HG8.cell 2 rfl
                have ef : w7.cell? ⟨ga, oa + 2, none⟩ = some (.slice Bf f.len cf) := by
                  have h1 := HEF.out
                  rw [HG9.old (World.block_lt_of_cell? w0 _ h1)]; exact h1
                go_wp2_with (fail)
                refine hly.mono ?_
                clear hly k2 ef
                intro y w10 hx
                cases r with
                | error e =>
                  obtain ⟨rfl, n3, t3, B3, HL3⟩ := hx
                  refine ⟨rfl, ?_⟩
                  have hs1 : ly (.sign kk n a .nil) none (p.N.drop n1, p.T.drop t1) = .error _ := (by rw [HST.out, opt_yes, HV.out, ← HRR.out]; rfl)
                  rw [HO.out, hs1]
                  exact ⟨rfl, _, _, _, HL3.tailF⟩
                | ok r =>
                  obtain ⟨rfl, n3, t3, hv3, HL3⟩ := hx
                  obtain ⟨rl, rv⟩ := r
                  dsimp only at hv3 HL3
                  have HV3 := Lib.hid hv3; clear hv3
                  have hs1 : ly (.sign kk n a .nil) none (p.N.drop n1, p.T.drop t1) = .ok ((be 1 4 ++ rl), (p.N.drop (n3), p.T.drop (t3))) := (by rw [HST.out, opt_yes, HV.out, ← HRR.out, ← HV3.out]; rfl)
                  have hln := (ly_len (.sign kk n a .nil) none _ _ _ ⟨HWK.out, hwn, HWA.out, HWF.out, trivial⟩ ⟨HFA.out, HFF.out, trivial⟩ hs1).1
                  have HLN := Lib.hid hln
                  have HNX : Hid (o = (ly t none (p.N.drop (n3), p.T.drop (t3))).bind fun y => .ok ((C ++ ((be 1 4 ++ rl))) ++ y.1, y.2)) := by
                    show _ = _
                    rw [HO.out, hs1]
                    show ((ly t none (p.N.drop (n3), p.T.drop (t3))).bind fun y => (.ok ((be 1 4 ++ rl) ++ y.1, y.2) : LR)).bind (fun y => .ok (C ++ y.1, y.2)) = _
                    cases ly t none (p.N.drop (n3), p.T.drop (t3)) with
                    | error e => rfl
                    | ok y => show (.ok (C ++ ((be 1 4 ++ rl) ++ y.1), y.2) : LR) = .ok ((C ++ (be 1 4 ++ rl)) ++ y.1, y.2); simp only [List.append_assoc]
                  clear hs1 hln
                  go_wp2_with (fail)
                  go_roundw
                  case rel =>
                    refine ⟨j + 1, t, n3, t3, C ++ ((be 1 4 ++ rl)), by omega, by go_num, HNX.out, HWT.out, HFT.out, HRT.out, by have := hsg; simp only [Tr.sg] at this; omega, by have := hsm; simp only [Tr.sg] at this; omega, ?_, by rw [← List.append_assoc]; exact (by rw [← List.append_assoc]; exact HL3.tailF)⟩
                    have h1 := HLN.out
                    have h2 := HB.out
                    show B.length + (C ++ (be 1 4 ++ rl)).length + wgt (p.N.drop (n3), p.T.drop (t3)) ≤ 1125899906842624
                    rw [List.length_append]
                    omega
                  case measure => simp [intOf]; omega
      by_cases e60 : kk = 60
      · as_aux_lemma =>
          have hki : ki = 60 := by rw [HKI.out, e60]; rfl
          subst hki
          have HK := Lib.hid e60; clear e60
          obtain ⟨q, hq⟩ : ∃ q, q = getN 0 4294967295 (p.N.drop n1, p.T.drop t1) := ⟨_, rfl⟩
          have hnb := lnumber_ok b p n1 t1 (B ++ C).length W 0 4294967295 HG.out.lenN HG.out.rdN HS
          rw [← hq] at hnb
          have hst : ly (.sign kk n a .nil) none (p.N.drop n1, p.T.drop t1) = q.bind fun x => (ly a (some x.1) x.2).bind fun b => .ok (be x.1 4 ++ b.1, b.2) := by
            rw [ly, if_neg (by have := HK.out; omega), if_neg (by have := HK.out; omega), if_neg (by have := HK.out; omega), if_neg (by have := HK.out; omega), if_neg (by have := HK.out; omega), if_neg (by have := HK.out; omega), if_neg (by have := HK.out; omega), if_pos HK.out, bindL, hq]
          have HST := Lib.hid hst
          have HQQ := Lib.hid hq
          clear hst hq
          have hall : al ≤ 1099511627776 := by
            have h1 := a.len_sg
            have h2 := hsm
            simp only [Tr.sg] at h2
            rw [HAL.out]; omega
          go_wp2_with (fail)
          refine hnb.mono ?_
          clear hnb HS
          intro x w5 hx
          cases q with
          | error e =>
            obtain ⟨rfl, HS⟩ := hx
            refine ⟨rfl, ?_⟩
            have hs1 : ly (.sign kk n a .nil) none (p.N.drop n1, p.T.drop t1) = .error _ := (by rw [HST.out]; rfl)
            rw [HO.out, hs1]
            exact ⟨rfl, _, _, _, (LyS.tailF ⟨W, HWB.out, hWz, HS⟩)⟩
          | ok x =>
            obtain ⟨x1, v2⟩ := x
            obtain ⟨rfl, hv, hlt1, HS⟩ := hx
            dsimp only at hv HS
            have hqw := getN_wgt HQQ.out.symm
            dsimp only at hqw
            rw [hv] at hqw
            have HV := Lib.hid hv; have HQW := Lib.hid hqw
            clear hv hqw
            obtain ⟨pf, hpf⟩ : ∃ pf, pf = pickT a x1 := ⟨_, rfl⟩
            have hpk := pick_ok kk n x1 a B' cB' HWF.out (by rw [← HAL.out]; exact hall) HRF.out HS
            rw [← HAL.out, ← HKI.out, ← hpf] at hpk
            have HPF : Hid (pickT a x1 = pf) := hpf.symm
            clear hpf
            have k0 := HS.r2.cell 0 rfl
            have k1 := HS.r2.cell 1 rfl
            have k2 := HS.r2.cell 2 rfl
            go_wp2_with (fail)
            refine hpk.mono ?_
            clear hpk k0 k1 k2 HS
            intro y w8 hx
            cases pf with
            | none =>
              obtain ⟨rfl, HS⟩ := hx
              go_wp2_with (fail)
              refine ⟨rfl, ?_⟩
              have hs1 : ly (.sign kk n a .nil) none (p.N.drop n1, p.T.drop t1) = .error _ := (by rw [HST.out]; show (ly a (some x1) v2).bind _ = _; rw [ly_arms, HPF.out]; rfl)
              rw [HO.out, hs1]
              exact ⟨rfl, _, _, _, (LyS.tailF (B := B ++ C) ⟨W, HWB.out, hWz, HS⟩)⟩
            | some f =>
              obtain ⟨Bf, cf, rfl, hrf, hwff, HS⟩ := hx
              have HRf := Lib.hid hrf; have HWf := Lib.hid hwff; have HFf := Lib.hid (pickT_full HFF.out HPF.out)
              have hfa := pickT_sg HPF.out
              have hsg2 : f.sg + 1 < k := by have := hsg; simp only [Tr.sg] at this; omega
              have hsg3 : f.sg ≤ 1099511627776 := by have := hsm; simp only [Tr.sg] at this; omega
              clear hrf hwff hfa
              have hgr := grow_ok b p (n1 + 1) (t1) (B ++ C).length 4 W ((by have := HB.out; rw [List.length_append]; omega)) HS
              by_cases hz : (B ++ C).length + 4 ≤ 65536
              · rw [decide_eq_true hz] at hgr
                have HZ := Lib.hid hz; clear hz
                go_wp2_with (fail)
                refine hgr.mono ?_
                clear hgr
                rintro y w6 ⟨rfl, HS⟩
                go_wp2_with (fail)
                refine (wuint_ok b _ (p.hmk (n1 + 1) (t1) ((B ++ C).length + 4)) 100 W (x1) (by omega) HS).mono ?_
                clear HS
                rintro y w7 ⟨rfl, HS⟩
                have HL := LyS.wrote (B := B ++ C) (l := be (x1) 4) (by rw [be_length]) (HWB.out (by have := HZ.out; omega)) HZ.out HS
                clear HS
                obtain ⟨r, hr⟩ : ∃ r, r = ly f none (p.N.drop (n1 + 1), p.T.drop (t1)) := ⟨_, rfl⟩
                have hly := IH (f.sg + 1) hsg2 f Bf cf b p (n1 + 1) (t1) (B ++ C ++ be x1 4) w0 _ _ (Nat.lt_succ_self _) hsg3 HWf.out HFf.out HRf.out HG.out ((by have h1 := HB.out; have h2 := HQW.out; simp only [List.length_append, be_length]; omega)) (HL)
                rw [← hr] at hly
                have HRR := Lib.hid hr; clear hr
                go_wp2_with (fail)
                refine hly.mono ?_
                clear hly
                intro y w10 hx
                cases r with
                | error e =>
                  obtain ⟨rfl, n3, t3, B3, HL3⟩ := hx
                  refine ⟨rfl, ?_⟩
                  have hs1 : ly (.sign kk n a .nil) none (p.N.drop n1, p.T.drop t1) = .error _ := (by rw [HST.out]; show (ly a (some x1) v2).bind _ = _; rw [ly_arms, HPF.out, HV.out]; show (ly f none _).bind _ = _; rw [← HRR.out]; rfl)
                  rw [HO.out, hs1]
                  exact ⟨rfl, _, _, _, HL3.tailF⟩
                | ok r =>
                  obtain ⟨rfl, n3, t3, hv3, HL3⟩ := hx
                  obtain ⟨rl, rv⟩ := r
                  dsimp only at hv3 HL3
                  have HV3 := Lib.hid hv3; clear hv3
                  have hs1 : ly (.sign kk n a .nil) none (p.N.drop n1, p.T.drop t1) = .ok ((be x1 4 ++ rl), (p.N.drop (n3), p.T.drop (t3))) := (by rw [HST.out]; show (ly a (some x1) v2).bind _ = _; rw [ly_arms, HPF.out, HV.out]; show (ly f none _).bind _ = _; rw [← HRR.out, ← HV3.out]; rfl)
                  have hln := (ly_len (.sign kk n a .nil) none _ _ _ ⟨HWK.out, hwn, HWA.out, HWF.out, trivial⟩ ⟨HFA.out, HFF.out, trivial⟩ hs1).1
                  have HLN := Lib.hid hln
                  have HNX : Hid (o = (ly t none (p.N.drop (n3), p.T.drop (t3))).bind fun y => .ok ((C ++ ((be x1 4 ++ rl))) ++ y.1, y.2)) := by
                    show _ = _
                    rw [HO.out, hs1]
                    show ((ly t none (p.N.drop (n3), p.T.drop (t3))).bind fun y => (.ok ((be x1 4 ++ rl) ++ y.1, y.2) : LR)).bind (fun y => .ok (C ++ y.1, y.2)) = _
                    cases ly t none (p.N.drop (n3), p.T.drop (t3)) with
                    | error e => rfl
                    | ok y => show (.ok (C ++ ((be x1 4 ++ rl) ++ y.1), y.2) : LR) = .ok ((C ++ (be x1 4 ++ rl)) ++ y.1, y.2); simp only [List.append_assoc]
                  clear hs1 hln
                  go_wp2_with (fail)
                  go_roundw
                  case rel =>
                    refine ⟨j + 1, t, n3, t3, C ++ ((be x1 4 ++ rl)), by omega, by go_num, HNX.out, HWT.out, HFT.out, HRT.out, by have := hsg; simp only [Tr.sg] at this; omega, by have := hsm; simp only [Tr.sg] at this; omega, ?_, by rw [← List.append_assoc]; exact (by rw [← List.append_assoc]; exact HL3.tailF)⟩
                    have h1 := HLN.out
                    have h2 := HB.out
                    show B.length + (C ++ (be x1 4 ++ rl)).length + wgt (p.N.drop (n3), p.T.drop (t3)) ≤ 1125899906842624
                    rw [List.length_append]
                    omega
                  case measure => simp [intOf]; omega
              · rw [decide_eq_false hz] at hgr
                have HZ := Lib.hid hz; clear hz
                go_wp2_with (fail)
                refine hgr.mono ?_
                clear hgr
                rintro y w7 ⟨rfl, HS⟩
                have HL := LyS.over (B := B ++ C) (l := be (x1) 4) (by rw [be_length]) hWz HZ.out HS
                clear HS
                obtain ⟨r, hr⟩ : ∃ r, r = ly f none (p.N.drop (n1 + 1), p.T.drop (t1)) := ⟨_, rfl⟩
                have hly := IH (f.sg + 1) hsg2 f Bf cf b p (n1 + 1) (t1) (B ++ C ++ be x1 4) w0 _ _ (Nat.lt_succ_self _) hsg3 HWf.out HFf.out HRf.out HG.out ((by have h1 := HB.out; have h2 := HQW.out; simp only [List.length_append, be_length]; omega)) (HL)
                rw [← hr] at hly
                have HRR := Lib.hid hr; clear hr
                go_wp2_with (fail)
                refine hly.mono ?_
                clear hly
                intro y w10 hx
                cases r with
                | error e =>
                  obtain ⟨rfl, n3, t3, B3, HL3⟩ := hx
                  refine ⟨rfl, ?_⟩
                  have hs1 : ly (.sign kk n a .nil) none (p.N.drop n1, p.T.drop t1) = .error _ := (by rw [HST.out]; show (ly a (some x1) v2).bind _ = _; rw [ly_arms, HPF.out, HV.out]; show (ly f none _).bind _ = _; rw [← HRR.out]; rfl)
                  rw [HO.out, hs1]
                  exact ⟨rfl, _, _, _, HL3.tailF⟩
                | ok r =>
                  obtain ⟨rfl, n3, t3, hv3, HL3⟩ := hx
                  obtain ⟨rl, rv⟩ := r
                  dsimp only at hv3 HL3
                  have HV3 := Lib.hid hv3; clear hv3
                  have hs1 : ly (.sign kk n a .nil) none (p.N.drop n1, p.T.drop t1) = .ok ((be x1 4 ++ rl), (p.N.drop (n3), p.T.drop (t3))) := (by rw [HST.out]; show (ly a (some x1) v2).bind _ = _; rw [ly_arms, HPF.out, HV.out]; show (ly f none _).bind _ = _; rw [← HRR.out, ← HV3.out]; rfl)
                  have hln := (ly_len (.sign kk n a .nil) none _ _ _ ⟨HWK.out, hwn, HWA.out, HWF.out, trivial⟩ ⟨HFA.out, HFF.out, trivial⟩ hs1).1
                  have HLN := Lib.hid hln
                  have HNX : Hid (o = (ly t none (p.N.drop (n3), p.T.drop (t3))).bind fun y => .ok ((C ++ ((be x1 4 ++ rl))) ++ y.1, y.2)) := by
                    show _ = _
                    rw [HO.out, hs1]
                    show ((ly t none (p.N.drop (n3), p.T.drop (t3))).bind fun y => (.ok ((be x1 4 ++ rl) ++ y.1, y.2) : LR)).bind (fun y => .ok (C ++ y.1, y.2)) = _
                    cases ly t none (p.N.drop (n3), p.T.drop (t3)) with
                    | error e => rfl
                    | ok y => show (.ok (C ++ ((be x1 4 ++ rl) ++ y.1), y.2) : LR) = .ok ((C ++ (be x1 4 ++ rl)) ++ y.1, y.2); simp only [List.append_assoc]
                  clear hs1 hln
                  go_wp2_with (fail)
                  go_roundw
                  case rel =>
                    refine ⟨j + 1, t, n3, t3, C ++ ((be x1 4 ++ rl)), by omega, by go_num, HNX.out, HWT.out, HFT.out, HRT.out, by have := hsg; simp only [Tr.sg] at this; omega, by have := hsm; simp only [Tr.sg] at this; omega, ?_, by rw [← List.append_assoc]; exact (by rw [← List.append_assoc]; exact HL3.tailF)⟩
                    have h1 := HLN.out
                    have h2 := HB.out
                    show B.length + (C ++ (be x1 4 ++ rl)).length + wgt (p.N.drop (n3), p.T.drop (t3)) ≤ 1125899906842624
                    rw [List.length_append]
                    omega
                  case measure => simp [intOf]; omega
      by_cases e42 : kk = 42
      · as_aux_lemma =>
          have hki : ki = 42 := by rw [HKI.out, e42]; rfl
          subst hki
          have HK := Lib.hid e42; clear e42
          obtain ⟨f, hf⟩ := HWA.out (.inr HK.out)
          have hRa := HRF.out
          rw [hf] at hRa
          obtain ⟨⟨ga, oa, hB', _, _, Bf, cf, ef, hrf⟩, _⟩ := hRa
          have hwff : f.wf false := by have := HWF.out; rw [hf] at this; exact this.2.1
          have hfuf : f.full := by have := HFF.out; rw [hf] at this; exact this.1
          have hal1 : al = 1 := by rw [HAL.out, hf]; rfl
          have hsgf : a.sg = 1 + f.sg := by rw [hf]; rfl
          have hsg2 : f.sg + 1 < k := by have := hsg; simp only [Tr.sg] at this; omega
          have hsg3 : f.sg ≤ 1099511627776 := by have := hsm; simp only [Tr.sg] at this; omega
          have HF := Lib.hid hf; have HRf := Lib.hid hrf; have HWf := Lib.hid hwff; have HFf := Lib.hid hfuf; have HEF := Lib.hid ef
          clear hf hrf hwff hfuf hsgf ef
          subst hB' hal1
          obtain ⟨f', hf', hf0'⟩ := HFA.out HK.out
          have hf0 : f.len ≠ 0 := by
            have := HF.out
            rw [hf'] at this; injection this with _ _ h _; rw [← h]; exact hf0'
          have HF0 := Lib.hid hf0
          clear hf' hf0' hf0
          obtain ⟨q, hq⟩ : ∃ q, q = getN 0 9223372036854775807 (p.N.drop n1, p.T.drop t1) := ⟨_, rfl⟩
          have hnb := lnumber_ok b p n1 t1 (B ++ C).length W 0 9223372036854775807 HG.out.lenN HG.out.rdN HS
          rw [← hq] at hnb
          have hst : ly (.sign kk n a .nil) none (p.N.drop n1, p.T.drop t1) = q.bind fun x => (repL (fun v => ly f none v) x.1.toNat x.2).bind fun b => .ok (b.1 ++ be 0 4, b.2) := by
            rw [ly, if_neg (by have := HK.out; omega), if_neg (by have := HK.out; omega), if_neg (by have := HK.out; omega), if_neg (by have := HK.out; omega), if_neg (by have := HK.out; omega), if_neg (by have := HK.out; omega), if_pos HK.out, bindL, hq, HF.out, show (fun v : VS => ly (.arm 0 false f .nil) (some 0) v) = fun v => ly f none v from funext fun v => arm0_ly f v]
          have HST0 := Lib.hid hst
          have HQQ := Lib.hid hq
          clear hst hq
          go_wp2_with (fail)
          refine hnb.mono ?_
          clear hnb HS
          intro x w5 hx
          cases q with
          | error e =>
            obtain ⟨rfl, HS⟩ := hx
            refine ⟨rfl, ?_⟩
            have hs1 : ly (.sign kk n a .nil) none (p.N.drop n1, p.T.drop t1) = .error _ := (by rw [HST0.out]; rfl)
            rw [HO.out, hs1]
            exact ⟨rfl, _, _, _, (LyS.tailF ⟨W, HWB.out, hWz, HS⟩)⟩
          | ok x =>
            obtain ⟨x1, v2⟩ := x
            obtain ⟨rfl, hv, hlt1, HS⟩ := hx
            dsimp only at hv HS
            have hgt := getN_ok HQQ.out.symm
            have hqw := getN_wgt HQQ.out.symm
            dsimp only at hgt hqw
            rw [hv] at hqw
            obtain ⟨xn, hxn⟩ : ∃ xn : Nat, x1 = xn := ⟨x1.toNat, by omega⟩
            subst hxn
            have hxnb : xn ≤ 9223372036854775807 := by omega
            obtain ⟨SS, hSS⟩ : ∃ SS, SS = ((repL (fun v => ly f none v) xn (p.N.drop (n1 + 1), p.T.drop t1)).bind fun b => (.ok (b.1 ++ be 0 4, b.2) : LR)) := ⟨_, rfl⟩
            have hst2 : ly (.sign kk n a .nil) none (p.N.drop n1, p.T.drop t1) = SS := by
              rw [HST0.out, hSS]
              show (repL (fun v => ly f none v) ((xn : Int).toNat) v2).bind _ = _
              rw [Int.toNat_natCast, hv]
            have HST := Lib.hid hst2; have HSS0 := Lib.hid hSS; have HQW := Lib.hid hqw
            clear hst2 hSS hqw hv hgt
            go_wp2_with (fail)
            go_loopw [123] (fun i wx => ∃ (m n2 t2 : Nat) (C2 : List UInt8), m ≤ xn ∧ i = .int .i64 m ∧ Hid (SS = (repL (fun v => ly f none v) (xn - m) (p.N.drop n2, p.T.drop t2)).bind fun b => (.ok (C2 ++ b.1 ++ be 0 4, b.2) : LR)) ∧ Hid (C2.length + wgt (p.N.drop n2, p.T.drop t2) ≤ wgt (p.N.drop (n1 + 1), p.T.drop t1)) ∧ LyS w0 wx (Pt b5 #[.int .u8 42, .int .i64 n, .slice (some ⟨ga, oa, none⟩) 1 cB'] 112 :: F) b p n2 t2 (B ++ (C ++ C2))) (fun i _ => xn - (intOf i).toNat)
            case atStart =>
              refine ⟨0, n1 + 1, t1, [], Nat.zero_le _, rfl, ?_, ?_, ⟨W, by rw [List.append_nil]; exact HWB.out, hWz, by rw [List.append_nil]; exact HS⟩⟩
              · show _ = _
                rw [HSS0.out]; rfl
              · show ([] : List UInt8).length + _ ≤ _
                simp
            case round =>
              clear HS HWB hWz
              obtain ⟨m, n2, t2, C2, hm, rfl, HSS, HC2, W, hWB, hWz, HS⟩ := hrel
              have HWB := Lib.hid hWB; clear hWB
              by_cases hml : m < xn
              · have hmI : (m : Int) < xn := by omega
                have hgr := grow_ok b p (n2) (t2) (B ++ (C ++ C2)).length 4 W ((by have h1 := HB.out; have h2 := HQW.out; have h3 := HC2.out; simp only [List.length_append]; omega)) HS
                by_cases hz : (B ++ (C ++ C2)).length + 4 ≤ 65536
                · rw [decide_eq_true hz] at hgr
                  have HZ := Lib.hid hz; clear hz
                  go_wp2_with (fail)
                  refine hgr.mono ?_
                  clear hgr
                  rintro y w6 ⟨rfl, HS⟩
                  go_wp2_with (fail)
                  refine (wuint_ok b _ (p.hmk (n2) (t2) ((B ++ (C ++ C2)).length + 4)) 100 W (1) (by omega) HS).mono ?_
                  clear HS
                  rintro y w7 ⟨rfl, HS⟩
                  have HL := LyS.wrote (B := B ++ (C ++ C2)) (l := be (1) 4) (by rw [be_length]) (HWB.out (by have := HZ.out; omega)) HZ.out HS
                  clear HS
                  obtain ⟨r, hr⟩ : ∃ r, r = ly f none (p.N.drop (n2), p.T.drop (t2)) := ⟨_, rfl⟩
                  have hly := IH (f.sg + 1) hsg2 f Bf cf b p (n2) (t2) (B ++ (C ++ C2) ++ be 1 4) w0 _ _ (Nat.lt_succ_self _) hsg3 HWf.out HFf.out HRf.out HG.out ((by have h1 := HB.out; have h2 := HQW.out; have h3 := HC2.out; simp only [List.length_append, be_length]; omega)) (HL)
                  rw [← hr] at hly
                  have HRR := Lib.hid hr; clear hr
                  obtain ⟨G9, HG9⟩ := HL.any
                  obtain ⟨G8, HG8⟩ := HL.front
                  have k2 := HG8.cell 2 rfl
                  have ef : w7.cell? ⟨ga, oa + 2, none⟩ = some (.slice Bf f.len cf) := by
                    have h1 := HEF.out
                    rw [HG9.old (World.block_lt_of_cell? w0 _ h1)]; exact h1
                  go_wp2_with (fail)
                  refine hly.mono ?_
                  clear hly k2 ef
                  intro y w10 hx
                  cases r with
                  | error e =>
                    obtain ⟨rfl, n3, t3, B3, HL3⟩ := hx
                    refine ⟨rfl, ?_⟩
                    have hs1 : ly (.sign kk n a .nil) none (p.N.drop n1, p.T.drop t1) = .error _ := (by rw [HST.out, HSS.out, show xn - m = (xn - m - 1) + 1 by omega, repL, ← HRR.out]; rfl)
                    rw [HO.out, hs1]
                    exact ⟨rfl, _, _, _, HL3.tailF⟩
                  | ok r =>
                    obtain ⟨rfl, n3, t3, hv3, HL3⟩ := hx
                    obtain ⟨rl, rv⟩ := r
                    dsimp only at hv3 HL3
                    have HV3 := Lib.hid hv3
                    have hln3 := (ly_len f none _ _ _ HWf.out HFf.out HRR.out.symm).2 rfl HF0.out
                    rw [hv3] at hln3
                    have HLN3 := Lib.hid hln3
                    clear hv3 hln3
                    go_wp2_with (fail)
                    go_roundw
                    case rel =>
                      refine ⟨m + 1, n3, t3, C2 ++ (be 1 4 ++ rl), by omega, by go_num, ?_, ?_, by simp only [← List.append_assoc] at HL3 ⊢; exact HL3⟩
                      · show _ = _
                        rw [HSS.out, show xn - m = (xn - (m + 1)) + 1 by omega, repL, ← HRR.out]
                        show ((repL (fun v => ly f none v) (xn - (m + 1)) rv).bind fun b => (.ok (be 1 4 ++ rl ++ b.1, b.2) : LR)).bind _ = _
                        rw [HV3.out]
                        cases repL (fun v => ly f none v) (xn - (m + 1)) (p.N.drop n3, p.T.drop t3) with
                        | error e => rfl
                        | ok z => show (.ok (C2 ++ (be 1 4 ++ rl ++ z.1) ++ be 0 4, z.2) : LR) = .ok (C2 ++ (be 1 4 ++ rl) ++ z.1 ++ be 0 4, z.2); simp only [List.append_assoc]
                      · have h1 := HC2.out
                        have h2 := HLN3.out
                        show (C2 ++ (be 1 4 ++ rl)).length + wgt (p.N.drop n3, p.T.drop t3) ≤ wgt (p.N.drop (n1 + 1), p.T.drop t1)
                        simp only [List.length_append, be_length]
                        omega
                    case measure => simp [intOf]; omega
                · rw [decide_eq_false hz] at hgr
                  have HZ := Lib.hid hz; clear hz
                  go_wp2_with (fail)
                  refine hgr.mono ?_
                  clear hgr
                  rintro y w7 ⟨rfl, HS⟩
                  have HL := LyS.over (B := B ++ (C ++ C2)) (l := be (1) 4) (by rw [be_length]) hWz HZ.out HS
                  clear HS
                  obtain ⟨r, hr⟩ : ∃ r, r = ly f none (p.N.drop (n2), p.T.drop (t2)) := ⟨_, rfl⟩
                  have hly := IH (f.sg + 1) hsg2 f Bf cf b p (n2) (t2) (B ++ (C ++ C2) ++ be 1 4) w0 _ _ (Nat.lt_succ_self _) hsg3 HWf.out HFf.out HRf.out HG.out ((by have h1 := HB.out; have h2 := HQW.out; have h3 := HC2.out; simp only [List.length_append, be_length]; omega)) (HL)
                  rw [← hr] at hly
                  have HRR := Lib.hid hr; clear hr
                  obtain ⟨G9, HG9⟩ := HL.any
                  obtain ⟨G8, HG8⟩ := HL.front
                  have k2 := HG8.cell 2 rfl
                  have ef : w7.cell? ⟨ga, oa + 2, none⟩ = some (.slice Bf f.len cf) := by
                    have h1 := HEF.out
                    rw [HG9.old (World.block_lt_of_cell? w0 _ h1)]; exact h1
                  go_wp2_with (fail)
                  refine hly.mono ?_
                  clear hly k2 ef
                  intro y w10 hx
                  cases r with
                  | error e =>
                    obtain ⟨rfl, n3, t3, B3, HL3⟩ := hx
                    refine ⟨rfl, ?_⟩
                    have hs1 : ly (.sign kk n a .nil) none (p.N.drop n1, p.T.drop t1) = .error _ := (by rw [HST.out, HSS.out, show xn - m = (xn - m - 1) + 1 by omega, repL, ← HRR.out]; rfl)
                    rw [HO.out, hs1]
                    exact ⟨rfl, _, _, _, HL3.tailF⟩
                  | ok r =>
                    obtain ⟨rfl, n3, t3, hv3, HL3⟩ := hx
                    obtain ⟨rl, rv⟩ := r
                    dsimp only at hv3 HL3
                    have HV3 := Lib.hid hv3
                    have hln3 := (ly_len f none _ _ _ HWf.out HFf.out HRR.out.symm).2 rfl HF0.out
                    rw [hv3] at hln3
                    have HLN3 := Lib.hid hln3
                    clear hv3 hln3
                    go_wp2_with (fail)
                    go_roundw
                    case rel =>
                      refine ⟨m + 1, n3, t3, C2 ++ (be 1 4 ++ rl), by omega, by go_num, ?_, ?_, by simp only [← List.append_assoc] at HL3 ⊢; exact HL3⟩
                      · show _ = _
                        rw [HSS.out, show xn - m = (xn - (m + 1)) + 1 by omega, repL, ← HRR.out]
                        show ((repL (fun v => ly f none v) (xn - (m + 1)) rv).bind fun b => (.ok (be 1 4 ++ rl ++ b.1, b.2) : LR)).bind _ = _
                        rw [HV3.out]
                        cases repL (fun v => ly f none v) (xn - (m + 1)) (p.N.drop n3, p.T.drop t3) with
                        | error e => rfl
                        | ok z => show (.ok (C2 ++ (be 1 4 ++ rl ++ z.1) ++ be 0 4, z.2) : LR) = .ok (C2 ++ (be 1 4 ++ rl) ++ z.1 ++ be 0 4, z.2); simp only [List.append_assoc]
                      · have h1 := HC2.out
                        have h2 := HLN3.out
                        show (C2 ++ (be 1 4 ++ rl)).length + wgt (p.N.drop n3, p.T.drop t3) ≤ wgt (p.N.drop (n1 + 1), p.T.drop t1)
                        simp only [List.length_append, be_length]
                        omega
                    case measure => simp [intOf]; omega
              · obtain rfl : m = xn := by omega
                have hgr := grow_ok b p (n2) (t2) (B ++ (C ++ C2)).length 4 W ((by have h1 := HB.out; have h2 := HQW.out; have h3 := HC2.out; simp only [List.length_append]; omega)) HS
                by_cases hz : (B ++ (C ++ C2)).length + 4 ≤ 65536
                · rw [decide_eq_true hz] at hgr
                  have HZ := Lib.hid hz; clear hz
                  go_wp2_with (fail)
                  refine hgr.mono ?_
                  clear hgr
                  rintro y w6 ⟨rfl, HS⟩
                  go_wp2_with (fail)
                  refine (wuint_ok b _ (p.hmk (n2) (t2) ((B ++ (C ++ C2)).length + 4)) 100 W (0) (by omega) HS).mono ?_
                  clear HS
                  rintro y w7 ⟨rfl, HS⟩
                  have HL := LyS.wrote (B := B ++ (C ++ C2)) (l := be (0) 4) (by rw [be_length]) (HWB.out (by have := HZ.out; omega)) HZ.out HS
                  clear HS
                  have hs1 : ly (.sign kk n a .nil) none (p.N.drop n1, p.T.drop t1) = .ok ((C2 ++ be 0 4), (p.N.drop (n2), p.T.drop (t2))) := (by rw [HST.out, HSS.out, Nat.sub_self, repL]; show (.ok (C2 ++ [] ++ be 0 4, _) : LR) = _; rw [List.append_nil])
                  have hln := (ly_len (.sign kk n a .nil) none _ _ _ ⟨HWK.out, hwn, HWA.out, HWF.out, trivial⟩ ⟨HFA.out, HFF.out, trivial⟩ hs1).1
                  have HLN := Lib.hid hln
                  have HNX : Hid (o = (ly t none (p.N.drop (n2), p.T.drop (t2))).bind fun y => .ok ((C ++ ((C2 ++ be 0 4))) ++ y.1, y.2)) := by
                    show _ = _
                    rw [HO.out, hs1]
                    show ((ly t none (p.N.drop (n2), p.T.drop (t2))).bind fun y => (.ok ((C2 ++ be 0 4) ++ y.1, y.2) : LR)).bind (fun y => .ok (C ++ y.1, y.2)) = _
                    cases ly t none (p.N.drop (n2), p.T.drop (t2)) with
                    | error e => rfl
                    | ok y => show (.ok (C ++ ((C2 ++ be 0 4) ++ y.1), y.2) : LR) = .ok ((C ++ (C2 ++ be 0 4)) ++ y.1, y.2); simp only [List.append_assoc]
                  clear hs1 hln
                  go_wp2_with (fail)
                  go_roundw
                  case rel =>
                    refine ⟨j + 1, t, n2, t2, C ++ ((C2 ++ be 0 4)), by omega, by go_num, HNX.out, HWT.out, HFT.out, HRT.out, by have := hsg; simp only [Tr.sg] at this; omega, by have := hsm; simp only [Tr.sg] at this; omega, ?_, by rw [← List.append_assoc]; exact (by simp only [← List.append_assoc] at HL ⊢; exact HL.tailF)⟩
                    have h1 := HLN.out
                    have h2 := HB.out
                    show B.length + (C ++ (C2 ++ be 0 4)).length + wgt (p.N.drop (n2), p.T.drop (t2)) ≤ 1125899906842624
                    rw [List.length_append]
                    omega
                  case measure => simp [intOf]; omega
                · rw [decide_eq_false hz] at hgr
                  have HZ := Lib.hid hz; clear hz
                  go_wp2_with (fail)
                  refine hgr.mono ?_
                  clear hgr
                  rintro y w7 ⟨rfl, HS⟩
                  have HL := LyS.over (B := B ++ (C ++ C2)) (l := be (0) 4) (by rw [be_length]) hWz HZ.out HS
                  clear HS
                  have hs1 : ly (.sign kk n a .nil) none (p.N.drop n1, p.T.drop t1) = .ok ((C2 ++ be 0 4), (p.N.drop (n2), p.T.drop (t2))) := (by rw [HST.out, HSS.out, Nat.sub_self, repL]; show (.ok (C2 ++ [] ++ be 0 4, _) : LR) = _; rw [List.append_nil])
                  have hln := (ly_len (.sign kk n a .nil) none _ _ _ ⟨HWK.out, hwn, HWA.out, HWF.out, trivial⟩ ⟨HFA.out, HFF.out, trivial⟩ hs1).1
                  have HLN := Lib.hid hln
                  have HNX : Hid (o = (ly t none (p.N.drop (n2), p.T.drop (t2))).bind fun y => .ok ((C ++ ((C2 ++ be 0 4))) ++ y.1, y.2)) := by
                    show _ = _
                    rw [HO.out, hs1]
                    show ((ly t none (p.N.drop (n2), p.T.drop (t2))).bind fun y => (.ok ((C2 ++ be 0 4) ++ y.1, y.2) : LR)).bind (fun y => .ok (C ++ y.1, y.2)) = _
                    cases ly t none (p.N.drop (n2), p.T.drop (t2)) with
                    | error e => rfl
                    | ok y => show (.ok (C ++ ((C2 ++ be 0 4) ++ y.1), y.2) : LR) = .ok ((C ++ (C2 ++ be 0 4)) ++ y.1, y.2); simp only [List.append_assoc]
                  clear hs1 hln
                  go_wp2_with (fail)
                  go_roundw
                  case rel =>
                    refine ⟨j + 1, t, n2, t2, C ++ ((C2 ++ be 0 4)), by omega, by go_num, HNX.out, HWT.out, HFT.out, HRT.out, by have := hsg; simp only [Tr.sg] at this; omega, by have := hsm; simp only [Tr.sg] at this; omega, ?_, by rw [← List.append_assoc]; exact (by simp only [← List.append_assoc] at HL ⊢; exact HL.tailF)⟩
                    have h1 := HLN.out
                    have h2 := HB.out
                    show B.length + (C ++ (C2 ++ be 0 4)).length + wgt (p.N.drop (n2), p.T.drop (t2)) ≤ 1125899906842624
                    rw [List.length_append]
                    omega
                  case measure => simp [intOf]; omega
      exact absurd HWK.out (by omega)
theorem layer_ok (k : Nat) : LayOK k := by
  induction k using Nat.strongRecOn with
  | _ k ih => exact lay_step k ih
end Go.Proofs.Ytkkpcjpdpjpohaa

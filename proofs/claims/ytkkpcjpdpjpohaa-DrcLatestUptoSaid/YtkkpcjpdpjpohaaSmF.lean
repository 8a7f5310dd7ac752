/- Layer 2: the arm of a number; what of a taker stays. -/
import Derived.Test.YtkkpcjpdpjpohaaSmE
namespace Go.Proofs.Ytkkpcjpdpjpohaa
open Go.RowKit

def pickT : Tr → Int → Option Tr
  | .arm k y f t, n => if y = true ∨ (k : Int) = n then some f else pickT t n
  | _, _ => none
theorem tk_arms : ∀ (a : Tr) (n : Int) (st : TS), tk a (some n) st = match pickT a n with
    | none => .error 4
    | some f => tk f none st
  | .nil, _, _ => by rw [tk, pickT]; exact fun _ _ _ _ h => by cases h
  | .sign .., _, _ => by rw [tk, pickT]; exact fun _ _ _ _ h => by cases h
  | .arm k y f t, n, st => by
    rw [tk, pickT]
    split
    · rfl
    · exact tk_arms t n st
theorem tk_cons (k n : Nat) (a t : Tr) (st : TS) : tk (.sign k n a t) none st = (tk (.sign k n a .nil) none st).bind (tk t none) := by
  obtain ⟨r, N, T⟩ := st
  rw [tk, tk]
  generalize (if k = 117 then putN (r.nat 4).1 ((r.nat 4).2, N, T) else _) = X
  cases X with
  | error e => rfl
  | ok st => show tk t none st = (tk .nil none st).bind (tk t none); rw [tk]; rfl
theorem TkS.alloc {w0 w : World} {F : List Assn} {bt rb : Nat} {st : TS} (H : TkS w0 w F bt rb st) (cs : Array Value) (T : TypeId) : TkS w0 (w.alloc (.cells cs T)) (Pt w.heap.size cs T :: F) bt rb st := by
  obtain ⟨AN, cN, AT, cT, H⟩ := H
  exact ⟨AN, cN, AT, cT, (H.alloc cs T).r5.r5.r5.r5⟩
theorem TkS.tailF {w0 w : World} {F : List Assn} {A : Assn} {bt rb : Nat} {st : TS} (H : TkS w0 w (A :: F) bt rb st) : TkS w0 w F bt rb st := by
  obtain ⟨AN, cN, AT, cT, H⟩ := H
  exact ⟨AN, cN, AT, cT, H.r5.tail⟩
theorem TkS.front {w0 w : World} {F : List Assn} {A : Assn} {bt rb : Nat} {st : TS} (H : TkS w0 w (A :: F) bt rb st) : ∃ G, St w0 w (A :: G) := by
  obtain ⟨AN, cN, AT, cT, H⟩ := H
  exact ⟨_, H.r5⟩
theorem TkS.any {w0 w : World} {F : List Assn} {bt rb : Nat} {st : TS} (H : TkS w0 w F bt rb st) : ∃ G, St w0 w G := by
  obtain ⟨AN, cN, AT, cT, H⟩ := H
  exact ⟨_, H⟩
/-- how 'pick' ends -/
def PickE (w0 : World) (F : List Assn) (o : Option Tr) (x : Ending) (w' : World) : Prop := match o with
  | none => x = .returned (.tuple #[.slice none 0 0, .bool false]) ∧ St w0 w' F
  | some f => ∃ B cB, x = .returned (.tuple #[.slice B f.len cB, .bool true]) ∧ RdT w0 f B 0 ∧ f.wf false ∧ St w0 w' F
set_option maxRecDepth 100000 in
set_option maxHeartbeats 4000000 in
theorem pick_ok (k m : Nat) (n : Int) (a : Tr) (A : Option Addr) (c : Nat) (hw : a.wf true) (hlen : a.len ≤ 1099511627776) {w0 w : World} {F : List Assn} (hr : RdT w0 a A 0) (H : St w0 w F) :
    Calls Try.prog 46 #[.agg #[.int .u8 k, .int .i64 m, .slice A a.len c], .int .i64 n] w (PickE w0 F (pickT a n)) := by
  obtain ⟨o, ho⟩ : ∃ o, o = pickT a n := ⟨_, rfl⟩
  rw [← ho]
  have HO := Lib.hid ho; clear ho
  obtain ⟨N, hN⟩ : ∃ N, N = a.len := ⟨_, rfl⟩
  rw [← hN] at hlen ⊢
  have HN := Lib.hid hN; have HW := Lib.hid hw; have HR := Lib.hid hr
  clear hN hw hr
  have H1 := H.alloc #[.int .u8 k, .int .i64 m, .slice A N c] 112
  obtain ⟨b2, hb2⟩ : ∃ b, b = w.heap.size := ⟨_, rfl⟩
  go_enter Try.func46, Try.ntmps46
  go_upto_region 1 with (fail)
  rw [← hb2] at H1 ⊢
  generalize w.alloc (.cells #[.int .u8 k, .int .i64 m, .slice A N c] 112) = w1 at *
  clear hb2 H
  have c2 := H1.cell 2 rfl
  go_wp2_with (fail)
  clear c2
  go_loopw [11] (fun i wr => ∃ (j : Nat) (u : Tr), j + u.len = N ∧ i = .int .i64 j ∧ Hid (o = pickT u n) ∧ Hid (u.wf true) ∧ Hid (RdT w0 u A j) ∧ St w0 wr (Pt b2 #[.int .u8 k, .int .i64 m, .slice A N c] 112 :: F)) (fun i _ => N - (intOf i).toNat)
  case atStart => exact ⟨0, a, by rw [HN.out]; omega, rfl, HO.out, HW.out, HR.out, H1⟩
  case round =>
    clear H1 HO HW HR
    obtain ⟨j, u, hju, rfl, HO, HW, HR, H⟩ := hrel
    cases u with
    | nil =>
      have hj : j = N := by simpa [Tr.len] using hju
      have hlt : ¬ (j : Int) < N := by omega
      clear hju
      have HJ := Lib.hid hj; clear hj
      have hno : o = none := by rw [HO.out]; rfl
      have HNO := Lib.hid hno; clear hno
      go_wp2_with (fail)
      go_ret2
      rw [HNO.out]
      exact ⟨rfl, H.tail⟩
    | sign k n a t => exact absurd HW.out (by simp [Tr.wf])
    | arm ak ay f t =>
      have hlt : (j : Int) < N := by have : j + (t.len + 1) = N := hju; omega
      obtain ⟨⟨g, og, rfl, e0, e1, B, cB, e2, hrf⟩, hrt⟩ := RdT.keep H _ _ _ HR.out
      obtain ⟨⟨g', og', hA', _, _, B', cB', e2', hrf'⟩, hrt'⟩ := HR.out
      injection hA' with hA'; injection hA' with h1 h2; subst h1 h2
      have hBB : B' = B ∧ cB' = cB := by
        have : wr.cell? ⟨g, og + (3 * j + 2), none⟩ = some (.slice B' f.len cB') := by rw [H.old (World.block_lt_of_cell? w0 _ e2')]; exact e2'
        rw [e2] at this; injection this with this; injection this with h1 h2 h3; exact ⟨h1.symm, h3.symm⟩
      obtain ⟨rfl, rfl⟩ := hBB
      obtain ⟨hwk, hwf, hwt⟩ := HW.out
      rw [Nat.mul_comm 3 j] at e0 e1 e2
      rw [← Nat.add_assoc] at e1 e2
      have HRF := Lib.hid hrf'; have HRT := Lib.hid hrt'; have HWF := Lib.hid hwf; have HWT := Lib.hid hwt
      clear hrf hrt e2' hrf' hrt' HR HW hwf hwt
      have H4 := H.alloc #[.int .i64 ak, .bool ay, .slice B' f.len cB'] 117
      obtain ⟨b8, hb8⟩ : ∃ x, x = wr.heap.size := ⟨_, rfl⟩
      have hjl : j + (t.len + 1) = N := hju
      clear hju
      go_upto_region 4 with (fail)
      rw [← hb8] at H4 ⊢
      generalize wr.alloc (.cells #[.int .i64 ak, .bool ay, .slice B' f.len cB'] 117) = w4 at *
      clear e0 e1 e2 hb8 H
      have k0 := H4.cell 0 rfl
      have k1 := H4.cell 1 rfl
      have k2 := H4.cell 2 rfl
      cases ay with
      | true =>
        have hno : o = some f := by rw [HO.out, pickT, if_pos (.inl rfl)]
        have HNO := Lib.hid hno; clear hno
        go_wp2_with (fail)
        go_ret2
        rw [HNO.out]
        exact ⟨B', cB', rfl, HRF.out, HWF.out, H4.tail.tail⟩
      | false =>
        by_cases hk : (ak : Int) = n
        · have hno : o = some f := by rw [HO.out, pickT, if_pos (.inr hk)]
          have HNO := Lib.hid hno; clear hno
          have z : ((ak : Int) == n) = true := beq_iff_eq.2 hk
          have HK := Lib.hid hk; clear hk
          go_wp2_with (fail)
          go_ret2
          rw [HNO.out]
          exact ⟨B', cB', rfl, HRF.out, HWF.out, H4.tail.tail⟩
        · have z : ((ak : Int) == n) = false := beq_eq_false_iff_ne.2 hk
          have hno : o = pickT t n := by rw [HO.out, pickT, if_neg (by simp [hk])]
          have HNO := Lib.hid hno; clear hno hk
          go_wp2_with (fail)
          go_roundw
          case rel => exact ⟨j + 1, t, by omega, by go_num, HNO.out, HWT.out, HRT.out, H4.tail⟩
          case measure => simp [intOf]; omega
end Go.Proofs.Ytkkpcjpdpjpohaa

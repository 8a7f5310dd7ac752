/- Layer 2: what the layer's small functions do. -/
import Derived.Test.YtkkpcjpdpjpohaaSmG
import Derived.Test.YtkkpcjpdpjpohaaSmV
import Derived.Test.YtkkpcjpdpjpohaaXdrW
namespace Go.Proofs.Ytkkpcjpdpjpohaa
open Go.RowKit

/-- the value that is laid, and where it lies -/
structure LP where
  AN : Option Addr
  cN : Nat
  AT : Option Addr
  cT : Nat
  N : List Int
  T : List ByteArray
def LP.mk' (p : LP) (ni ti sz : Nat) : Value → Array Value := fun v => #[v, .slice p.AN p.N.length p.cN, .slice p.AT p.T.length p.cT, .int .i64 ni, .int .i64 ti, .int .i64 sz]
theorem LP.hmk (p : LP) (ni ti sz : Nat) : Mk (p.mk' ni ti sz) := ⟨fun _ => rfl, fun _ _ => rfl⟩
def RdI (w : World) (A : Option Addr) (l : List Int) : Prop := ∀ (j : Nat) (x : Int), l[j]? = some x → ∃ g o, A = some ⟨g, o, none⟩ ∧ w.cell? ⟨g, o + j, none⟩ = some (.int .i64 x)
def RdS (w : World) (A : Option Addr) (l : List ByteArray) : Prop := ∀ (j : Nat) (x : ByteArray), l[j]? = some x → ∃ g o, A = some ⟨g, o, none⟩ ∧ w.cell? ⟨g, o + j, none⟩ = some (.string x)
theorem RdI.keep {w0 w : World} {A : Option Addr} {l : List Int} (h : RdI w0 A l) {F : List Assn} (H : St w0 w F) : RdI w A l := fun j x hx => by
  obtain ⟨g, o, hA, hc⟩ := h j x hx
  exact ⟨g, o, hA, by rw [H.old (World.block_lt_of_cell? w0 _ hc)]; exact hc⟩
theorem RdS.keep {w0 w : World} {A : Option Addr} {l : List ByteArray} (h : RdS w0 A l) {F : List Assn} (H : St w0 w F) : RdS w A l := fun j x hx => by
  obtain ⟨g, o, hA, hc⟩ := h j x hx
  exact ⟨g, o, hA, by rw [H.old (World.block_lt_of_cell? w0 _ hc)]; exact hc⟩
abbrev Lyr (b : Nat) (p : LP) (ni ti sz : Nat) (W : List UInt8) : Assn := Wr b (p.mk' ni ti sz) 100 W
theorem grow_ok (b : Nat) (p : LP) (ni ti sz k : Nat) (W : List UInt8) (hk : sz + k ≤ 1152921504606846976) {w0 w : World} {F : List Assn} (H : St w0 w (Lyr b p ni ti sz W :: F)) :
    Calls Try.prog 58 #[.pointer (some ⟨b, 0, none⟩), .int .i64 k] w fun x w' => x = .returned (.bool (decide (sz + k ≤ 65536))) ∧ St w0 w' (Lyr b p ni ti (sz + k) W :: F) := by
  obtain ⟨A, c, H⟩ := H.openWr
  have c5 : w.cell? ⟨b, 5, none⟩ = some (.int .i64 sz) := H.cell 5 rfl
  have f5 := H.frozen 5
  have H2 := H.set 5 (.int .i64 ((sz : Int) + k))
  obtain ⟨o, ho⟩ : ∃ o, o = decide (sz + k ≤ 65536) := ⟨_, rfl⟩
  rw [← ho]
  have hoI : o = decide ((sz : Int) + k ≤ 65536) := by rw [ho]; exact decide_eq_decide.2 (by omega)
  have HO := Lib.hid hoI; clear ho hoI
  go_enter Try.func58, Try.ntmps58
  go_wp2_with (fail)
  go_ret
  refine ⟨by rw [HO.out]; rfl, H2.shutWr rfl⟩
/-- how 'number' and 'text' end -/
def LnE (w0 : World) (F : List Assn) (b : Nat) (p : LP) (ni ti sz : Nat) (W : List UInt8) (o : Except Int (Int × VS)) (x : Ending) (w' : World) : Prop := match o with
  | .error e => x = pan e ∧ St w0 w' (Lyr b p ni ti sz W :: F)
  | .ok y => x = .returned (.int .i64 y.1) ∧ y.2 = (p.N.drop (ni + 1), p.T.drop ti) ∧ ni < p.N.length ∧ St w0 w' (Lyr b p (ni + 1) ti sz W :: F)
def LtE (w0 : World) (F : List Assn) (b : Nat) (p : LP) (ni ti sz : Nat) (W : List UInt8) (o : Except Int (ByteArray × VS)) (x : Ending) (w' : World) : Prop := match o with
  | .error e => x = pan e ∧ St w0 w' (Lyr b p ni ti sz W :: F)
  | .ok y => x = .returned (.string y.1) ∧ y.2 = (p.N.drop ni, p.T.drop (ti + 1)) ∧ ti < p.T.length ∧ St w0 w' (Lyr b p ni (ti + 1) sz W :: F)
set_option maxHeartbeats 4000000 in
theorem lnumber_ok (b : Nat) (p : LP) (ni ti sz : Nat) (W : List UInt8) (least most : Int) (hlen : p.N.length ≤ 1099511627776) {w0 w : World} {F : List Assn} (hr : RdI w0 p.AN p.N) (H : St w0 w (Lyr b p ni ti sz W :: F)) :
    Calls Try.prog 57 #[.pointer (some ⟨b, 0, none⟩), .int .i64 least, .int .i64 most] w (LnE w0 F b p ni ti sz W (getN least most (p.N.drop ni, p.T.drop ti))) := by
  obtain ⟨A, c, H⟩ := H.openWr
  obtain ⟨o, ho⟩ : ∃ o, o = getN least most (p.N.drop ni, p.T.drop ti) := ⟨_, rfl⟩
  rw [← ho]
  have c1 : w.cell? ⟨b, 1, none⟩ = some (.slice p.AN p.N.length p.cN) := H.cell 1 rfl
  have c3 : w.cell? ⟨b, 3, none⟩ = some (.int .i64 ni) := H.cell 3 rfl
  obtain ⟨nN, hnN⟩ : ∃ nN, nN = p.N.length := ⟨_, rfl⟩
  rw [← hnN] at c1 hlen
  by_cases hlt : ni < nN
  rotate_left 1
  · have hltI : (nN : Int) ≤ ni := by omega
    have hno : o = .error 4 := by rw [ho, List.drop_eq_nil_of_le (by omega)]; rfl
    have HN := Lib.hid hno; clear hno ho hr hlt hnN
    go_enter Try.func57, Try.ntmps57
    go_wp2_with (fail)
    go_quiet (fail)
    go_wp2_with (fail)
    refine ⟨rfl, ?_⟩
    rw [HN.out]
    exact ⟨rfl, (H.drewN _).shutWr rfl⟩
  have hltI : ¬ (nN : Int) ≤ ni := by omega
  have hltJ : (ni : Int) < nN := by omega
  have hltD : decide (nN ≤ ni) = false := decide_eq_false (by omega)
  obtain ⟨x, hx⟩ : ∃ x, p.N[ni]? = some x := ⟨_, List.getElem?_eq_getElem (by omega)⟩
  obtain ⟨g, og, hA, e00⟩ := hr ni x hx
  have hgb : g < w0.heap.size := World.block_lt_of_cell? w0 _ e00
  have e0 : w.cell? ⟨g, og + ni, none⟩ = some (.int .i64 x) := by rw [H.old (by exact hgb)]; exact e00
  have E00 := Lib.hid e00; clear e00
  rw [hA] at c1
  have hdr : p.N.drop ni = x :: p.N.drop (ni + 1) := by rw [List.drop_eq_getElem_cons (by omega)]; congr 1; exact (List.getElem?_eq_some_iff.1 hx).2
  by_cases hr1 : least ≤ x ∧ x ≤ most
  rotate_left 1
  · have hno : o = .error 4 := by rw [ho, hdr]; exact if_neg hr1
    have HN := Lib.hid hno; clear hno ho hr hlt hnN hdr hA hx
    by_cases h2 : x < least
    · clear hr1
      go_enter Try.func57, Try.ntmps57
      go_wp2_with (fail)
      go_quiet (fail)
      go_wp2_with (fail)
      refine ⟨rfl, ?_⟩
      rw [HN.out]
      exact ⟨rfl, (H.drewN _).shutWr rfl⟩
    · have h3 : x > most := by omega
      clear hr1
      go_enter Try.func57, Try.ntmps57
      go_wp2_with (fail)
      go_quiet (fail)
      go_wp2_with (fail)
      refine ⟨rfl, ?_⟩
      rw [HN.out]
      exact ⟨rfl, (H.drewN _).shutWr rfl⟩
  · have hno : o = .ok (x, p.N.drop (ni + 1), p.T.drop ti) := by rw [ho, hdr]; exact if_pos hr1
    have HN := Lib.hid hno; have HL := Lib.hid hnN; have HAN := Lib.hid hA; clear hno ho hr hnN hdr hA hx
    have h2 : ¬ x < least := by omega
    have h3 : ¬ x > most := by omega
    have hltN : ni < p.N.length := by rw [← HL.out]; exact hlt
    have HLT := Lib.hid hltN
    clear hr1 hltN hlt
    have f3 := H.frozen 3
    go_enter Try.func57, Try.ntmps57
    go_wp2_with (fail)
    go_quiet (fail)
    have H2 := (H.drewN nq).set 3 (.int .i64 ((ni : Int) + 1))
    go_upto_region 4 with (fail)
    generalize ((w.drewN nq).setCell ⟨b, 3, none⟩ (.int .i64 ((ni : Int) + 1))) = w2 at *
    clear c1 c3 f3 e0 hltI hltD h2 h3
    have c1 : w2.cell? ⟨b, 1, none⟩ = some (.slice (some ⟨g, og, none⟩) nN p.cN) := by
      have := H2.cell 1 (v := .slice p.AN p.N.length p.cN) rfl
      rw [this, HAN.out, HL.out]
    have c3 : w2.cell? ⟨b, 3, none⟩ = some (.int .i64 ((ni : Int) + 1)) := H2.cell 3 rfl
    have e0 : w2.cell? ⟨g, og + ni, none⟩ = some (.int .i64 x) := by rw [H2.old (by exact hgb)]; exact E00.out
    go_quiet (fail)
    go_wp2_with (fail)
    go_ret
    rw [HN.out]
    exact ⟨rfl, rfl, HLT.out, (H2.drewN _).shutWr rfl⟩
set_option maxHeartbeats 4000000 in
theorem ltext_ok (b : Nat) (p : LP) (ni ti sz : Nat) (W : List UInt8) (least most : Nat) (hlen : p.T.length ≤ 1099511627776) {w0 w : World} {F : List Assn} (hm : most ≤ 1099511627776) (hTb : ∀ x ∈ p.T, x.size ≤ 1099511627776) (hr : RdS w0 p.AT p.T) (H : St w0 w (Lyr b p ni ti sz W :: F)) :
    Calls Try.prog 61 #[.pointer (some ⟨b, 0, none⟩), .int .i64 least, .int .i64 most] w (LtE w0 F b p ni ti sz W (getT least most (p.N.drop ni, p.T.drop ti))) := by
  obtain ⟨A, c, H⟩ := H.openWr
  obtain ⟨o, ho⟩ : ∃ o, o = getT least most (p.N.drop ni, p.T.drop ti) := ⟨_, rfl⟩
  rw [← ho]
  have c1 : w.cell? ⟨b, 2, none⟩ = some (.slice p.AT p.T.length p.cT) := H.cell 2 rfl
  have c3 : w.cell? ⟨b, 4, none⟩ = some (.int .i64 ti) := H.cell 4 rfl
  obtain ⟨nN, hnN⟩ : ∃ nN, nN = p.T.length := ⟨_, rfl⟩
  rw [← hnN] at c1 hlen
  by_cases hlt : ti < nN
  rotate_left 1
  · have hltI : (nN : Int) ≤ ti := by omega
    have hno : o = .error 4 := by rw [ho, show p.T.drop ti = [] from List.drop_eq_nil_of_le (by omega)]; rfl
    have HN := Lib.hid hno; clear hno ho hr hlt hnN
    go_enter Try.func61, Try.ntmps61
    go_wp2_with (fail)
    go_quiet (fail)
    go_wp2_with (fail)
    refine ⟨rfl, ?_⟩
    rw [HN.out]
    exact ⟨rfl, (H.drewN _).shutWr rfl⟩
  have hltI : ¬ (nN : Int) ≤ ti := by omega
  have hltJ : (ti : Int) < nN := by omega
  have hltD : decide (nN ≤ ti) = false := decide_eq_false (by omega)
  obtain ⟨x, hx⟩ : ∃ x, p.T[ti]? = some x := ⟨_, List.getElem?_eq_getElem (by omega)⟩
  obtain ⟨g, og, hA, e00⟩ := hr ti x hx
  have hgb : g < w0.heap.size := World.block_lt_of_cell? w0 _ e00
  have e0 : w.cell? ⟨g, og + ti, none⟩ = some (.string x) := by rw [H.old (by exact hgb)]; exact e00
  have E00 := Lib.hid e00; clear e00
  rw [hA] at c1
  have hdr : p.T.drop ti = x :: p.T.drop (ti + 1) := by rw [List.drop_eq_getElem_cons (by omega)]; congr 1; exact (List.getElem?_eq_some_iff.1 hx).2
  by_cases hr1 : least ≤ x.size ∧ x.size ≤ most
  rotate_left 1
  · have hno : o = .error 4 := by rw [ho, hdr]; exact if_neg hr1
    have HN := Lib.hid hno; clear hno ho hr hlt hnN hdr hA hx
    by_cases h2 : x.size < least
    · clear hr1
      have h2 : decide (x.size < least) = true := decide_eq_true h2
      go_enter Try.func61, Try.ntmps61
      go_wp2_with (fail)
      go_quiet (fail)
      go_wp2_with (fail)
      refine ⟨rfl, ?_⟩
      rw [HN.out]
      exact ⟨rfl, (H.drewN _).shutWr rfl⟩
    · have h3 : decide (most < x.size) = true := decide_eq_true (by omega)
      have h2 : decide (x.size < least) = false := decide_eq_false h2
      clear hr1
      go_enter Try.func61, Try.ntmps61
      go_wp2_with (fail)
      go_quiet (fail)
      go_wp2_with (fail)
      refine ⟨rfl, ?_⟩
      rw [HN.out]
      exact ⟨rfl, (H.drewN _).shutWr rfl⟩
  · have hno : o = .ok (x, p.N.drop ni, p.T.drop (ti + 1)) := by rw [ho, hdr]; exact if_pos hr1
    have HN := Lib.hid hno; have HL := Lib.hid hnN; have HAN := Lib.hid hA; clear hno ho hr hnN hdr hA hx
    have h2 : decide (x.size < least) = false := decide_eq_false (by omega)
    have h3 : decide (most < x.size) = false := decide_eq_false (by omega)
    have hltN : ti < p.T.length := by rw [← HL.out]; exact hlt
    have HLT := Lib.hid hltN
    clear hr1 hltN hlt
    have f3 := H.frozen 4
    go_enter Try.func61, Try.ntmps61
    go_wp2_with (fail)
    go_quiet (fail)
    have H2 := (H.drewN nq).set 4 (.int .i64 ((ti : Int) + 1))
    go_upto_region 4 with (fail)
    generalize ((w.drewN nq).setCell ⟨b, 4, none⟩ (.int .i64 ((ti : Int) + 1))) = w2 at *
    clear c1 c3 f3 e0 hltI hltD h2 h3
    have c1 : w2.cell? ⟨b, 2, none⟩ = some (.slice (some ⟨g, og, none⟩) nN p.cT) := by
      have := H2.cell 2 (v := .slice p.AT p.T.length p.cT) rfl
      rw [this, HAN.out, HL.out]
    have c3 : w2.cell? ⟨b, 4, none⟩ = some (.int .i64 ((ti : Int) + 1)) := H2.cell 4 rfl
    have e0 : w2.cell? ⟨g, og + ti, none⟩ = some (.string x) := by rw [H2.old (by exact hgb)]; exact E00.out
    go_quiet (fail)
    go_wp2_with (fail)
    go_ret
    rw [HN.out]
    exact ⟨rfl, rfl, HLT.out, (H2.drewN _).shutWr rfl⟩
end Go.Proofs.Ytkkpcjpdpjpohaa

/- A region that draws its order, by hand, with conditions that are wanted only until an operation that waits for the load has come up: 'x.f = append(x.f, g())' in one order. -/
import Derived.Deep.RegionHeld3
namespace Go.Proofs.Ytkkpcjpdpjpohaa
open Go
variable {P : Program} {ops : Array Oper} {Q : Exit → Act → World → Prop} {md : Region.Mode} {l : List (Nat × (World → Prop))}

/-- each condition holds as long as its operation has not come up -/
def Keep : List (Nat × (World → Prop)) → Array Bool → World → Prop
  | [], _, _ => True
  | (k, p) :: r, L, w => (L.getD k true = false → p w) ∧ Keep r L w
theorem Keep.all {L : Array Bool} {w : World} : ∀ {l : List (Nat × (World → Prop))}, Keep l L w ↔ ∀ x ∈ l, L.getD x.1 true = false → x.2 w
  | [] => ⟨fun _ x hx => (by cases hx), fun _ => trivial⟩
  | (k, p) :: r => by
    unfold Keep
    rw [Keep.all (l := r)]
    constructor
    · rintro ⟨h1, h2⟩ x hx
      rcases List.mem_cons.1 hx with rfl | hx
      · exact h1
      · exact h2 x hx
    · intro h
      exact ⟨h _ (List.mem_cons_self ..), fun x hx => h x (List.mem_cons_of_mem _ hx)⟩
theorem Keep.off {k : Nat} {p : World → Prop} {r : List (Nat × (World → Prop))} {L : Array Bool} {w : World} (h : L.getD k true = true) (hr : Keep r L w) : Keep ((k, p) :: r) L w :=
  ⟨fun h0 => (by rw [h] at h0; cases h0), hr⟩
theorem Keep.on {k : Nat} {p : World → Prop} {r : List (Nat × (World → Prop))} {L : Array Bool} {w : World} (h : p w) (hr : Keep r L w) : Keep ((k, p) :: r) L w := ⟨fun _ => h, hr⟩
theorem Keep.hd {k : Nat} {p : World → Prop} {r : List (Nat × (World → Prop))} {L : Array Bool} {w : World} (h : Keep ((k, p) :: r) L w) (h0 : L.getD k true = false) : p w := h.1 h0
theorem Keep.tl {k : Nat} {p : World → Prop} {r : List (Nat × (World → Prop))} {L : Array Bool} {w : World} (h : Keep ((k, p) :: r) L w) : Keep r L w := h.2
theorem Keep.less {L : Array Bool} {i : Nat} {w : World} (hl : l.all (fun x => x.1 != i) = true) (h : Keep l (L.setIfInBounds i true) w) : Keep l L w := by
  rw [Keep.all] at h ⊢
  intro x hx h0
  refine h x hx ?_
  have := List.all_eq_true.1 hl x hx
  rw [getD_set_ne true (by have : x.1 ≠ i := by simpa using this
                           exact fun e => this e.symm)]
  exact h0
theorem Keep.more {L : Array Bool} {i : Nat} {w : World} (h : Keep l L w) : Keep l (L.setIfInBounds i true) w := by
  rw [Keep.all] at h ⊢
  intro x hx h0
  refine h x hx ?_
  by_cases e : i = x.1
  · subst e
    by_cases hlt : x.1 < L.size
    · simp [hlt] at h0
    · simp [Array.getElem?_eq_none (show L.size ≤ x.1 by omega)] at h0
  · rwa [getD_set_ne true e] at h0

def wpAnyL (P : Program) (md : Region.Mode) (ops : Array Oper) (Q : Exit → Act → World → Prop) (l : List (Nat × (World → Prop))) : Nat → Array Bool → Act → World → Prop
  | 0, listed, a, w => Region.ready md ops listed = [] ∧ Q .normal a w
  | fuel + 1, listed, a, w =>
    (Region.ready md ops listed = [] → Q .normal a w) ∧
    ∀ i ∈ Region.ready md ops listed, wpOp P ops Q i (fun a' w' => Keep l (listed.setIfInBounds i true) w' ∧ wpAnyL P md ops Q l fuel (listed.setIfInBounds i true) a' w') a w
theorem wpAny_of_L : ∀ (fuel : Nat) (listed : Array Bool) (a : Act) (w : World), wpAnyL P md ops Q l fuel listed a w → wpAny P md ops Q fuel listed a w
  | 0, _, _, _, h => h
  | fuel + 1, _, _, _, h => ⟨h.1, fun i hi => wpOp_mono (fun a' w' h' => wpAny_of_L fuel _ a' w' h'.2) (h.2 i hi)⟩
/-- who waits for i -/
def waitsB (md : Region.Mode) (ops : Array Oper) (i k : Nat) : Bool := match ops[k]? with
  | some o => o.after.any fun e => Region.binds md e && e.on == i
  | none => false
def Till (l : List (Nat × (World → Prop))) (ks : List Nat) (w : World) : Prop := ∃ L : Array Bool, (∀ k ∈ ks, L.getD k true = false) ∧ Keep l L w
theorem wpAnyL_first {i : Nat} {oi : Oper} {v : Value} (hi : ops[i]? = some oi) (hsel : ∀ (j : Nat) (o : Oper) cs b, ops[j]? = some o → o.op ≠ .select cs b)
    (hQ : ∀ c a w, Q (.panic c) (a.put oi.dst v) w → Q (.panic c) a w) (ks : List Nat) (hks : ∀ k ∈ ks, waitsB md ops i k = true) (hl : l.all (fun x => x.1 != i) = true) :
    ∀ (fuel : Nat) (listed : Array Bool) (a : Act) (w : World),
      (∀ j oj, ops[j]? = some oj → j ≠ i → listed.getD j true = false → (∀ e ∈ oj.after, Region.binds md e = true → e.on ≠ i) → oi.apart ops oj = true) →
      i ∈ Region.ready md ops listed → (∀ k ∈ ks, listed.getD k true = false) → YieldsIf P ops (Till l ks) oi v a → Keep l listed w →
      wpAnyL P md ops Q l fuel (listed.setIfInBounds i true) (a.put oi.dst v) w → wpAnyL P md ops Q l (fuel + 1) listed a w := by
  intro fuel
  induction fuel with
  | zero =>
    intro listed a w _ hr hun hy hS H
    refine ⟨fun h => (by rw [h] at hr; cases hr), fun j hj => ?_⟩
    by_cases hji : j = i
    · subst hji; exact hy.wpOp hi ⟨listed, hun, hS⟩ ⟨hS.more, H⟩
    · have := ready_mono hj hji
      rw [H.1] at this
      cases this
  | succ fuel ih =>
    intro listed a w hfree hr hun hy hS H
    refine ⟨fun h => (by rw [h] at hr; cases hr), fun j hj => ?_⟩
    by_cases hji : j = i
    · subst hji; exact hy.wpOp hi ⟨listed, hun, hS⟩ ⟨hS.more, H⟩
    · have h1 := H.2 j (ready_mono hj hji)
      obtain ⟨hjun, oj, hoj, hall⟩ := mem_ready.1 hj
      have hnot : ∀ e ∈ oj.after, Region.binds md e = true → e.on ≠ i := fun e he hb heq => by
        have h1 := hall e he hb
        have h0 := (mem_ready.1 hr).1
        rw [heq] at h1
        rcases Nat.lt_or_ge i listed.size with h' | h'
        · simp [h'] at h0 h1; rw [h0] at h1; cases h1
        · simp [Array.getElem?_eq_none h'] at h1
      have h2 := wpOp_putIf hoj (hfree j oj hoj hji hjun hnot) (fun cs b => hsel i oi cs b hi) (fun cs b => hsel j oj cs b hoj) hQ hy h1
      have hfree' : ∀ k ok, ops[k]? = some ok → k ≠ i → (listed.setIfInBounds j true).getD k true = false →
          (∀ e ∈ ok.after, Region.binds md e = true → e.on ≠ i) → oi.apart ops ok = true := fun k ok hk hki hun hno => by
        refine hfree k ok hk hki ?_ hno
        by_cases hjk : j = k
        · subst hjk; exact hjun
        · rw [getD_set_ne true hjk] at hun; exact hun
      have hun' : ∀ k ∈ ks, (listed.setIfInBounds j true).getD k true = false := fun k hk => by
        have hjk : j ≠ k := by
          rintro rfl
          have hw := hks j hk
          unfold waitsB at hw
          rw [hoj] at hw
          obtain ⟨e, he, hb⟩ := Array.any_eq_true'.1 hw
          simp only [Bool.and_eq_true, beq_iff_eq] at hb
          exact hnot e he hb.1 hb.2
        rw [getD_set_ne true hjk]; exact hun k hk
      refine wpOp_mono (fun a' w' h3 => ?_) h2
      have hk3 : Keep l (listed.setIfInBounds j true) w' := by
        have := h3.2.1
        rw [Array.setIfInBounds_comm _ _ (fun e => hji e.symm)] at this
        exact Keep.less hl this
      refine ⟨hk3, ih (listed.setIfInBounds j true) a' w' hfree' (ready_mono hr (Ne.symm hji)) hun' h3.1 hk3 ?_⟩
      rw [Array.setIfInBounds_comm _ _ hji]
      exact h3.2.2
/-- a region that draws: the conditions hold at its start -/
theorem wp_region_L {id : Nat} {a : Act} {w : World} (l : List (Nat × (World → Prop))) (hm : P.follows .mixedOrders = true) (hS : Keep l (Array.replicate ops.size false) w.drew)
    (h : Keep l (Array.replicate ops.size false) w.drew → wpAnyL P .any ops Q l ops.size (Array.replicate ops.size false) a w.drew) : (Code.region id ops true).wp P Q a w :=
  wp_region_any hm (wpAny_of_L _ _ _ _ (h hS))
theorem rgl_take {i : Nat} {oi : Oper} {v : Value} {fuel : Nat} {listed : Array Bool} {a : Act} {w : World} (ks : List Nat) (hi : ops.toList[i]? = some oi)
    (hs : Region.noSelect ops = true) (hf : Region.free md ops listed i = true) (hr : (Region.ready md ops listed).contains i = true)
    (hQ : ∀ c a w, Q (.panic c) (a.put oi.dst v) w → Q (.panic c) a w) (hks : ks.all (fun k => waitsB md ops i k && !listed.getD k true) = true) (hl : l.all (fun x => x.1 != i) = true)
    (hy : YieldsIf P ops (Till l ks) oi v a) (hS : Keep l listed w)
    (h : Keep l (listed.setIfInBounds i true) w → wpAnyL P md ops Q l fuel (listed.setIfInBounds i true) (a.put oi.dst v) w) : wpAnyL P md ops Q l (fuel + 1) listed a w := by
  have hk : ∀ k ∈ ks, waitsB md ops i k = true ∧ listed.getD k true = false := fun k hk => by
    have := List.all_eq_true.1 hks k hk
    simpa using this
  have hi' : ops[i]? = some oi := by rw [← hi, Array.getElem?_toList]
  exact wpAnyL_first hi' (Region.noSelect_spec hs) hQ ks (fun k h => (hk k h).1) hl fuel listed a w (Region.free_spec hi' hf) (by simpa using hr) (fun k h => (hk k h).2) hy hS (h hS.more)
def AllReadyL (P : Program) (md : Region.Mode) (ops : Array Oper) (Q : Exit → Act → World → Prop) (l : List (Nat × (World → Prop))) (fuel : Nat) (listed : Array Bool) (a : Act) (w : World) (rs : List Nat) : Prop :=
  ∀ i ∈ rs, wpOp P ops Q i (fun a' w' => Keep l (listed.setIfInBounds i true) w' ∧ wpAnyL P md ops Q l fuel (listed.setIfInBounds i true) a' w') a w
theorem AllReadyL.nil {fuel : Nat} {listed : Array Bool} {a : Act} {w : World} : AllReadyL P md ops Q l fuel listed a w [] := fun _ h => by cases h
theorem rgl_cons {fuel : Nat} {listed : Array Bool} {a : Act} {w : World} {i : Nat} {o : Oper} {rs : List Nat} (ho : ops.toList[i]? = some o)
    (h : ∀ K' : Act → World → Prop, Shut (∀ a w, Keep l (listed.setIfInBounds i true) w → (Keep l (listed.setIfInBounds i true) w → wpAnyL P md ops Q l fuel (listed.setIfInBounds i true) a w) → K' a w) → if Region.wanted o (yielded ops a.tmps) = true then Oper.wp P o a w K' Q else K' (a.put o.dst undef) w)
    (hs : AllReadyL P md ops Q l fuel listed a w rs) : AllReadyL P md ops Q l fuel listed a w (i :: rs) := fun j hj => by
  rcases List.mem_cons.1 hj with rfl | hj
  · exact wpOp_step (by rw [← ho, Array.getElem?_toList]) (fun K' hK => h K' (fun a w hS hW => hK a w ⟨hS, hW hS⟩))
  · exact hs j hj
theorem rgl_ready {rs : List Nat} {fuel : Nat} {listed : Array Bool} {a : Act} {w : World} (hr : Region.ready md ops listed = rs) (hne : rs ≠ [])
    (h : AllReadyL P md ops Q l fuel listed a w rs) : wpAnyL P md ops Q l (fuel + 1) listed a w := ⟨fun h0 => absurd (hr ▸ h0) hne, hr ▸ h⟩
theorem rgl_done {listed : Array Bool} {a : Act} {w : World} (hr : Region.ready md ops listed = []) (h : Q .normal a w) : ∀ fuel, wpAnyL P md ops Q l fuel listed a w
  | 0 => ⟨hr, h⟩
  | _ + 1 => ⟨fun _ => h, by rw [hr]; simp⟩
end Go.Proofs.Ytkkpcjpdpjpohaa

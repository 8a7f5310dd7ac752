/- Layer 16: the form of a kept answer, in plain Lean. -/
import Derived.Test.YtkkpcjpdpjpohaaSmX
import Derived.Test.YtkkpcjpdpjpohaaSmW
namespace Go.Proofs.Ytkkpcjpdpjpohaa
open Go Go.RowKit

def drF : ByteArray := ⟨#[113, 113, 113, 111, 57, 48, 48, 111, 57, 48, 48]⟩
def drT : Tr := .sign 113 0 .nil (.sign 113 0 .nil (.sign 113 0 .nil (.sign 111 900 .nil (.sign 111 900 .nil .nil))))
theorem drF_parse : parseF drF = some drT := by kernel_rfl
def i64r (x : Int) : Prop := -9223372036854775808 ≤ x ∧ x ≤ 9223372036854775807
def valL (a b c : Int) (x y : ByteArray) : List UInt8 := be a 8 ++ (be b 8 ++ (be c 8 ++ (opaq (bl x) ++ opaq (bl y))))
def valB (a b c : Int) (x y : ByteArray) : ByteArray := mkb (valL a b c x y)
theorem dr_ly (a b c : Int) (x y : ByteArray) (ha : i64r a) (hb : i64r b) (hc : i64r c) (hx : x.size ≤ 900) (hy : y.size ≤ 900) : ly drT none ([a, b, c], [x, y]) = .ok (valL a b c x y, [], []) := by
  unfold i64r at ha hb hc
  simp [drT, ly, getN, getT, Except.bind, ha, hb, hc, hx, hy, valL]
theorem valL_length (a b c : Int) (x y : ByteArray) (hx : x.size ≤ 900) (hy : y.size ≤ 900) : (valL a b c x y).length ≤ 1838 := by
  have h1 := opaq_le' x
  have h2 := opaq_le' y
  simp only [valL, List.length_append, be_length]
  omega
theorem dr_enc (a b c : Int) (x y : ByteArray) (ha : i64r a) (hb : i64r b) (hc : i64r c) (hx : x.size ≤ 900) (hy : y.size ≤ 900) : encodeF drF [a, b, c] [x, y] = .ok (valB a b c x y) := by
  have h := valL_length a b c x y hx hy
  rw [encodeF, drF_parse]
  show encodeT drT [a, b, c] [x, y] = _
  rw [encodeT, dr_ly a b c x y ha hb hc hx hy]
  dsimp only
  rw [if_neg (by simp), if_neg (by omega)]
  rfl
theorem dr_dec (a b c : Int) (x y : ByteArray) (ha : i64r a) (hb : i64r b) (hc : i64r c) (hx : x.size ≤ 900) (hy : y.size ≤ 900) : decodeF drF (valB a b c x y) = .ok ([a, b, c], [x, y]) := by
  have h := dr_enc a b c x y ha hb hc hx hy
  rw [encodeF, drF_parse] at h
  rw [decodeF, drF_parse]
  exact enc_dec (parseF_wf drF_parse).1 h
/-- what is decoded is three numbers and two texts -/
theorem dr_shape {s : ByteArray} {v : VS} (h : decodeF drF s = .ok v) : ∃ a b c x y, v = ([a, b, c], [x, y]) ∧ i64r a ∧ i64r b ∧ i64r c ∧ x.size ≤ 900 ∧ y.size ≤ 900 ∧ s = valB a b c x y := by
  rw [decodeF, drF_parse] at h
  have hl := (decodeT_ok (parseF_wf drF_parse).1 h).2
  obtain ⟨N, T⟩ := v
  have key : ∃ a b c x y, N = [a, b, c] ∧ T = [x, y] ∧ i64r a ∧ i64r b ∧ i64r c ∧ x.size ≤ 900 ∧ y.size ≤ 900 := by
    rw [drT, ly] at hl
    rw [if_neg (by decide), if_pos rfl] at hl
    obtain ⟨⟨l1, v1⟩, h1, hl⟩ := bind_ok.1 hl
    obtain ⟨⟨a, w1⟩, g1, h1⟩ := bind_ok.1 h1
    injection h1 with h1; injection h1 with _ h1; subst h1
    obtain ⟨e1, e2, e3, e4⟩ := getN_ok g1
    obtain ⟨⟨l2, v2⟩, h2, hl⟩ := bind_ok.1 hl
    injection hl with hl; injection hl with _ hl; subst hl
    rw [ly, if_neg (by decide), if_pos rfl] at h2
    obtain ⟨⟨l3, v3⟩, h3, h2⟩ := bind_ok.1 h2
    obtain ⟨⟨b, w2⟩, g2, h3⟩ := bind_ok.1 h3
    injection h3 with h3; injection h3 with _ h3; subst h3
    obtain ⟨f1, f2, f3, f4⟩ := getN_ok g2
    obtain ⟨⟨l4, v4⟩, h4, h2⟩ := bind_ok.1 h2
    injection h2 with h2; injection h2 with _ h2; subst h2
    rw [ly, if_neg (by decide), if_pos rfl] at h4
    obtain ⟨⟨l5, v5⟩, h5, h4⟩ := bind_ok.1 h4
    obtain ⟨⟨c, w3⟩, g3, h5⟩ := bind_ok.1 h5
    injection h5 with h5; injection h5 with _ h5; subst h5
    obtain ⟨i1, i2, i3, i4⟩ := getN_ok g3
    obtain ⟨⟨l6, v6⟩, h6, h4⟩ := bind_ok.1 h4
    injection h4 with h4; injection h4 with _ h4; subst h4
    rw [ly, if_neg (by decide), if_neg (by decide), if_neg (by decide), if_pos rfl] at h6
    obtain ⟨⟨l7, v7⟩, h7, h6⟩ := bind_ok.1 h6
    obtain ⟨⟨x, w4⟩, g4, h7⟩ := bind_ok.1 h7
    injection h7 with h7; injection h7 with _ h7; subst h7
    obtain ⟨j1, j2, j3, j4⟩ := getT_ok g4
    obtain ⟨⟨l8, v8⟩, h8, h6⟩ := bind_ok.1 h6
    injection h6 with h6; injection h6 with _ h6; subst h6
    rw [ly, if_neg (by decide), if_neg (by decide), if_neg (by decide), if_pos rfl] at h8
    obtain ⟨⟨l9, v9⟩, h9, h8⟩ := bind_ok.1 h8
    obtain ⟨⟨y, w5⟩, g5, h9⟩ := bind_ok.1 h9
    injection h9 with h9; injection h9 with _ h9; subst h9
    obtain ⟨k1, k2, k3, k4⟩ := getT_ok g5
    obtain ⟨⟨l10, v10⟩, h10, h8⟩ := bind_ok.1 h8
    injection h8 with h8; injection h8 with _ h8; subst h8
    rw [ly] at h10
    injection h10 with h10; injection h10 with _ h10
    dsimp only at *
    refine ⟨a, b, c, x, y, ?_, ?_, ⟨e3, e4⟩, ⟨f3, f4⟩, ⟨i3, i4⟩, j4, k4⟩
    · rw [e1, f1, i1, j2, k2, h10]
    · rw [e2, f2, i2, j1, k1, h10]
  obtain ⟨a, b, c, x, y, rfl, rfl, ha, hb, hc, hx, hy⟩ := key
  refine ⟨a, b, c, x, y, rfl, ha, hb, hc, hx, hy, ?_⟩
  rw [dr_ly a b c x y ha hb hc hx hy] at hl
  injection hl with hl; injection hl with hl _
  apply bl_inj
  rw [valB, bl_mkb, hl]
end Go.Proofs.Ytkkpcjpdpjpohaa

/- The plain side of layer 1: bytes of numbers, what a reader takes. No program here. -/
import Derived.Test.YtkkpcjpdpjpohaaSL
namespace Go.Proofs.Ytkkpcjpdpjpohaa
open Go.RowKit

def vb (b : UInt8) : Value := .int .u8 (b.toNat : Int)
def bv (l : List UInt8) : List Value := l.map vb
theorem bv_append (l k : List UInt8) : bv (l ++ k) = bv l ++ bv k := List.map_append ..
theorem bv_length (l : List UInt8) : (bv l).length = l.length := List.length_map ..
def byt (n : Int) : UInt8 := UInt8.ofNat (n % 256).toNat
theorem byt_toNat (n : Int) : ((byt n).toNat : Int) = n % 256 := by
  unfold byt; rw [UInt8.toNat_ofNat']; omega
theorem u8_byt (n : Int) : Value.int .u8 (IntKind.u8.wrap n) = vb (byt n) := by
  rw [vb, byt_toNat, IntKind.wrap_u8]
/-- the lowest k bytes of a number, the highest first -/
def be (n : Int) : Nat → List UInt8
  | 0 => []
  | k + 1 => byt (n / 2 ^ (8 * k)) :: be n k
theorem be_length (n : Int) (k : Nat) : (be n k).length = k := by induction k with | zero => rfl | succ k ih => simp [be, ih]
theorem setIn_same {cs : Array Value} {o : Nat} {v : Value} (h : cs[o]? = some v) : cs.setIfInBounds o v = cs := by
  apply Array.ext_getElem?
  intro q
  rw [Array.getElem?_setIfInBounds]
  split
  · rename_i e; subst e; rw [h]; split <;> simp_all
  · rfl
/-- how many noughts stand behind so many bytes -/
def padn (n : Nat) : Nat := (4 - n % 4) % 4
def zeros (n : Nat) : List UInt8 := List.replicate n 0
/-- bytes, and noughts -/
def fixed (s : List UInt8) : List UInt8 := s ++ zeros (padn s.length)
def opaq (s : List UInt8) : List UInt8 := be s.length 4 ++ fixed s
/-- the list of a string -/
def bl (s : ByteArray) : List UInt8 := s.data.toList
/-- the string of a list -/
def mkb (l : List UInt8) : ByteArray := ⟨l.toArray⟩
theorem bl_mkb (l : List UInt8) : bl (mkb l) = l := by simp [bl, mkb]
theorem mkb_bl (s : ByteArray) : mkb (bl s) = s := by simp [bl, mkb]
theorem bl_inj {s t : ByteArray} (h : bl s = bl t) : s = t := by rw [← mkb_bl s, h, mkb_bl]
theorem mkb_inj {l k : List UInt8} (h : mkb l = mkb k) : l = k := by rw [← bl_mkb l, h, bl_mkb]
theorem bl_append (s t : ByteArray) : bl (s ++ t) = bl s ++ bl t := by simp [bl]
theorem mkb_append (l k : List UInt8) : mkb l ++ mkb k = mkb (l ++ k) := bl_inj (by rw [bl_append, bl_mkb, bl_mkb, bl_mkb])
theorem bl_length (s : ByteArray) : (bl s).length = s.size := by rw [bl, Array.length_toList]; rfl

/-- a reader: what is left, what went wrong -/
structure RS where
  s : ByteArray
  e : Int
def RS.wrong (r : RS) (e : Int) : RS := ⟨ByteArray.empty, if r.e = 0 then e else r.e⟩
def RS.take (r : RS) (n : Int) : (ByteArray × Bool) × RS :=
  if r.e = 0 then
    if n ≤ r.s.size then ((r.s.extract 0 n.toNat, true), ⟨r.s.extract n.toNat r.s.size, 0⟩)
    else ((ByteArray.empty, false), ⟨ByteArray.empty, 5⟩)
  else ((ByteArray.empty, false), r)
/-- a number of bytes: as the program's loop makes it -/
def num (l : List UInt8) : Int := l.foldl (fun n b => wrap64 (n * 256) + (b.toNat : Int)) 0
theorem strOfNums_bytes (l : List UInt8) : strOfNums (l.map fun b => (b.toNat : Int)) = mkb l := by
  simp only [strOfNums, mkb, List.map_map]
  congr 2
  have : ((fun n : Int => UInt8.ofNat n.toNat) ∘ fun b : UInt8 => (b.toNat : Int)) = id := by
    funext b
    show UInt8.ofNat ((b.toNat : Int)).toNat = b
    rw [Int.toNat_natCast]; exact UInt8.ofNat_toNat
  rw [this, List.map_id]
/-- 'string(b)' of a row of bytes -/
theorem St.toStr {P : Program} {w0 w : World} {e src dst : TypeId} {A : Option Addr} {n c : Nat} {l : List UInt8} {L : List Assn} (H : St w0 w (Row e 1 A n c (bv l) :: L))
    (hs : P.underlying src = some (.slice e)) (he : P.underlying e = some (.int .u8)) (hd : P.underlying dst = some .string) : (convert src dst (.slice A n c)).run P w = .ok (.string (mkb l)) w := by
  have hl := H.row_length
  rw [bv_length, Nat.mul_one] at hl
  rcases H.row_cases with ⟨rfl, rfl, rfl, h⟩ | ⟨g, o, cur, fr, rfl, H1, _⟩
  · obtain rfl : l = [] := by simpa [bv] using h
    exact run_convert_bytes_nil w src e hs he 0 0 dst hd
  · rw [← strOfNums_bytes]
    refine run_convert_bytes_arg w src e hs he g o n c _ (by simpa using hl) (fun i hi => ?_) dst hd
    have hil : i < l.length := by omega
    refine H.row_cell i ?_
    simp [bv, vb, List.getD, hil]
theorem mkb_size (l : List UInt8) : (mkb l).size = l.length := by rw [← bl_length, bl_mkb]
end Go.Proofs.Ytkkpcjpdpjpohaa

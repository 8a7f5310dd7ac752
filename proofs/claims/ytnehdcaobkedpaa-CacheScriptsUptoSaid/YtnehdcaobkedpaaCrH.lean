/- Layer 20: what is so behind each act. -/
import Derived.Test.YtnehdcaobkedpaaCrG
namespace Go.Proofs.Ytnehdcaobkedpaa.Ca
open Go.Proofs.Ytnehdcaobkedpaa
open Go.RowKit

structure Inv (i b1 b2 : Nat) (C : CS) (r : RC) : Prop where
  b : C.b = b1
  rb : r.b = b2
  R : Rel C r
  nf : C.nf ≤ i
  nn : C.nn ≤ i
  np : C.np ≤ i
  fl : r.fl.length ≤ i
  nl : r.nl.length ≤ i
  pl : r.pl.length ≤ i
  a0 : 0 ≤ C.age
  a1 : inI C.age
theorem Inv.mono {i b1 b2 : Nat} {C : CS} {r : RC} (I : Inv i b1 b2 C r) : Inv (i + 1) b1 b2 C r := ⟨I.b, I.rb, I.R, by have := I.nf; omega, by have := I.nn; omega, by have := I.np; omega, by have := I.fl; omega, by have := I.nl; omega, by have := I.pl; omega, I.a0, I.a1⟩
theorem Inv.bind {i b1 b2 : Nat} {C : CS} {r : RC} (I : Inv i b1 b2 C r) (d s h : ByteArray) (now : Int) (hn : inI now) : Inv (i + 1) b1 b2 { C with nn := C.nn + 1, nm := C.nm.set d s (h, now) } { r with nl := r.nl ++ [⟨d, s, h, now⟩] } :=
  ⟨I.b, I.rb, I.R.bind d s h now hn, by have := I.nf; show C.nf ≤ i + 1; omega, by have := I.nn; show C.nn + 1 ≤ i + 1; omega, by have := I.np; show C.np ≤ i + 1; omega, by have := I.fl; show r.fl.length ≤ i + 1; omega, by have := I.nl; show (r.nl ++ [_]).length ≤ i + 1; rw [List.length_append]; simp; omega, by have := I.pl; show r.pl.length ≤ i + 1; omega, I.a0, I.a1⟩
theorem Inv.hold {i b1 b2 : Nat} {C : CS} {r : RC} (I : Inv i b1 b2 C r) (h : ByteArray) (k : Int) (x : ByteArray) : Inv (i + 1) b1 b2 { C with np := C.np + 1, pm := C.pm.set h k x } { r with pl := r.pl ++ [⟨h, k, x⟩] } :=
  ⟨I.b, I.rb, I.R.hold h k x, by have := I.nf; show C.nf ≤ i + 1; omega, by have := I.nn; show C.nn ≤ i + 1; omega, by have := I.np; show C.np + 1 ≤ i + 1; omega, by have := I.fl; show r.fl.length ≤ i + 1; omega, by have := I.nl; show r.nl.length ≤ i + 1; omega, by have := I.pl; show (r.pl ++ [_]).length ≤ i + 1; rw [List.length_append]; simp; omega, I.a0, I.a1⟩
theorem Inv.loose {i b1 b2 : Nat} {C : CS} {r : RC} (I : Inv i b1 b2 C r) (d s : ByteArray) : Inv (i + 1) b1 b2 { C with nm := C.nm.del d s } { r with nl := r.nl.filter (notN d s) } :=
  ⟨I.b, I.rb, I.R.loose d s, by have := I.nf; show C.nf ≤ i + 1; omega, by have := I.nn; show C.nn ≤ i + 1; omega, by have := I.np; show C.np ≤ i + 1; omega, by have := I.fl; show r.fl.length ≤ i + 1; omega, by have := I.nl; have h2 := List.length_filter_le (notN d s) r.nl; show (r.nl.filter _).length ≤ i + 1; omega, by have := I.pl; show r.pl.length ≤ i + 1; omega, I.a0, I.a1⟩
theorem keepN_length (h : ByteArray) : ∀ l : List NR, (keepN h l).length ≤ l.length
  | [] => Nat.le_refl _
  | y :: l => by
    have := keepN_length h l
    unfold keepN
    split
    · simp; omega
    · simp; omega
theorem Inv.forget {i b1 b2 : Nat} {C : CS} {r : RC} (I : Inv i b1 b2 C r) (h : ByteArray) : Inv (i + 1) b1 b2 { C with fm := C.fm.del h, nm := C.nm.drop h, pm := C.pm.drop h } ⟨r.b, r.age, r.fl.filter (notF h), keepN h r.nl, r.pl.filter (notP h)⟩ :=
  ⟨I.b, I.rb, I.R.forget h, by have := I.nf; show C.nf ≤ i + 1; omega, by have := I.nn; show C.nn ≤ i + 1; omega, by have := I.np; show C.np ≤ i + 1; omega, by have := I.fl; have h2 := List.length_filter_le (notF h) r.fl; show (r.fl.filter _).length ≤ i + 1; omega, by have := I.nl; have h2 := keepN_length h r.nl; show (keepN h r.nl).length ≤ i + 1; omega, by have := I.pl; have h2 := List.length_filter_le (notP h) r.pl; show (r.pl.filter _).length ≤ i + 1; omega, I.a0, I.a1⟩
theorem Inv.learn {i b1 b2 : Nat} {C : CS} {r : RC} (I : Inv i b1 b2 C r) (f : FR) (hn : inI f.now) : Inv (i + 1) b1 b2 (C.learn f.h f.size f.id f.s f.n f.now) (r.learn f) :=
  ⟨I.b, I.rb, I.R.learn f hn, by have := I.nf; show C.nf + 1 ≤ i + 1; omega, by have := I.nn; show C.nn ≤ i + 1; omega, by have := I.np; show C.np ≤ i + 1; omega, by have := I.fl; show (r.fl ++ [_]).length ≤ i + 1; rw [List.length_append]; simp; omega, by have := I.nl; show r.nl.length ≤ i + 1; omega,
    by
      have := I.pl
      have h2 := List.length_filter_le (notP f.h) r.pl
      show (if r.chd f = true then r.pl.filter (notP f.h) else r.pl).length ≤ i + 1
      split <;> omega, I.a0, I.a1⟩
end Go.Proofs.Ytnehdcaobkedpaa.Ca

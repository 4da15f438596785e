import Derived.Test.YtmkohpkfeamjiaaPVT
import Derived.Lib.ValidU
import Derived.Lib.BitFns
set_option maxHeartbeats 400000
set_option linter.unusedVariables false
set_option linter.unusedSimpArgs false
set_option linter.unusedSectionVars false
namespace Lt
open Ld Go Go.Abs
set_option maxRecDepth 8000


noncomputable def qcD9 (s0 : List Int) (s1 : List Int) (s10 : Int) : Int→Option (Int ⊕ (Int ⊕ Int)):=fun s11 =>
 if s11 < s10 then
  (idx s0 s11).bind fun x1 =>
  (idx s1 s11).bind fun x2 =>
  if x1 = x2 then
   some (.inl (w64 (s11 + 1)))
  else
  some (.inr (.inl (w64 (x1 - x2))))
 else
 some (.inr (.inr s11))
noncomputable def qdv9 (a0 : List Int) (a1 : List Int) : Option Int :=
 (wh (qcD9 a0 a1 (min (a0.length : Int) (a1.length : Int))) 0).bind fun x3 =>
 match x3 with
 | .inl x4 =>
  some x4
 | .inr x5 =>
  some (w64 ((a0.length : Int) - (a1.length : Int)))
noncomputable def qt9 (a0 : Mono) (a1 : Mono) : Option Int :=
 (qdv9 a0.Exps a1.Exps).bind fun x1 =>
 some x1
def qfA9 (n : Int) : Option Int:=if 0≤n∧n≤18446744073709551615 then some ((Go.Lib.bitLen n.toNat : Nat) : Int) else none

noncomputable def qw9 (s1 : Int) (s2 : Int) (s8 : Int) : Int × (List Mono)→Option ((Int × (List Mono)) ⊕ ((List Mono))):=fun (s9,o0) =>
 if s1 < s9 then
  (idx o0 s9).bind fun x1 =>
  (idx o0 (w64 (s9 - 1))).bind fun x2 =>
  (qt9 x1 x2).bind fun x3 =>
  if x3 < 0 then
   (idx (o0.set (s9).toNat x2) (w64 (s9 - 1))).bind fun x4 =>
   some (.inl (w64 (s9 - 1),(o0.set (s9).toNat x2).set (w64 (s9 - 1)).toNat x1))
  else
  some (.inr o0)
 else
 some (.inr o0)
noncomputable def qp9 (s1 : Int) (s2 : Int) : Int × (List Mono)→Option ((Int × (List Mono)) ⊕ (Int × (List Mono))):=fun (s8,o0) =>
 if s8 < s2 then
  (wh (qw9 s1 s2 s8) (s8,o0)).bind fun x6 =>
  some (.inl (w64 (s8 + 1),x6))
 else
 some (.inr (s8,o0))
noncomputable def qS9 (s1 : Int) (s2 : Int) (o0 : List Mono) : Option ((List Mono)) :=
 (wh (qp9 s1 s2) (w64 (s1 + 1),o0)).bind fun x9 =>
 match x9 with
 | (x10,x11) =>
 some x11
noncomputable def qj9 (s1 : Int) (s2 : Int) (s3 : Int) : Int × (List Mono)→Option ((Int × (List Mono)) ⊕ ((Int × (List Mono)) ⊕ ((List Mono)))):=fun (s10,o0) =>
 if s2≤(w64 ((w64 (2 * s10)) + 1)) then
  some (.inr (.inl (s10,o0)))
 else
 if (w64 ((w64 ((w64 (2 * s10)) + 1)) + 1)) < s2 then
  (idx o0 (w64 (s3 + (w64 ((w64 (2 * s10)) + 1))))).bind fun x1 =>
  (idx o0 (w64 ((w64 (s3 + (w64 ((w64 (2 * s10)) + 1)))) + 1))).bind fun x2 =>
  (qt9 x1 x2).bind fun x3 =>
  if x3 < 0 then
   (idx o0 (w64 (s3 + s10))).bind fun x4 =>
   (idx o0 (w64 (s3 + (w64 ((w64 ((w64 (2 * s10)) + 1)) + 1))))).bind fun x5 =>
   (qt9 x4 x5).bind fun x6 =>
   if x6 < 0 then
    (idx (o0.set (w64 (s3 + s10)).toNat x5) (w64 (s3 + (w64 ((w64 ((w64 (2 * s10)) + 1)) + 1))))).bind fun x7 =>
    some (.inl (w64 ((w64 ((w64 (2 * s10)) + 1)) + 1),(o0.set (w64 (s3 + s10)).toNat x5).set (w64 (s3 + (w64 ((w64 ((w64 (2 * s10)) + 1)) + 1)))).toNat x4))
   else
   some (.inr (.inr o0))
  else
  (idx o0 (w64 (s3 + s10))).bind fun x8 =>
  (qt9 x8 x1).bind fun x9 =>
  if x9 < 0 then
   (idx (o0.set (w64 (s3 + s10)).toNat x1) (w64 (s3 + (w64 ((w64 (2 * s10)) + 1))))).bind fun x10 =>
   some (.inl (w64 ((w64 (2 * s10)) + 1),(o0.set (w64 (s3 + s10)).toNat x1).set (w64 (s3 + (w64 ((w64 (2 * s10)) + 1)))).toNat x8))
  else
  some (.inr (.inr o0))
 else
 (idx o0 (w64 (s3 + s10))).bind fun x11 =>
 (idx o0 (w64 (s3 + (w64 ((w64 (2 * s10)) + 1))))).bind fun x12 =>
 (qt9 x11 x12).bind fun x13 =>
 if x13 < 0 then
  (idx (o0.set (w64 (s3 + s10)).toNat x12) (w64 (s3 + (w64 ((w64 (2 * s10)) + 1))))).bind fun x14 =>
  some (.inl (w64 ((w64 (2 * s10)) + 1),(o0.set (w64 (s3 + s10)).toNat x12).set (w64 (s3 + (w64 ((w64 (2 * s10)) + 1)))).toNat x11))
 else
 some (.inr (.inr o0))
noncomputable def qG9 (s1 : Int) (s2 : Int) (s3 : Int) (o0 : List Mono) : Option ((List Mono)) :=
 (wh (qj9 s1 s2 s3) (s1,o0)).bind fun x15 =>
 match x15 with
 | .inl (x16,x17) =>
  some x17
 | .inr x20 =>
  some x20
noncomputable def qB9 (s1 : Int) (s2 : Int) (s8 : Int) (s10 : Int) (s11 : Int) : Int × (List Mono)→Option ((Int × (List Mono)) ⊕ (Int × (List Mono))):=fun (s12,o0) =>
 if 0≤s12 then
  (idx o0 (w64 (s8 + s12))).bind fun x8 =>
  (idx o0 s8).bind fun x9 =>
  (idx (o0.set (s8).toNat x8) (w64 (s8 + s12))).bind fun x10 =>
  (qG9 0 s12 s8 ((o0.set (s8).toNat x8).set (w64 (s8 + s12)).toNat x9)).bind fun x11 =>
  some (.inl (w64 (s12 - 1),x11))
 else
 some (.inr (s12,o0))
noncomputable def qC9 (s1 : Int) (s2 : Int) (s8 : Int) (s10 : Int) : Int × (List Mono)→Option ((Int × (List Mono)) ⊕ (Int × (List Mono))):=fun (s11,o0) =>
 if 0≤s11 then
  (qG9 s11 s10 s8 o0).bind fun x2 =>
  some (.inl (w64 (s11 - 1),x2))
 else
 some (.inr (s11,o0))
noncomputable def qbg9 (s1 : Int) (s2 : Int) (o0 : List Mono) : Option ((List Mono)) :=
 (quoV .i64 (w64 ((w64 (s2 - s1)) - 1)) 2).bind fun x1 =>
 (wh (qC9 s1 s2 s1 (w64 (s2 - s1))) (x1,o0)).bind fun x4 =>
 match x4 with
 | (x5,x6) =>
 (wh (qB9 s1 s2 s1 (w64 (s2 - s1)) x5) (w64 ((w64 (s2 - s1)) - 1),x6)).bind fun x13 =>
 match x13 with
 | (x14,x15) =>
 some x15
noncomputable def qI9 (s1 : Int) (s2 : Int) (o0 : List Mono) (b3_0 : Int) : Option (Int × Int × Int) :=
 (idx o0 s2).bind fun x1 =>
 (idx o0 s1).bind fun x2 =>
 (qt9 x1 x2).bind fun x3 =>
 if x3 < 0 then
  some (s2,s1,w64 (b3_0 + 1))
 else
 some (s1,s2,b3_0)
noncomputable def qJ9 (s1 : Int) (s2 : Int) (s3 : Int) (o0 : List Mono) (b4_0 : Int) : Option (Int × Int) :=
 (qI9 s1 s2 o0 b4_0).bind fun x1 =>
 (qI9 x1.2.1 s3 o0 x1.2.2).bind fun x2 =>
 (qI9 x1.1 x2.1 o0 x2.2.2).bind fun x3 =>
 some (x3.2.1,x3.2.2)
noncomputable def qz9 (s1 : Int) (o0 : List Mono) (b2_0 : Int) : Option (Int × Int) :=
 (qJ9 (w64 (s1 - 1)) s1 (w64 (s1 + 1)) o0 b2_0).bind fun x1 =>
 some (x1.1,x1.2)
noncomputable def qK9 (s1 : Int) (s2 : Int) (o0 : List Mono) : Option (Int × Int) :=
 (quoV .i64 (w64 (s2 - s1)) 4).bind fun x1 =>
 if 8≤(w64 (s2 - s1)) then
  if 50≤(w64 (s2 - s1)) then
   (qz9 (w64 (s1 + (w64 (x1 * 1)))) o0 0).bind fun x2 =>
   (qz9 (w64 (s1 + (w64 (x1 * 2)))) o0 x2.2).bind fun x3 =>
   (qz9 (w64 (s1 + (w64 (x1 * 3)))) o0 x3.2).bind fun x4 =>
   (qJ9 x2.1 x3.1 x4.1 o0 x4.2).bind fun x5 =>
   if x5.2 = 0 then
    some (x5.1,1)
   else
   if x5.2 = 12 then
    some (x5.1,2)
   else
   some (x5.1,0)
  else
  (qJ9 (w64 (s1 + (w64 (x1 * 1)))) (w64 (s1 + (w64 (x1 * 2)))) (w64 (s1 + (w64 (x1 * 3)))) o0 0).bind fun x6 =>
  if x6.2 = 0 then
   some (x6.1,1)
  else
  if x6.2 = 12 then
   some (x6.1,2)
  else
  some (x6.1,0)
 else
 some (w64 (s1 + (w64 (x1 * 2))),1)
noncomputable def qs9 (s1 : Int) (s2 : Int) : Int × Int × (List Mono)→Option ((Int × Int × (List Mono)) ⊕ (Int × Int × (List Mono))):=fun (s8,s9,o0) =>
 if s8 < s9 then
  (idx o0 s9).bind fun x1 =>
  (idx o0 s8).bind fun x2 =>
  (idx (o0.set (s8).toNat x1) s9).bind fun x3 =>
  some (.inl (w64 (s8 + 1),w64 (s9 - 1),(o0.set (s8).toNat x1).set (s9).toNat x2))
 else
 some (.inr (s8,s9,o0))
noncomputable def qA9 (s1 : Int) (s2 : Int) (o0 : List Mono) : Option ((List Mono)) :=
 (wh (qs9 s1 s2) (s1,w64 (s2 - 1),o0)).bind fun x4 =>
 match x4 with
 | (x5,x6,x7) =>
 some x7
noncomputable def ql9 (s1 : Int) (s2 : Int) (s9 : Int) (s10 : Int) : Int × (List Mono)→Option ((Int × (List Mono)) ⊕ ((List Mono))):=fun (s12,o0) =>
 if s12 < s2 then
  (idx o0 s12).bind fun x26 =>
  (idx o0 (w64 (s12 - 1))).bind fun x27 =>
  (qt9 x26 x27).bind fun x28 =>
  if x28 < 0 then
   (idx (o0.set (s12).toNat x27) (w64 (s12 - 1))).bind fun x29 =>
   some (.inl (w64 (s12 + 1),(o0.set (s12).toNat x27).set (w64 (s12 - 1)).toNat x26))
  else
  some (.inr o0)
 else
 some (.inr o0)
noncomputable def qr9 (s1 : Int) (s2 : Int) (s9 : Int) (s10 : Int) : Int × (List Mono)→Option ((Int × (List Mono)) ⊕ ((List Mono))):=fun (s11,o0) =>
 if 1≤s11 then
  (idx o0 s11).bind fun x10 =>
  (idx o0 (w64 (s11 - 1))).bind fun x11 =>
  (qt9 x10 x11).bind fun x12 =>
  if x12 < 0 then
   (idx (o0.set (s11).toNat x11) (w64 (s11 - 1))).bind fun x13 =>
   some (.inl (w64 (s11 - 1),(o0.set (s11).toNat x11).set (w64 (s11 - 1)).toNat x10))
  else
  some (.inr o0)
 else
 some (.inr o0)
noncomputable def qn9 (s1 : Int) (s2 : Int) (s10 : Int) (o0 : List Mono) : Int→Option (Int ⊕ Int):=fun s9 =>
 if s9 < s2 then
  (idx o0 s9).bind fun x1 =>
  (idx o0 (w64 (s9 - 1))).bind fun x2 =>
  (qt9 x1 x2).bind fun x3 =>
  if x3 < 0 then
   some (.inr s9)
  else
  some (.inl (w64 (s9 + 1)))
 else
 some (.inr s9)
noncomputable def qq9 (s1 : Int) (s2 : Int) : Int × Int × (List Mono)→Option ((Int × Int × (List Mono)) ⊕ ((Bool × (List Mono)) ⊕ (Int × Int × (List Mono)))):=fun (s9,s10,o0) =>
 if s10 < 5 then
  (wh (qn9 s1 s2 s10 o0) s9).bind fun x5 =>
  if x5 = s2 then
   some (.inr (.inl (true,o0)))
  else
  if (w64 (s2 - s1)) < 50 then
   some (.inr (.inl (false,o0)))
  else
  (idx o0 (w64 (x5 - 1))).bind fun x7 =>
  (idx o0 x5).bind fun x8 =>
  (idx (o0.set (x5).toNat x7) (w64 (x5 - 1))).bind fun x9 =>
  if 2≤(w64 (x5 - s1)) then
   (wh (qr9 s1 s2 x5 s10) (w64 (x5 - 1),(o0.set (x5).toNat x7).set (w64 (x5 - 1)).toNat x8)).bind fun x15 =>
   if 2≤(w64 (s2 - x5)) then
    (wh (ql9 s1 s2 x5 s10) (w64 (x5 + 1),x15)).bind fun x23 =>
    some (.inl (x5,w64 (s10 + 1),x23))
   else
   some (.inl (x5,w64 (s10 + 1),x15))
  else
  if 2≤(w64 (s2 - x5)) then
   (wh (ql9 s1 s2 x5 s10) (w64 (x5 + 1),(o0.set (x5).toNat x7).set (w64 (x5 - 1)).toNat x8)).bind fun x31 =>
   some (.inl (x5,w64 (s10 + 1),x31))
  else
  some (.inl (x5,w64 (s10 + 1),(o0.set (x5).toNat x7).set (w64 (x5 - 1)).toNat x8))
 else
 some (.inr (.inr (s9,s10,o0)))
noncomputable def qu9 (s1 : Int) (s2 : Int) (o0 : List Mono) : Option (Bool × (List Mono)) :=
 (wh (qq9 s1 s2) (w64 (s1 + 1),0,o0)).bind fun x34 =>
 match x34 with
 | .inl x35 =>
  some x35
 | .inr (x36,x37,x38) =>
  some (false,x38)
noncomputable def qW9 (s1 : Int) (s2 : Int) (s3 : Int) (s12 : Int) (o0 : List Mono) : Int→Option (Int ⊕ Int):=fun s13 =>
 if s12≤s13 then
  (idx o0 s13).bind fun x28 =>
  (idx o0 s1).bind fun x29 =>
  (qt9 x28 x29).bind fun x30 =>
  if x30 < 0 then
   some (.inr s13)
  else
  some (.inl (w64 (s13 - 1)))
 else
 some (.inr s13)
noncomputable def qbc9 (s1 : Int) (s2 : Int) (s3 : Int) (s13 : Int) (o0 : List Mono) : Int→Option (Int ⊕ Int):=fun s12 =>
 if s12≤s13 then
  (idx o0 s12).bind fun x22 =>
  (idx o0 s1).bind fun x23 =>
  (qt9 x22 x23).bind fun x24 =>
  if x24 < 0 then
   some (.inl (w64 (s12 + 1)))
  else
  some (.inr s12)
 else
 some (.inr s12)
noncomputable def qv9 (s1 : Int) (s2 : Int) (s3 : Int) : Int × Int × (List Mono)→Option ((Int × Int × (List Mono)) ⊕ (Int × Int × (List Mono))):=fun (s12,s13,o0) =>
 (wh (qbc9 s1 s2 s3 s13 o0) s12).bind fun x26 =>
 (wh (qW9 s1 s2 s3 x26 o0) s13).bind fun x32 =>
 if x32 < x26 then
  some (.inr (x26,x32,o0))
 else
 (idx o0 x32).bind fun x34 =>
 (idx o0 x26).bind fun x35 =>
 (idx (o0.set (x26).toNat x34) x32).bind fun x36 =>
 some (.inl (w64 (x26 + 1),w64 (x32 - 1),(o0.set (x26).toNat x34).set (x32).toNat x35))
noncomputable def qY9 (s1 : Int) (s2 : Int) (s3 : Int) (s12 : Int) (o0 : List Mono) : Int→Option (Int ⊕ Int):=fun s13 =>
 if s12≤s13 then
  (idx o0 s13).bind fun x10 =>
  (idx o0 s1).bind fun x11 =>
  (qt9 x10 x11).bind fun x12 =>
  if x12 < 0 then
   some (.inr s13)
  else
  some (.inl (w64 (s13 - 1)))
 else
 some (.inr s13)
noncomputable def qZ9 (s1 : Int) (s2 : Int) (s3 : Int) (s13 : Int) (o0 : List Mono) : Int→Option (Int ⊕ Int):=fun s12 =>
 if s12≤s13 then
  (idx o0 s12).bind fun x4 =>
  (idx o0 s1).bind fun x5 =>
  (qt9 x4 x5).bind fun x6 =>
  if x6 < 0 then
   some (.inl (w64 (s12 + 1)))
  else
  some (.inr s12)
 else
 some (.inr s12)
noncomputable def qe9 (s1 : Int) (s2 : Int) (s3 : Int) (o0 : List Mono) : Option (Int × Bool × (List Mono)) :=
 (idx o0 s3).bind fun x1 =>
 (idx o0 s1).bind fun x2 =>
 (idx (o0.set (s1).toNat x1) s3).bind fun x3 =>
 (wh (qZ9 s1 s2 s3 (w64 (s2 - 1)) ((o0.set (s1).toNat x1).set (s3).toNat x2)) (w64 (s1 + 1))).bind fun x8 =>
 (wh (qY9 s1 s2 s3 x8 ((o0.set (s1).toNat x1).set (s3).toNat x2)) (w64 (s2 - 1))).bind fun x14 =>
 if x14 < x8 then
  (idx ((o0.set (s1).toNat x1).set (s3).toNat x2) s1).bind fun x16 =>
  (idx ((o0.set (s1).toNat x1).set (s3).toNat x2) x14).bind fun x17 =>
  (idx (((o0.set (s1).toNat x1).set (s3).toNat x2).set (x14).toNat x16) s1).bind fun x18 =>
  some (x14,true,(((o0.set (s1).toNat x1).set (s3).toNat x2).set (x14).toNat x16).set (s1).toNat x17)
 else
 (idx ((o0.set (s1).toNat x1).set (s3).toNat x2) x14).bind fun x19 =>
 (idx ((o0.set (s1).toNat x1).set (s3).toNat x2) x8).bind fun x20 =>
 (idx (((o0.set (s1).toNat x1).set (s3).toNat x2).set (x8).toNat x19) x14).bind fun x21 =>
 (wh (qv9 s1 s2 s3) (w64 (x8 + 1),w64 (x14 - 1),(((o0.set (s1).toNat x1).set (s3).toNat x2).set (x8).toNat x19).set (x14).toNat x20)).bind fun x37 =>
 match x37 with
 | (x38,x39,x40) =>
 (idx x40 s1).bind fun x42 =>
 (idx x40 x39).bind fun x43 =>
 (idx (x40.set (x39).toNat x42) s1).bind fun x44 =>
 some (x39,false,(x40.set (x39).toNat x42).set (s1).toNat x43)
noncomputable def qM9 (s1 : Int) (s2 : Int) (s3 : Int) (s11 : Int) (o0 : List Mono) : Int→Option (Int ⊕ Int):=fun s12 =>
 if s11≤s12 then
  (idx o0 s1).bind fun x10 =>
  (idx o0 s12).bind fun x11 =>
  (qt9 x10 x11).bind fun x12 =>
  if x12 < 0 then
   some (.inl (w64 (s12 - 1)))
  else
  some (.inr s12)
 else
 some (.inr s12)
noncomputable def qL9 (s1 : Int) (s2 : Int) (s3 : Int) (s12 : Int) (o0 : List Mono) : Int→Option (Int ⊕ Int):=fun s11 =>
 if s11≤s12 then
  (idx o0 s1).bind fun x4 =>
  (idx o0 s11).bind fun x5 =>
  (qt9 x4 x5).bind fun x6 =>
  if x6 < 0 then
   some (.inr s11)
  else
  some (.inl (w64 (s11 + 1)))
 else
 some (.inr s11)
noncomputable def qo9 (s1 : Int) (s2 : Int) (s3 : Int) : Int × Int × (List Mono)→Option ((Int × Int × (List Mono)) ⊕ (Int × Int × (List Mono))):=fun (s11,s12,o0) =>
 (wh (qL9 s1 s2 s3 s12 o0) s11).bind fun x8 =>
 (wh (qM9 s1 s2 s3 x8 o0) s12).bind fun x14 =>
 if x14 < x8 then
  some (.inr (x8,x14,o0))
 else
 (idx o0 x14).bind fun x16 =>
 (idx o0 x8).bind fun x17 =>
 (idx (o0.set (x8).toNat x16) x14).bind fun x18 =>
 some (.inl (w64 (x8 + 1),w64 (x14 - 1),(o0.set (x8).toNat x16).set (x14).toNat x17))
noncomputable def qh9 (s1 : Int) (s2 : Int) (s3 : Int) (o0 : List Mono) : Option (Int × (List Mono)) :=
 (idx o0 s3).bind fun x1 =>
 (idx o0 s1).bind fun x2 =>
 (idx (o0.set (s1).toNat x1) s3).bind fun x3 =>
 (wh (qo9 s1 s2 s3) (w64 (s1 + 1),w64 (s2 - 1),(o0.set (s1).toNat x1).set (s3).toNat x2)).bind fun x19 =>
 match x19 with
 | (x20,x21,x22) =>
 some (x20,x22)
noncomputable def qdx9 (a0 : Int) : Option Int :=
 (qfA9 (IntKind.u64.wrap a0)).bind fun x1 =>
 (shlV .u64 1 x1).bind fun x2 =>
 some x2
noncomputable def qdB9 (b0_0 : Int) : Option (Int × Int) :=
 (shlV .u64 b0_0 13).bind fun x1 =>
 (shrV .u64 (xorV .u64 b0_0 x1) 7).bind fun x2 =>
 (shlV .u64 (xorV .u64 (xorV .u64 b0_0 x1) x2) 17).bind fun x3 =>
 some (xorV .u64 (xorV .u64 (xorV .u64 b0_0 x1) x2) x3,xorV .u64 (xorV .u64 (xorV .u64 b0_0 x1) x2) x3)
noncomputable def qm9 (s1 : Int) (s2 : Int) (s8 : Int) (s10 : Int) : Int × (List Mono) × Int→Option ((Int × (List Mono) × Int) ⊕ (Int × (List Mono) × Int)):=fun (s11,o0,b9_0) =>
 (quoV .i64 s8 4).bind fun x3 =>
 if s11≤(w64 ((w64 (s1 + (w64 (x3 * 2)))) + 1)) then
  (qdB9 b9_0).bind fun x4 =>
  if s8≤(w64 (andV .u64 x4.1 (IntKind.u64.wrap (s10 - 1)))) then
   (idx o0 (w64 (s1 + (w64 ((w64 (andV .u64 x4.1 (IntKind.u64.wrap (s10 - 1)))) - s8))))).bind fun x5 =>
   (idx o0 s11).bind fun x6 =>
   (idx (o0.set (s11).toNat x5) (w64 (s1 + (w64 ((w64 (andV .u64 x4.1 (IntKind.u64.wrap (s10 - 1)))) - s8))))).bind fun x7 =>
   some (.inl (w64 (s11 + 1),(o0.set (s11).toNat x5).set (w64 (s1 + (w64 ((w64 (andV .u64 x4.1 (IntKind.u64.wrap (s10 - 1)))) - s8)))).toNat x6,x4.2))
  else
  (idx o0 (w64 (s1 + (w64 (andV .u64 x4.1 (IntKind.u64.wrap (s10 - 1))))))).bind fun x8 =>
  (idx o0 s11).bind fun x9 =>
  (idx (o0.set (s11).toNat x8) (w64 (s1 + (w64 (andV .u64 x4.1 (IntKind.u64.wrap (s10 - 1))))))).bind fun x10 =>
  some (.inl (w64 (s11 + 1),(o0.set (s11).toNat x8).set (w64 (s1 + (w64 (andV .u64 x4.1 (IntKind.u64.wrap (s10 - 1)))))).toNat x9,x4.2))
 else
 some (.inr (s11,o0,b9_0))
noncomputable def qU9 (s1 : Int) (s2 : Int) (o0 : List Mono) : Option ((List Mono)) :=
 if 8≤(w64 (s2 - s1)) then
  (qdx9 (w64 (s2 - s1))).bind fun x1 =>
  (quoV .i64 (w64 (s2 - s1)) 4).bind fun x2 =>
  (wh (qm9 s1 s2 (w64 (s2 - s1)) x1) (w64 ((w64 (s1 + (w64 (x2 * 2)))) - 1),o0,IntKind.u64.wrap (w64 (s2 - s1)))).bind fun x11 =>
  match x11 with
  | (x12,x13,x14) =>
  some x13
 else
 some o0
noncomputable def qd9 (rec : Int × Int × Int × (List Mono)→Option ((List Mono)))  : Int × Int × Int × Bool × Bool × (List Mono)→Option ((Int × Int × Int × Bool × Bool × (List Mono)) ⊕ ((List Mono))):=fun (s1,s2,s3,s10,s11,o0) =>
 if (w64 (s2 - s1))≤12 then
  (qS9 s1 s2 o0).bind fun x1 =>
  some (.inr x1)
 else
 if s3 = 0 then
  (qbg9 s1 s2 o0).bind fun x3 =>
  some (.inr x3)
 else
 if s10 = true then
  (qK9 s1 s2 o0).bind fun x5 =>
  if x5.2 = 2 then
   (qA9 s1 s2 o0).bind fun x7 =>
   if s11 = true then
    (qu9 s1 s2 x7).bind fun x8 =>
    if x8.1 = true then
     some (.inr x8.2)
    else
    if 0 < s1 then
     (idx x8.2 (w64 (s1 - 1))).bind fun x10 =>
     (idx x8.2 (w64 ((w64 (s2 - 1)) - (w64 (x5.1 - s1))))).bind fun x11 =>
     (qt9 x10 x11).bind fun x12 =>
     if x12 < 0 then
      (qe9 s1 s2 (w64 ((w64 (s2 - 1)) - (w64 (x5.1 - s1)))) x8.2).bind fun x13 =>
      (quoV .i64 (w64 (s2 - s1)) 8).bind fun x15 =>
      if (w64 (x13.1 - s1)) < (w64 (s2 - x13.1)) then
       (rec (s1,x13.1,s3,x13.2.2)).bind fun x16 =>
       some (.inl (w64 (x13.1 + 1),s2,s3,decide (x15≤(w64 (x13.1 - s1))),x13.2.1,x16))
      else
      (rec (w64 (x13.1 + 1),s2,s3,x13.2.2)).bind fun x18 =>
      some (.inl (s1,x13.1,s3,decide (x15≤(w64 (s2 - x13.1))),x13.2.1,x18))
     else
     (qh9 s1 s2 (w64 ((w64 (s2 - 1)) - (w64 (x5.1 - s1)))) x8.2).bind fun x20 =>
     some (.inl (x20.1,s2,s3,s10,s11,x20.2))
    else
    (qe9 s1 s2 (w64 ((w64 (s2 - 1)) - (w64 (x5.1 - s1)))) x8.2).bind fun x22 =>
    (quoV .i64 (w64 (s2 - s1)) 8).bind fun x24 =>
    if (w64 (x22.1 - s1)) < (w64 (s2 - x22.1)) then
     (rec (s1,x22.1,s3,x22.2.2)).bind fun x25 =>
     some (.inl (w64 (x22.1 + 1),s2,s3,decide (x24≤(w64 (x22.1 - s1))),x22.2.1,x25))
    else
    (rec (w64 (x22.1 + 1),s2,s3,x22.2.2)).bind fun x27 =>
    some (.inl (s1,x22.1,s3,decide (x24≤(w64 (s2 - x22.1))),x22.2.1,x27))
   else
   if 0 < s1 then
    (idx x7 (w64 (s1 - 1))).bind fun x29 =>
    (idx x7 (w64 ((w64 (s2 - 1)) - (w64 (x5.1 - s1))))).bind fun x30 =>
    (qt9 x29 x30).bind fun x31 =>
    if x31 < 0 then
     (qe9 s1 s2 (w64 ((w64 (s2 - 1)) - (w64 (x5.1 - s1)))) x7).bind fun x32 =>
     (quoV .i64 (w64 (s2 - s1)) 8).bind fun x34 =>
     if (w64 (x32.1 - s1)) < (w64 (s2 - x32.1)) then
      (rec (s1,x32.1,s3,x32.2.2)).bind fun x35 =>
      some (.inl (w64 (x32.1 + 1),s2,s3,decide (x34≤(w64 (x32.1 - s1))),x32.2.1,x35))
     else
     (rec (w64 (x32.1 + 1),s2,s3,x32.2.2)).bind fun x37 =>
     some (.inl (s1,x32.1,s3,decide (x34≤(w64 (s2 - x32.1))),x32.2.1,x37))
    else
    (qh9 s1 s2 (w64 ((w64 (s2 - 1)) - (w64 (x5.1 - s1)))) x7).bind fun x39 =>
    some (.inl (x39.1,s2,s3,s10,s11,x39.2))
   else
   (qe9 s1 s2 (w64 ((w64 (s2 - 1)) - (w64 (x5.1 - s1)))) x7).bind fun x41 =>
   (quoV .i64 (w64 (s2 - s1)) 8).bind fun x43 =>
   if (w64 (x41.1 - s1)) < (w64 (s2 - x41.1)) then
    (rec (s1,x41.1,s3,x41.2.2)).bind fun x44 =>
    some (.inl (w64 (x41.1 + 1),s2,s3,decide (x43≤(w64 (x41.1 - s1))),x41.2.1,x44))
   else
   (rec (w64 (x41.1 + 1),s2,s3,x41.2.2)).bind fun x46 =>
   some (.inl (s1,x41.1,s3,decide (x43≤(w64 (s2 - x41.1))),x41.2.1,x46))
  else
  if s11 = true then
   if x5.2 = 1 then
    (qu9 s1 s2 o0).bind fun x48 =>
    if x48.1 = true then
     some (.inr x48.2)
    else
    if 0 < s1 then
     (idx x48.2 (w64 (s1 - 1))).bind fun x50 =>
     (idx x48.2 x5.1).bind fun x51 =>
     (qt9 x50 x51).bind fun x52 =>
     if x52 < 0 then
      (qe9 s1 s2 x5.1 x48.2).bind fun x53 =>
      (quoV .i64 (w64 (s2 - s1)) 8).bind fun x55 =>
      if (w64 (x53.1 - s1)) < (w64 (s2 - x53.1)) then
       (rec (s1,x53.1,s3,x53.2.2)).bind fun x56 =>
       some (.inl (w64 (x53.1 + 1),s2,s3,decide (x55≤(w64 (x53.1 - s1))),x53.2.1,x56))
      else
      (rec (w64 (x53.1 + 1),s2,s3,x53.2.2)).bind fun x58 =>
      some (.inl (s1,x53.1,s3,decide (x55≤(w64 (s2 - x53.1))),x53.2.1,x58))
     else
     (qh9 s1 s2 x5.1 x48.2).bind fun x60 =>
     some (.inl (x60.1,s2,s3,s10,s11,x60.2))
    else
    (qe9 s1 s2 x5.1 x48.2).bind fun x62 =>
    (quoV .i64 (w64 (s2 - s1)) 8).bind fun x64 =>
    if (w64 (x62.1 - s1)) < (w64 (s2 - x62.1)) then
     (rec (s1,x62.1,s3,x62.2.2)).bind fun x65 =>
     some (.inl (w64 (x62.1 + 1),s2,s3,decide (x64≤(w64 (x62.1 - s1))),x62.2.1,x65))
    else
    (rec (w64 (x62.1 + 1),s2,s3,x62.2.2)).bind fun x67 =>
    some (.inl (s1,x62.1,s3,decide (x64≤(w64 (s2 - x62.1))),x62.2.1,x67))
   else
   if 0 < s1 then
    (idx o0 (w64 (s1 - 1))).bind fun x69 =>
    (idx o0 x5.1).bind fun x70 =>
    (qt9 x69 x70).bind fun x71 =>
    if x71 < 0 then
     (qe9 s1 s2 x5.1 o0).bind fun x72 =>
     (quoV .i64 (w64 (s2 - s1)) 8).bind fun x74 =>
     if (w64 (x72.1 - s1)) < (w64 (s2 - x72.1)) then
      (rec (s1,x72.1,s3,x72.2.2)).bind fun x75 =>
      some (.inl (w64 (x72.1 + 1),s2,s3,decide (x74≤(w64 (x72.1 - s1))),x72.2.1,x75))
     else
     (rec (w64 (x72.1 + 1),s2,s3,x72.2.2)).bind fun x77 =>
     some (.inl (s1,x72.1,s3,decide (x74≤(w64 (s2 - x72.1))),x72.2.1,x77))
    else
    (qh9 s1 s2 x5.1 o0).bind fun x79 =>
    some (.inl (x79.1,s2,s3,s10,s11,x79.2))
   else
   (qe9 s1 s2 x5.1 o0).bind fun x81 =>
   (quoV .i64 (w64 (s2 - s1)) 8).bind fun x83 =>
   if (w64 (x81.1 - s1)) < (w64 (s2 - x81.1)) then
    (rec (s1,x81.1,s3,x81.2.2)).bind fun x84 =>
    some (.inl (w64 (x81.1 + 1),s2,s3,decide (x83≤(w64 (x81.1 - s1))),x81.2.1,x84))
   else
   (rec (w64 (x81.1 + 1),s2,s3,x81.2.2)).bind fun x86 =>
   some (.inl (s1,x81.1,s3,decide (x83≤(w64 (s2 - x81.1))),x81.2.1,x86))
  else
  if 0 < s1 then
   (idx o0 (w64 (s1 - 1))).bind fun x88 =>
   (idx o0 x5.1).bind fun x89 =>
   (qt9 x88 x89).bind fun x90 =>
   if x90 < 0 then
    (qe9 s1 s2 x5.1 o0).bind fun x91 =>
    (quoV .i64 (w64 (s2 - s1)) 8).bind fun x93 =>
    if (w64 (x91.1 - s1)) < (w64 (s2 - x91.1)) then
     (rec (s1,x91.1,s3,x91.2.2)).bind fun x94 =>
     some (.inl (w64 (x91.1 + 1),s2,s3,decide (x93≤(w64 (x91.1 - s1))),x91.2.1,x94))
    else
    (rec (w64 (x91.1 + 1),s2,s3,x91.2.2)).bind fun x96 =>
    some (.inl (s1,x91.1,s3,decide (x93≤(w64 (s2 - x91.1))),x91.2.1,x96))
   else
   (qh9 s1 s2 x5.1 o0).bind fun x98 =>
   some (.inl (x98.1,s2,s3,s10,s11,x98.2))
  else
  (qe9 s1 s2 x5.1 o0).bind fun x100 =>
  (quoV .i64 (w64 (s2 - s1)) 8).bind fun x102 =>
  if (w64 (x100.1 - s1)) < (w64 (s2 - x100.1)) then
   (rec (s1,x100.1,s3,x100.2.2)).bind fun x103 =>
   some (.inl (w64 (x100.1 + 1),s2,s3,decide (x102≤(w64 (x100.1 - s1))),x100.2.1,x103))
  else
  (rec (w64 (x100.1 + 1),s2,s3,x100.2.2)).bind fun x105 =>
  some (.inl (s1,x100.1,s3,decide (x102≤(w64 (s2 - x100.1))),x100.2.1,x105))
 else
 (qU9 s1 s2 o0).bind fun x107 =>
 (qK9 s1 s2 x107).bind fun x109 =>
 if x109.2 = 2 then
  (qA9 s1 s2 x107).bind fun x111 =>
  if 0 < s1 then
   (idx x111 (w64 (s1 - 1))).bind fun x112 =>
   (idx x111 (w64 ((w64 (s2 - 1)) - (w64 (x109.1 - s1))))).bind fun x113 =>
   (qt9 x112 x113).bind fun x114 =>
   if x114 < 0 then
    (qe9 s1 s2 (w64 ((w64 (s2 - 1)) - (w64 (x109.1 - s1)))) x111).bind fun x115 =>
    (quoV .i64 (w64 (s2 - s1)) 8).bind fun x117 =>
    if (w64 (x115.1 - s1)) < (w64 (s2 - x115.1)) then
     (rec (s1,x115.1,w64 (s3 - 1),x115.2.2)).bind fun x118 =>
     some (.inl (w64 (x115.1 + 1),s2,w64 (s3 - 1),decide (x117≤(w64 (x115.1 - s1))),x115.2.1,x118))
    else
    (rec (w64 (x115.1 + 1),s2,w64 (s3 - 1),x115.2.2)).bind fun x120 =>
    some (.inl (s1,x115.1,w64 (s3 - 1),decide (x117≤(w64 (s2 - x115.1))),x115.2.1,x120))
   else
   (qh9 s1 s2 (w64 ((w64 (s2 - 1)) - (w64 (x109.1 - s1)))) x111).bind fun x122 =>
   some (.inl (x122.1,s2,w64 (s3 - 1),s10,s11,x122.2))
  else
  (qe9 s1 s2 (w64 ((w64 (s2 - 1)) - (w64 (x109.1 - s1)))) x111).bind fun x124 =>
  (quoV .i64 (w64 (s2 - s1)) 8).bind fun x126 =>
  if (w64 (x124.1 - s1)) < (w64 (s2 - x124.1)) then
   (rec (s1,x124.1,w64 (s3 - 1),x124.2.2)).bind fun x127 =>
   some (.inl (w64 (x124.1 + 1),s2,w64 (s3 - 1),decide (x126≤(w64 (x124.1 - s1))),x124.2.1,x127))
  else
  (rec (w64 (x124.1 + 1),s2,w64 (s3 - 1),x124.2.2)).bind fun x129 =>
  some (.inl (s1,x124.1,w64 (s3 - 1),decide (x126≤(w64 (s2 - x124.1))),x124.2.1,x129))
 else
 if 0 < s1 then
  (idx x107 (w64 (s1 - 1))).bind fun x131 =>
  (idx x107 x109.1).bind fun x132 =>
  (qt9 x131 x132).bind fun x133 =>
  if x133 < 0 then
   (qe9 s1 s2 x109.1 x107).bind fun x134 =>
   (quoV .i64 (w64 (s2 - s1)) 8).bind fun x136 =>
   if (w64 (x134.1 - s1)) < (w64 (s2 - x134.1)) then
    (rec (s1,x134.1,w64 (s3 - 1),x134.2.2)).bind fun x137 =>
    some (.inl (w64 (x134.1 + 1),s2,w64 (s3 - 1),decide (x136≤(w64 (x134.1 - s1))),x134.2.1,x137))
   else
   (rec (w64 (x134.1 + 1),s2,w64 (s3 - 1),x134.2.2)).bind fun x139 =>
   some (.inl (s1,x134.1,w64 (s3 - 1),decide (x136≤(w64 (s2 - x134.1))),x134.2.1,x139))
  else
  (qh9 s1 s2 x109.1 x107).bind fun x141 =>
  some (.inl (x141.1,s2,w64 (s3 - 1),s10,s11,x141.2))
 else
 (qe9 s1 s2 x109.1 x107).bind fun x143 =>
 (quoV .i64 (w64 (s2 - s1)) 8).bind fun x145 =>
 if (w64 (x143.1 - s1)) < (w64 (s2 - x143.1)) then
  (rec (s1,x143.1,w64 (s3 - 1),x143.2.2)).bind fun x146 =>
  some (.inl (w64 (x143.1 + 1),s2,w64 (s3 - 1),decide (x145≤(w64 (x143.1 - s1))),x143.2.1,x146))
 else
 (rec (w64 (x143.1 + 1),s2,w64 (s3 - 1),x143.2.2)).bind fun x148 =>
 some (.inl (s1,x143.1,w64 (s3 - 1),decide (x145≤(w64 (s2 - x143.1))),x143.2.1,x148))
noncomputable def qy9 (rec : Int × Int × Int × (List Mono)→Option ((List Mono))) (s1 : Int) (s2 : Int) (s3 : Int) (o0 : List Mono) : Option ((List Mono)) :=
 (wh (qd9 rec) (s1,s2,s3,true,true,o0)).bind fun x151 =>
 some x151
noncomputable def qbM9 (s1 : Int) (s2 : Int) (s3 : Int) (o0 : List Mono) : Option ((List Mono)):=fixO (fun rec (p : Int × Int × Int × (List Mono))=>qy9 rec p.1 p.2.1 p.2.2.1 p.2.2.2) (s1,s2,s3,o0)
noncomputable def qbb9 (o0 : List Mono) : Option ((List Mono)) :=
 (qfA9 (IntKind.u64.wrap (o0.length : Int))).bind fun x1 =>
 (qbM9 0 (o0.length : Int) x1 o0).bind fun x2 =>
 some x2
end Lt

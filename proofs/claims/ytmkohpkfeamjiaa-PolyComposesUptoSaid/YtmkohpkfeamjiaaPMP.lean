import Derived.Test.YtmkohpkfeamjiaaPMT
import Derived.Test.YtmkohpkfeamjiaaN3
import Derived.Lib.ValidU
import Derived.Lib.BitFns
set_option maxHeartbeats 400000
set_option linter.unusedVariables false
set_option linter.unusedSimpArgs false
set_option linter.unusedSectionVars false
namespace Ld
open Go Go.Abs
set_option maxRecDepth 8000
noncomputable def qnA9  : Option ((List Mono)) :=
 some ([(Mono.mk ([1] : List Int) ([1] : List Int))] : List Mono)
noncomputable def qjP9  : Option ((List Mono)) :=
 some ([(Mono.mk ([1] : List Int) ([] : List Int))] : List Mono)
noncomputable def qbU9 (a0 : List Int) : Option Bool :=
 if (a0.length : Int)≤64 then
  if (a0.length : Int) = 0 then
   some true
  else
  (idx a0 (w64 ((a0.length : Int) - 1))).bind fun x1 =>
  some (!decide (x1 = 0))
 else
 some false
noncomputable def qga9 (a0 : Int) : Option Bool :=
 some (decide (a0 < 0))
noncomputable def qD9 (s0 : List Int) (s7 : Int) : Int→Option (Int ⊕ (Int ⊕ Int)):=fun s8 =>
 if s8 < s7 then
  (idx s0 s8).bind fun x1 =>
  (qga9 x1).bind fun x2 =>
  if x2 = true then
   some (.inr (.inl s8))
  else
  some (.inl (w64 (s8 + 1)))
 else
 some (.inr (.inr s8))
noncomputable def qQ9 (a0 : List Int) : Option Int :=
 (wh (qD9 a0 (a0.length : Int)) 0).bind fun x3 =>
 match x3 with
 | .inl x4 =>
  some x4
 | .inr x5 =>
  some (-1)
noncomputable def qE9 (a0 : List Int) : Option Bool :=
 (qQ9 a0).bind fun x1 =>
 some (decide (0≤x1))
noncomputable def qgL9 (a0 : Mono) : Option Bool :=
 (qbU9 a0.Coef).bind fun x1 =>
 if x1 = true then
  if 0 < (a0.Coef.length : Int) then
   (qE9 a0.Exps).bind fun x2 =>
   if x2 = true then
    some false
   else
   if (a0.Exps.length : Int) = 0 then
    some true
   else
   (idx a0.Exps (w64 ((a0.Exps.length : Int) - 1))).bind fun x3 =>
   some (decide (0 < x3))
  else
  some false
 else
 some false
noncomputable def qbl9 (s0 : List Int) (s1 : List Int) (s10 : Int) : Int→Option (Int ⊕ (Int ⊕ Int)):=fun s11 =>
 if s11 < s10 then
  (idx s0 s11).bind fun x1 =>
  (idx s1 s11).bind fun x2 =>
  if x1 = x2 then
   some (.inl (w64 (s11 + 1)))
  else
  some (.inr (.inl (w64 (x1 - x2))))
 else
 some (.inr (.inr s11))
noncomputable def poly_order (a0 : List Int) (a1 : List Int) : Option Int :=
 (wh (qbl9 a0 a1 (min (a0.length : Int) (a1.length : Int))) 0).bind fun x3 =>
 match x3 with
 | .inl x4 =>
  some x4
 | .inr x5 =>
  some (w64 ((a0.length : Int) - (a1.length : Int)))
noncomputable def qee9 (a0 : Int) : Option Bool :=
 some (decide (64 < a0))
noncomputable def qu9 (s0 : List Int) (s7 : Int) : Int→Option (Int ⊕ (Int ⊕ Int)):=fun s8 =>
 if s8 < s7 then
  (idx s0 s8).bind fun x1 =>
  (qee9 x1).bind fun x2 =>
  if x2 = true then
   some (.inr (.inl s8))
  else
  some (.inl (w64 (s8 + 1)))
 else
 some (.inr (.inr s8))
noncomputable def qJ9 (a0 : List Int) : Option Int :=
 (wh (qu9 a0 (a0.length : Int)) 0).bind fun x3 =>
 match x3 with
 | .inl x4 =>
  some x4
 | .inr x5 =>
  some (-1)
noncomputable def qw9 (a0 : List Int) : Option Bool :=
 (qJ9 a0).bind fun x1 =>
 some (decide (0≤x1))
noncomputable def qcd9 (a0 : Mono) : Option Bool :=
 if (a0.Coef.length : Int)≤64 then
  if (a0.Exps.length : Int)≤512 then
   (qw9 a0.Exps).bind fun x1 =>
   some (!x1)
  else
  some false
 else
 some false
noncomputable def qI9 (s0 : List Mono) (s1 : Int) (s13 : List Mono) (s14 : Int) : Bool × Int→Option ((Bool × Int) ⊕ (Int ⊕ (Bool × Int))):=fun (s5,s15) =>
 if s15 < s14 then
  (idx s13 s15).bind fun x1 =>
  (qgL9 x1).bind fun x2 =>
  if x2 = true then
   if s1 < (x1.Exps.length : Int) then
    some (.inr (.inl 20))
   else
   if 0 < s15 then
    (idx s0 (w64 (s15 - 1))).bind fun x3 =>
    (poly_order x3.Exps x1.Exps).bind fun x4 =>
    if 0≤x4 then
     some (.inr (.inl 20))
    else
    if s5 = true then
     (qcd9 x1).bind fun x5 =>
     some (.inl (x5,w64 (s15 + 1)))
    else
    some (.inl (false,w64 (s15 + 1)))
   else
   if s5 = true then
    (qcd9 x1).bind fun x6 =>
    some (.inl (x6,w64 (s15 + 1)))
   else
   some (.inl (false,w64 (s15 + 1)))
  else
  some (.inr (.inl 20))
 else
 some (.inr (.inr (s5,s15)))
noncomputable def qL9 (a0 : List Mono) (a1 : Int) : Option Int :=
 if a1 < 0 then
  some 1
 else
 (wh (qI9 a0 a1 a0 (a0.length : Int)) (decide ((a0.length : Int)≤256),0)).bind fun x7 =>
 match x7 with
 | .inl x8 =>
  some x8
 | .inr (x9,x10) =>
  if x9 = true then
   some 0
  else
  some 2
noncomputable def qq9 (s0 : List (List Mono)) (s6 : List (List Mono)) (s7 : Int) : Int→Option (Int ⊕ (Int ⊕ Int)):=fun s8 =>
 if s8 < s7 then
  (idx s6 s8).bind fun x1 =>
  (qL9 x1 4611686018427387904).bind fun x2 =>
  if x2 = 0 then
   some (.inl (w64 (s8 + 1)))
  else
  some (.inr (.inl x2))
 else
 some (.inr (.inr s8))
noncomputable def qO9 (a0 : List (List Mono)) : Option Int :=
 (wh (qq9 a0 a0 (a0.length : Int)) 0).bind fun x3 =>
 match x3 with
 | .inl x4 =>
  some x4
 | .inr x5 =>
  some 0

noncomputable def qx9 (s0 : List (List Mono)) (s2 : List Mono) (s3 : Int) (s9 : List (List Mono)) (s10 : Int) (s11 : Int) (s25 : List (List Mono)) (s26 : Int) : Int × (List Mono)→Option ((Int × (List Mono)) ⊕ (Int × (List Mono))):=fun (s27,o6) =>
 if s27 < s26 then
  (idx s25 s27).bind fun x5 =>
  if (o6.length + x5.length) * 48≤140737488355328 then
  some (.inl (w64 (s27 + 1),o6++x5))
  else none
 else
 some (.inr (s27,o6))
noncomputable def qy9 (s0 : List (List Mono)) (s2 : List Mono) (s9 : List (List Mono)) (s10 : Int) : Int × Int→Option ((Int × Int) ⊕ (Int × Int)):=fun (s3,s11) =>
 if s11 < s10 then
  (idx s9 s11).bind fun x1 =>
  if (w64 (s3 + (x1.length : Int))) < 0 then
   none
  else
  some (.inl (w64 (s3 + (x1.length : Int)),w64 (s11 + 1)))
 else
 some (.inr (s3,s11))
noncomputable def qV9 (a0 : List (List Mono)) : Option ((List Mono)) :=
 (wh (qy9 a0 ([] : List Mono) a0 (a0.length : Int)) (0,0)).bind fun x2 =>
 match x2 with
 | (x3,x4) =>
 if 0≤x3∧x3 * 48≤140737488355328 then
 (wh (qx9 a0 ([] : List Mono) x3 a0 (a0.length : Int) x4 a0 (a0.length : Int)) (0,([] : List Mono))).bind fun x6 =>
 match x6 with
 | (x7,x8) =>
 some x8
 else none
noncomputable def qcE9 (s0 : List Int) (s2 : ByteArray) (s9 : List Int) (s10 : Int) : Int × (List Int)→Option ((Int × (List Int)) ⊕ (Int × (List Int))):=fun (s11,o3) =>
 if s11 < s10 then
  (idx s9 s11).bind fun x1 =>
  (idx o3 s11).bind fun x2 =>
  some (.inl (w64 (s11 + 1),o3.set (s11).toNat (IntKind.u8.wrap x1)))
 else
 some (.inr (s11,o3))
noncomputable def qgU9 (a0 : List Int) : Option ByteArray :=
 if 0≤(a0.length : Int) then
 if 1 * (a0.length : Int)≤140737488355328 then
 (wh (qcE9 a0 ({ data:=#[] }) a0 (a0.length : Int)) (0,List.replicate ((a0.length : Int)).toNat (0 : Int))).bind fun x3 =>
 match x3 with
 | (x4,x5) =>
 some (qbx9 x5)
 else none
 else none
noncomputable def qcp9 (s0 : List Int) (s2 : List Int) : Int→Option (Int ⊕ Int):=fun s3 =>
 if 0 < s3 then
  (idx s0 (w64 (s3 - 1))).bind fun x1 =>
  if x1 = 0 then
   some (.inl (w64 (s3 - 1)))
  else
  some (.inr s3)
 else
 some (.inr s3)
noncomputable def qfl9 (a0 : List Int) : Option ((List Int)) :=
 (wh (qcp9 a0 ([] : List Int)) (a0.length : Int)).bind fun x3 =>
 (cutL a0 0 x3).bind fun x4 =>
 some x4
noncomputable def qfH9 (a0 : List Int) : Option ((List Int) × Int) :=
 (qfl9 a0).bind fun x1 =>
 if 64 < (x1.length : Int) then
  some (([] : List Int),2)
 else
 some (x1,0)
noncomputable def qbN9 (s0 : List Int) (s1 : List Int) (s4 : List Int) (s29 : List Int) (s30 : Int) : Int × Int × (List Int)→Option ((Int × Int × (List Int)) ⊕ (Int × Int × (List Int))):=fun (s7,s31,o6) =>
 if s31 < s30 then
  (idx s29 s31).bind fun x15 =>
  if s31 < (s1.length : Int) then
   (idx s1 s31).bind fun x16 =>
   (idx o6 s31).bind fun x17 =>
   (shrV .u64 (IntKind.u64.wrap ((IntKind.u64.wrap (s7 + (IntKind.u64.wrap x15))) + (IntKind.u64.wrap x16))) 32).bind fun x18 =>
   some (.inl (x18,w64 (s31 + 1),o6.set (s31).toNat (IntKind.u32.wrap (IntKind.u64.wrap ((IntKind.u64.wrap (s7 + (IntKind.u64.wrap x15))) + (IntKind.u64.wrap x16))))))
  else
  (idx o6 s31).bind fun x19 =>
  (shrV .u64 (IntKind.u64.wrap (s7 + (IntKind.u64.wrap x15))) 32).bind fun x20 =>
  some (.inl (x20,w64 (s31 + 1),o6.set (s31).toNat (IntKind.u32.wrap (IntKind.u64.wrap (s7 + (IntKind.u64.wrap x15))))))
 else
 some (.inr (s7,s31,o6))
noncomputable def qhm9 (a0 : List Int) (a1 : List Int) : Option ((List Int) × Int) :=
 (qbU9 a0).bind fun x1 =>
 if x1 = true then
  (qbU9 a1).bind fun x2 =>
  if x2 = true then
   if (a0.length : Int) < (a1.length : Int) then
    if 0≤(w64 ((a1.length : Int) + 1)) then
    if 4 * (w64 ((a1.length : Int) + 1))≤140737488355328 then
    (wh (qbN9 a1 a0 ([] : List Int) a1 (a1.length : Int)) (0,0,List.replicate (w64 ((a1.length : Int) + 1)).toNat (0 : Int))).bind fun x9 =>
    match x9 with
    | (x10,x11,x12) =>
    (idx x12 (a1.length : Int)).bind fun x13 =>
    (qfH9 (x12.set ((a1.length : Int)).toNat (IntKind.u32.wrap x10))).bind fun x14 =>
    some (x14.1,x14.2)
    else none
    else none
   else
   if 0≤(w64 ((a0.length : Int) + 1)) then
   if 4 * (w64 ((a0.length : Int) + 1))≤140737488355328 then
   (wh (qbN9 a0 a1 ([] : List Int) a0 (a0.length : Int)) (0,0,List.replicate (w64 ((a0.length : Int) + 1)).toNat (0 : Int))).bind fun x21 =>
   match x21 with
   | (x22,x23,x24) =>
   (idx x24 (a0.length : Int)).bind fun x25 =>
   (qfH9 (x24.set ((a0.length : Int)).toNat (IntKind.u32.wrap x22))).bind fun x26 =>
   some (x26.1,x26.2)
   else none
   else none
  else
  some (([] : List Int),10)
 else
 some (([] : List Int),10)
noncomputable def qdS9 (s1_0 : List Int) (s1_1 : List Int) (m0 : List (ByteArray × Mono)) : Option (Bool × (List (ByteArray × Mono))) :=
 (qcd9 (Mono.mk s1_0 s1_1)).bind fun x1 =>
 if x1 = true then
  (qgU9 s1_1).bind fun x2 =>
  match mget m0 x2 with
  | some x3 =>
   (qhm9 x3.Coef s1_0).bind fun x4 =>
   if x4.2 = 0 then
    if 64 < (x4.1.length : Int) then
     some (false,m0)
    else
    some (decide (((mset m0 x2 (Mono.mk x4.1 s1_1)).length : Int)≤256),mset m0 x2 (Mono.mk x4.1 s1_1))
   else
   some (false,m0)
  | none =>
   some (decide (((mset m0 x2 (Mono.mk s1_0 s1_1)).length : Int)≤256),mset m0 x2 (Mono.mk s1_0 s1_1))
 else
 some (false,m0)
open Classical in
noncomputable def insMo (m : Mono) : List Mono→List Mono
 | []=>[m]
 | x::l=>if Law.ltE m.Exps x.Exps then m::x::l else x::insMo m l
noncomputable def qcB9 (l : List Mono) : List Mono:=l.foldr insMo []
def BagOK (l : List Mono) : Prop:=l.length≤1048576∧(∀ m∈l,(m.Coef.length≤1048576∧m.Exps.length≤1048576)∧Law.ExOK m.Exps∧∀ n∈m.Exps,n≤64)∧(l.map (·.Exps)).Nodup
open Classical in
noncomputable def toldP (L : List (ByteArray × Mono)) : Option (List Mono):=if BagOK (L.map (·.2)) then some (qcB9 (L.map (·.2))) else none

noncomputable def qbX9 (s0 : List Mono) (s1 : List Mono) (s4 : List Mono) (s6 : Int) (s21 : List Mono) (s22 : Int) : Int × (List (ByteArray × Mono))→Option ((Int × (List (ByteArray × Mono))) ⊕ (((List Mono) × Int) ⊕ (Int × (List (ByteArray × Mono))))):=fun (s23,m7) =>
 if s23 < s22 then
  (idx s21 s23).bind fun x3 =>
  (qdS9 x3.Coef x3.Exps m7).bind fun x4 =>
  if x4.1 = true then
   some (.inl (w64 (s23 + 1),x4.2))
  else
  some (.inr (.inl (([] : List Mono),2)))
 else
 some (.inr (.inr (s23,m7)))
noncomputable def qbA9 (a0 : List Mono) (a1 : List Mono) : Option ((List Mono) × Int) :=
 (qO9 ([a0,a1] : List (List Mono))).bind fun x1 =>
 if x1 = 0 then
  (qV9 ([a0,a1] : List (List Mono))).bind fun x2 =>
  (wh (qbX9 a0 a1 ([] : List Mono) x1 x2 (x2.length : Int)) (0,([] : List (ByteArray × Mono)))).bind fun x6 =>
  match x6 with
  | .inl x7 =>
   some x7
  | .inr (x8,x9) =>
   (toldP x9).bind fun x11 =>
   some (x11,0)
 else
 some (([] : List Mono),x1)
noncomputable def qnB9  : Option ((List Mono)) :=
 some ([(Mono.mk ([1] : List Int) ([0,1] : List Int))] : List Mono)
noncomputable def qdp9 (s0 : List Int) (s1 : List Int) (s4 : List Int) (s7 : Int) (s8 : Int) (s26 : List Int) (s27 : Int) (s28 : Int) (s33 : List Int) (s34 : Int) : Int × Int × (List Int)→Option ((Int × Int × (List Int)) ⊕ (Int × (List Int))):=fun (s9,s35,o6) =>
 if s35 < s34 then
  (idx s33 s35).bind fun x4 =>
  (idx o6 (w64 (s7 + s35))).bind fun x5 =>
  (shrV .u64 (IntKind.u64.wrap (s9 + (IntKind.u64.wrap ((IntKind.u64.wrap ((IntKind.u64.wrap s8) * (IntKind.u64.wrap x4))) + (IntKind.u64.wrap x5))))) 32).bind fun x6 =>
  some (.inl (x6,w64 (s35 + 1),o6.set (w64 (s7 + s35)).toNat (IntKind.u32.wrap (IntKind.u64.wrap (s9 + (IntKind.u64.wrap ((IntKind.u64.wrap ((IntKind.u64.wrap s8) * (IntKind.u64.wrap x4))) + (IntKind.u64.wrap x5))))))))
 else
 some (.inr (s9,o6))
noncomputable def qdl9 (s0 : List Int) (s1 : List Int) (s4 : List Int) (s26 : List Int) (s27 : Int) : Int × (List Int)→Option ((Int × (List Int)) ⊕ (Int × (List Int))):=fun (s28,o6) =>
 if s28 < s27 then
  (idx s26 s28).bind fun x3 =>
  (wh (qdp9 s0 s1 s4 s28 x3 s26 s27 s28 s1 (s1.length : Int)) (0,0,o6)).bind fun x7 =>
  match x7 with
  | (x8,x9) =>
  (idx x9 (w64 (s28 + (s1.length : Int)))).bind fun x14 =>
  some (.inl (w64 (s28 + 1),x9.set (w64 (s28 + (s1.length : Int))).toNat (IntKind.u32.wrap x8)))
 else
 some (.inr (s28,o6))
noncomputable def qho9 (a0 : List Int) (a1 : List Int) : Option ((List Int) × Int) :=
 (qbU9 a0).bind fun x1 =>
 if x1 = true then
  (qbU9 a1).bind fun x2 =>
  if x2 = true then
   if 0≤(w64 ((a0.length : Int) + (a1.length : Int))) then
   if 4 * (w64 ((a0.length : Int) + (a1.length : Int)))≤140737488355328 then
   (wh (qdl9 a0 a1 ([] : List Int) a0 (a0.length : Int)) (0,List.replicate (w64 ((a0.length : Int) + (a1.length : Int))).toNat (0 : Int))).bind fun x15 =>
   match x15 with
   | (x16,x17) =>
   (qfH9 x17).bind fun x18 =>
   some (x18.1,x18.2)
   else none
   else none
  else
  some (([] : List Int),10)
 else
 some (([] : List Int),10)

noncomputable def qcf9 (s0 : Mono) (s1 : Mono) (s6 : List Int) (s7 : Int) (s32 : List Int) (s33 : Int) (b2_0 : List Int) (b2_1 : List Int) (b3_0 : List Int) (b3_1 : List Int) (b4_0 : List Int) (b4_1 : List Int) : Int × (List Int)→Option ((Int × (List Int)) ⊕ (Int × (List Int))):=fun (s34,o8) =>
 if s34 < s33 then
  (idx s32 s34).bind fun x7 =>
  (idx o8 s34).bind fun x8 =>
  some (.inl (w64 (s34 + 1),o8.set (s34).toNat (w64 (x8 + x7))))
 else
 some (.inr (s34,o8))
noncomputable def qfO9 (a0 : Mono) (a1 : Mono) : Option (Mono × Bool) :=
 (qho9 a0.Coef a1.Coef).bind fun x1 =>
 if (a0.Exps.length : Int) < (a1.Exps.length : Int) then
  if a1.Exps.length * 8≤140737488355328 then
  (wh (qcf9 a0 a1 x1.1 x1.2 a0.Exps (a0.Exps.length : Int) a1.Coef a1.Exps a0.Coef a0.Exps ([] : List Int) ([] : List Int)) (0,a1.Exps)).bind fun x4 =>
  match x4 with
  | (x5,x6) =>
  some ((Mono.mk x1.1 x6),decide (x1.2 = 0))
  else none
 else
 if a0.Exps.length * 8≤140737488355328 then
 (wh (qcf9 a0 a1 x1.1 x1.2 a1.Exps (a1.Exps.length : Int) a0.Coef a0.Exps a1.Coef a1.Exps ([] : List Int) ([] : List Int)) (0,a0.Exps)).bind fun x9 =>
 match x9 with
 | (x10,x11) =>
 some ((Mono.mk x1.1 x11),decide (x1.2 = 0))
 else none
noncomputable def qbM9 (s0 : List Mono) (s1 : List Mono) (s4 : List Mono) (s6 : Int) (s22 : List Mono) (s23 : Int) (s24 : Int) (s28 : List Mono) (s29 : Int) (b9_0 : List Int) (b9_1 : List Int) : Int × (List (ByteArray × Mono))→Option ((Int × (List (ByteArray × Mono))) ⊕ (((List Mono) × Int) ⊕ ((List (ByteArray × Mono))))):=fun (s30,m7) =>
 if s30 < s29 then
  (idx s28 s30).bind fun x3 =>
  (qfO9 (Mono.mk b9_0 b9_1) x3).bind fun x4 =>
  if x4.2 = true then
   (qdS9 x4.1.Coef x4.1.Exps m7).bind fun x5 =>
   if x5.1 = true then
    some (.inl (w64 (s30 + 1),x5.2))
   else
   some (.inr (.inl (([] : List Mono),2)))
  else
  some (.inr (.inl (([] : List Mono),2)))
 else
 some (.inr (.inr m7))
noncomputable def qbW9 (s0 : List Mono) (s1 : List Mono) (s4 : List Mono) (s6 : Int) (s22 : List Mono) (s23 : Int) : Int × (List (ByteArray × Mono))→Option ((Int × (List (ByteArray × Mono))) ⊕ (((List Mono) × Int) ⊕ (Int × (List (ByteArray × Mono))))):=fun (s24,m7) =>
 if s24 < s23 then
  (idx s22 s24).bind fun x2 =>
  (wh (qbM9 s0 s1 s4 s6 s22 s23 s24 s1 (s1.length : Int) x2.Coef x2.Exps) (0,m7)).bind fun x7 =>
  match x7 with
  | .inl x8 =>
   some (.inr (.inl x8))
  | .inr x9 =>
   some (.inl (w64 (s24 + 1),x9))
 else
 some (.inr (.inr (s24,m7)))
noncomputable def qbv9 (a0 : List Mono) (a1 : List Mono) : Option ((List Mono) × Int) :=
 (qO9 ([a0,a1] : List (List Mono))).bind fun x1 =>
 if x1 = 0 then
  (wh (qbW9 a0 a1 ([] : List Mono) x1 a0 (a0.length : Int)) (0,([] : List (ByteArray × Mono)))).bind fun x15 =>
  match x15 with
  | .inl x16 =>
   some x16
  | .inr (x17,x18) =>
   (toldP x18).bind fun x20 =>
   some (x20,0)
 else
 some (([] : List Mono),x1)
noncomputable def qer9 (a0 : Int) (a1 : List (List Mono)) : Option Bool :=
 (idx a1 a0).bind fun x1 =>
 some (decide ((x1.length : Int) = 0))
noncomputable def qS9 (s0 : Mono) (s1_0 : List (List Mono)) (s8 : List Int) (s9 : Int) (b2_0 : List Int) (b2_1 : List Int) : Int→Option (Int ⊕ (Bool ⊕ Int)):=fun s10 =>
 if s10 < s9 then
  (idx s8 s10).bind fun x1 =>
  if 0 < x1 then
   (qer9 s10 s1_0).bind fun x2 =>
   if x2 = true then
    some (.inr (.inl true))
   else
   some (.inl (w64 (s10 + 1)))
  else
  some (.inl (w64 (s10 + 1)))
 else
 some (.inr (.inr s10))
noncomputable def qbc9 (a0 : Mono) (a1_0 : List (List Mono)) : Option Bool :=
 (wh (qS9 a0 a1_0 a0.Exps (a0.Exps.length : Int) a0.Coef a0.Exps) 0).bind fun x3 =>
 match x3 with
 | .inl x4 =>
  some x4
 | .inr x5 =>
  some false
noncomputable def qbn9 (s0 : List Mono) (s1 : List (List Mono)) (s4 : List Mono) (s6 : Int) (s7 : Int) (s8 : List Mono) (s13 : Int) (s14 : Int) (s31 : List Mono) (s32 : Int) (s33 : Int) (s45 : List Int) (s46 : Int) (s47 : Int) (s52 : Int) (b3_0 : List (List Mono)) (b10_0 : List Int) (b10_1 : List Int) : (List Mono) × Int × Int→Option (((List Mono) × Int × Int) ⊕ (((List Mono) × Int) ⊕ ((List Mono) × Int))):=fun (s11,s12,s53) =>
 if s53 < s52 then
  (idx b3_0 s13).bind fun x7 =>
  (qbv9 s11 x7).bind fun x8 =>
  if x8.2 = 0 then
   some (.inl (x8.1,x8.2,w64 (s53 + 1)))
  else
  some (.inr (.inl (([] : List Mono),x8.2)))
 else
 some (.inr (.inr (s11,s12)))
noncomputable def qbm9 (s0 : List Mono) (s1 : List (List Mono)) (s4 : List Mono) (s6 : Int) (s7 : Int) (s8 : List Mono) (s31 : List Mono) (s32 : Int) (s33 : Int) (s45 : List Int) (s46 : Int) (b3_0 : List (List Mono)) (b10_0 : List Int) (b10_1 : List Int) : (List Mono) × Int × Int→Option (((List Mono) × Int × Int) ⊕ (((List Mono) × Int) ⊕ ((List Mono) × Int))):=fun (s11,s12,s47) =>
 if s47 < s46 then
  (idx s45 s47).bind fun x6 =>
  (wh (qbn9 s0 s1 s4 s6 s7 s8 s47 x6 s31 s32 s33 s45 s46 s47 x6 b3_0 b10_0 b10_1) (s11,s12,0)).bind fun x9 =>
  match x9 with
  | .inl x10 =>
   some (.inr (.inl x10))
  | .inr (x11,x12) =>
   some (.inl (x11,x12,w64 (s47 + 1)))
 else
 some (.inr (.inr (s11,s12)))
noncomputable def qW9 (s0 : List Mono) (s1 : List (List Mono)) (s4 : List Mono) (s6 : Int) (s7 : Int) (s31 : List Mono) (s32 : Int) (b3_0 : List (List Mono)) : (List Mono) × Int→Option (((List Mono) × Int) ⊕ (((List Mono) × Int) ⊕ ((List Mono) × Int))):=fun (s8,s33) =>
 if s33 < s32 then
  (idx s31 s33).bind fun x4 =>
  (qbc9 x4 b3_0).bind fun x5 =>
  if x5 = true then
   some (.inl (s8,w64 (s33 + 1)))
  else
  (wh (qbm9 s0 s1 s4 s6 s7 s8 s31 s32 s33 x4.Exps (x4.Exps.length : Int) b3_0 x4.Coef x4.Exps) (([(Mono.mk x4.Coef ([] : List Int))] : List Mono),0,0)).bind fun x17 =>
  match x17 with
  | .inl x18 =>
   some (.inr (.inl x18))
  | .inr (x19,x20) =>
   (qbA9 s8 x19).bind fun x25 =>
   if x25.2 = 0 then
    some (.inl (x25.1,w64 (s33 + 1)))
   else
   some (.inr (.inl (([] : List Mono),x25.2)))
 else
 some (.inr (.inr (s8,s33)))
noncomputable def qz9 (a0 : List Mono) (a1 : List (List Mono)) : Option ((List Mono) × Int) :=
 (qO9 ([a0] : List (List Mono))).bind fun x1 =>
 if x1 = 0 then
  (qO9 a1).bind fun x2 =>
  if x2 = 0 then
   (qL9 a0 (a1.length : Int)).bind fun x3 =>
   if x3 = 0 then
    (wh (qW9 a0 a1 ([] : List Mono) x1 x2 a0 (a0.length : Int) a1) (([] : List Mono),0)).bind fun x26 =>
    match x26 with
    | .inl x27 =>
     some x27
    | .inr (x28,x29) =>
     some (x28,0)
   else
   some (([] : List Mono),21)
  else
  some (([] : List Mono),x2)
 else
 some (([] : List Mono),x1)
noncomputable def qft9 (a0 : List Int) : Option Bool :=
 (qbU9 a0).bind fun x1 =>
 some (!x1)
noncomputable def qn9 (s0 : List (List Int)) (s7 : Int) : Int→Option (Int ⊕ (Int ⊕ Int)):=fun s8 =>
 if s8 < s7 then
  (idx s0 s8).bind fun x1 =>
  (qft9 x1).bind fun x2 =>
  if x2 = true then
   some (.inr (.inl s8))
  else
  some (.inl (w64 (s8 + 1)))
 else
 some (.inr (.inr s8))
noncomputable def qG9 (a0 : List (List Int)) : Option Int :=
 (wh (qn9 a0 (a0.length : Int)) 0).bind fun x3 =>
 match x3 with
 | .inl x4 =>
  some x4
 | .inr x5 =>
  some (-1)
noncomputable def qo9 (a0 : List (List Int)) : Option Bool :=
 (qG9 a0).bind fun x1 =>
 some (decide (0≤x1))
noncomputable def qfr9 (a0 : Int) (a1 : List (List Int)) : Option Bool :=
 (idx a1 a0).bind fun x1 =>
 some (decide ((x1.length : Int) = 0))
noncomputable def qX9 (s0 : Mono) (s1_0 : List (List Int)) (s8 : List Int) (s9 : Int) (b2_0 : List Int) (b2_1 : List Int) : Int→Option (Int ⊕ (Bool ⊕ Int)):=fun s10 =>
 if s10 < s9 then
  (idx s8 s10).bind fun x1 =>
  if 0 < x1 then
   (qfr9 s10 s1_0).bind fun x2 =>
   if x2 = true then
    some (.inr (.inl true))
   else
   some (.inl (w64 (s10 + 1)))
  else
  some (.inl (w64 (s10 + 1)))
 else
 some (.inr (.inr s10))
noncomputable def qbk9 (a0 : Mono) (a1_0 : List (List Int)) : Option Bool :=
 (wh (qX9 a0 a1_0 a0.Exps (a0.Exps.length : Int) a0.Coef a0.Exps) 0).bind fun x3 =>
 match x3 with
 | .inl x4 =>
  some x4
 | .inr x5 =>
  some false

noncomputable def qcg9 (s0 : List Mono) (s1 : List (List Int)) (s4 : List Int) (s6 : Int) (s7 : List Int) (s12 : Int) (s13 : Int) (s27 : List Mono) (s28 : Int) (s29 : Int) (s39 : List Int) (s40 : Int) (s41 : Int) (s46 : Int) (b3_0 : List (List Int)) (b9_0 : List Int) (b9_1 : List Int) : (List Int) × Int × Int→Option (((List Int) × Int × Int) ⊕ (((List Int) × Int) ⊕ ((List Int) × Int))):=fun (s10,s11,s47) =>
 if s47 < s46 then
  (idx b3_0 s12).bind fun x7 =>
  if 64 < (x7.length : Int) then
   some (.inr (.inl (([] : List Int),2)))
  else
  (qho9 s10 x7).bind fun x8 =>
  if x8.2 = 0 then
   if 64 < (x8.1.length : Int) then
    some (.inr (.inl (([] : List Int),2)))
   else
   some (.inl (x8.1,x8.2,w64 (s47 + 1)))
  else
  some (.inr (.inl (([] : List Int),2)))
 else
 some (.inr (.inr (s10,s11)))
noncomputable def qce9 (s0 : List Mono) (s1 : List (List Int)) (s4 : List Int) (s6 : Int) (s7 : List Int) (s27 : List Mono) (s28 : Int) (s29 : Int) (s39 : List Int) (s40 : Int) (b3_0 : List (List Int)) (b9_0 : List Int) (b9_1 : List Int) : (List Int) × Int × Int→Option (((List Int) × Int × Int) ⊕ (((List Int) × Int) ⊕ ((List Int) × Int))):=fun (s10,s11,s41) =>
 if s41 < s40 then
  (idx s39 s41).bind fun x6 =>
  (wh (qcg9 s0 s1 s4 s6 s7 s41 x6 s27 s28 s29 s39 s40 s41 x6 b3_0 b9_0 b9_1) (s10,s11,0)).bind fun x9 =>
  match x9 with
  | .inl x10 =>
   some (.inr (.inl x10))
  | .inr (x11,x12) =>
   some (.inl (x11,x12,w64 (s41 + 1)))
 else
 some (.inr (.inr (s10,s11)))
noncomputable def qbC9 (s0 : List Mono) (s1 : List (List Int)) (s4 : List Int) (s6 : Int) (s27 : List Mono) (s28 : Int) (b3_0 : List (List Int)) : (List Int) × Int→Option (((List Int) × Int) ⊕ (((List Int) × Int) ⊕ ((List Int) × Int))):=fun (s7,s29) =>
 if s29 < s28 then
  (idx s27 s29).bind fun x4 =>
  (qbk9 x4 b3_0).bind fun x5 =>
  if x5 = true then
   some (.inl (s7,w64 (s29 + 1)))
  else
  (wh (qce9 s0 s1 s4 s6 s7 s27 s28 s29 x4.Exps (x4.Exps.length : Int) b3_0 x4.Coef x4.Exps) (x4.Coef,0,0)).bind fun x17 =>
  match x17 with
  | .inl x18 =>
   some (.inr (.inl x18))
  | .inr (x19,x20) =>
   (qhm9 s7 x19).bind fun x25 =>
   if x25.2 = 0 then
    if 64 < (x25.1.length : Int) then
     some (.inr (.inl (([] : List Int),2)))
    else
    some (.inl (x25.1,w64 (s29 + 1)))
   else
   some (.inr (.inl (([] : List Int),2)))
 else
 some (.inr (.inr (s7,s29)))
noncomputable def qea9 (a0 : List Mono) (a1 : List (List Int)) : Option ((List Int) × Int) :=
 (qO9 ([a0] : List (List Mono))).bind fun x1 =>
 if x1 = 0 then
  (qL9 a0 (a1.length : Int)).bind fun x2 =>
  if x2 = 0 then
   (qo9 a1).bind fun x3 =>
   if x3 = true then
    some (([] : List Int),10)
   else
   (wh (qbC9 a0 a1 ([] : List Int) x1 a0 (a0.length : Int) a1) (([] : List Int),0)).bind fun x26 =>
   match x26 with
   | .inl x27 =>
    some x27
   | .inr (x28,x29) =>
    if x28.length * 4≤140737488355328 then
    some (x28,0)
    else none
  else
  some (([] : List Int),21)
 else
 some (([] : List Int),x1)
noncomputable def qcm9 (s0 : List Int) (s1 : List Int) : Int→Option (Int ⊕ (Bool ⊕ Int)):=fun s5 =>
 if s5 < (s0.length : Int) then
  (idx s0 s5).bind fun x1 =>
  (idx s1 s5).bind fun x2 =>
  if x1 = x2 then
   some (.inl (w64 (s5 + 1)))
  else
  some (.inr (.inl false))
 else
 some (.inr (.inr s5))
noncomputable def qdF9 (a0 : List Int) (a1 : List Int) : Option Bool :=
 if (a0.length : Int) = (a1.length : Int) then
  (wh (qcm9 a0 a1) 0).bind fun x3 =>
  match x3 with
  | .inl x4 =>
   some x4
  | .inr x5 =>
   some true
 else
 some false
noncomputable def qcv9 (s0 : List Mono) (s1 : List Mono) (s5 : Int) : Int→Option (Int ⊕ (Bool ⊕ Unit)):=fun s6 =>
 (idx s0 s5).bind fun x4 =>
 if s6 < (x4.Exps.length : Int) then
  (idx x4.Exps s6).bind fun x5 =>
  (idx s1 s5).bind fun x6 =>
  (idx x6.Exps s6).bind fun x7 =>
  if x5 = x7 then
   some (.inl (w64 (s6 + 1)))
  else
  some (.inr (.inl false))
 else
 some (.inr (.inr ()))
noncomputable def qbY9 (s0 : List Mono) (s1 : List Mono) : Int→Option (Int ⊕ (Bool ⊕ Int)):=fun s5 =>
 if s5 < (s0.length : Int) then
  (idx s0 s5).bind fun x1 =>
  (idx s1 s5).bind fun x2 =>
  (qdF9 x1.Coef x2.Coef).bind fun x3 =>
  if x3 = true then
   if (x1.Exps.length : Int) = (x2.Exps.length : Int) then
    (wh (qcv9 s0 s1 s5) 0).bind fun x8 =>
    match x8 with
    | .inl x9 =>
     some (.inr (.inl x9))
    | .inr () =>
     some (.inl (w64 (s5 + 1)))
   else
   some (.inr (.inl false))
  else
  some (.inr (.inl false))
 else
 some (.inr (.inr s5))
noncomputable def qcH9 (a0 : List Mono) (a1 : List Mono) : Option Bool :=
 if (a0.length : Int) = (a1.length : Int) then
  (wh (qbY9 a0 a1) 0).bind fun x11 =>
  match x11 with
  | .inl x12 =>
   some x12
  | .inr x13 =>
   some true
 else
 some false
noncomputable def qdM9 (a0 : Mono) (a1 : List Int) : Option Int :=
 (poly_order a0.Exps a1).bind fun x1 =>
 some x1
noncomputable def qd9 (s0 : List Mono) (s1 : List Int) (s8 : Int) : Int × Int→Option ((Int × Int) ⊕ (Int × Int)):=fun (s9,s10) =>
 if s9 < s10 then
  (shrV .u64 (IntKind.u64.wrap (w64 (s9 + s10))) 1).bind fun x1 =>
  (idx s0 (w64 x1)).bind fun x2 =>
  (qdM9 x2 s1).bind fun x3 =>
  if x3 < 0 then
   some (.inl (w64 ((w64 x1) + 1),s10))
  else
  some (.inl (s9,w64 x1))
 else
 some (.inr (s9,s10))
noncomputable def qr9 (a0 : List Mono) (a1 : List Int) : Option (Int × Bool) :=
 (wh (qd9 a0 a1 (a0.length : Int)) (0,(a0.length : Int))).bind fun x4 =>
 match x4 with
 | (x5,x6) =>
 if x5 < (a0.length : Int) then
  (idx a0 x5).bind fun x7 =>
  (qdM9 x7 a1).bind fun x8 =>
  some (x5,decide (x8 = 0))
 else
 some (x5,false)
noncomputable def qew9 (a0 : List Mono) (a1 : List Int) : Option ((List Int)) :=
 (qr9 a0 a1).bind fun x1 =>
 if x1.2 = true then
  (idx a0 x1.1).bind fun x2 =>
  some x2.Coef
 else
 some ([] : List Int)
noncomputable def qek9 (a0 : Int) : Option Bool :=
 some (!decide (a0 = a0))
noncomputable def qdz9 (a0 : Int) (a1 : Int) : Option Int :=
 (qek9 a0).bind fun x1 =>
 (qek9 a1).bind fun x2 =>
 if x1 = true then
  if x2 = true then
   some 0
  else
  some (-1)
 else
 if x2 = true then
  some 1
 else
 if a0 < a1 then
  some (-1)
 else
 if a1 < a0 then
  some 1
 else
 some 0
noncomputable def qdd9 (a0 : Int) : Option Bool :=
 some (!decide (a0 = a0))
noncomputable def qcC9 (a0 : Int) (a1 : Int) : Option Int :=
 (qdd9 a0).bind fun x1 =>
 (qdd9 a1).bind fun x2 =>
 if x1 = true then
  if x2 = true then
   some 0
  else
  some (-1)
 else
 if x2 = true then
  some 1
 else
 if a0 < a1 then
  some (-1)
 else
 if a1 < a0 then
  some 1
 else
 some 0
noncomputable def qdw9 (s0 : List Int) (s1 : List Int) (s6 : Int) : Int→Option (Int ⊕ ((Int × Int) ⊕ Int)):=fun s7 =>
 if 0≤s7 then
  (idx s0 s7).bind fun x4 =>
  (idx s1 s7).bind fun x5 =>
  (qcC9 x4 x5).bind fun x6 =>
  if x6 = 0 then
   some (.inl (w64 (s7 - 1)))
  else
  some (.inr (.inl (x6,0)))
 else
 some (.inr (.inr s7))
noncomputable def qhk9 (a0 : List Int) (a1 : List Int) : Option (Int × Int) :=
 (qbU9 a0).bind fun x1 =>
 if x1 = true then
  (qbU9 a1).bind fun x2 =>
  if x2 = true then
   (qdz9 (a0.length : Int) (a1.length : Int)).bind fun x3 =>
   if x3 = 0 then
    (wh (qdw9 a0 a1 x3) (w64 ((a0.length : Int) - 1))).bind fun x7 =>
    match x7 with
    | .inl x8 =>
     some x8
    | .inr x9 =>
     some (0,0)
   else
   some (x3,0)
  else
  some (0,10)
 else
 some (0,10)
noncomputable def qet9 (a0 : Mono) (a1 : List Mono) : Option Bool :=
 (qew9 a1 a0.Exps).bind fun x1 =>
 (qhk9 x1 a0.Coef).bind fun x2 =>
 some (decide (x2.1 < 0))
noncomputable def qk9 (s0 : List Mono) (s1_0 : List Mono) (s7 : Int) : Int→Option (Int ⊕ (Int ⊕ Int)):=fun s8 =>
 if s8 < s7 then
  (idx s0 s8).bind fun x1 =>
  (qet9 x1 s1_0).bind fun x2 =>
  if x2 = true then
   some (.inr (.inl s8))
  else
  some (.inl (w64 (s8 + 1)))
 else
 some (.inr (.inr s8))
noncomputable def qA9 (a0 : List Mono) (a1_0 : List Mono) : Option Int :=
 (wh (qk9 a0 a1_0 (a0.length : Int)) 0).bind fun x3 =>
 match x3 with
 | .inl x4 =>
  some x4
 | .inr x5 =>
  some (-1)
noncomputable def qi9 (a0 : List Mono) (a1_0 : List Mono) : Option Bool :=
 (qA9 a0 a1_0).bind fun x1 =>
 some (decide (0≤x1))
noncomputable def qcV9 (a0 : List Mono) (a1 : List Mono) : Option Bool :=
 (qO9 ([a0,a1] : List (List Mono))).bind fun x1 =>
 if x1 = 0 then
  (qi9 a1 a0).bind fun x2 =>
  some (!x2)
 else
 some false
noncomputable def qdL9 (a0 : List Mono) (a1 : List Mono) : Option Bool :=
 (qcV9 a0 a1).bind fun x1 =>
 if x1 = true then
  (qew9 a0 ([] : List Int)).bind fun x2 =>
  (qew9 a1 ([] : List Int)).bind fun x3 =>
  (qhk9 x2 x3).bind fun x4 =>
  some (decide (0 < x4.1))
 else
 some false
noncomputable def qgI9  : Option Bool :=
 (qnA9).bind fun x1 =>
 (qjP9).bind fun x2 =>
 (qbA9 x1 x2).bind fun x3 =>
 (qnB9).bind fun x4 =>
 (qbA9 x4 x2).bind fun x5 =>
 (qbv9 x3.1 x5.1).bind fun x6 =>
 (qz9 ([(Mono.mk ([3] : List Int) ([] : List Int)),(Mono.mk ([2] : List Int) ([1,1] : List Int))] : List Mono) ([x3.1,x1] : List (List Mono))).bind fun x7 =>
 (qea9 ([(Mono.mk ([3] : List Int) ([] : List Int)),(Mono.mk ([2] : List Int) ([1,1] : List Int))] : List Mono) ([([5] : List Int),([7] : List Int)] : List (List Int))).bind fun x8 =>
 (qz9 ([(Mono.mk ([1] : List Int) ([2] : List Int))] : List Mono) ([([(Mono.mk ([1] : List Int) ([40] : List Int))] : List Mono)] : List (List Mono))).bind fun x9 =>
 (qz9 ([(Mono.mk ([1] : List Int) ([2,1] : List Int))] : List Mono) ([([(Mono.mk ([1] : List Int) ([40] : List Int))] : List Mono),([] : List Mono)] : List (List Mono))).bind fun x10 =>
 if x3.2 = 0 then
  if x5.2 = 0 then
   if x6.2 = 0 then
    if x7.2 = 0 then
     if x8.2 = 0 then
      if x9.2 = 2 then
       if x10.2 = 0 then
        if (x10.1.length : Int) = 0 then
         (qcH9 x6.1 ([(Mono.mk ([1] : List Int) ([] : List Int)),(Mono.mk ([1] : List Int) ([0,1] : List Int)),(Mono.mk ([1] : List Int) ([1] : List Int)),(Mono.mk ([1] : List Int) ([1,1] : List Int))] : List Mono)).bind fun x11 =>
         if x11 = true then
          (qcH9 x7.1 ([(Mono.mk ([3] : List Int) ([] : List Int)),(Mono.mk ([2] : List Int) ([1] : List Int)),(Mono.mk ([2] : List Int) ([2] : List Int))] : List Mono)).bind fun x12 =>
          if x12 = true then
           (qdF9 x8.1 ([73] : List Int)).bind fun x13 =>
           if x13 = true then
            (qL9 ([(Mono.mk ([3] : List Int) ([] : List Int)),(Mono.mk ([2] : List Int) ([1,1] : List Int))] : List Mono) 2).bind fun x14 =>
            if x14 = 0 then
             (qL9 ([(Mono.mk ([3] : List Int) ([] : List Int)),(Mono.mk ([2] : List Int) ([1,1] : List Int))] : List Mono) 1).bind fun x15 =>
             if x15 = 20 then
              (qL9 ([(Mono.mk ([3] : List Int) ([] : List Int)),(Mono.mk ([2] : List Int) ([1,1] : List Int))] : List Mono) (-1)).bind fun x16 =>
              if x16 = 1 then
               (qdL9 ([(Mono.mk ([3] : List Int) ([] : List Int)),(Mono.mk ([2] : List Int) ([1,1] : List Int))] : List Mono) ([(Mono.mk ([1] : List Int) ([1,1] : List Int))] : List Mono)).bind fun x17 =>
               if x17 = true then
                (qcV9 x1 x4).bind fun x18 =>
                some (!x18)
               else
               some false
              else
              some false
             else
             some false
            else
            some false
           else
           some false
          else
          some false
         else
         some false
        else
        some false
       else
       some false
      else
      some false
     else
     some false
    else
    some false
   else
   some false
  else
  some false
 else
 some false
noncomputable def qds9 (a0 : List Int) : Option Bool :=
 if (a0.length : Int)≤64 then
  if (a0.length : Int) = 0 then
   some true
  else
  (idx a0 (w64 ((a0.length : Int) - 1))).bind fun x1 =>
  some (!decide (x1 = 0))
 else
 some false
noncomputable def qdD9 (s0 : Mono) (b1_0 : List Int) (b1_1 : List Int) : Int→Option (Int ⊕ (Bool ⊕ Int)):=fun s3 =>
 if s3 < (b1_1.length : Int) then
  (idx b1_1 s3).bind fun x2 =>
  if x2 < 0 then
   some (.inr (.inl false))
  else
  some (.inl (w64 (s3 + 1)))
 else
 some (.inr (.inr s3))
noncomputable def qhB9 (a0 : Mono) : Option Bool :=
 (qds9 a0.Coef).bind fun x1 =>
 if x1 = true then
  if (a0.Coef.length : Int) = 0 then
   some false
  else
  (wh (qdD9 a0 a0.Coef a0.Exps) 0).bind fun x3 =>
  match x3 with
  | .inl x4 =>
   some x4
  | .inr x5 =>
   if (a0.Exps.length : Int) = 0 then
    some true
   else
   (idx a0.Exps (w64 ((a0.Exps.length : Int) - 1))).bind fun x6 =>
   some (!decide (x6 = 0))
 else
 some false
noncomputable def qdh9 (a0 : List Int) (a1 : Int) : Option Int :=
 if a1 < (a0.length : Int) then
  (idx a0 a1).bind fun x1 =>
  some x1
 else
 some 0
noncomputable def qbz9 (s0 : List Int) (s1 : List Int) : Int→Option (Int ⊕ (Int ⊕ Int)):=fun s5 =>
 if s5 < (s0.length : Int) then
  (qdh9 s0 s5).bind fun x1 =>
  (qdh9 s1 s5).bind fun x2 =>
  if x1 < x2 then
   some (.inr (.inl (-1)))
  else
  if x2 < x1 then
   some (.inr (.inl 1))
  else
  some (.inl (w64 (s5 + 1)))
 else
 if s5 < (s1.length : Int) then
  (qdh9 s0 s5).bind fun x3 =>
  (qdh9 s1 s5).bind fun x4 =>
  if x3 < x4 then
   some (.inr (.inl (-1)))
  else
  if x4 < x3 then
   some (.inr (.inl 1))
  else
  some (.inl (w64 (s5 + 1)))
 else
 some (.inr (.inr s5))
noncomputable def qdV9 (a0 : List Int) (a1 : List Int) : Option Int :=
 (wh (qbz9 a0 a1) 0).bind fun x5 =>
 match x5 with
 | .inl x6 =>
  some x6
 | .inr x7 =>
  some 0
noncomputable def qcZ9 (s0 : Mono) (b1_0 : List Int) (b1_1 : List Int) : Int→Option (Int ⊕ (Bool ⊕ Int)):=fun s3 =>
 if s3 < (b1_1.length : Int) then
  (idx b1_1 s3).bind fun x1 =>
  if 64 < x1 then
   some (.inr (.inl false))
  else
  some (.inl (w64 (s3 + 1)))
 else
 some (.inr (.inr s3))
noncomputable def qeU9 (a0 : Mono) : Option Bool :=
 (wh (qcZ9 a0 a0.Coef a0.Exps) 0).bind fun x2 =>
 match x2 with
 | .inl x3 =>
  some x3
 | .inr x4 =>
  if (a0.Coef.length : Int)≤64 then
   some (decide ((a0.Exps.length : Int)≤512))
  else
  some false
noncomputable def qcy9 (s0 : List Mono) (s1 : Int) (s5 : Int) : Int→Option (Int ⊕ (Int ⊕ Int)):=fun s6 =>
 if s6 < (s0.length : Int) then
  (idx s0 s6).bind fun x8 =>
  (qeU9 x8).bind fun x9 =>
  if x9 = true then
   some (.inl (w64 (s6 + 1)))
  else
  some (.inr (.inl 2))
 else
 some (.inr (.inr s6))
noncomputable def qcT9 (s0 : List Mono) (s1 : Int) : Int→Option (Int ⊕ (Int ⊕ Int)):=fun s5 =>
 if s5 < (s0.length : Int) then
  (idx s0 s5).bind fun x1 =>
  (qhB9 x1).bind fun x2 =>
  if x2 = true then
   if s1 < (x1.Exps.length : Int) then
    some (.inr (.inl 20))
   else
   if 0 < s5 then
    (idx s0 (w64 (s5 - 1))).bind fun x3 =>
    (qdV9 x3.Exps x1.Exps).bind fun x4 =>
    if 0≤x4 then
     some (.inr (.inl 20))
    else
    some (.inl (w64 (s5 + 1)))
   else
   some (.inl (w64 (s5 + 1)))
  else
  some (.inr (.inl 20))
 else
 some (.inr (.inr s5))
noncomputable def qch9 (a0 : List Mono) (a1 : Int) : Option Int :=
 if a1 < 0 then
  some 1
 else
 (wh (qcT9 a0 a1) 0).bind fun x5 =>
 match x5 with
 | .inl x6 =>
  some x6
 | .inr x7 =>
  (wh (qcy9 a0 a1 x7) 0).bind fun x10 =>
  match x10 with
  | .inl x11 =>
   some x11
  | .inr x12 =>
   if 256 < (a0.length : Int) then
    some 2
   else
   some 0
noncomputable def qdH9 (s2 : List Int) : (List Int)→Option (((List Int)) ⊕ ((List Int))):=fun s0 =>
 if 0 < (s0.length : Int) then
  (idx s0 (w64 ((s0.length : Int) - 1))).bind fun x1 =>
  if x1 = 0 then
   (cutL s0 0 (w64 ((s0.length : Int) - 1))).bind fun x2 =>
   some (.inl x2)
  else
  some (.inr s0)
 else
 some (.inr s0)
noncomputable def qiA9 (a0 : List Int) : Option ((List Int)) :=
 (wh (qdH9 ([] : List Int)) a0).bind fun x4 =>
 some x4
noncomputable def qgq9 (a0 : List Int) : Option ((List Int) × Int) :=
 (qiA9 a0).bind fun x1 =>
 if 64 < (x1.length : Int) then
  some (([] : List Int),2)
 else
 some (x1,0)
noncomputable def qcc9 (s0 : List Int) (s1 : List Int) (s4 : List Int) (s7 : Int) : Int × Int × (List Int)→Option ((Int × Int × (List Int)) ⊕ ((List Int))):=fun (s8,s9,o6) =>
 if s9 < (s1.length : Int) then
  (idx o6 (w64 (s7 + s9))).bind fun x3 =>
  (idx s0 s7).bind fun x4 =>
  (idx s1 s9).bind fun x5 =>
  (shrV .u64 (IntKind.u64.wrap ((IntKind.u64.wrap (s8 + (IntKind.u64.wrap x3))) + (IntKind.u64.wrap ((IntKind.u64.wrap x4) * (IntKind.u64.wrap x5))))) 32).bind fun x6 =>
  some (.inl (x6,w64 (s9 + 1),o6.set (w64 (s7 + s9)).toNat (IntKind.u32.wrap (IntKind.u64.wrap ((IntKind.u64.wrap (s8 + (IntKind.u64.wrap x3))) + (IntKind.u64.wrap ((IntKind.u64.wrap x4) * (IntKind.u64.wrap x5))))))))
 else
 if 0 < s8 then
  (idx o6 (w64 (s7 + s9))).bind fun x7 =>
  (shrV .u64 (IntKind.u64.wrap (s8 + (IntKind.u64.wrap x7))) 32).bind fun x8 =>
  some (.inl (x8,w64 (s9 + 1),o6.set (w64 (s7 + s9)).toNat (IntKind.u32.wrap (IntKind.u64.wrap (s8 + (IntKind.u64.wrap x7))))))
 else
 some (.inr o6)
noncomputable def qdB9 (s0 : List Int) (s1 : List Int) (s4 : List Int) : Int × (List Int)→Option ((Int × (List Int)) ⊕ (Int × (List Int))):=fun (s7,o6) =>
 if s7 < (s0.length : Int) then
  (wh (qcc9 s0 s1 s4 s7) (0,0,o6)).bind fun x10 =>
  some (.inl (w64 (s7 + 1),x10))
 else
 some (.inr (s7,o6))
noncomputable def qhn9 (a0 : List Int) (a1 : List Int) : Option ((List Int) × Int) :=
 (qds9 a0).bind fun x1 =>
 if x1 = true then
  (qds9 a1).bind fun x2 =>
  if x2 = true then
   if 0≤(w64 ((w64 ((a0.length : Int) + (a1.length : Int))) + 1)) then
   if 4 * (w64 ((w64 ((a0.length : Int) + (a1.length : Int))) + 1))≤140737488355328 then
   (wh (qdB9 a0 a1 ([] : List Int)) (0,List.replicate (w64 ((w64 ((a0.length : Int) + (a1.length : Int))) + 1)).toNat (0 : Int))).bind fun x13 =>
   match x13 with
   | (x14,x15) =>
   (qgq9 x15).bind fun x16 =>
   some (x16.1,x16.2)
   else none
   else none
  else
  some (([] : List Int),10)
 else
 some (([] : List Int),10)
noncomputable def qcY9 (s0 : Mono) (s1 : Mono) (s6 : List Int) (s7 : Int) (b2_0 : List Int) (b2_1 : List Int) (b3_0 : List Int) (b3_1 : List Int) (b4_0 : List Int) (b4_1 : List Int) (b8_0 : List Int) : Int × (List Int)→Option ((Int × (List Int)) ⊕ (Int × (List Int))):=fun (s9,o8_1) =>
 if s9 < (b2_1.length : Int) then
  (qdh9 b2_1 s9).bind fun x2 =>
  (qdh9 b3_1 s9).bind fun x3 =>
  if (o8_1.length + 1) * 8≤140737488355328 then
  some (.inl (w64 (s9 + 1),o8_1++[w64 (x2 + x3)]))
  else none
 else
 if s9 < (b3_1.length : Int) then
  (qdh9 b2_1 s9).bind fun x4 =>
  (qdh9 b3_1 s9).bind fun x5 =>
  if (o8_1.length + 1) * 8≤140737488355328 then
  some (.inl (w64 (s9 + 1),o8_1++[w64 (x4 + x5)]))
  else none
 else
 some (.inr (s9,o8_1))
noncomputable def qgS9 (a0 : Mono) (a1 : Mono) : Option (Mono × Bool) :=
 (qhn9 a0.Coef a1.Coef).bind fun x1 =>
 (wh (qcY9 a0 a1 x1.1 x1.2 a0.Coef a0.Exps a1.Coef a1.Exps ([] : List Int) ([] : List Int) x1.1) (0,([] : List Int))).bind fun x6 =>
 match x6 with
 | (x7,x8) =>
 if x1.2 = 0 then
  (qeU9 (Mono.mk x1.1 x8)).bind fun x11 =>
  some ((Mono.mk x1.1 x8),x11)
 else
 some ((Mono.mk x1.1 x8),false)
noncomputable def qdo9 (s0 : List Int) (s1 : List Int) (s4 : List Int) : Int × Int × (List Int)→Option ((Int × Int × (List Int)) ⊕ (Int × Int × (List Int))):=fun (s7,s8,o6) =>
 if s8 < (o6.length : Int) then
  if s8 < (s0.length : Int) then
   (idx s0 s8).bind fun x3 =>
   if s8 < (s1.length : Int) then
    (idx s1 s8).bind fun x4 =>
    (idx o6 s8).bind fun x5 =>
    (shrV .u64 (IntKind.u64.wrap ((IntKind.u64.wrap (s7 + (IntKind.u64.wrap x3))) + (IntKind.u64.wrap x4))) 32).bind fun x6 =>
    some (.inl (x6,w64 (s8 + 1),o6.set (s8).toNat (IntKind.u32.wrap (IntKind.u64.wrap ((IntKind.u64.wrap (s7 + (IntKind.u64.wrap x3))) + (IntKind.u64.wrap x4))))))
   else
   (idx o6 s8).bind fun x7 =>
   (shrV .u64 (IntKind.u64.wrap (s7 + (IntKind.u64.wrap x3))) 32).bind fun x8 =>
   some (.inl (x8,w64 (s8 + 1),o6.set (s8).toNat (IntKind.u32.wrap (IntKind.u64.wrap (s7 + (IntKind.u64.wrap x3))))))
  else
  if s8 < (s1.length : Int) then
   (idx s1 s8).bind fun x9 =>
   (idx o6 s8).bind fun x10 =>
   (shrV .u64 (IntKind.u64.wrap (s7 + (IntKind.u64.wrap x9))) 32).bind fun x11 =>
   some (.inl (x11,w64 (s8 + 1),o6.set (s8).toNat (IntKind.u32.wrap (IntKind.u64.wrap (s7 + (IntKind.u64.wrap x9))))))
  else
  (idx o6 s8).bind fun x12 =>
  (shrV .u64 s7 32).bind fun x13 =>
  some (.inl (x13,w64 (s8 + 1),o6.set (s8).toNat (IntKind.u32.wrap s7)))
 else
 some (.inr (s7,s8,o6))
noncomputable def qfF9 (a0 : List Int) (a1 : List Int) : Option ((List Int) × Int) :=
 (qds9 a0).bind fun x1 =>
 if x1 = true then
  (qds9 a1).bind fun x2 =>
  if x2 = true then
   if 0≤(w64 ((max (a0.length : Int) (a1.length : Int)) + 1)) then
   if 4 * (w64 ((max (a0.length : Int) (a1.length : Int)) + 1))≤140737488355328 then
   (wh (qdo9 a0 a1 ([] : List Int)) (0,0,List.replicate (w64 ((max (a0.length : Int) (a1.length : Int)) + 1)).toNat (0 : Int))).bind fun x14 =>
   match x14 with
   | (x15,x16,x17) =>
   (qgq9 x17).bind fun x18 =>
   some (x18.1,x18.2)
   else none
   else none
  else
  some (([] : List Int),10)
 else
 some (([] : List Int),10)
noncomputable def qK9 (s0 : List Mono) (s1 : Mono) (s4 : List Mono) (b3_0 : List Int) (b3_1 : List Int) : Bool × Int × (List Mono)→Option ((Bool × Int × (List Mono)) ⊕ (((List Mono) × Bool) ⊕ (Bool × Int × (List Mono)))):=fun (s7,s8,o6) =>
 if s8 < (s0.length : Int) then
  (idx s0 s8).bind fun x2 =>
  (qdV9 b3_1 x2.Exps).bind fun x3 =>
  if x3 < 0 then
   if s7 = true then
    if x3 = 0 then
     (qfF9 x2.Coef b3_0).bind fun x4 =>
     if x4.2 = 0 then
      if 64 < (x4.1.length : Int) then
       some (.inr (.inl (([] : List Mono),false)))
      else
      if (o6.length + 1) * 48≤140737488355328 then
      some (.inl (true,w64 (s8 + 1),o6++[(Mono.mk x4.1 b3_1)]))
      else none
     else
     some (.inr (.inl (([] : List Mono),false)))
    else
    if (o6.length + 1) * 48≤140737488355328 then
    some (.inl (s7,w64 (s8 + 1),o6++[x2]))
    else none
   else
   if (o6.length + 1) * 48≤140737488355328 then
   if x3 = 0 then
    (qfF9 x2.Coef b3_0).bind fun x5 =>
    if x5.2 = 0 then
     if 64 < (x5.1.length : Int) then
      some (.inr (.inl (([] : List Mono),false)))
     else
     if ((o6++[(Mono.mk b3_0 b3_1)]).length + 1) * 48≤140737488355328 then
     some (.inl (true,w64 (s8 + 1),(o6++[(Mono.mk b3_0 b3_1)])++[(Mono.mk x5.1 b3_1)]))
     else none
    else
    some (.inr (.inl (([] : List Mono),false)))
   else
   if ((o6++[(Mono.mk b3_0 b3_1)]).length + 1) * 48≤140737488355328 then
   some (.inl (true,w64 (s8 + 1),(o6++[(Mono.mk b3_0 b3_1)])++[x2]))
   else none
   else none
  else
  if x3 = 0 then
   (qfF9 x2.Coef b3_0).bind fun x6 =>
   if x6.2 = 0 then
    if 64 < (x6.1.length : Int) then
     some (.inr (.inl (([] : List Mono),false)))
    else
    if (o6.length + 1) * 48≤140737488355328 then
    some (.inl (true,w64 (s8 + 1),o6++[(Mono.mk x6.1 b3_1)]))
    else none
   else
   some (.inr (.inl (([] : List Mono),false)))
  else
  if (o6.length + 1) * 48≤140737488355328 then
  some (.inl (s7,w64 (s8 + 1),o6++[x2]))
  else none
 else
 some (.inr (.inr (s7,s8,o6)))
noncomputable def qgk9 (a0 : List Mono) (a1 : Mono) : Option ((List Mono) × Bool) :=
 (qeU9 a1).bind fun x1 =>
 if x1 = true then
  (wh (qK9 a0 a1 ([] : List Mono) a1.Coef a1.Exps) (false,0,([] : List Mono))).bind fun x7 =>
  match x7 with
  | .inl x8 =>
   some x8
  | .inr (x9,x10,x11) =>
   if x9 = true then
    some (x11,decide ((x11.length : Int)≤256))
   else
   if (x11.length + 1) * 48≤140737488355328 then
   some (x11++[a1],decide (((x11++[a1]).length : Int)≤256))
   else none
 else
 some (([] : List Mono),false)
noncomputable def qct9 (s0 : List Mono) (s1 : List Mono) (s4 : List Mono) (s6 : Int) (s8 : Int) : (List Mono) × Int→Option (((List Mono) × Int) ⊕ (((List Mono) × Int) ⊕ ((List Mono)))):=fun (s7,s9) =>
 if s9 < (s1.length : Int) then
  (idx s0 s8).bind fun x3 =>
  (idx s1 s9).bind fun x4 =>
  (qgS9 x3 x4).bind fun x5 =>
  if x5.2 = true then
   (qgk9 s7 x5.1).bind fun x6 =>
   if x6.2 = true then
    some (.inl (x6.1,w64 (s9 + 1)))
   else
   some (.inr (.inl (([] : List Mono),2)))
  else
  some (.inr (.inl (([] : List Mono),2)))
 else
 some (.inr (.inr s7))
noncomputable def qcL9 (s0 : List Mono) (s1 : List Mono) (s4 : List Mono) (s6 : Int) : (List Mono) × Int→Option (((List Mono) × Int) ⊕ (((List Mono) × Int) ⊕ ((List Mono) × Int))):=fun (s7,s8) =>
 if s8 < (s0.length : Int) then
  (wh (qct9 s0 s1 s4 s6 s8) (s7,0)).bind fun x7 =>
  match x7 with
  | .inl x8 =>
   some (.inr (.inl x8))
  | .inr x9 =>
   some (.inl (x9,w64 (s8 + 1)))
 else
 some (.inr (.inr (s7,s8)))
noncomputable def qgh9 (a0 : List Mono) (a1 : List Mono) : Option ((List Mono) × Int) :=
 (qch9 a0 4611686018427387904).bind fun x1 =>
 if x1 = 0 then
  (qch9 a1 4611686018427387904).bind fun x2 =>
  if x2 = 0 then
   (wh (qcL9 a0 a1 ([] : List Mono) x2) (([] : List Mono),0)).bind fun x12 =>
   match x12 with
   | .inl x13 =>
    some x13
   | .inr (x14,x15) =>
    some (x14,0)
  else
  some (([] : List Mono),x2)
 else
 some (([] : List Mono),x1)
noncomputable def qcK9 (s0 : List Mono) (s1 : List Mono) (s4 : List Mono) (s6 : Int) : (List Mono) × Int→Option (((List Mono) × Int) ⊕ (((List Mono) × Int) ⊕ ((List Mono) × Int))):=fun (s7,s8) =>
 if s8 < (s1.length : Int) then
  (idx s1 s8).bind fun x3 =>
  (qgk9 s7 x3).bind fun x4 =>
  if x4.2 = true then
   some (.inl (x4.1,w64 (s8 + 1)))
  else
  some (.inr (.inl (([] : List Mono),2)))
 else
 some (.inr (.inr (s7,s8)))
noncomputable def qgo9 (a0 : List Mono) (a1 : List Mono) : Option ((List Mono) × Int) :=
 (qch9 a0 4611686018427387904).bind fun x1 =>
 if x1 = 0 then
  (qch9 a1 4611686018427387904).bind fun x2 =>
  if x2 = 0 then
   (wh (qcK9 a0 a1 ([] : List Mono) x2) (a0,0)).bind fun x5 =>
   match x5 with
   | .inl x6 =>
    some x6
   | .inr (x7,x8) =>
    some (x7,0)
  else
  some (([] : List Mono),x2)
 else
 some (([] : List Mono),x1)
noncomputable def qbS9 (s0 : List Mono) (s1 : List (List Mono)) (s4 : List Mono) (s7 : Int) (s8 : List Mono) (s9 : Int) (s10 : Bool) (s13 : Int) : Int × (List Mono) × Int→Option ((Int × (List Mono) × Int) ⊕ (((List Mono) × Int) ⊕ (Int × (List Mono)))):=fun (s6,s12,s14) =>
 (idx s0 s9).bind fun x17 =>
 (idx x17.Exps s13).bind fun x18 =>
 if s14 < x18 then
  (idx s1 s13).bind fun x19 =>
  (qgh9 s12 x19).bind fun x20 =>
  if x20.2 = 0 then
   some (.inl (x20.2,x20.1,w64 (s14 + 1)))
  else
  some (.inr (.inl (([] : List Mono),x20.2)))
 else
 some (.inr (.inr (s6,s12)))
noncomputable def qbV9 (s0 : List Mono) (s1 : List (List Mono)) (s4 : List Mono) (s7 : Int) (s8 : List Mono) (s9 : Int) (s10 : Bool) : Int × (List Mono) × Int→Option ((Int × (List Mono) × Int) ⊕ (((List Mono) × Int) ⊕ (Int × (List Mono)))):=fun (s6,s12,s13) =>
 (idx s0 s9).bind fun x16 =>
 if s13 < (x16.Exps.length : Int) then
  (wh (qbS9 s0 s1 s4 s7 s8 s9 s10 s13) (s6,s12,0)).bind fun x21 =>
  match x21 with
  | .inl x22 =>
   some (.inr (.inl x22))
  | .inr (x23,x24) =>
   some (.inl (x23,x24,w64 (s13 + 1)))
 else
 some (.inr (.inr (s6,s12)))
noncomputable def qcn9 (s0 : List Mono) (s1 : List (List Mono)) (s4 : List Mono) (s6 : Int) (s7 : Int) (s8 : List Mono) (s9 : Int) : Bool × Int→Option ((Bool × Int) ⊕ Bool):=fun (s10,s11) =>
 (idx s0 s9).bind fun x9 =>
 if s11 < (x9.Exps.length : Int) then
  if s10 = true then
   some (.inl (true,w64 (s11 + 1)))
  else
  (idx x9.Exps s11).bind fun x10 =>
  if 0 < x10 then
   (idx s1 s11).bind fun x11 =>
   some (.inl (decide ((x11.length : Int) = 0),w64 (s11 + 1)))
  else
  some (.inl (false,w64 (s11 + 1)))
 else
 some (.inr s10)
noncomputable def qbq9 (s0 : List Mono) (s1 : List (List Mono)) (s4 : List Mono) (s7 : Int) : Int × (List Mono) × Int→Option ((Int × (List Mono) × Int) ⊕ (((List Mono) × Int) ⊕ (Int × (List Mono) × Int))):=fun (s6,s8,s9) =>
 if s9 < (s0.length : Int) then
  (wh (qcn9 s0 s1 s4 s6 s7 s8 s9) (false,0)).bind fun x13 =>
  if x13 = true then
   some (.inl (s6,s8,w64 (s9 + 1)))
  else
  (idx s0 s9).bind fun x15 =>
  (wh (qbV9 s0 s1 s4 s7 s8 s9 x13) (s6,([(Mono.mk x15.Coef ([] : List Int))] : List Mono),0)).bind fun x26 =>
  match x26 with
  | .inl x27 =>
   some (.inr (.inl x27))
  | .inr (x28,x29) =>
   (qgo9 s8 x29).bind fun x32 =>
   if x32.2 = 0 then
    some (.inl (x32.2,x32.1,w64 (s9 + 1)))
   else
   some (.inr (.inl (([] : List Mono),x32.2)))
 else
 some (.inr (.inr (s6,s8,s9)))
noncomputable def qbD9 (s0 : List Mono) (s1 : List (List Mono)) (s4 : List Mono) : Int × Int→Option ((Int × Int) ⊕ (((List Mono) × Int) ⊕ (Int × Int))):=fun (s6,s7) =>
 if s7 < (s1.length : Int) then
  (idx s1 s7).bind fun x2 =>
  (qch9 x2 4611686018427387904).bind fun x3 =>
  if x3 = 0 then
   some (.inl (x3,w64 (s7 + 1)))
  else
  some (.inr (.inl (([] : List Mono),x3)))
 else
 some (.inr (.inr (s6,s7)))
noncomputable def qdG9 (a0 : List Mono) (a1 : List (List Mono)) : Option ((List Mono) × Int) :=
 (qch9 a0 4611686018427387904).bind fun x1 =>
 if x1 = 0 then
  (wh (qbD9 a0 a1 ([] : List Mono)) (x1,0)).bind fun x4 =>
  match x4 with
  | .inl x5 =>
   some x5
  | .inr (x6,x7) =>
   (qch9 a0 (a1.length : Int)).bind fun x8 =>
   if x8 = 0 then
    (wh (qbq9 a0 a1 ([] : List Mono) x7) (x6,([] : List Mono),0)).bind fun x33 =>
    match x33 with
    | .inl x34 =>
     some x34
    | .inr (x35,x36,x37) =>
     some (x36,0)
   else
   some (([] : List Mono),21)
 else
 some (([] : List Mono),x1)
def CopOK (p : List Mono) : Prop:=p.length≤1048576∧∀ m∈p,m.Coef.length≤1048576∧m.Exps.length≤1048576
open Classical in
noncomputable def qgp9 (p : List Mono) : Option (List Mono):=if CopOK p then some p else none

noncomputable def qyd9 (a0 : List Mono) (a1 : Int) : Option Bool :=
 (qgI9).bind fun x1 =>
 if x1 = true then
  (qgp9 a0).bind fun x2 =>
  (qL9 x2 a1).bind fun x3 =>
  (qch9 a0 a1).bind fun x4 =>
  if x3 = x4 then
   (qcH9 x2 a0).bind fun x5 =>
   some x5
  else
  some false
 else
 some false
end Ld

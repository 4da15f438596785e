import Derived.Test.YtmkohpkfeamjiaaPVT
import Derived.Test.YtmkohpkfeamjiaaN3
import Derived.Lib.ValidU
import Derived.Lib.BitFns
set_option maxHeartbeats 400000
set_option linter.unusedVariables false
set_option linter.unusedSimpArgs false
set_option linter.unusedSectionVars false
namespace Ld
open Go Go.Abs
set_option maxRecDepth 8000
noncomputable def qow9  : Option ((List Mono)) :=
 some ([(Mono.mk ([1] : List Int) ([1] : List Int))] : List Mono)
noncomputable def qjV9  : Option ((List Mono)) :=
 some ([(Mono.mk ([1] : List Int) ([] : List Int))] : List Mono)
noncomputable def qdz9 (a0 : List Int) : Option Bool :=
 if (a0.length : Int)≤64 then
  if (a0.length : Int) = 0 then
   some true
  else
  (idx a0 (w64 ((a0.length : Int) - 1))).bind fun x1 =>
  some (!decide (x1 = 0))
 else
 some false
noncomputable def qhY9 (a0 : Int) : Option Bool :=
 some (decide (a0 < 0))
noncomputable def qbD9 (s0 : List Int) (s7 : Int) : Int→Option (Int ⊕ (Int ⊕ Int)):=fun s8 =>
 if s8 < s7 then
  (idx s0 s8).bind fun x1 =>
  (qhY9 x1).bind fun x2 =>
  if x2 = true then
   some (.inr (.inl s8))
  else
  some (.inl (w64 (s8 + 1)))
 else
 some (.inr (.inr s8))
noncomputable def qbV9 (a0 : List Int) : Option Int :=
 (wh (qbD9 a0 (a0.length : Int)) 0).bind fun x3 =>
 match x3 with
 | .inl x4 =>
  some x4
 | .inr x5 =>
  some (-1)
noncomputable def qbE9 (a0 : List Int) : Option Bool :=
 (qbV9 a0).bind fun x1 =>
 some (decide (0≤x1))
noncomputable def qiA9 (a0 : Mono) : Option Bool :=
 (qdz9 a0.Coef).bind fun x1 =>
 if x1 = true then
  if 0 < (a0.Coef.length : Int) then
   (qbE9 a0.Exps).bind fun x2 =>
   if x2 = true then
    some false
   else
   if (a0.Exps.length : Int) = 0 then
    some true
   else
   (idx a0.Exps (w64 ((a0.Exps.length : Int) - 1))).bind fun x3 =>
   some (decide (0 < x3))
  else
  some false
 else
 some false
noncomputable def qcD9 (s0 : List Int) (s1 : List Int) (s10 : Int) : Int→Option (Int ⊕ (Int ⊕ Int)):=fun s11 =>
 if s11 < s10 then
  (idx s0 s11).bind fun x1 =>
  (idx s1 s11).bind fun x2 =>
  if x1 = x2 then
   some (.inl (w64 (s11 + 1)))
  else
  some (.inr (.inl (w64 (x1 - x2))))
 else
 some (.inr (.inr s11))
noncomputable def qdv9 (a0 : List Int) (a1 : List Int) : Option Int :=
 (wh (qcD9 a0 a1 (min (a0.length : Int) (a1.length : Int))) 0).bind fun x3 =>
 match x3 with
 | .inl x4 =>
  some x4
 | .inr x5 =>
  some (w64 ((a0.length : Int) - (a1.length : Int)))
noncomputable def qgl9 (a0 : Int) : Option Bool :=
 some (decide (64 < a0))
noncomputable def qbn9 (s0 : List Int) (s7 : Int) : Int→Option (Int ⊕ (Int ⊕ Int)):=fun s8 =>
 if s8 < s7 then
  (idx s0 s8).bind fun x1 =>
  (qgl9 x1).bind fun x2 =>
  if x2 = true then
   some (.inr (.inl s8))
  else
  some (.inl (w64 (s8 + 1)))
 else
 some (.inr (.inr s8))
noncomputable def qbR9 (a0 : List Int) : Option Int :=
 (wh (qbn9 a0 (a0.length : Int)) 0).bind fun x3 =>
 match x3 with
 | .inl x4 =>
  some x4
 | .inr x5 =>
  some (-1)
noncomputable def qbp9 (a0 : List Int) : Option Bool :=
 (qbR9 a0).bind fun x1 =>
 some (decide (0≤x1))
noncomputable def qdS9 (a0 : Mono) : Option Bool :=
 if (a0.Coef.length : Int)≤64 then
  if (a0.Exps.length : Int)≤512 then
   (qbp9 a0.Exps).bind fun x1 =>
   some (!x1)
  else
  some false
 else
 some false
noncomputable def qbQ9 (s0 : List Mono) (s1 : Int) (s13 : List Mono) (s14 : Int) : Bool × Int→Option ((Bool × Int) ⊕ (Int ⊕ (Bool × Int))):=fun (s5,s15) =>
 if s15 < s14 then
  (idx s13 s15).bind fun x1 =>
  (qiA9 x1).bind fun x2 =>
  if x2 = true then
   if s1 < (x1.Exps.length : Int) then
    some (.inr (.inl 20))
   else
   if 0 < s15 then
    (idx s0 (w64 (s15 - 1))).bind fun x3 =>
    (qdv9 x3.Exps x1.Exps).bind fun x4 =>
    if 0≤x4 then
     some (.inr (.inl 20))
    else
    if s5 = true then
     (qdS9 x1).bind fun x5 =>
     some (.inl (x5,w64 (s15 + 1)))
    else
    some (.inl (false,w64 (s15 + 1)))
   else
   if s5 = true then
    (qdS9 x1).bind fun x6 =>
    some (.inl (x6,w64 (s15 + 1)))
   else
   some (.inl (false,w64 (s15 + 1)))
  else
  some (.inr (.inl 20))
 else
 some (.inr (.inr (s5,s15)))
noncomputable def qbN9 (a0 : List Mono) (a1 : Int) : Option Int :=
 if a1 < 0 then
  some 1
 else
 (wh (qbQ9 a0 a1 a0 (a0.length : Int)) (decide ((a0.length : Int)≤256),0)).bind fun x7 =>
 match x7 with
 | .inl x8 =>
  some x8
 | .inr (x9,x10) =>
  if x9 = true then
   some 0
  else
  some 2
noncomputable def qct9 (s0 : List (List Mono)) (s6 : List (List Mono)) (s7 : Int) : Int→Option (Int ⊕ (Int ⊕ Int)):=fun s8 =>
 if s8 < s7 then
  (idx s6 s8).bind fun x1 =>
  (qbN9 x1 4611686018427387904).bind fun x2 =>
  if x2 = 0 then
   some (.inl (w64 (s8 + 1)))
  else
  some (.inr (.inl x2))
 else
 some (.inr (.inr s8))
noncomputable def qcS9 (a0 : List (List Mono)) : Option Int :=
 (wh (qct9 a0 a0 (a0.length : Int)) 0).bind fun x3 =>
 match x3 with
 | .inl x4 =>
  some x4
 | .inr x5 =>
  some 0

noncomputable def qbr9 (s0 : List (List Mono)) (s2 : List Mono) (s3 : Int) (s9 : List (List Mono)) (s10 : Int) (s11 : Int) (s25 : List (List Mono)) (s26 : Int) : Int × (List Mono)→Option ((Int × (List Mono)) ⊕ (Int × (List Mono))):=fun (s27,o6) =>
 if s27 < s26 then
  (idx s25 s27).bind fun x5 =>
  if (o6.length + x5.length) * 48≤140737488355328 then
  some (.inl (w64 (s27 + 1),o6++x5))
  else none
 else
 some (.inr (s27,o6))
noncomputable def qbs9 (s0 : List (List Mono)) (s2 : List Mono) (s9 : List (List Mono)) (s10 : Int) : Int × Int→Option ((Int × Int) ⊕ (Int × Int)):=fun (s3,s11) =>
 if s11 < s10 then
  (idx s9 s11).bind fun x1 =>
  if (w64 (s3 + (x1.length : Int))) < 0 then
   none
  else
  some (.inl (w64 (s3 + (x1.length : Int)),w64 (s11 + 1)))
 else
 some (.inr (s3,s11))
noncomputable def qch9 (a0 : List (List Mono)) : Option ((List Mono)) :=
 (wh (qbs9 a0 ([] : List Mono) a0 (a0.length : Int)) (0,0)).bind fun x2 =>
 match x2 with
 | (x3,x4) =>
 if 0≤x3∧x3 * 48≤140737488355328 then
 (wh (qbr9 a0 ([] : List Mono) x3 a0 (a0.length : Int) x4 a0 (a0.length : Int)) (0,([] : List Mono))).bind fun x6 =>
 match x6 with
 | (x7,x8) =>
 some x8
 else none
noncomputable def qeP9 (s0 : List Int) (s2 : ByteArray) (s9 : List Int) (s10 : Int) : Int × (List Int)→Option ((Int × (List Int)) ⊕ (Int × (List Int))):=fun (s11,o3) =>
 if s11 < s10 then
  (idx s9 s11).bind fun x1 =>
  (idx o3 s11).bind fun x2 =>
  some (.inl (w64 (s11 + 1),o3.set (s11).toNat (IntKind.u8.wrap x1)))
 else
 some (.inr (s11,o3))
noncomputable def qiH9 (a0 : List Int) : Option ByteArray :=
 if 0≤(a0.length : Int) then
 if 1 * (a0.length : Int)≤140737488355328 then
 (wh (qeP9 a0 ({ data:=#[] }) a0 (a0.length : Int)) (0,List.replicate ((a0.length : Int)).toNat (0 : Int))).bind fun x3 =>
 match x3 with
 | (x4,x5) =>
 some (qcY9 x5)
 else none
 else none
noncomputable def qei9 (s0 : List Int) (s2 : List Int) : Int→Option (Int ⊕ Int):=fun s3 =>
 if 0 < s3 then
  (idx s0 (w64 (s3 - 1))).bind fun x1 =>
  if x1 = 0 then
   some (.inl (w64 (s3 - 1)))
  else
  some (.inr s3)
 else
 some (.inr s3)
noncomputable def qhq9 (a0 : List Int) : Option ((List Int)) :=
 (wh (qei9 a0 ([] : List Int)) (a0.length : Int)).bind fun x3 =>
 (cutL a0 0 x3).bind fun x4 =>
 some x4
noncomputable def qhL9 (a0 : List Int) : Option ((List Int) × Int) :=
 (qhq9 a0).bind fun x1 =>
 if 64 < (x1.length : Int) then
  some (([] : List Int),2)
 else
 some (x1,0)
noncomputable def qdw9 (s0 : List Int) (s1 : List Int) (s4 : List Int) (s29 : List Int) (s30 : Int) : Int × Int × (List Int)→Option ((Int × Int × (List Int)) ⊕ (Int × Int × (List Int))):=fun (s7,s31,o6) =>
 if s31 < s30 then
  (idx s29 s31).bind fun x15 =>
  if s31 < (s1.length : Int) then
   (idx s1 s31).bind fun x16 =>
   (idx o6 s31).bind fun x17 =>
   (shrV .u64 (IntKind.u64.wrap ((IntKind.u64.wrap (s7 + (IntKind.u64.wrap x15))) + (IntKind.u64.wrap x16))) 32).bind fun x18 =>
   some (.inl (x18,w64 (s31 + 1),o6.set (s31).toNat (IntKind.u32.wrap (IntKind.u64.wrap ((IntKind.u64.wrap (s7 + (IntKind.u64.wrap x15))) + (IntKind.u64.wrap x16))))))
  else
  (idx o6 s31).bind fun x19 =>
  (shrV .u64 (IntKind.u64.wrap (s7 + (IntKind.u64.wrap x15))) 32).bind fun x20 =>
  some (.inl (x20,w64 (s31 + 1),o6.set (s31).toNat (IntKind.u32.wrap (IntKind.u64.wrap (s7 + (IntKind.u64.wrap x15))))))
 else
 some (.inr (s7,s31,o6))
noncomputable def qiZ9 (a0 : List Int) (a1 : List Int) : Option ((List Int) × Int) :=
 (qdz9 a0).bind fun x1 =>
 if x1 = true then
  (qdz9 a1).bind fun x2 =>
  if x2 = true then
   if (a0.length : Int) < (a1.length : Int) then
    if 0≤(w64 ((a1.length : Int) + 1)) then
    if 4 * (w64 ((a1.length : Int) + 1))≤140737488355328 then
    (wh (qdw9 a1 a0 ([] : List Int) a1 (a1.length : Int)) (0,0,List.replicate (w64 ((a1.length : Int) + 1)).toNat (0 : Int))).bind fun x9 =>
    match x9 with
    | (x10,x11,x12) =>
    (idx x12 (a1.length : Int)).bind fun x13 =>
    (qhL9 (x12.set ((a1.length : Int)).toNat (IntKind.u32.wrap x10))).bind fun x14 =>
    some (x14.1,x14.2)
    else none
    else none
   else
   if 0≤(w64 ((a0.length : Int) + 1)) then
   if 4 * (w64 ((a0.length : Int) + 1))≤140737488355328 then
   (wh (qdw9 a0 a1 ([] : List Int) a0 (a0.length : Int)) (0,0,List.replicate (w64 ((a0.length : Int) + 1)).toNat (0 : Int))).bind fun x21 =>
   match x21 with
   | (x22,x23,x24) =>
   (idx x24 (a0.length : Int)).bind fun x25 =>
   (qhL9 (x24.set ((a0.length : Int)).toNat (IntKind.u32.wrap x22))).bind fun x26 =>
   some (x26.1,x26.2)
   else none
   else none
  else
  some (([] : List Int),10)
 else
 some (([] : List Int),10)
noncomputable def qgb9 (s1_0 : List Int) (s1_1 : List Int) (m0 : List (ByteArray × Mono)) : Option (Bool × (List (ByteArray × Mono))) :=
 (qdS9 (Mono.mk s1_0 s1_1)).bind fun x1 =>
 if x1 = true then
  (qiH9 s1_1).bind fun x2 =>
  match mget m0 x2 with
  | some x3 =>
   (qiZ9 x3.Coef s1_0).bind fun x4 =>
   if x4.2 = 0 then
    if 64 < (x4.1.length : Int) then
     some (false,m0)
    else
    some (decide (((mset m0 x2 (Mono.mk x4.1 s1_1)).length : Int)≤256),mset m0 x2 (Mono.mk x4.1 s1_1))
   else
   some (false,m0)
  | none =>
   some (decide (((mset m0 x2 (Mono.mk s1_0 s1_1)).length : Int)≤256),mset m0 x2 (Mono.mk s1_0 s1_1))
 else
 some (false,m0)
open Classical in
noncomputable def insMo (m : Mono) : List Mono→List Mono
 | []=>[m]
 | x::l=>if Law.ltE m.Exps x.Exps then m::x::l else x::insMo m l
noncomputable def qdr9 (l : List Mono) : List Mono:=l.foldr insMo []
def BagOK (l : List Mono) : Prop:=l.length≤1048576∧(∀ m∈l,(m.Coef.length≤1048576∧m.Exps.length≤1048576)∧Law.ExOK m.Exps∧∀ n∈m.Exps,n≤64)∧(l.map (·.Exps)).Nodup
open Classical in
noncomputable def toldP (L : List (ByteArray × Mono)) : Option (List Mono):=if BagOK (L.map (·.2)) then some (qdr9 (L.map (·.2))) else none

noncomputable def qfh9 (s0 : List Mono) (s1 : List Mono) (s4 : List Mono) (s6 : Int) (s21 : List Mono) (s22 : Int) : Int × (List (ByteArray × Mono))→Option ((Int × (List (ByteArray × Mono))) ⊕ (((List Mono) × Int) ⊕ (Int × (List (ByteArray × Mono))))):=fun (s23,m7) =>
 if s23 < s22 then
  (idx s21 s23).bind fun x3 =>
  (qgb9 x3.Coef x3.Exps m7).bind fun x4 =>
  if x4.1 = true then
   some (.inl (w64 (s23 + 1),x4.2))
  else
  some (.inr (.inl (([] : List Mono),2)))
 else
 some (.inr (.inr (s23,m7)))
noncomputable def qbS9 (a0 : List Mono) (a1 : List Mono) : Option ((List Mono) × Int) :=
 (qcS9 ([a0,a1] : List (List Mono))).bind fun x1 =>
 if x1 = 0 then
  (qch9 ([a0,a1] : List (List Mono))).bind fun x2 =>
  (wh (qfh9 a0 a1 ([] : List Mono) x1 x2 (x2.length : Int)) (0,([] : List (ByteArray × Mono)))).bind fun x6 =>
  match x6 with
  | .inl x7 =>
   some x7
  | .inr (x8,x9) =>
   (toldP x9).bind fun x11 =>
   some (x11,0)
 else
 some (([] : List Mono),x1)
noncomputable def qox9  : Option ((List Mono)) :=
 some ([(Mono.mk ([1] : List Int) ([0,1] : List Int))] : List Mono)
noncomputable def qfH9 (s0 : List Int) (s1 : List Int) (s4 : List Int) (s7 : Int) (s8 : Int) (s26 : List Int) (s27 : Int) (s28 : Int) (s33 : List Int) (s34 : Int) : Int × Int × (List Int)→Option ((Int × Int × (List Int)) ⊕ (Int × (List Int))):=fun (s9,s35,o6) =>
 if s35 < s34 then
  (idx s33 s35).bind fun x4 =>
  (idx o6 (w64 (s7 + s35))).bind fun x5 =>
  (shrV .u64 (IntKind.u64.wrap (s9 + (IntKind.u64.wrap ((IntKind.u64.wrap ((IntKind.u64.wrap s8) * (IntKind.u64.wrap x4))) + (IntKind.u64.wrap x5))))) 32).bind fun x6 =>
  some (.inl (x6,w64 (s35 + 1),o6.set (w64 (s7 + s35)).toNat (IntKind.u32.wrap (IntKind.u64.wrap (s9 + (IntKind.u64.wrap ((IntKind.u64.wrap ((IntKind.u64.wrap s8) * (IntKind.u64.wrap x4))) + (IntKind.u64.wrap x5))))))))
 else
 some (.inr (s9,o6))
noncomputable def qfE9 (s0 : List Int) (s1 : List Int) (s4 : List Int) (s26 : List Int) (s27 : Int) : Int × (List Int)→Option ((Int × (List Int)) ⊕ (Int × (List Int))):=fun (s28,o6) =>
 if s28 < s27 then
  (idx s26 s28).bind fun x3 =>
  (wh (qfH9 s0 s1 s4 s28 x3 s26 s27 s28 s1 (s1.length : Int)) (0,0,o6)).bind fun x7 =>
  match x7 with
  | (x8,x9) =>
  (idx x9 (w64 (s28 + (s1.length : Int)))).bind fun x14 =>
  some (.inl (w64 (s28 + 1),x9.set (w64 (s28 + (s1.length : Int))).toNat (IntKind.u32.wrap x8)))
 else
 some (.inr (s28,o6))
noncomputable def qja9 (a0 : List Int) (a1 : List Int) : Option ((List Int) × Int) :=
 (qdz9 a0).bind fun x1 =>
 if x1 = true then
  (qdz9 a1).bind fun x2 =>
  if x2 = true then
   if 0≤(w64 ((a0.length : Int) + (a1.length : Int))) then
   if 4 * (w64 ((a0.length : Int) + (a1.length : Int)))≤140737488355328 then
   (wh (qfE9 a0 a1 ([] : List Int) a0 (a0.length : Int)) (0,List.replicate (w64 ((a0.length : Int) + (a1.length : Int))).toNat (0 : Int))).bind fun x15 =>
   match x15 with
   | (x16,x17) =>
   (qhL9 x17).bind fun x18 =>
   some (x18.1,x18.2)
   else none
   else none
  else
  some (([] : List Int),10)
 else
 some (([] : List Int),10)

noncomputable def qdV9 (s0 : Mono) (s1 : Mono) (s6 : List Int) (s7 : Int) (s32 : List Int) (s33 : Int) (b2_0 : List Int) (b2_1 : List Int) (b3_0 : List Int) (b3_1 : List Int) (b4_0 : List Int) (b4_1 : List Int) : Int × (List Int)→Option ((Int × (List Int)) ⊕ (Int × (List Int))):=fun (s34,o8) =>
 if s34 < s33 then
  (idx s32 s34).bind fun x7 =>
  (idx o8 s34).bind fun x8 =>
  some (.inl (w64 (s34 + 1),o8.set (s34).toNat (w64 (x8 + x7))))
 else
 some (.inr (s34,o8))
noncomputable def qhR9 (a0 : Mono) (a1 : Mono) : Option (Mono × Bool) :=
 (qja9 a0.Coef a1.Coef).bind fun x1 =>
 if (a0.Exps.length : Int) < (a1.Exps.length : Int) then
  if a1.Exps.length * 8≤140737488355328 then
  (wh (qdV9 a0 a1 x1.1 x1.2 a0.Exps (a0.Exps.length : Int) a1.Coef a1.Exps a0.Coef a0.Exps ([] : List Int) ([] : List Int)) (0,a1.Exps)).bind fun x4 =>
  match x4 with
  | (x5,x6) =>
  some ((Mono.mk x1.1 x6),decide (x1.2 = 0))
  else none
 else
 if a0.Exps.length * 8≤140737488355328 then
 (wh (qdV9 a0 a1 x1.1 x1.2 a1.Exps (a1.Exps.length : Int) a0.Coef a0.Exps a1.Coef a1.Exps ([] : List Int) ([] : List Int)) (0,a0.Exps)).bind fun x9 =>
 match x9 with
 | (x10,x11) =>
 some ((Mono.mk x1.1 x11),decide (x1.2 = 0))
 else none
noncomputable def qeu9 (s0 : List Mono) (s1 : List Mono) (s4 : List Mono) (s6 : Int) (s22 : List Mono) (s23 : Int) (s24 : Int) (s28 : List Mono) (s29 : Int) (b9_0 : List Int) (b9_1 : List Int) : Int × (List (ByteArray × Mono))→Option ((Int × (List (ByteArray × Mono))) ⊕ (((List Mono) × Int) ⊕ ((List (ByteArray × Mono))))):=fun (s30,m7) =>
 if s30 < s29 then
  (idx s28 s30).bind fun x3 =>
  (qhR9 (Mono.mk b9_0 b9_1) x3).bind fun x4 =>
  if x4.2 = true then
   (qgb9 x4.1.Coef x4.1.Exps m7).bind fun x5 =>
   if x5.1 = true then
    some (.inl (w64 (s30 + 1),x5.2))
   else
   some (.inr (.inl (([] : List Mono),2)))
  else
  some (.inr (.inl (([] : List Mono),2)))
 else
 some (.inr (.inr m7))
noncomputable def qfg9 (s0 : List Mono) (s1 : List Mono) (s4 : List Mono) (s6 : Int) (s22 : List Mono) (s23 : Int) : Int × (List (ByteArray × Mono))→Option ((Int × (List (ByteArray × Mono))) ⊕ (((List Mono) × Int) ⊕ (Int × (List (ByteArray × Mono))))):=fun (s24,m7) =>
 if s24 < s23 then
  (idx s22 s24).bind fun x2 =>
  (wh (qeu9 s0 s1 s4 s6 s22 s23 s24 s1 (s1.length : Int) x2.Coef x2.Exps) (0,m7)).bind fun x7 =>
  match x7 with
  | .inl x8 =>
   some (.inr (.inl x8))
  | .inr x9 =>
   some (.inl (w64 (s24 + 1),x9))
 else
 some (.inr (.inr (s24,m7)))
noncomputable def qbL9 (a0 : List Mono) (a1 : List Mono) : Option ((List Mono) × Int) :=
 (qcS9 ([a0,a1] : List (List Mono))).bind fun x1 =>
 if x1 = 0 then
  (wh (qfg9 a0 a1 ([] : List Mono) x1 a0 (a0.length : Int)) (0,([] : List (ByteArray × Mono)))).bind fun x15 =>
  match x15 with
  | .inl x16 =>
   some x16
  | .inr (x17,x18) =>
   (toldP x18).bind fun x20 =>
   some (x20,0)
 else
 some (([] : List Mono),x1)
noncomputable def qgw9 (a0 : Int) (a1 : List (List Mono)) : Option Bool :=
 (idx a1 a0).bind fun x1 =>
 some (decide ((x1.length : Int) = 0))
noncomputable def qbW9 (s0 : Mono) (s1_0 : List (List Mono)) (s8 : List Int) (s9 : Int) (b2_0 : List Int) (b2_1 : List Int) : Int→Option (Int ⊕ (Bool ⊕ Int)):=fun s10 =>
 if s10 < s9 then
  (idx s8 s10).bind fun x1 =>
  if 0 < x1 then
   (qgw9 s10 s1_0).bind fun x2 =>
   if x2 = true then
    some (.inr (.inl true))
   else
   some (.inl (w64 (s10 + 1)))
  else
  some (.inl (w64 (s10 + 1)))
 else
 some (.inr (.inr s10))
noncomputable def qcl9 (a0 : Mono) (a1_0 : List (List Mono)) : Option Bool :=
 (wh (qbW9 a0 a1_0 a0.Exps (a0.Exps.length : Int) a0.Coef a0.Exps) 0).bind fun x3 =>
 match x3 with
 | .inl x4 =>
  some x4
 | .inr x5 =>
  some false
noncomputable def qdj9 (s0 : List Mono) (s1 : List (List Mono)) (s4 : List Mono) (s6 : Int) (s7 : Int) (s8 : List Mono) (s13 : Int) (s14 : Int) (s31 : List Mono) (s32 : Int) (s33 : Int) (s45 : List Int) (s46 : Int) (s47 : Int) (s52 : Int) (b3_0 : List (List Mono)) (b10_0 : List Int) (b10_1 : List Int) : (List Mono) × Int × Int→Option (((List Mono) × Int × Int) ⊕ (((List Mono) × Int) ⊕ ((List Mono) × Int))):=fun (s11,s12,s53) =>
 if s53 < s52 then
  (idx b3_0 s13).bind fun x7 =>
  (qbL9 s11 x7).bind fun x8 =>
  if x8.2 = 0 then
   some (.inl (x8.1,x8.2,w64 (s53 + 1)))
  else
  some (.inr (.inl (([] : List Mono),x8.2)))
 else
 some (.inr (.inr (s11,s12)))
noncomputable def qdi9 (s0 : List Mono) (s1 : List (List Mono)) (s4 : List Mono) (s6 : Int) (s7 : Int) (s8 : List Mono) (s31 : List Mono) (s32 : Int) (s33 : Int) (s45 : List Int) (s46 : Int) (b3_0 : List (List Mono)) (b10_0 : List Int) (b10_1 : List Int) : (List Mono) × Int × Int→Option (((List Mono) × Int × Int) ⊕ (((List Mono) × Int) ⊕ ((List Mono) × Int))):=fun (s11,s12,s47) =>
 if s47 < s46 then
  (idx s45 s47).bind fun x6 =>
  (wh (qdj9 s0 s1 s4 s6 s7 s8 s47 x6 s31 s32 s33 s45 s46 s47 x6 b3_0 b10_0 b10_1) (s11,s12,0)).bind fun x9 =>
  match x9 with
  | .inl x10 =>
   some (.inr (.inl x10))
  | .inr (x11,x12) =>
   some (.inl (x11,x12,w64 (s47 + 1)))
 else
 some (.inr (.inr (s11,s12)))
noncomputable def qcK9 (s0 : List Mono) (s1 : List (List Mono)) (s4 : List Mono) (s6 : Int) (s7 : Int) (s31 : List Mono) (s32 : Int) (b3_0 : List (List Mono)) : (List Mono) × Int→Option (((List Mono) × Int) ⊕ (((List Mono) × Int) ⊕ ((List Mono) × Int))):=fun (s8,s33) =>
 if s33 < s32 then
  (idx s31 s33).bind fun x4 =>
  (qcl9 x4 b3_0).bind fun x5 =>
  if x5 = true then
   some (.inl (s8,w64 (s33 + 1)))
  else
  (wh (qdi9 s0 s1 s4 s6 s7 s8 s31 s32 s33 x4.Exps (x4.Exps.length : Int) b3_0 x4.Coef x4.Exps) (([(Mono.mk x4.Coef ([] : List Int))] : List Mono),0,0)).bind fun x17 =>
  match x17 with
  | .inl x18 =>
   some (.inr (.inl x18))
  | .inr (x19,x20) =>
   (qbS9 s8 x19).bind fun x25 =>
   if x25.2 = 0 then
    some (.inl (x25.1,w64 (s33 + 1)))
   else
   some (.inr (.inl (([] : List Mono),x25.2)))
 else
 some (.inr (.inr (s8,s33)))
noncomputable def qcq9 (a0 : List Mono) (a1 : List (List Mono)) : Option ((List Mono) × Int) :=
 (qcS9 ([a0] : List (List Mono))).bind fun x1 =>
 if x1 = 0 then
  (qcS9 a1).bind fun x2 =>
  if x2 = 0 then
   (qbN9 a0 (a1.length : Int)).bind fun x3 =>
   if x3 = 0 then
    (wh (qcK9 a0 a1 ([] : List Mono) x1 x2 a0 (a0.length : Int) a1) (([] : List Mono),0)).bind fun x26 =>
    match x26 with
    | .inl x27 =>
     some x27
    | .inr (x28,x29) =>
     some (x28,0)
   else
   some (([] : List Mono),21)
  else
  some (([] : List Mono),x2)
 else
 some (([] : List Mono),x1)
noncomputable def qhx9 (a0 : List Int) : Option Bool :=
 (qdz9 a0).bind fun x1 =>
 some (!x1)
noncomputable def qR9 (s0 : List (List Int)) (s7 : Int) : Int→Option (Int ⊕ (Int ⊕ Int)):=fun s8 =>
 if s8 < s7 then
  (idx s0 s8).bind fun x1 =>
  (qhx9 x1).bind fun x2 =>
  if x2 = true then
   some (.inr (.inl s8))
  else
  some (.inl (w64 (s8 + 1)))
 else
 some (.inr (.inr s8))
noncomputable def qbH9 (a0 : List (List Int)) : Option Int :=
 (wh (qR9 a0 (a0.length : Int)) 0).bind fun x3 =>
 match x3 with
 | .inl x4 =>
  some x4
 | .inr x5 =>
  some (-1)
noncomputable def qT9 (a0 : List (List Int)) : Option Bool :=
 (qbH9 a0).bind fun x1 =>
 some (decide (0≤x1))
noncomputable def qhv9 (a0 : Int) (a1 : List (List Int)) : Option Bool :=
 (idx a1 a0).bind fun x1 =>
 some (decide ((x1.length : Int) = 0))
noncomputable def qcj9 (s0 : Mono) (s1_0 : List (List Int)) (s8 : List Int) (s9 : Int) (b2_0 : List Int) (b2_1 : List Int) : Int→Option (Int ⊕ (Bool ⊕ Int)):=fun s10 =>
 if s10 < s9 then
  (idx s8 s10).bind fun x1 =>
  if 0 < x1 then
   (qhv9 s10 s1_0).bind fun x2 =>
   if x2 = true then
    some (.inr (.inl true))
   else
   some (.inl (w64 (s10 + 1)))
  else
  some (.inl (w64 (s10 + 1)))
 else
 some (.inr (.inr s10))
noncomputable def qcz9 (a0 : Mono) (a1_0 : List (List Int)) : Option Bool :=
 (wh (qcj9 a0 a1_0 a0.Exps (a0.Exps.length : Int) a0.Coef a0.Exps) 0).bind fun x3 =>
 match x3 with
 | .inl x4 =>
  some x4
 | .inr x5 =>
  some false

noncomputable def qdW9 (s0 : List Mono) (s1 : List (List Int)) (s4 : List Int) (s6 : Int) (s7 : List Int) (s12 : Int) (s13 : Int) (s27 : List Mono) (s28 : Int) (s29 : Int) (s39 : List Int) (s40 : Int) (s41 : Int) (s46 : Int) (b3_0 : List (List Int)) (b9_0 : List Int) (b9_1 : List Int) : (List Int) × Int × Int→Option (((List Int) × Int × Int) ⊕ (((List Int) × Int) ⊕ ((List Int) × Int))):=fun (s10,s11,s47) =>
 if s47 < s46 then
  (idx b3_0 s12).bind fun x7 =>
  if 64 < (x7.length : Int) then
   some (.inr (.inl (([] : List Int),2)))
  else
  (qja9 s10 x7).bind fun x8 =>
  if x8.2 = 0 then
   if 64 < (x8.1.length : Int) then
    some (.inr (.inl (([] : List Int),2)))
   else
   some (.inl (x8.1,x8.2,w64 (s47 + 1)))
  else
  some (.inr (.inl (([] : List Int),2)))
 else
 some (.inr (.inr (s10,s11)))
noncomputable def qdU9 (s0 : List Mono) (s1 : List (List Int)) (s4 : List Int) (s6 : Int) (s7 : List Int) (s27 : List Mono) (s28 : Int) (s29 : Int) (s39 : List Int) (s40 : Int) (b3_0 : List (List Int)) (b9_0 : List Int) (b9_1 : List Int) : (List Int) × Int × Int→Option (((List Int) × Int × Int) ⊕ (((List Int) × Int) ⊕ ((List Int) × Int))):=fun (s10,s11,s41) =>
 if s41 < s40 then
  (idx s39 s41).bind fun x6 =>
  (wh (qdW9 s0 s1 s4 s6 s7 s41 x6 s27 s28 s29 s39 s40 s41 x6 b3_0 b9_0 b9_1) (s10,s11,0)).bind fun x9 =>
  match x9 with
  | .inl x10 =>
   some (.inr (.inl x10))
  | .inr (x11,x12) =>
   some (.inl (x11,x12,w64 (s41 + 1)))
 else
 some (.inr (.inr (s10,s11)))
noncomputable def qdb9 (s0 : List Mono) (s1 : List (List Int)) (s4 : List Int) (s6 : Int) (s27 : List Mono) (s28 : Int) (b3_0 : List (List Int)) : (List Int) × Int→Option (((List Int) × Int) ⊕ (((List Int) × Int) ⊕ ((List Int) × Int))):=fun (s7,s29) =>
 if s29 < s28 then
  (idx s27 s29).bind fun x4 =>
  (qcz9 x4 b3_0).bind fun x5 =>
  if x5 = true then
   some (.inl (s7,w64 (s29 + 1)))
  else
  (wh (qdU9 s0 s1 s4 s6 s7 s27 s28 s29 x4.Exps (x4.Exps.length : Int) b3_0 x4.Coef x4.Exps) (x4.Coef,0,0)).bind fun x17 =>
  match x17 with
  | .inl x18 =>
   some (.inr (.inl x18))
  | .inr (x19,x20) =>
   (qiZ9 s7 x19).bind fun x25 =>
   if x25.2 = 0 then
    if 64 < (x25.1.length : Int) then
     some (.inr (.inl (([] : List Int),2)))
    else
    some (.inl (x25.1,w64 (s29 + 1)))
   else
   some (.inr (.inl (([] : List Int),2)))
 else
 some (.inr (.inr (s7,s29)))
noncomputable def qdc9 (a0 : List Mono) (a1 : List (List Int)) : Option ((List Int) × Int) :=
 (qcS9 ([a0] : List (List Mono))).bind fun x1 =>
 if x1 = 0 then
  (qbN9 a0 (a1.length : Int)).bind fun x2 =>
  if x2 = 0 then
   (qT9 a1).bind fun x3 =>
   if x3 = true then
    some (([] : List Int),10)
   else
   (wh (qdb9 a0 a1 ([] : List Int) x1 a0 (a0.length : Int) a1) (([] : List Int),0)).bind fun x26 =>
   match x26 with
   | .inl x27 =>
    some x27
   | .inr (x28,x29) =>
    if x28.length * 4≤140737488355328 then
    some (x28,0)
    else none
  else
  some (([] : List Int),21)
 else
 some (([] : List Int),x1)
noncomputable def qeg9 (s0 : List Int) (s1 : List Int) : Int→Option (Int ⊕ (Bool ⊕ Int)):=fun s5 =>
 if s5 < (s0.length : Int) then
  (idx s0 s5).bind fun x1 =>
  (idx s1 s5).bind fun x2 =>
  if x1 = x2 then
   some (.inl (w64 (s5 + 1)))
  else
  some (.inr (.inl false))
 else
 some (.inr (.inr s5))
noncomputable def qfe9 (a0 : List Int) (a1 : List Int) : Option Bool :=
 if (a0.length : Int) = (a1.length : Int) then
  (wh (qeg9 a0 a1) 0).bind fun x3 =>
  match x3 with
  | .inl x4 =>
   some x4
  | .inr x5 =>
   some true
 else
 some false
noncomputable def qex9 (s0 : List Mono) (s1 : List Mono) (s5 : Int) : Int→Option (Int ⊕ (Bool ⊕ Unit)):=fun s6 =>
 (idx s0 s5).bind fun x4 =>
 if s6 < (x4.Exps.length : Int) then
  (idx x4.Exps s6).bind fun x5 =>
  (idx s1 s5).bind fun x6 =>
  (idx x6.Exps s6).bind fun x7 =>
  if x5 = x7 then
   some (.inl (w64 (s6 + 1)))
  else
  some (.inr (.inl false))
 else
 some (.inr (.inr ()))
noncomputable def qdA9 (s0 : List Mono) (s1 : List Mono) : Int→Option (Int ⊕ (Bool ⊕ Int)):=fun s5 =>
 if s5 < (s0.length : Int) then
  (idx s0 s5).bind fun x1 =>
  (idx s1 s5).bind fun x2 =>
  (qfe9 x1.Coef x2.Coef).bind fun x3 =>
  if x3 = true then
   if (x1.Exps.length : Int) = (x2.Exps.length : Int) then
    (wh (qex9 s0 s1 s5) 0).bind fun x8 =>
    match x8 with
    | .inl x9 =>
     some (.inr (.inl x9))
    | .inr () =>
     some (.inl (w64 (s5 + 1)))
   else
   some (.inr (.inl false))
  else
  some (.inr (.inl false))
 else
 some (.inr (.inr s5))
noncomputable def qcE9 (a0 : List Mono) (a1 : List Mono) : Option Bool :=
 if (a0.length : Int) = (a1.length : Int) then
  (wh (qdA9 a0 a1) 0).bind fun x11 =>
  match x11 with
  | .inl x12 =>
   some x12
  | .inr x13 =>
   some true
 else
 some false
noncomputable def qfW9 (a0 : Mono) (a1 : List Int) : Option Int :=
 (qdv9 a0.Exps a1).bind fun x1 =>
 some x1
noncomputable def qk9 (s0 : List Mono) (s1 : List Int) (s8 : Int) : Int × Int→Option ((Int × Int) ⊕ (Int × Int)):=fun (s9,s10) =>
 if s9 < s10 then
  (shrV .u64 (IntKind.u64.wrap (w64 (s9 + s10))) 1).bind fun x1 =>
  (idx s0 (w64 x1)).bind fun x2 =>
  (qfW9 x2 s1).bind fun x3 =>
  if x3 < 0 then
   some (.inl (w64 ((w64 x1) + 1),s10))
  else
  some (.inl (s9,w64 x1))
 else
 some (.inr (s9,s10))
noncomputable def qbd9 (a0 : List Mono) (a1 : List Int) : Option (Int × Bool) :=
 (wh (qk9 a0 a1 (a0.length : Int)) (0,(a0.length : Int))).bind fun x4 =>
 match x4 with
 | (x5,x6) =>
 if x5 < (a0.length : Int) then
  (idx a0 x5).bind fun x7 =>
  (qfW9 x7 a1).bind fun x8 =>
  some (x5,decide (x8 = 0))
 else
 some (x5,false)
noncomputable def qgB9 (a0 : List Mono) (a1 : List Int) : Option ((List Int)) :=
 (qbd9 a0 a1).bind fun x1 =>
 if x1.2 = true then
  (idx a0 x1.1).bind fun x2 =>
  some x2.Coef
 else
 some ([] : List Int)
noncomputable def qgr9 (a0 : Int) : Option Bool :=
 some (!decide (a0 = a0))
noncomputable def qfO9 (a0 : Int) (a1 : Int) : Option Int :=
 (qgr9 a0).bind fun x1 =>
 (qgr9 a1).bind fun x2 =>
 if x1 = true then
  if x2 = true then
   some 0
  else
  some (-1)
 else
 if x2 = true then
  some 1
 else
 if a0 < a1 then
  some (-1)
 else
 if a1 < a0 then
  some 1
 else
 some 0
noncomputable def qfx9 (a0 : Int) : Option Bool :=
 some (!decide (a0 = a0))
noncomputable def qeL9 (a0 : Int) (a1 : Int) : Option Int :=
 (qfx9 a0).bind fun x1 =>
 (qfx9 a1).bind fun x2 =>
 if x1 = true then
  if x2 = true then
   some 0
  else
  some (-1)
 else
 if x2 = true then
  some 1
 else
 if a0 < a1 then
  some (-1)
 else
 if a1 < a0 then
  some 1
 else
 some 0
noncomputable def qfM9 (s0 : List Int) (s1 : List Int) (s6 : Int) : Int→Option (Int ⊕ ((Int × Int) ⊕ Int)):=fun s7 =>
 if 0≤s7 then
  (idx s0 s7).bind fun x4 =>
  (idx s1 s7).bind fun x5 =>
  (qeL9 x4 x5).bind fun x6 =>
  if x6 = 0 then
   some (.inl (w64 (s7 - 1)))
  else
  some (.inr (.inl (x6,0)))
 else
 some (.inr (.inr s7))
noncomputable def qiY9 (a0 : List Int) (a1 : List Int) : Option (Int × Int) :=
 (qdz9 a0).bind fun x1 =>
 if x1 = true then
  (qdz9 a1).bind fun x2 =>
  if x2 = true then
   (qfO9 (a0.length : Int) (a1.length : Int)).bind fun x3 =>
   if x3 = 0 then
    (wh (qfM9 a0 a1 x3) (w64 ((a0.length : Int) - 1))).bind fun x7 =>
    match x7 with
    | .inl x8 =>
     some x8
    | .inr x9 =>
     some (0,0)
   else
   some (x3,0)
  else
  some (0,10)
 else
 some (0,10)
noncomputable def qgy9 (a0 : Mono) (a1 : List Mono) : Option Bool :=
 (qgB9 a1 a0.Exps).bind fun x1 =>
 (qiY9 x1 a0.Coef).bind fun x2 =>
 some (decide (x2.1 < 0))
noncomputable def qP9 (s0 : List Mono) (s1_0 : List Mono) (s7 : Int) : Int→Option (Int ⊕ (Int ⊕ Int)):=fun s8 =>
 if s8 < s7 then
  (idx s0 s8).bind fun x1 =>
  (qgy9 x1 s1_0).bind fun x2 =>
  if x2 = true then
   some (.inr (.inl s8))
  else
  some (.inl (w64 (s8 + 1)))
 else
 some (.inr (.inr s8))
noncomputable def qby9 (a0 : List Mono) (a1_0 : List Mono) : Option Int :=
 (wh (qP9 a0 a1_0 (a0.length : Int)) 0).bind fun x3 =>
 match x3 with
 | .inl x4 =>
  some x4
 | .inr x5 =>
  some (-1)
noncomputable def qN9 (a0 : List Mono) (a1_0 : List Mono) : Option Bool :=
 (qby9 a0 a1_0).bind fun x1 =>
 some (decide (0≤x1))
noncomputable def qfr9 (a0 : List Mono) (a1 : List Mono) : Option Bool :=
 (qcS9 ([a0,a1] : List (List Mono))).bind fun x1 =>
 if x1 = 0 then
  (qN9 a1 a0).bind fun x2 =>
  some (!x2)
 else
 some false
noncomputable def qfV9 (a0 : List Mono) (a1 : List Mono) : Option Bool :=
 (qfr9 a0 a1).bind fun x1 =>
 if x1 = true then
  (qgB9 a0 ([] : List Int)).bind fun x2 =>
  (qgB9 a1 ([] : List Int)).bind fun x3 =>
  (qiY9 x2 x3).bind fun x4 =>
  some (decide (0 < x4.1))
 else
 some false
noncomputable def qhE9  : Option Bool :=
 (qow9).bind fun x1 =>
 (qjV9).bind fun x2 =>
 (qbS9 x1 x2).bind fun x3 =>
 (qox9).bind fun x4 =>
 (qbS9 x4 x2).bind fun x5 =>
 (qbL9 x3.1 x5.1).bind fun x6 =>
 (qcq9 ([(Mono.mk ([3] : List Int) ([] : List Int)),(Mono.mk ([2] : List Int) ([1,1] : List Int))] : List Mono) ([x3.1,x1] : List (List Mono))).bind fun x7 =>
 (qdc9 ([(Mono.mk ([3] : List Int) ([] : List Int)),(Mono.mk ([2] : List Int) ([1,1] : List Int))] : List Mono) ([([5] : List Int),([7] : List Int)] : List (List Int))).bind fun x8 =>
 (qcq9 ([(Mono.mk ([1] : List Int) ([2] : List Int))] : List Mono) ([([(Mono.mk ([1] : List Int) ([40] : List Int))] : List Mono)] : List (List Mono))).bind fun x9 =>
 (qcq9 ([(Mono.mk ([1] : List Int) ([2,1] : List Int))] : List Mono) ([([(Mono.mk ([1] : List Int) ([40] : List Int))] : List Mono),([] : List Mono)] : List (List Mono))).bind fun x10 =>
 if x3.2 = 0 then
  if x5.2 = 0 then
   if x6.2 = 0 then
    if x7.2 = 0 then
     if x8.2 = 0 then
      if x9.2 = 2 then
       if x10.2 = 0 then
        if (x10.1.length : Int) = 0 then
         (qcE9 x6.1 ([(Mono.mk ([1] : List Int) ([] : List Int)),(Mono.mk ([1] : List Int) ([0,1] : List Int)),(Mono.mk ([1] : List Int) ([1] : List Int)),(Mono.mk ([1] : List Int) ([1,1] : List Int))] : List Mono)).bind fun x11 =>
         if x11 = true then
          (qcE9 x7.1 ([(Mono.mk ([3] : List Int) ([] : List Int)),(Mono.mk ([2] : List Int) ([1] : List Int)),(Mono.mk ([2] : List Int) ([2] : List Int))] : List Mono)).bind fun x12 =>
          if x12 = true then
           (qfe9 x8.1 ([73] : List Int)).bind fun x13 =>
           if x13 = true then
            (qbN9 ([(Mono.mk ([3] : List Int) ([] : List Int)),(Mono.mk ([2] : List Int) ([1,1] : List Int))] : List Mono) 2).bind fun x14 =>
            if x14 = 0 then
             (qbN9 ([(Mono.mk ([3] : List Int) ([] : List Int)),(Mono.mk ([2] : List Int) ([1,1] : List Int))] : List Mono) 1).bind fun x15 =>
             if x15 = 20 then
              (qbN9 ([(Mono.mk ([3] : List Int) ([] : List Int)),(Mono.mk ([2] : List Int) ([1,1] : List Int))] : List Mono) (-1)).bind fun x16 =>
              if x16 = 1 then
               (qfV9 ([(Mono.mk ([3] : List Int) ([] : List Int)),(Mono.mk ([2] : List Int) ([1,1] : List Int))] : List Mono) ([(Mono.mk ([1] : List Int) ([1,1] : List Int))] : List Mono)).bind fun x17 =>
               if x17 = true then
                (qfr9 x1 x4).bind fun x18 =>
                some (!x18)
               else
               some false
              else
              some false
             else
             some false
            else
            some false
           else
           some false
          else
          some false
         else
         some false
        else
        some false
       else
       some false
      else
      some false
     else
     some false
    else
    some false
   else
   some false
  else
  some false
 else
 some false
noncomputable def qAP9 (a0 : List Mono) (a1 : List Mono) (a2 : List Mono) : Option Bool :=
 (qhE9).bind fun x1 =>
 if x1 = true then
  (qbS9 a0 a1).bind fun x2 =>
  (qbS9 a1 a0).bind fun x3 =>
  (qbL9 a0 a1).bind fun x4 =>
  (qbL9 a1 a0).bind fun x5 =>
  (qbN9 a0 1099511627776).bind fun x6 =>
  if x6 = 0 then
   (qbN9 a1 1099511627776).bind fun x7 =>
   if x7 = 0 then
    if x2.2 = x3.2 then
     if x4.2 = x5.2 then
      (qcE9 x2.1 x3.1).bind fun x8 =>
      if x8 = true then
       (qcE9 x4.1 x5.1).bind fun x9 =>
       if x9 = true then
        if x2.2 = 0 then
         if x4.2 = 0 then
          (qbN9 a2 1099511627776).bind fun x10 =>
          if x10 = 0 then
           (qbS9 a0 ([] : List Mono)).bind fun x11 =>
           (qjV9).bind fun x12 =>
           (qbL9 a0 x12).bind fun x13 =>
           (qbL9 a0 ([] : List Mono)).bind fun x14 =>
           if x11.2 = 0 then
            if x13.2 = 0 then
             if x14.2 = 0 then
              (qcE9 x11.1 a0).bind fun x15 =>
              if x15 = true then
               (qcE9 x13.1 a0).bind fun x16 =>
               if x16 = true then
                if (x14.1.length : Int) = 0 then
                 (qbS9 x2.1 a2).bind fun x17 =>
                 (qbS9 a1 a2).bind fun x18 =>
                 (qbS9 a0 x18.1).bind fun x19 =>
                 if x17.2 = 0 then
                  if x18.2 = 0 then
                   if x19.2 = 0 then
                    (qcE9 x17.1 x19.1).bind fun x20 =>
                    if x20 = true then
                     (qbL9 x4.1 a2).bind fun x21 =>
                     (qbL9 a1 a2).bind fun x22 =>
                     (qbL9 a0 x22.1).bind fun x23 =>
                     if x21.2 = 0 then
                      if x22.2 = 0 then
                       if x23.2 = 0 then
                        (qcE9 x21.1 x23.1).bind fun x24 =>
                        if x24 = true then
                         (qbL9 x2.1 a2).bind fun x25 =>
                         (qbL9 a0 a2).bind fun x26 =>
                         if x25.2 = 0 then
                          if x26.2 = 0 then
                           (qbS9 x26.1 x22.1).bind fun x27 =>
                           if x27.2 = 0 then
                            (qcE9 x25.1 x27.1).bind fun x28 =>
                            some x28
                           else
                           some false
                          else
                          some false
                         else
                         (qbS9 x26.1 x22.1).bind fun x29 =>
                         some true
                        else
                        some false
                       else
                       some false
                      else
                      (qbL9 x2.1 a2).bind fun x30 =>
                      (qbL9 a0 a2).bind fun x31 =>
                      if x30.2 = 0 then
                       if x31.2 = 0 then
                        some false
                       else
                       some false
                      else
                      (qbS9 x31.1 x22.1).bind fun x32 =>
                      some true
                     else
                     (qbL9 x2.1 a2).bind fun x33 =>
                     (qbL9 a0 a2).bind fun x34 =>
                     if x33.2 = 0 then
                      if x34.2 = 0 then
                       if x22.2 = 0 then
                        (qbS9 x34.1 x22.1).bind fun x35 =>
                        if x35.2 = 0 then
                         (qcE9 x33.1 x35.1).bind fun x36 =>
                         some x36
                        else
                        some false
                       else
                       some false
                      else
                      some false
                     else
                     (qbS9 x34.1 x22.1).bind fun x37 =>
                     some true
                    else
                    some false
                   else
                   some false
                  else
                  some false
                 else
                 (qbL9 x4.1 a2).bind fun x38 =>
                 (qbL9 a1 a2).bind fun x39 =>
                 (qbL9 a0 x39.1).bind fun x40 =>
                 if x38.2 = 0 then
                  if x39.2 = 0 then
                   if x40.2 = 0 then
                    (qcE9 x38.1 x40.1).bind fun x41 =>
                    if x41 = true then
                     (qbL9 x2.1 a2).bind fun x42 =>
                     (qbL9 a0 a2).bind fun x43 =>
                     if x42.2 = 0 then
                      if x43.2 = 0 then
                       (qbS9 x43.1 x39.1).bind fun x44 =>
                       if x44.2 = 0 then
                        (qcE9 x42.1 x44.1).bind fun x45 =>
                        some x45
                       else
                       some false
                      else
                      some false
                     else
                     (qbS9 x43.1 x39.1).bind fun x46 =>
                     some true
                    else
                    some false
                   else
                   some false
                  else
                  (qbL9 x2.1 a2).bind fun x47 =>
                  (qbL9 a0 a2).bind fun x48 =>
                  if x47.2 = 0 then
                   if x48.2 = 0 then
                    some false
                   else
                   some false
                  else
                  (qbS9 x48.1 x39.1).bind fun x49 =>
                  some true
                 else
                 (qbL9 x2.1 a2).bind fun x50 =>
                 (qbL9 a0 a2).bind fun x51 =>
                 if x50.2 = 0 then
                  if x51.2 = 0 then
                   if x39.2 = 0 then
                    (qbS9 x51.1 x39.1).bind fun x52 =>
                    if x52.2 = 0 then
                     (qcE9 x50.1 x52.1).bind fun x53 =>
                     some x53
                    else
                    some false
                   else
                   some false
                  else
                  some false
                 else
                 (qbS9 x51.1 x39.1).bind fun x54 =>
                 some true
                else
                some false
               else
               some false
              else
              some false
             else
             some false
            else
            some false
           else
           some false
          else
          some true
         else
         some true
        else
        some true
       else
       some false
      else
      some false
     else
     some false
    else
    some false
   else
   if x2.2 = 0 then
    some false
   else
   if x4.2 = 0 then
    some false
   else
   if (x2.1.length : Int) = 0 then
    some (decide ((x4.1.length : Int) = 0))
   else
   some false
  else
  if x2.2 = 0 then
   some false
  else
  if x4.2 = 0 then
   some false
  else
  if (x2.1.length : Int) = 0 then
   some (decide ((x4.1.length : Int) = 0))
  else
  some false
 else
 some false
noncomputable def qff9 (a0 : List Int) : Option Bool :=
 if (a0.length : Int)≤64 then
  if (a0.length : Int) = 0 then
   some true
  else
  (idx a0 (w64 ((a0.length : Int) - 1))).bind fun x1 =>
  some (!decide (x1 = 0))
 else
 some false
noncomputable def qfR9 (s0 : Mono) (b1_0 : List Int) (b1_1 : List Int) : Int→Option (Int ⊕ (Bool ⊕ Int)):=fun s3 =>
 if s3 < (b1_1.length : Int) then
  (idx b1_1 s3).bind fun x2 =>
  if x2 < 0 then
   some (.inr (.inl false))
  else
  some (.inl (w64 (s3 + 1)))
 else
 some (.inr (.inr s3))
noncomputable def qjk9 (a0 : Mono) : Option Bool :=
 (qff9 a0.Coef).bind fun x1 =>
 if x1 = true then
  if (a0.Coef.length : Int) = 0 then
   some false
  else
  (wh (qfR9 a0 a0.Coef a0.Exps) 0).bind fun x3 =>
  match x3 with
  | .inl x4 =>
   some x4
  | .inr x5 =>
   if (a0.Exps.length : Int) = 0 then
    some true
   else
   (idx a0.Exps (w64 ((a0.Exps.length : Int) - 1))).bind fun x6 =>
   some (!decide (x6 = 0))
 else
 some false
noncomputable def qhJ9 (a0 : List Int) (a1 : Int) : Option Int :=
 if a1 < (a0.length : Int) then
  (idx a0 a1).bind fun x1 =>
  some x1
 else
 some 0
noncomputable def qft9 (s0 : List Int) (s1 : List Int) : Int→Option (Int ⊕ (Int ⊕ Int)):=fun s5 =>
 if s5 < (s0.length : Int) then
  (qhJ9 s0 s5).bind fun x1 =>
  (qhJ9 s1 s5).bind fun x2 =>
  if x1 < x2 then
   some (.inr (.inl (-1)))
  else
  if x2 < x1 then
   some (.inr (.inl 1))
  else
  some (.inl (w64 (s5 + 1)))
 else
 if s5 < (s1.length : Int) then
  (qhJ9 s0 s5).bind fun x3 =>
  (qhJ9 s1 s5).bind fun x4 =>
  if x3 < x4 then
   some (.inr (.inl (-1)))
  else
  if x4 < x3 then
   some (.inr (.inl 1))
  else
  some (.inl (w64 (s5 + 1)))
 else
 some (.inr (.inr s5))
noncomputable def qiE9 (a0 : List Int) (a1 : List Int) : Option Int :=
 (wh (qft9 a0 a1) 0).bind fun x5 =>
 match x5 with
 | .inl x6 =>
  some x6
 | .inr x7 =>
  some 0
noncomputable def qfu9 (s0 : Mono) (b1_0 : List Int) (b1_1 : List Int) : Int→Option (Int ⊕ (Bool ⊕ Int)):=fun s3 =>
 if s3 < (b1_1.length : Int) then
  (idx b1_1 s3).bind fun x1 =>
  if 64 < x1 then
   some (.inr (.inl false))
  else
  some (.inl (w64 (s3 + 1)))
 else
 some (.inr (.inr s3))
noncomputable def qiG9 (a0 : Mono) : Option Bool :=
 (wh (qfu9 a0 a0.Coef a0.Exps) 0).bind fun x2 =>
 match x2 with
 | .inl x3 =>
  some x3
 | .inr x4 =>
  if (a0.Coef.length : Int)≤64 then
   some (decide ((a0.Exps.length : Int)≤512))
  else
  some false
noncomputable def qeF9 (s0 : List Mono) (s1 : Int) (s5 : Int) : Int→Option (Int ⊕ (Int ⊕ Int)):=fun s6 =>
 if s6 < (s0.length : Int) then
  (idx s0 s6).bind fun x8 =>
  (qiG9 x8).bind fun x9 =>
  if x9 = true then
   some (.inl (w64 (s6 + 1)))
  else
  some (.inr (.inl 2))
 else
 some (.inr (.inr s6))
noncomputable def qfo9 (s0 : List Mono) (s1 : Int) : Int→Option (Int ⊕ (Int ⊕ Int)):=fun s5 =>
 if s5 < (s0.length : Int) then
  (idx s0 s5).bind fun x1 =>
  (qjk9 x1).bind fun x2 =>
  if x2 = true then
   if s1 < (x1.Exps.length : Int) then
    some (.inr (.inl 20))
   else
   if 0 < s5 then
    (idx s0 (w64 (s5 - 1))).bind fun x3 =>
    (qiE9 x3.Exps x1.Exps).bind fun x4 =>
    if 0≤x4 then
     some (.inr (.inl 20))
    else
    some (.inl (w64 (s5 + 1)))
   else
   some (.inl (w64 (s5 + 1)))
  else
  some (.inr (.inl 20))
 else
 some (.inr (.inr s5))
noncomputable def qhN9 (a0 : List Mono) (a1 : Int) : Option Int :=
 if a1 < 0 then
  some 1
 else
 (wh (qfo9 a0 a1) 0).bind fun x5 =>
 match x5 with
 | .inl x6 =>
  some x6
 | .inr x7 =>
  (wh (qeF9 a0 a1 x7) 0).bind fun x10 =>
  match x10 with
  | .inl x11 =>
   some x11
  | .inr x12 =>
   if 256 < (a0.length : Int) then
    some 2
   else
   some 0
noncomputable def qfS9 (s2 : List Int) : (List Int)→Option (((List Int)) ⊕ ((List Int))):=fun s0 =>
 if 0 < (s0.length : Int) then
  (idx s0 (w64 ((s0.length : Int) - 1))).bind fun x1 =>
  if x1 = 0 then
   (cutL s0 0 (w64 ((s0.length : Int) - 1))).bind fun x2 =>
   some (.inl x2)
  else
  some (.inr s0)
 else
 some (.inr s0)
noncomputable def qkk9 (a0 : List Int) : Option ((List Int)) :=
 (wh (qfS9 ([] : List Int)) a0).bind fun x4 =>
 some x4
noncomputable def qii9 (a0 : List Int) : Option ((List Int) × Int) :=
 (qkk9 a0).bind fun x1 =>
 if 64 < (x1.length : Int) then
  some (([] : List Int),2)
 else
 some (x1,0)
noncomputable def qdI9 (s0 : List Int) (s1 : List Int) (s4 : List Int) (s7 : Int) : Int × Int × (List Int)→Option ((Int × Int × (List Int)) ⊕ ((List Int))):=fun (s8,s9,o6) =>
 if s9 < (s1.length : Int) then
  (idx o6 (w64 (s7 + s9))).bind fun x3 =>
  (idx s0 s7).bind fun x4 =>
  (idx s1 s9).bind fun x5 =>
  (shrV .u64 (IntKind.u64.wrap ((IntKind.u64.wrap (s8 + (IntKind.u64.wrap x3))) + (IntKind.u64.wrap ((IntKind.u64.wrap x4) * (IntKind.u64.wrap x5))))) 32).bind fun x6 =>
  some (.inl (x6,w64 (s9 + 1),o6.set (w64 (s7 + s9)).toNat (IntKind.u32.wrap (IntKind.u64.wrap ((IntKind.u64.wrap (s8 + (IntKind.u64.wrap x3))) + (IntKind.u64.wrap ((IntKind.u64.wrap x4) * (IntKind.u64.wrap x5))))))))
 else
 if 0 < s8 then
  (idx o6 (w64 (s7 + s9))).bind fun x7 =>
  (shrV .u64 (IntKind.u64.wrap (s8 + (IntKind.u64.wrap x7))) 32).bind fun x8 =>
  some (.inl (x8,w64 (s9 + 1),o6.set (w64 (s7 + s9)).toNat (IntKind.u32.wrap (IntKind.u64.wrap (s8 + (IntKind.u64.wrap x7))))))
 else
 some (.inr o6)
noncomputable def qfP9 (s0 : List Int) (s1 : List Int) (s4 : List Int) : Int × (List Int)→Option ((Int × (List Int)) ⊕ (Int × (List Int))):=fun (s7,o6) =>
 if s7 < (s0.length : Int) then
  (wh (qdI9 s0 s1 s4 s7) (0,0,o6)).bind fun x10 =>
  some (.inl (w64 (s7 + 1),x10))
 else
 some (.inr (s7,o6))
noncomputable def qjO9 (a0 : List Int) (a1 : List Int) : Option ((List Int) × Int) :=
 (qff9 a0).bind fun x1 =>
 if x1 = true then
  (qff9 a1).bind fun x2 =>
  if x2 = true then
   if 0≤(w64 ((w64 ((a0.length : Int) + (a1.length : Int))) + 1)) then
   if 4 * (w64 ((w64 ((a0.length : Int) + (a1.length : Int))) + 1))≤140737488355328 then
   (wh (qfP9 a0 a1 ([] : List Int)) (0,List.replicate (w64 ((w64 ((a0.length : Int) + (a1.length : Int))) + 1)).toNat (0 : Int))).bind fun x13 =>
   match x13 with
   | (x14,x15) =>
   (qii9 x15).bind fun x16 =>
   some (x16.1,x16.2)
   else none
   else none
  else
  some (([] : List Int),10)
 else
 some (([] : List Int),10)
noncomputable def qfG9 (s0 : List Int) (s1 : List Int) (s4 : List Int) : Int × Int × (List Int)→Option ((Int × Int × (List Int)) ⊕ (Int × Int × (List Int))):=fun (s7,s8,o6) =>
 if s8 < (o6.length : Int) then
  if s8 < (s0.length : Int) then
   (idx s0 s8).bind fun x3 =>
   if s8 < (s1.length : Int) then
    (idx s1 s8).bind fun x4 =>
    (idx o6 s8).bind fun x5 =>
    (shrV .u64 (IntKind.u64.wrap ((IntKind.u64.wrap (s7 + (IntKind.u64.wrap x3))) + (IntKind.u64.wrap x4))) 32).bind fun x6 =>
    some (.inl (x6,w64 (s8 + 1),o6.set (s8).toNat (IntKind.u32.wrap (IntKind.u64.wrap ((IntKind.u64.wrap (s7 + (IntKind.u64.wrap x3))) + (IntKind.u64.wrap x4))))))
   else
   (idx o6 s8).bind fun x7 =>
   (shrV .u64 (IntKind.u64.wrap (s7 + (IntKind.u64.wrap x3))) 32).bind fun x8 =>
   some (.inl (x8,w64 (s8 + 1),o6.set (s8).toNat (IntKind.u32.wrap (IntKind.u64.wrap (s7 + (IntKind.u64.wrap x3))))))
  else
  if s8 < (s1.length : Int) then
   (idx s1 s8).bind fun x9 =>
   (idx o6 s8).bind fun x10 =>
   (shrV .u64 (IntKind.u64.wrap (s7 + (IntKind.u64.wrap x9))) 32).bind fun x11 =>
   some (.inl (x11,w64 (s8 + 1),o6.set (s8).toNat (IntKind.u32.wrap (IntKind.u64.wrap (s7 + (IntKind.u64.wrap x9))))))
  else
  (idx o6 s8).bind fun x12 =>
  (shrV .u64 s7 32).bind fun x13 =>
  some (.inl (x13,w64 (s8 + 1),o6.set (s8).toNat (IntKind.u32.wrap s7)))
 else
 some (.inr (s7,s8,o6))
noncomputable def qjT9 (a0 : List Int) (a1 : List Int) : Option ((List Int) × Int) :=
 (qff9 a0).bind fun x1 =>
 if x1 = true then
  (qff9 a1).bind fun x2 =>
  if x2 = true then
   if 0≤(w64 ((max (a0.length : Int) (a1.length : Int)) + 1)) then
   if 4 * (w64 ((max (a0.length : Int) (a1.length : Int)) + 1))≤140737488355328 then
   (wh (qfG9 a0 a1 ([] : List Int)) (0,0,List.replicate (w64 ((max (a0.length : Int) (a1.length : Int)) + 1)).toNat (0 : Int))).bind fun x14 =>
   match x14 with
   | (x15,x16,x17) =>
   (qii9 x17).bind fun x18 =>
   some (x18.1,x18.2)
   else none
   else none
  else
  some (([] : List Int),10)
 else
 some (([] : List Int),10)
noncomputable def qeK9 (s0 : List Mono) (s1 : List (List Int)) (s4 : List Int) (s7 : Int) (s8 : List Int) (s9 : Int) (s10 : Bool) (s13 : Int) : Int × (List Int) × Int→Option ((Int × (List Int) × Int) ⊕ (((List Int) × Int) ⊕ (Int × (List Int)))):=fun (s6,s12,s14) =>
 (idx s0 s9).bind fun x16 =>
 (idx x16.Exps s13).bind fun x17 =>
 if s14 < x17 then
  (idx s1 s13).bind fun x18 =>
  if 64 < (x18.length : Int) then
   some (.inr (.inl (([] : List Int),2)))
  else
  (qjO9 s12 x18).bind fun x19 =>
  if x19.2 = 0 then
   if 64 < (x19.1.length : Int) then
    some (.inr (.inl (([] : List Int),2)))
   else
   some (.inl (x19.2,x19.1,w64 (s14 + 1)))
  else
  some (.inr (.inl (([] : List Int),2)))
 else
 some (.inr (.inr (s6,s12)))
noncomputable def qeO9 (s0 : List Mono) (s1 : List (List Int)) (s4 : List Int) (s7 : Int) (s8 : List Int) (s9 : Int) (s10 : Bool) : Int × (List Int) × Int→Option ((Int × (List Int) × Int) ⊕ (((List Int) × Int) ⊕ (Int × (List Int)))):=fun (s6,s12,s13) =>
 (idx s0 s9).bind fun x15 =>
 if s13 < (x15.Exps.length : Int) then
  (wh (qeK9 s0 s1 s4 s7 s8 s9 s10 s13) (s6,s12,0)).bind fun x20 =>
  match x20 with
  | .inl x21 =>
   some (.inr (.inl x21))
  | .inr (x22,x23) =>
   some (.inl (x22,x23,w64 (s13 + 1)))
 else
 some (.inr (.inr (s6,s12)))
noncomputable def qeN9 (s0 : List Mono) (s1 : List (List Int)) (s4 : List Int) (s6 : Int) (s7 : Int) (s8 : List Int) (s9 : Int) : Bool × Int→Option ((Bool × Int) ⊕ Bool):=fun (s10,s11) =>
 (idx s0 s9).bind fun x8 =>
 if s11 < (x8.Exps.length : Int) then
  if s10 = true then
   some (.inl (true,w64 (s11 + 1)))
  else
  (idx x8.Exps s11).bind fun x9 =>
  if 0 < x9 then
   (idx s1 s11).bind fun x10 =>
   some (.inl (decide ((x10.length : Int) = 0),w64 (s11 + 1)))
  else
  some (.inl (false,w64 (s11 + 1)))
 else
 some (.inr s10)
noncomputable def qdl9 (s0 : List Mono) (s1 : List (List Int)) (s4 : List Int) (s7 : Int) : Int × (List Int) × Int→Option ((Int × (List Int) × Int) ⊕ (((List Int) × Int) ⊕ (Int × (List Int) × Int))):=fun (s6,s8,s9) =>
 if s9 < (s0.length : Int) then
  (wh (qeN9 s0 s1 s4 s6 s7 s8 s9) (false,0)).bind fun x12 =>
  if x12 = true then
   some (.inl (s6,s8,w64 (s9 + 1)))
  else
  (idx s0 s9).bind fun x14 =>
  (wh (qeO9 s0 s1 s4 s7 s8 s9 x12) (s6,x14.Coef,0)).bind fun x25 =>
  match x25 with
  | .inl x26 =>
   some (.inr (.inl x26))
  | .inr (x27,x28) =>
   (qjT9 s8 x28).bind fun x31 =>
   if x31.2 = 0 then
    if 64 < (x31.1.length : Int) then
     some (.inr (.inl (([] : List Int),2)))
    else
    some (.inl (x31.2,x31.1,w64 (s9 + 1)))
   else
   some (.inr (.inl (([] : List Int),2)))
 else
 some (.inr (.inr (s6,s8,s9)))
noncomputable def qfn9 (s0 : List Mono) (s1 : List (List Int)) (s4 : List Int) (s6 : Int) : Int→Option (Int ⊕ (((List Int) × Int) ⊕ Int)):=fun s7 =>
 if s7 < (s1.length : Int) then
  (idx s1 s7).bind fun x3 =>
  (qff9 x3).bind fun x4 =>
  if x4 = true then
   some (.inl (w64 (s7 + 1)))
  else
  some (.inr (.inl (([] : List Int),10)))
 else
 some (.inr (.inr s7))
noncomputable def qge9 (a0 : List Mono) (a1 : List (List Int)) : Option ((List Int) × Int) :=
 (qhN9 a0 4611686018427387904).bind fun x1 =>
 if x1 = 0 then
  (qhN9 a0 (a1.length : Int)).bind fun x2 =>
  if x2 = 0 then
   (wh (qfn9 a0 a1 ([] : List Int) x1) 0).bind fun x5 =>
   match x5 with
   | .inl x6 =>
    some x6
   | .inr x7 =>
    (wh (qdl9 a0 a1 ([] : List Int) x7) (x1,([] : List Int),0)).bind fun x32 =>
    match x32 with
    | .inl x33 =>
     some x33
    | .inr (x34,x35,x36) =>
     some (x35,0)
  else
  some (([] : List Int),21)
 else
 some (([] : List Int),x1)
noncomputable def qhf9 (a0 : List Mono) (a1 : List (List Int)) : Option Bool :=
 (qhE9).bind fun x1 =>
 if x1 = true then
  (qdc9 a0 a1).bind fun x2 =>
  (qge9 a0 a1).bind fun x3 =>
  if x2.2 = x3.2 then
   (qfe9 x2.1 x3.1).bind fun x4 =>
   some x4
  else
  some false
 else
 some false
end Ld

import Derived.Test.YtmkohpkfeamjiaaPST
import Derived.Test.YtmkohpkfeamjiaaN3
import Derived.Lib.ValidU
import Derived.Lib.BitFns
set_option maxHeartbeats 400000
set_option linter.unusedVariables false
set_option linter.unusedSimpArgs false
set_option linter.unusedSectionVars false
namespace Ld
open Go Go.Abs
set_option maxRecDepth 8000
noncomputable def qpw9  : Option ((List Mono)) :=
 some ([(Mono.mk ([1] : List Int) ([1] : List Int))] : List Mono)
noncomputable def qlY9  : Option ((List Mono)) :=
 some ([(Mono.mk ([1] : List Int) ([] : List Int))] : List Mono)
noncomputable def qdx9 (a0 : List Int) : Option Bool :=
 if (a0.length : Int)≤64 then
  if (a0.length : Int) = 0 then
   some true
  else
  (idx a0 (w64 ((a0.length : Int) - 1))).bind fun x1 =>
  some (!decide (x1 = 0))
 else
 some false
noncomputable def qil9 (a0 : Int) : Option Bool :=
 some (decide (a0 < 0))
noncomputable def qbB9 (s0 : List Int) (s7 : Int) : Int→Option (Int ⊕ (Int ⊕ Int)):=fun s8 =>
 if s8 < s7 then
  (idx s0 s8).bind fun x1 =>
  (qil9 x1).bind fun x2 =>
  if x2 = true then
   some (.inr (.inl s8))
  else
  some (.inl (w64 (s8 + 1)))
 else
 some (.inr (.inr s8))
noncomputable def qbS9 (a0 : List Int) : Option Int :=
 (wh (qbB9 a0 (a0.length : Int)) 0).bind fun x3 =>
 match x3 with
 | .inl x4 =>
  some x4
 | .inr x5 =>
  some (-1)
noncomputable def qbC9 (a0 : List Int) : Option Bool :=
 (qbS9 a0).bind fun x1 =>
 some (decide (0≤x1))
noncomputable def qiV9 (a0 : Mono) : Option Bool :=
 (qdx9 a0.Coef).bind fun x1 =>
 if x1 = true then
  if 0 < (a0.Coef.length : Int) then
   (qbC9 a0.Exps).bind fun x2 =>
   if x2 = true then
    some false
   else
   if (a0.Exps.length : Int) = 0 then
    some true
   else
   (idx a0.Exps (w64 ((a0.Exps.length : Int) - 1))).bind fun x3 =>
   some (decide (0 < x3))
  else
  some false
 else
 some false
noncomputable def qcD9 (s0 : List Int) (s1 : List Int) (s10 : Int) : Int→Option (Int ⊕ (Int ⊕ Int)):=fun s11 =>
 if s11 < s10 then
  (idx s0 s11).bind fun x1 =>
  (idx s1 s11).bind fun x2 =>
  if x1 = x2 then
   some (.inl (w64 (s11 + 1)))
  else
  some (.inr (.inl (w64 (x1 - x2))))
 else
 some (.inr (.inr s11))
noncomputable def qds9 (a0 : List Int) (a1 : List Int) : Option Int :=
 (wh (qcD9 a0 a1 (min (a0.length : Int) (a1.length : Int))) 0).bind fun x3 =>
 match x3 with
 | .inl x4 =>
  some x4
 | .inr x5 =>
  some (w64 ((a0.length : Int) - (a1.length : Int)))
noncomputable def qgr9 (a0 : Int) : Option Bool :=
 some (decide (64 < a0))
noncomputable def qbm9 (s0 : List Int) (s7 : Int) : Int→Option (Int ⊕ (Int ⊕ Int)):=fun s8 =>
 if s8 < s7 then
  (idx s0 s8).bind fun x1 =>
  (qgr9 x1).bind fun x2 =>
  if x2 = true then
   some (.inr (.inl s8))
  else
  some (.inl (w64 (s8 + 1)))
 else
 some (.inr (.inr s8))
noncomputable def qbM9 (a0 : List Int) : Option Int :=
 (wh (qbm9 a0 (a0.length : Int)) 0).bind fun x3 =>
 match x3 with
 | .inl x4 =>
  some x4
 | .inr x5 =>
  some (-1)
noncomputable def qbo9 (a0 : List Int) : Option Bool :=
 (qbM9 a0).bind fun x1 =>
 some (decide (0≤x1))
noncomputable def qdT9 (a0 : Mono) : Option Bool :=
 if (a0.Coef.length : Int)≤64 then
  if (a0.Exps.length : Int)≤512 then
   (qbo9 a0.Exps).bind fun x1 =>
   some (!x1)
  else
  some false
 else
 some false
noncomputable def qbL9 (s0 : List Mono) (s1 : Int) (s13 : List Mono) (s14 : Int) : Bool × Int→Option ((Bool × Int) ⊕ (Int ⊕ (Bool × Int))):=fun (s5,s15) =>
 if s15 < s14 then
  (idx s13 s15).bind fun x1 =>
  (qiV9 x1).bind fun x2 =>
  if x2 = true then
   if s1 < (x1.Exps.length : Int) then
    some (.inr (.inl 20))
   else
   if 0 < s15 then
    (idx s0 (w64 (s15 - 1))).bind fun x3 =>
    (qds9 x3.Exps x1.Exps).bind fun x4 =>
    if 0≤x4 then
     some (.inr (.inl 20))
    else
    if s5 = true then
     (qdT9 x1).bind fun x5 =>
     some (.inl (x5,w64 (s15 + 1)))
    else
    some (.inl (false,w64 (s15 + 1)))
   else
   if s5 = true then
    (qdT9 x1).bind fun x6 =>
    some (.inl (x6,w64 (s15 + 1)))
   else
   some (.inl (false,w64 (s15 + 1)))
  else
  some (.inr (.inl 20))
 else
 some (.inr (.inr (s5,s15)))
noncomputable def qbO9 (a0 : List Mono) (a1 : Int) : Option Int :=
 if a1 < 0 then
  some 1
 else
 (wh (qbL9 a0 a1 a0 (a0.length : Int)) (decide ((a0.length : Int)≤256),0)).bind fun x7 =>
 match x7 with
 | .inl x8 =>
  some x8
 | .inr (x9,x10) =>
  if x9 = true then
   some 0
  else
  some 2
noncomputable def qbT9 (s0 : List (List Mono)) (s6 : List (List Mono)) (s7 : Int) : Int→Option (Int ⊕ (Int ⊕ Int)):=fun s8 =>
 if s8 < s7 then
  (idx s6 s8).bind fun x1 =>
  (qbO9 x1 4611686018427387904).bind fun x2 =>
  if x2 = 0 then
   some (.inl (w64 (s8 + 1)))
  else
  some (.inr (.inl x2))
 else
 some (.inr (.inr s8))
noncomputable def qcT9 (a0 : List (List Mono)) : Option Int :=
 (wh (qbT9 a0 a0 (a0.length : Int)) 0).bind fun x3 =>
 match x3 with
 | .inl x4 =>
  some x4
 | .inr x5 =>
  some 0

noncomputable def qbq9 (s0 : List (List Mono)) (s2 : List Mono) (s3 : Int) (s9 : List (List Mono)) (s10 : Int) (s11 : Int) (s25 : List (List Mono)) (s26 : Int) : Int × (List Mono)→Option ((Int × (List Mono)) ⊕ (Int × (List Mono))):=fun (s27,o6) =>
 if s27 < s26 then
  (idx s25 s27).bind fun x5 =>
  if (o6.length + x5.length) * 48≤140737488355328 then
  some (.inl (w64 (s27 + 1),o6++x5))
  else none
 else
 some (.inr (s27,o6))
noncomputable def qbr9 (s0 : List (List Mono)) (s2 : List Mono) (s9 : List (List Mono)) (s10 : Int) : Int × Int→Option ((Int × Int) ⊕ (Int × Int)):=fun (s3,s11) =>
 if s11 < s10 then
  (idx s9 s11).bind fun x1 =>
  if (w64 (s3 + (x1.length : Int))) < 0 then
   none
  else
  some (.inl (w64 (s3 + (x1.length : Int)),w64 (s11 + 1)))
 else
 some (.inr (s3,s11))
noncomputable def qcg9 (a0 : List (List Mono)) : Option ((List Mono)) :=
 (wh (qbr9 a0 ([] : List Mono) a0 (a0.length : Int)) (0,0)).bind fun x2 =>
 match x2 with
 | (x3,x4) =>
 if 0≤x3∧x3 * 48≤140737488355328 then
 (wh (qbq9 a0 ([] : List Mono) x3 a0 (a0.length : Int) x4 a0 (a0.length : Int)) (0,([] : List Mono))).bind fun x6 =>
 match x6 with
 | (x7,x8) =>
 some x8
 else none
noncomputable def qeS9 (s0 : List Int) (s2 : ByteArray) (s9 : List Int) (s10 : Int) : Int × (List Int)→Option ((Int × (List Int)) ⊕ (Int × (List Int))):=fun (s11,o3) =>
 if s11 < s10 then
  (idx s9 s11).bind fun x1 =>
  (idx o3 s11).bind fun x2 =>
  some (.inl (w64 (s11 + 1),o3.set (s11).toNat (IntKind.u8.wrap x1)))
 else
 some (.inr (s11,o3))
noncomputable def qja9 (a0 : List Int) : Option ByteArray :=
 if 0≤(a0.length : Int) then
 if 1 * (a0.length : Int)≤140737488355328 then
 (wh (qeS9 a0 ({ data:=#[] }) a0 (a0.length : Int)) (0,List.replicate ((a0.length : Int)).toNat (0 : Int))).bind fun x3 =>
 match x3 with
 | (x4,x5) =>
 some (qcY9 x5)
 else none
 else none
noncomputable def qel9 (s0 : List Int) (s2 : List Int) : Int→Option (Int ⊕ Int):=fun s3 =>
 if 0 < s3 then
  (idx s0 (w64 (s3 - 1))).bind fun x1 =>
  if x1 = 0 then
   some (.inl (w64 (s3 - 1)))
  else
  some (.inr s3)
 else
 some (.inr s3)
noncomputable def qhy9 (a0 : List Int) : Option ((List Int)) :=
 (wh (qel9 a0 ([] : List Int)) (a0.length : Int)).bind fun x3 =>
 (cutL a0 0 x3).bind fun x4 =>
 some x4
noncomputable def qhU9 (a0 : List Int) : Option ((List Int) × Int) :=
 (qhy9 a0).bind fun x1 =>
 if 64 < (x1.length : Int) then
  some (([] : List Int),2)
 else
 some (x1,0)
noncomputable def qdt9 (s0 : List Int) (s1 : List Int) (s4 : List Int) (s29 : List Int) (s30 : Int) : Int × Int × (List Int)→Option ((Int × Int × (List Int)) ⊕ (Int × Int × (List Int))):=fun (s7,s31,o6) =>
 if s31 < s30 then
  (idx s29 s31).bind fun x15 =>
  if s31 < (s1.length : Int) then
   (idx s1 s31).bind fun x16 =>
   (idx o6 s31).bind fun x17 =>
   (shrV .u64 (IntKind.u64.wrap ((IntKind.u64.wrap (s7 + (IntKind.u64.wrap x15))) + (IntKind.u64.wrap x16))) 32).bind fun x18 =>
   some (.inl (x18,w64 (s31 + 1),o6.set (s31).toNat (IntKind.u32.wrap (IntKind.u64.wrap ((IntKind.u64.wrap (s7 + (IntKind.u64.wrap x15))) + (IntKind.u64.wrap x16))))))
  else
  (idx o6 s31).bind fun x19 =>
  (shrV .u64 (IntKind.u64.wrap (s7 + (IntKind.u64.wrap x15))) 32).bind fun x20 =>
  some (.inl (x20,w64 (s31 + 1),o6.set (s31).toNat (IntKind.u32.wrap (IntKind.u64.wrap (s7 + (IntKind.u64.wrap x15))))))
 else
 some (.inr (s7,s31,o6))
noncomputable def qjr9 (a0 : List Int) (a1 : List Int) : Option ((List Int) × Int) :=
 (qdx9 a0).bind fun x1 =>
 if x1 = true then
  (qdx9 a1).bind fun x2 =>
  if x2 = true then
   if (a0.length : Int) < (a1.length : Int) then
    if 0≤(w64 ((a1.length : Int) + 1)) then
    if 4 * (w64 ((a1.length : Int) + 1))≤140737488355328 then
    (wh (qdt9 a1 a0 ([] : List Int) a1 (a1.length : Int)) (0,0,List.replicate (w64 ((a1.length : Int) + 1)).toNat (0 : Int))).bind fun x9 =>
    match x9 with
    | (x10,x11,x12) =>
    (idx x12 (a1.length : Int)).bind fun x13 =>
    (qhU9 (x12.set ((a1.length : Int)).toNat (IntKind.u32.wrap x10))).bind fun x14 =>
    some (x14.1,x14.2)
    else none
    else none
   else
   if 0≤(w64 ((a0.length : Int) + 1)) then
   if 4 * (w64 ((a0.length : Int) + 1))≤140737488355328 then
   (wh (qdt9 a0 a1 ([] : List Int) a0 (a0.length : Int)) (0,0,List.replicate (w64 ((a0.length : Int) + 1)).toNat (0 : Int))).bind fun x21 =>
   match x21 with
   | (x22,x23,x24) =>
   (idx x24 (a0.length : Int)).bind fun x25 =>
   (qhU9 (x24.set ((a0.length : Int)).toNat (IntKind.u32.wrap x22))).bind fun x26 =>
   some (x26.1,x26.2)
   else none
   else none
  else
  some (([] : List Int),10)
 else
 some (([] : List Int),10)
noncomputable def qgg9 (s1_0 : List Int) (s1_1 : List Int) (m0 : List (ByteArray × Mono)) : Option (Bool × (List (ByteArray × Mono))) :=
 (qdT9 (Mono.mk s1_0 s1_1)).bind fun x1 =>
 if x1 = true then
  (qja9 s1_1).bind fun x2 =>
  match mget m0 x2 with
  | some x3 =>
   (qjr9 x3.Coef s1_0).bind fun x4 =>
   if x4.2 = 0 then
    if 64 < (x4.1.length : Int) then
     some (false,m0)
    else
    some (decide (((mset m0 x2 (Mono.mk x4.1 s1_1)).length : Int)≤256),mset m0 x2 (Mono.mk x4.1 s1_1))
   else
   some (false,m0)
  | none =>
   some (decide (((mset m0 x2 (Mono.mk s1_0 s1_1)).length : Int)≤256),mset m0 x2 (Mono.mk s1_0 s1_1))
 else
 some (false,m0)
open Classical in
noncomputable def insMo (m : Mono) : List Mono→List Mono
 | []=>[m]
 | x::l=>if Law.ltE m.Exps x.Exps then m::x::l else x::insMo m l
noncomputable def qeg9 (l : List Mono) : List Mono:=l.foldr insMo []
def BagOK (l : List Mono) : Prop:=l.length≤1048576∧(∀ m∈l,(m.Coef.length≤1048576∧m.Exps.length≤1048576)∧Law.ExOK m.Exps∧∀ n∈m.Exps,n≤64)∧(l.map (·.Exps)).Nodup
open Classical in
noncomputable def toldP (L : List (ByteArray × Mono)) : Option (List Mono):=if BagOK (L.map (·.2)) then some (qeg9 (L.map (·.2))) else none

noncomputable def qdz9 (s0 : List Mono) (s1 : List Mono) (s4 : List Mono) (s6 : Int) (s21 : List Mono) (s22 : Int) : Int × (List (ByteArray × Mono))→Option ((Int × (List (ByteArray × Mono))) ⊕ (((List Mono) × Int) ⊕ (Int × (List (ByteArray × Mono))))):=fun (s23,m7) =>
 if s23 < s22 then
  (idx s21 s23).bind fun x3 =>
  (qgg9 x3.Coef x3.Exps m7).bind fun x4 =>
  if x4.1 = true then
   some (.inl (w64 (s23 + 1),x4.2))
  else
  some (.inr (.inl (([] : List Mono),2)))
 else
 some (.inr (.inr (s23,m7)))
noncomputable def qcE9 (a0 : List Mono) (a1 : List Mono) : Option ((List Mono) × Int) :=
 (qcT9 ([a0,a1] : List (List Mono))).bind fun x1 =>
 if x1 = 0 then
  (qcg9 ([a0,a1] : List (List Mono))).bind fun x2 =>
  (wh (qdz9 a0 a1 ([] : List Mono) x1 x2 (x2.length : Int)) (0,([] : List (ByteArray × Mono)))).bind fun x6 =>
  match x6 with
  | .inl x7 =>
   some x7
  | .inr (x8,x9) =>
   (toldP x9).bind fun x11 =>
   some (x11,0)
 else
 some (([] : List Mono),x1)
noncomputable def qpx9  : Option ((List Mono)) :=
 some ([(Mono.mk ([1] : List Int) ([0,1] : List Int))] : List Mono)
noncomputable def qfG9 (s0 : List Int) (s1 : List Int) (s4 : List Int) (s7 : Int) (s8 : Int) (s26 : List Int) (s27 : Int) (s28 : Int) (s33 : List Int) (s34 : Int) : Int × Int × (List Int)→Option ((Int × Int × (List Int)) ⊕ (Int × (List Int))):=fun (s9,s35,o6) =>
 if s35 < s34 then
  (idx s33 s35).bind fun x4 =>
  (idx o6 (w64 (s7 + s35))).bind fun x5 =>
  (shrV .u64 (IntKind.u64.wrap (s9 + (IntKind.u64.wrap ((IntKind.u64.wrap ((IntKind.u64.wrap s8) * (IntKind.u64.wrap x4))) + (IntKind.u64.wrap x5))))) 32).bind fun x6 =>
  some (.inl (x6,w64 (s35 + 1),o6.set (w64 (s7 + s35)).toNat (IntKind.u32.wrap (IntKind.u64.wrap (s9 + (IntKind.u64.wrap ((IntKind.u64.wrap ((IntKind.u64.wrap s8) * (IntKind.u64.wrap x4))) + (IntKind.u64.wrap x5))))))))
 else
 some (.inr (s9,o6))
noncomputable def qfD9 (s0 : List Int) (s1 : List Int) (s4 : List Int) (s26 : List Int) (s27 : Int) : Int × (List Int)→Option ((Int × (List Int)) ⊕ (Int × (List Int))):=fun (s28,o6) =>
 if s28 < s27 then
  (idx s26 s28).bind fun x3 =>
  (wh (qfG9 s0 s1 s4 s28 x3 s26 s27 s28 s1 (s1.length : Int)) (0,0,o6)).bind fun x7 =>
  match x7 with
  | (x8,x9) =>
  (idx x9 (w64 (s28 + (s1.length : Int)))).bind fun x14 =>
  some (.inl (w64 (s28 + 1),x9.set (w64 (s28 + (s1.length : Int))).toNat (IntKind.u32.wrap x8)))
 else
 some (.inr (s28,o6))
noncomputable def qjt9 (a0 : List Int) (a1 : List Int) : Option ((List Int) × Int) :=
 (qdx9 a0).bind fun x1 =>
 if x1 = true then
  (qdx9 a1).bind fun x2 =>
  if x2 = true then
   if 0≤(w64 ((a0.length : Int) + (a1.length : Int))) then
   if 4 * (w64 ((a0.length : Int) + (a1.length : Int)))≤140737488355328 then
   (wh (qfD9 a0 a1 ([] : List Int) a0 (a0.length : Int)) (0,List.replicate (w64 ((a0.length : Int) + (a1.length : Int))).toNat (0 : Int))).bind fun x15 =>
   match x15 with
   | (x16,x17) =>
   (qhU9 x17).bind fun x18 =>
   some (x18.1,x18.2)
   else none
   else none
  else
  some (([] : List Int),10)
 else
 some (([] : List Int),10)

noncomputable def qdX9 (s0 : Mono) (s1 : Mono) (s6 : List Int) (s7 : Int) (s32 : List Int) (s33 : Int) (b2_0 : List Int) (b2_1 : List Int) (b3_0 : List Int) (b3_1 : List Int) (b4_0 : List Int) (b4_1 : List Int) : Int × (List Int)→Option ((Int × (List Int)) ⊕ (Int × (List Int))):=fun (s34,o8) =>
 if s34 < s33 then
  (idx s32 s34).bind fun x7 =>
  (idx o8 s34).bind fun x8 =>
  some (.inl (w64 (s34 + 1),o8.set (s34).toNat (w64 (x8 + x7))))
 else
 some (.inr (s34,o8))
noncomputable def qib9 (a0 : Mono) (a1 : Mono) : Option (Mono × Bool) :=
 (qjt9 a0.Coef a1.Coef).bind fun x1 =>
 if (a0.Exps.length : Int) < (a1.Exps.length : Int) then
  if a1.Exps.length * 8≤140737488355328 then
  (wh (qdX9 a0 a1 x1.1 x1.2 a0.Exps (a0.Exps.length : Int) a1.Coef a1.Exps a0.Coef a0.Exps ([] : List Int) ([] : List Int)) (0,a1.Exps)).bind fun x4 =>
  match x4 with
  | (x5,x6) =>
  some ((Mono.mk x1.1 x6),decide (x1.2 = 0))
  else none
 else
 if a0.Exps.length * 8≤140737488355328 then
 (wh (qdX9 a0 a1 x1.1 x1.2 a1.Exps (a1.Exps.length : Int) a0.Coef a0.Exps a1.Coef a1.Exps ([] : List Int) ([] : List Int)) (0,a0.Exps)).bind fun x9 =>
 match x9 with
 | (x10,x11) =>
 some ((Mono.mk x1.1 x11),decide (x1.2 = 0))
 else none
noncomputable def qey9 (s0 : List Mono) (s1 : List Mono) (s4 : List Mono) (s6 : Int) (s22 : List Mono) (s23 : Int) (s24 : Int) (s28 : List Mono) (s29 : Int) (b9_0 : List Int) (b9_1 : List Int) : Int × (List (ByteArray × Mono))→Option ((Int × (List (ByteArray × Mono))) ⊕ (((List Mono) × Int) ⊕ ((List (ByteArray × Mono))))):=fun (s30,m7) =>
 if s30 < s29 then
  (idx s28 s30).bind fun x3 =>
  (qib9 (Mono.mk b9_0 b9_1) x3).bind fun x4 =>
  if x4.2 = true then
   (qgg9 x4.1.Coef x4.1.Exps m7).bind fun x5 =>
   if x5.1 = true then
    some (.inl (w64 (s30 + 1),x5.2))
   else
   some (.inr (.inl (([] : List Mono),2)))
  else
  some (.inr (.inl (([] : List Mono),2)))
 else
 some (.inr (.inr m7))
noncomputable def qfk9 (s0 : List Mono) (s1 : List Mono) (s4 : List Mono) (s6 : Int) (s22 : List Mono) (s23 : Int) : Int × (List (ByteArray × Mono))→Option ((Int × (List (ByteArray × Mono))) ⊕ (((List Mono) × Int) ⊕ (Int × (List (ByteArray × Mono))))):=fun (s24,m7) =>
 if s24 < s23 then
  (idx s22 s24).bind fun x2 =>
  (wh (qey9 s0 s1 s4 s6 s22 s23 s24 s1 (s1.length : Int) x2.Coef x2.Exps) (0,m7)).bind fun x7 =>
  match x7 with
  | .inl x8 =>
   some (.inr (.inl x8))
  | .inr x9 =>
   some (.inl (w64 (s24 + 1),x9))
 else
 some (.inr (.inr (s24,m7)))
noncomputable def qgk9 (a0 : List Mono) (a1 : List Mono) : Option ((List Mono) × Int) :=
 (qcT9 ([a0,a1] : List (List Mono))).bind fun x1 =>
 if x1 = 0 then
  (wh (qfk9 a0 a1 ([] : List Mono) x1 a0 (a0.length : Int)) (0,([] : List (ByteArray × Mono)))).bind fun x15 =>
  match x15 with
  | .inl x16 =>
   some x16
  | .inr (x17,x18) =>
   (toldP x18).bind fun x20 =>
   some (x20,0)
 else
 some (([] : List Mono),x1)
noncomputable def qgC9 (a0 : Int) (a1 : List (List Mono)) : Option Bool :=
 (idx a1 a0).bind fun x1 =>
 some (decide ((x1.length : Int) = 0))
noncomputable def qbU9 (s0 : Mono) (s1_0 : List (List Mono)) (s8 : List Int) (s9 : Int) (b2_0 : List Int) (b2_1 : List Int) : Int→Option (Int ⊕ (Bool ⊕ Int)):=fun s10 =>
 if s10 < s9 then
  (idx s8 s10).bind fun x1 =>
  if 0 < x1 then
   (qgC9 s10 s1_0).bind fun x2 =>
   if x2 = true then
    some (.inr (.inl true))
   else
   some (.inl (w64 (s10 + 1)))
  else
  some (.inl (w64 (s10 + 1)))
 else
 some (.inr (.inr s10))
noncomputable def qcm9 (a0 : Mono) (a1_0 : List (List Mono)) : Option Bool :=
 (wh (qbU9 a0 a1_0 a0.Exps (a0.Exps.length : Int) a0.Coef a0.Exps) 0).bind fun x3 =>
 match x3 with
 | .inl x4 =>
  some x4
 | .inr x5 =>
  some false
noncomputable def qdi9 (s0 : List Mono) (s1 : List (List Mono)) (s4 : List Mono) (s6 : Int) (s7 : Int) (s8 : List Mono) (s13 : Int) (s14 : Int) (s31 : List Mono) (s32 : Int) (s33 : Int) (s45 : List Int) (s46 : Int) (s47 : Int) (s52 : Int) (b3_0 : List (List Mono)) (b10_0 : List Int) (b10_1 : List Int) : (List Mono) × Int × Int→Option (((List Mono) × Int × Int) ⊕ (((List Mono) × Int) ⊕ ((List Mono) × Int))):=fun (s11,s12,s53) =>
 if s53 < s52 then
  (idx b3_0 s13).bind fun x7 =>
  (qgk9 s11 x7).bind fun x8 =>
  if x8.2 = 0 then
   some (.inl (x8.1,x8.2,w64 (s53 + 1)))
  else
  some (.inr (.inl (([] : List Mono),x8.2)))
 else
 some (.inr (.inr (s11,s12)))
noncomputable def qdh9 (s0 : List Mono) (s1 : List (List Mono)) (s4 : List Mono) (s6 : Int) (s7 : Int) (s8 : List Mono) (s31 : List Mono) (s32 : Int) (s33 : Int) (s45 : List Int) (s46 : Int) (b3_0 : List (List Mono)) (b10_0 : List Int) (b10_1 : List Int) : (List Mono) × Int × Int→Option (((List Mono) × Int × Int) ⊕ (((List Mono) × Int) ⊕ ((List Mono) × Int))):=fun (s11,s12,s47) =>
 if s47 < s46 then
  (idx s45 s47).bind fun x6 =>
  (wh (qdi9 s0 s1 s4 s6 s7 s8 s47 x6 s31 s32 s33 s45 s46 s47 x6 b3_0 b10_0 b10_1) (s11,s12,0)).bind fun x9 =>
  match x9 with
  | .inl x10 =>
   some (.inr (.inl x10))
  | .inr (x11,x12) =>
   some (.inl (x11,x12,w64 (s47 + 1)))
 else
 some (.inr (.inr (s11,s12)))
noncomputable def qcK9 (s0 : List Mono) (s1 : List (List Mono)) (s4 : List Mono) (s6 : Int) (s7 : Int) (s31 : List Mono) (s32 : Int) (b3_0 : List (List Mono)) : (List Mono) × Int→Option (((List Mono) × Int) ⊕ (((List Mono) × Int) ⊕ ((List Mono) × Int))):=fun (s8,s33) =>
 if s33 < s32 then
  (idx s31 s33).bind fun x4 =>
  (qcm9 x4 b3_0).bind fun x5 =>
  if x5 = true then
   some (.inl (s8,w64 (s33 + 1)))
  else
  (wh (qdh9 s0 s1 s4 s6 s7 s8 s31 s32 s33 x4.Exps (x4.Exps.length : Int) b3_0 x4.Coef x4.Exps) (([(Mono.mk x4.Coef ([] : List Int))] : List Mono),0,0)).bind fun x17 =>
  match x17 with
  | .inl x18 =>
   some (.inr (.inl x18))
  | .inr (x19,x20) =>
   (qcE9 s8 x19).bind fun x25 =>
   if x25.2 = 0 then
    some (.inl (x25.1,w64 (s33 + 1)))
   else
   some (.inr (.inl (([] : List Mono),x25.2)))
 else
 some (.inr (.inr (s8,s33)))
noncomputable def qcr9 (a0 : List Mono) (a1 : List (List Mono)) : Option ((List Mono) × Int) :=
 (qcT9 ([a0] : List (List Mono))).bind fun x1 =>
 if x1 = 0 then
  (qcT9 a1).bind fun x2 =>
  if x2 = 0 then
   (qbO9 a0 (a1.length : Int)).bind fun x3 =>
   if x3 = 0 then
    (wh (qcK9 a0 a1 ([] : List Mono) x1 x2 a0 (a0.length : Int) a1) (([] : List Mono),0)).bind fun x26 =>
    match x26 with
    | .inl x27 =>
     some x27
    | .inr (x28,x29) =>
     some (x28,0)
   else
   some (([] : List Mono),21)
  else
  some (([] : List Mono),x2)
 else
 some (([] : List Mono),x1)
noncomputable def qhG9 (a0 : List Int) : Option Bool :=
 (qdx9 a0).bind fun x1 =>
 some (!x1)
noncomputable def qS9 (s0 : List (List Int)) (s7 : Int) : Int→Option (Int ⊕ (Int ⊕ Int)):=fun s8 =>
 if s8 < s7 then
  (idx s0 s8).bind fun x1 =>
  (qhG9 x1).bind fun x2 =>
  if x2 = true then
   some (.inr (.inl s8))
  else
  some (.inl (w64 (s8 + 1)))
 else
 some (.inr (.inr s8))
noncomputable def qbF9 (a0 : List (List Int)) : Option Int :=
 (wh (qS9 a0 (a0.length : Int)) 0).bind fun x3 =>
 match x3 with
 | .inl x4 =>
  some x4
 | .inr x5 =>
  some (-1)
noncomputable def qT9 (a0 : List (List Int)) : Option Bool :=
 (qbF9 a0).bind fun x1 =>
 some (decide (0≤x1))
noncomputable def qhE9 (a0 : Int) (a1 : List (List Int)) : Option Bool :=
 (idx a1 a0).bind fun x1 =>
 some (decide ((x1.length : Int) = 0))
noncomputable def qcj9 (s0 : Mono) (s1_0 : List (List Int)) (s8 : List Int) (s9 : Int) (b2_0 : List Int) (b2_1 : List Int) : Int→Option (Int ⊕ (Bool ⊕ Int)):=fun s10 =>
 if s10 < s9 then
  (idx s8 s10).bind fun x1 =>
  if 0 < x1 then
   (qhE9 s10 s1_0).bind fun x2 =>
   if x2 = true then
    some (.inr (.inl true))
   else
   some (.inl (w64 (s10 + 1)))
  else
  some (.inl (w64 (s10 + 1)))
 else
 some (.inr (.inr s10))
noncomputable def qcz9 (a0 : Mono) (a1_0 : List (List Int)) : Option Bool :=
 (wh (qcj9 a0 a1_0 a0.Exps (a0.Exps.length : Int) a0.Coef a0.Exps) 0).bind fun x3 =>
 match x3 with
 | .inl x4 =>
  some x4
 | .inr x5 =>
  some false

noncomputable def qdY9 (s0 : List Mono) (s1 : List (List Int)) (s4 : List Int) (s6 : Int) (s7 : List Int) (s12 : Int) (s13 : Int) (s27 : List Mono) (s28 : Int) (s29 : Int) (s39 : List Int) (s40 : Int) (s41 : Int) (s46 : Int) (b3_0 : List (List Int)) (b9_0 : List Int) (b9_1 : List Int) : (List Int) × Int × Int→Option (((List Int) × Int × Int) ⊕ (((List Int) × Int) ⊕ ((List Int) × Int))):=fun (s10,s11,s47) =>
 if s47 < s46 then
  (idx b3_0 s12).bind fun x7 =>
  if 64 < (x7.length : Int) then
   some (.inr (.inl (([] : List Int),2)))
  else
  (qjt9 s10 x7).bind fun x8 =>
  if x8.2 = 0 then
   if 64 < (x8.1.length : Int) then
    some (.inr (.inl (([] : List Int),2)))
   else
   some (.inl (x8.1,x8.2,w64 (s47 + 1)))
  else
  some (.inr (.inl (([] : List Int),2)))
 else
 some (.inr (.inr (s10,s11)))
noncomputable def qdW9 (s0 : List Mono) (s1 : List (List Int)) (s4 : List Int) (s6 : Int) (s7 : List Int) (s27 : List Mono) (s28 : Int) (s29 : Int) (s39 : List Int) (s40 : Int) (b3_0 : List (List Int)) (b9_0 : List Int) (b9_1 : List Int) : (List Int) × Int × Int→Option (((List Int) × Int × Int) ⊕ (((List Int) × Int) ⊕ ((List Int) × Int))):=fun (s10,s11,s41) =>
 if s41 < s40 then
  (idx s39 s41).bind fun x6 =>
  (wh (qdY9 s0 s1 s4 s6 s7 s41 x6 s27 s28 s29 s39 s40 s41 x6 b3_0 b9_0 b9_1) (s10,s11,0)).bind fun x9 =>
  match x9 with
  | .inl x10 =>
   some (.inr (.inl x10))
  | .inr (x11,x12) =>
   some (.inl (x11,x12,w64 (s41 + 1)))
 else
 some (.inr (.inr (s10,s11)))
noncomputable def qdb9 (s0 : List Mono) (s1 : List (List Int)) (s4 : List Int) (s6 : Int) (s27 : List Mono) (s28 : Int) (b3_0 : List (List Int)) : (List Int) × Int→Option (((List Int) × Int) ⊕ (((List Int) × Int) ⊕ ((List Int) × Int))):=fun (s7,s29) =>
 if s29 < s28 then
  (idx s27 s29).bind fun x4 =>
  (qcz9 x4 b3_0).bind fun x5 =>
  if x5 = true then
   some (.inl (s7,w64 (s29 + 1)))
  else
  (wh (qdW9 s0 s1 s4 s6 s7 s27 s28 s29 x4.Exps (x4.Exps.length : Int) b3_0 x4.Coef x4.Exps) (x4.Coef,0,0)).bind fun x17 =>
  match x17 with
  | .inl x18 =>
   some (.inr (.inl x18))
  | .inr (x19,x20) =>
   (qjr9 s7 x19).bind fun x25 =>
   if x25.2 = 0 then
    if 64 < (x25.1.length : Int) then
     some (.inr (.inl (([] : List Int),2)))
    else
    some (.inl (x25.1,w64 (s29 + 1)))
   else
   some (.inr (.inl (([] : List Int),2)))
 else
 some (.inr (.inr (s7,s29)))
noncomputable def qgo9 (a0 : List Mono) (a1 : List (List Int)) : Option ((List Int) × Int) :=
 (qcT9 ([a0] : List (List Mono))).bind fun x1 =>
 if x1 = 0 then
  (qbO9 a0 (a1.length : Int)).bind fun x2 =>
  if x2 = 0 then
   (qT9 a1).bind fun x3 =>
   if x3 = true then
    some (([] : List Int),10)
   else
   (wh (qdb9 a0 a1 ([] : List Int) x1 a0 (a0.length : Int) a1) (([] : List Int),0)).bind fun x26 =>
   match x26 with
   | .inl x27 =>
    some x27
   | .inr (x28,x29) =>
    if x28.length * 4≤140737488355328 then
    some (x28,0)
    else none
  else
  some (([] : List Int),21)
 else
 some (([] : List Int),x1)
noncomputable def qej9 (s0 : List Int) (s1 : List Int) : Int→Option (Int ⊕ (Bool ⊕ Int)):=fun s5 =>
 if s5 < (s0.length : Int) then
  (idx s0 s5).bind fun x1 =>
  (idx s1 s5).bind fun x2 =>
  if x1 = x2 then
   some (.inl (w64 (s5 + 1)))
  else
  some (.inr (.inl false))
 else
 some (.inr (.inr s5))
noncomputable def qfX9 (a0 : List Int) (a1 : List Int) : Option Bool :=
 if (a0.length : Int) = (a1.length : Int) then
  (wh (qej9 a0 a1) 0).bind fun x3 =>
  match x3 with
  | .inl x4 =>
   some x4
  | .inr x5 =>
   some true
 else
 some false
noncomputable def qeB9 (s0 : List Mono) (s1 : List Mono) (s5 : Int) : Int→Option (Int ⊕ (Bool ⊕ Unit)):=fun s6 =>
 (idx s0 s5).bind fun x4 =>
 if s6 < (x4.Exps.length : Int) then
  (idx x4.Exps s6).bind fun x5 =>
  (idx s1 s5).bind fun x6 =>
  (idx x6.Exps s6).bind fun x7 =>
  if x5 = x7 then
   some (.inl (w64 (s6 + 1)))
  else
  some (.inr (.inl false))
 else
 some (.inr (.inr ()))
noncomputable def qdA9 (s0 : List Mono) (s1 : List Mono) : Int→Option (Int ⊕ (Bool ⊕ Int)):=fun s5 =>
 if s5 < (s0.length : Int) then
  (idx s0 s5).bind fun x1 =>
  (idx s1 s5).bind fun x2 =>
  (qfX9 x1.Coef x2.Coef).bind fun x3 =>
  if x3 = true then
   if (x1.Exps.length : Int) = (x2.Exps.length : Int) then
    (wh (qeB9 s0 s1 s5) 0).bind fun x8 =>
    match x8 with
    | .inl x9 =>
     some (.inr (.inl x9))
    | .inr () =>
     some (.inl (w64 (s5 + 1)))
   else
   some (.inr (.inl false))
  else
  some (.inr (.inl false))
 else
 some (.inr (.inr s5))
noncomputable def qfs9 (a0 : List Mono) (a1 : List Mono) : Option Bool :=
 if (a0.length : Int) = (a1.length : Int) then
  (wh (qdA9 a0 a1) 0).bind fun x11 =>
  match x11 with
  | .inl x12 =>
   some x12
  | .inr x13 =>
   some true
 else
 some false
noncomputable def qgb9 (a0 : Mono) (a1 : List Int) : Option Int :=
 (qds9 a0.Exps a1).bind fun x1 =>
 some x1
noncomputable def qk9 (s0 : List Mono) (s1 : List Int) (s8 : Int) : Int × Int→Option ((Int × Int) ⊕ (Int × Int)):=fun (s9,s10) =>
 if s9 < s10 then
  (shrV .u64 (IntKind.u64.wrap (w64 (s9 + s10))) 1).bind fun x1 =>
  (idx s0 (w64 x1)).bind fun x2 =>
  (qgb9 x2 s1).bind fun x3 =>
  if x3 < 0 then
   some (.inl (w64 ((w64 x1) + 1),s10))
  else
  some (.inl (s9,w64 x1))
 else
 some (.inr (s9,s10))
noncomputable def qbc9 (a0 : List Mono) (a1 : List Int) : Option (Int × Bool) :=
 (wh (qk9 a0 a1 (a0.length : Int)) (0,(a0.length : Int))).bind fun x4 =>
 match x4 with
 | (x5,x6) =>
 if x5 < (a0.length : Int) then
  (idx a0 x5).bind fun x7 =>
  (qgb9 x7 a1).bind fun x8 =>
  some (x5,decide (x8 = 0))
 else
 some (x5,false)
noncomputable def qgH9 (a0 : List Mono) (a1 : List Int) : Option ((List Int)) :=
 (qbc9 a0 a1).bind fun x1 =>
 if x1.2 = true then
  (idx a0 x1.1).bind fun x2 =>
  some x2.Coef
 else
 some ([] : List Int)
noncomputable def qgx9 (a0 : Int) : Option Bool :=
 some (!decide (a0 = a0))
noncomputable def qfR9 (a0 : Int) (a1 : Int) : Option Int :=
 (qgx9 a0).bind fun x1 =>
 (qgx9 a1).bind fun x2 =>
 if x1 = true then
  if x2 = true then
   some 0
  else
  some (-1)
 else
 if x2 = true then
  some 1
 else
 if a0 < a1 then
  some (-1)
 else
 if a1 < a0 then
  some 1
 else
 some 0
noncomputable def qfy9 (a0 : Int) : Option Bool :=
 some (!decide (a0 = a0))
noncomputable def qeQ9 (a0 : Int) (a1 : Int) : Option Int :=
 (qfy9 a0).bind fun x1 =>
 (qfy9 a1).bind fun x2 =>
 if x1 = true then
  if x2 = true then
   some 0
  else
  some (-1)
 else
 if x2 = true then
  some 1
 else
 if a0 < a1 then
  some (-1)
 else
 if a1 < a0 then
  some 1
 else
 some 0
noncomputable def qfP9 (s0 : List Int) (s1 : List Int) (s6 : Int) : Int→Option (Int ⊕ ((Int × Int) ⊕ Int)):=fun s7 =>
 if 0≤s7 then
  (idx s0 s7).bind fun x4 =>
  (idx s1 s7).bind fun x5 =>
  (qeQ9 x4 x5).bind fun x6 =>
  if x6 = 0 then
   some (.inl (w64 (s7 - 1)))
  else
  some (.inr (.inl (x6,0)))
 else
 some (.inr (.inr s7))
noncomputable def qjo9 (a0 : List Int) (a1 : List Int) : Option (Int × Int) :=
 (qdx9 a0).bind fun x1 =>
 if x1 = true then
  (qdx9 a1).bind fun x2 =>
  if x2 = true then
   (qfR9 (a0.length : Int) (a1.length : Int)).bind fun x3 =>
   if x3 = 0 then
    (wh (qfP9 a0 a1 x3) (w64 ((a0.length : Int) - 1))).bind fun x7 =>
    match x7 with
    | .inl x8 =>
     some x8
    | .inr x9 =>
     some (0,0)
   else
   some (x3,0)
  else
  some (0,10)
 else
 some (0,10)
noncomputable def qgE9 (a0 : Mono) (a1 : List Mono) : Option Bool :=
 (qgH9 a1 a0.Exps).bind fun x1 =>
 (qjo9 x1 a0.Coef).bind fun x2 =>
 some (decide (x2.1 < 0))
noncomputable def qQ9 (s0 : List Mono) (s1_0 : List Mono) (s7 : Int) : Int→Option (Int ⊕ (Int ⊕ Int)):=fun s8 =>
 if s8 < s7 then
  (idx s0 s8).bind fun x1 =>
  (qgE9 x1 s1_0).bind fun x2 =>
  if x2 = true then
   some (.inr (.inl s8))
  else
  some (.inl (w64 (s8 + 1)))
 else
 some (.inr (.inr s8))
noncomputable def qbx9 (a0 : List Mono) (a1_0 : List Mono) : Option Int :=
 (wh (qQ9 a0 a1_0 (a0.length : Int)) 0).bind fun x3 =>
 match x3 with
 | .inl x4 =>
  some x4
 | .inr x5 =>
  some (-1)
noncomputable def qO9 (a0 : List Mono) (a1_0 : List Mono) : Option Bool :=
 (qbx9 a0 a1_0).bind fun x1 =>
 some (decide (0≤x1))
noncomputable def qdE9 (a0 : List Mono) (a1 : List Mono) : Option Bool :=
 (qcT9 ([a0,a1] : List (List Mono))).bind fun x1 =>
 if x1 = 0 then
  (qO9 a1 a0).bind fun x2 =>
  some (!x2)
 else
 some false
noncomputable def qeK9 (a0 : List Mono) (a1 : List Mono) : Option Bool :=
 (qdE9 a0 a1).bind fun x1 =>
 if x1 = true then
  (qgH9 a0 ([] : List Int)).bind fun x2 =>
  (qgH9 a1 ([] : List Int)).bind fun x3 =>
  (qjo9 x2 x3).bind fun x4 =>
  some (decide (0 < x4.1))
 else
 some false
noncomputable def qiR9  : Option Bool :=
 (qpw9).bind fun x1 =>
 (qlY9).bind fun x2 =>
 (qcE9 x1 x2).bind fun x3 =>
 (qpx9).bind fun x4 =>
 (qcE9 x4 x2).bind fun x5 =>
 (qgk9 x3.1 x5.1).bind fun x6 =>
 (qcr9 ([(Mono.mk ([3] : List Int) ([] : List Int)),(Mono.mk ([2] : List Int) ([1,1] : List Int))] : List Mono) ([x3.1,x1] : List (List Mono))).bind fun x7 =>
 (qgo9 ([(Mono.mk ([3] : List Int) ([] : List Int)),(Mono.mk ([2] : List Int) ([1,1] : List Int))] : List Mono) ([([5] : List Int),([7] : List Int)] : List (List Int))).bind fun x8 =>
 (qcr9 ([(Mono.mk ([1] : List Int) ([2] : List Int))] : List Mono) ([([(Mono.mk ([1] : List Int) ([40] : List Int))] : List Mono)] : List (List Mono))).bind fun x9 =>
 (qcr9 ([(Mono.mk ([1] : List Int) ([2,1] : List Int))] : List Mono) ([([(Mono.mk ([1] : List Int) ([40] : List Int))] : List Mono),([] : List Mono)] : List (List Mono))).bind fun x10 =>
 if x3.2 = 0 then
  if x5.2 = 0 then
   if x6.2 = 0 then
    if x7.2 = 0 then
     if x8.2 = 0 then
      if x9.2 = 2 then
       if x10.2 = 0 then
        if (x10.1.length : Int) = 0 then
         (qfs9 x6.1 ([(Mono.mk ([1] : List Int) ([] : List Int)),(Mono.mk ([1] : List Int) ([0,1] : List Int)),(Mono.mk ([1] : List Int) ([1] : List Int)),(Mono.mk ([1] : List Int) ([1,1] : List Int))] : List Mono)).bind fun x11 =>
         if x11 = true then
          (qfs9 x7.1 ([(Mono.mk ([3] : List Int) ([] : List Int)),(Mono.mk ([2] : List Int) ([1] : List Int)),(Mono.mk ([2] : List Int) ([2] : List Int))] : List Mono)).bind fun x12 =>
          if x12 = true then
           (qfX9 x8.1 ([73] : List Int)).bind fun x13 =>
           if x13 = true then
            (qbO9 ([(Mono.mk ([3] : List Int) ([] : List Int)),(Mono.mk ([2] : List Int) ([1,1] : List Int))] : List Mono) 2).bind fun x14 =>
            if x14 = 0 then
             (qbO9 ([(Mono.mk ([3] : List Int) ([] : List Int)),(Mono.mk ([2] : List Int) ([1,1] : List Int))] : List Mono) 1).bind fun x15 =>
             if x15 = 20 then
              (qbO9 ([(Mono.mk ([3] : List Int) ([] : List Int)),(Mono.mk ([2] : List Int) ([1,1] : List Int))] : List Mono) (-1)).bind fun x16 =>
              if x16 = 1 then
               (qeK9 ([(Mono.mk ([3] : List Int) ([] : List Int)),(Mono.mk ([2] : List Int) ([1,1] : List Int))] : List Mono) ([(Mono.mk ([1] : List Int) ([1,1] : List Int))] : List Mono)).bind fun x17 =>
               if x17 = true then
                (qdE9 x1 x4).bind fun x18 =>
                some (!x18)
               else
               some false
              else
              some false
             else
             some false
            else
            some false
           else
           some false
          else
          some false
         else
         some false
        else
        some false
       else
       some false
      else
      some false
     else
     some false
    else
    some false
   else
   some false
  else
  some false
 else
 some false
noncomputable def qfK9 (a0 : List Int) : Option Bool :=
 if (a0.length : Int)≤64 then
  if (a0.length : Int) = 0 then
   some true
  else
  (idx a0 (w64 ((a0.length : Int) - 1))).bind fun x1 =>
  some (!decide (x1 = 0))
 else
 some false
noncomputable def qfU9 (s0 : Mono) (b1_0 : List Int) (b1_1 : List Int) : Int→Option (Int ⊕ (Bool ⊕ Int)):=fun s3 =>
 if s3 < (b1_1.length : Int) then
  (idx b1_1 s3).bind fun x2 =>
  if x2 < 0 then
   some (.inr (.inl false))
  else
  some (.inl (w64 (s3 + 1)))
 else
 some (.inr (.inr s3))
noncomputable def qjD9 (a0 : Mono) : Option Bool :=
 (qfK9 a0.Coef).bind fun x1 =>
 if x1 = true then
  if (a0.Coef.length : Int) = 0 then
   some false
  else
  (wh (qfU9 a0 a0.Coef a0.Exps) 0).bind fun x3 =>
  match x3 with
  | .inl x4 =>
   some x4
  | .inr x5 =>
   if (a0.Exps.length : Int) = 0 then
    some true
   else
   (idx a0.Exps (w64 ((a0.Exps.length : Int) - 1))).bind fun x6 =>
   some (!decide (x6 = 0))
 else
 some false
noncomputable def qhR9 (a0 : List Int) (a1 : Int) : Option Int :=
 if a1 < (a0.length : Int) then
  (idx a0 a1).bind fun x1 =>
  some x1
 else
 some 0
noncomputable def qcZ9 (s0 : List Int) (s1 : List Int) : Int→Option (Int ⊕ (Int ⊕ Int)):=fun s5 =>
 if s5 < (s0.length : Int) then
  (qhR9 s0 s5).bind fun x1 =>
  (qhR9 s1 s5).bind fun x2 =>
  if x1 < x2 then
   some (.inr (.inl (-1)))
  else
  if x2 < x1 then
   some (.inr (.inl 1))
  else
  some (.inl (w64 (s5 + 1)))
 else
 if s5 < (s1.length : Int) then
  (qhR9 s0 s5).bind fun x3 =>
  (qhR9 s1 s5).bind fun x4 =>
  if x3 < x4 then
   some (.inr (.inl (-1)))
  else
  if x4 < x3 then
   some (.inr (.inl 1))
  else
  some (.inl (w64 (s5 + 1)))
 else
 some (.inr (.inr s5))
noncomputable def qeO9 (a0 : List Int) (a1 : List Int) : Option Int :=
 (wh (qcZ9 a0 a1) 0).bind fun x5 =>
 match x5 with
 | .inl x6 =>
  some x6
 | .inr x7 =>
  some 0
noncomputable def qfu9 (s0 : Mono) (b1_0 : List Int) (b1_1 : List Int) : Int→Option (Int ⊕ (Bool ⊕ Int)):=fun s3 =>
 if s3 < (b1_1.length : Int) then
  (idx b1_1 s3).bind fun x1 =>
  if 64 < x1 then
   some (.inr (.inl false))
  else
  some (.inl (w64 (s3 + 1)))
 else
 some (.inr (.inr s3))
noncomputable def qhX9 (a0 : Mono) : Option Bool :=
 (wh (qfu9 a0 a0.Coef a0.Exps) 0).bind fun x2 =>
 match x2 with
 | .inl x3 =>
  some x3
 | .inr x4 =>
  if (a0.Coef.length : Int)≤64 then
   some (decide ((a0.Exps.length : Int)≤512))
  else
  some false
noncomputable def qeL9 (s0 : List Mono) (s1 : Int) (s5 : Int) : Int→Option (Int ⊕ (Int ⊕ Int)):=fun s6 =>
 if s6 < (s0.length : Int) then
  (idx s0 s6).bind fun x8 =>
  (qhX9 x8).bind fun x9 =>
  if x9 = true then
   some (.inl (w64 (s6 + 1)))
  else
  some (.inr (.inl 2))
 else
 some (.inr (.inr s6))
noncomputable def qfp9 (s0 : List Mono) (s1 : Int) : Int→Option (Int ⊕ (Int ⊕ Int)):=fun s5 =>
 if s5 < (s0.length : Int) then
  (idx s0 s5).bind fun x1 =>
  (qjD9 x1).bind fun x2 =>
  if x2 = true then
   if s1 < (x1.Exps.length : Int) then
    some (.inr (.inl 20))
   else
   if 0 < s5 then
    (idx s0 (w64 (s5 - 1))).bind fun x3 =>
    (qeO9 x3.Exps x1.Exps).bind fun x4 =>
    if 0≤x4 then
     some (.inr (.inl 20))
    else
    some (.inl (w64 (s5 + 1)))
   else
   some (.inl (w64 (s5 + 1)))
  else
  some (.inr (.inl 20))
 else
 some (.inr (.inr s5))
noncomputable def qfM9 (a0 : List Mono) (a1 : Int) : Option Int :=
 if a1 < 0 then
  some 1
 else
 (wh (qfp9 a0 a1) 0).bind fun x5 =>
 match x5 with
 | .inl x6 =>
  some x6
 | .inr x7 =>
  (wh (qeL9 a0 a1 x7) 0).bind fun x10 =>
  match x10 with
  | .inl x11 =>
   some x11
  | .inr x12 =>
   if 256 < (a0.length : Int) then
    some 2
   else
   some 0
noncomputable def qfY9 (s2 : List Int) : (List Int)→Option (((List Int)) ⊕ ((List Int))):=fun s0 =>
 if 0 < (s0.length : Int) then
  (idx s0 (w64 ((s0.length : Int) - 1))).bind fun x1 =>
  if x1 = 0 then
   (cutL s0 0 (w64 ((s0.length : Int) - 1))).bind fun x2 =>
   some (.inl x2)
  else
  some (.inr s0)
 else
 some (.inr s0)
noncomputable def qkL9 (a0 : List Int) : Option ((List Int)) :=
 (wh (qfY9 ([] : List Int)) a0).bind fun x4 =>
 some x4
noncomputable def qjG9 (a0 : List Int) : Option ((List Int) × Int) :=
 (qkL9 a0).bind fun x1 =>
 if 64 < (x1.length : Int) then
  some (([] : List Int),2)
 else
 some (x1,0)
noncomputable def qfF9 (s0 : List Int) (s1 : List Int) (s4 : List Int) : Int × Int × (List Int)→Option ((Int × Int × (List Int)) ⊕ (Int × Int × (List Int))):=fun (s7,s8,o6) =>
 if s8 < (o6.length : Int) then
  if s8 < (s0.length : Int) then
   (idx s0 s8).bind fun x3 =>
   if s8 < (s1.length : Int) then
    (idx s1 s8).bind fun x4 =>
    (idx o6 s8).bind fun x5 =>
    (shrV .u64 (IntKind.u64.wrap ((IntKind.u64.wrap (s7 + (IntKind.u64.wrap x3))) + (IntKind.u64.wrap x4))) 32).bind fun x6 =>
    some (.inl (x6,w64 (s8 + 1),o6.set (s8).toNat (IntKind.u32.wrap (IntKind.u64.wrap ((IntKind.u64.wrap (s7 + (IntKind.u64.wrap x3))) + (IntKind.u64.wrap x4))))))
   else
   (idx o6 s8).bind fun x7 =>
   (shrV .u64 (IntKind.u64.wrap (s7 + (IntKind.u64.wrap x3))) 32).bind fun x8 =>
   some (.inl (x8,w64 (s8 + 1),o6.set (s8).toNat (IntKind.u32.wrap (IntKind.u64.wrap (s7 + (IntKind.u64.wrap x3))))))
  else
  if s8 < (s1.length : Int) then
   (idx s1 s8).bind fun x9 =>
   (idx o6 s8).bind fun x10 =>
   (shrV .u64 (IntKind.u64.wrap (s7 + (IntKind.u64.wrap x9))) 32).bind fun x11 =>
   some (.inl (x11,w64 (s8 + 1),o6.set (s8).toNat (IntKind.u32.wrap (IntKind.u64.wrap (s7 + (IntKind.u64.wrap x9))))))
  else
  (idx o6 s8).bind fun x12 =>
  (shrV .u64 s7 32).bind fun x13 =>
  some (.inl (x13,w64 (s8 + 1),o6.set (s8).toNat (IntKind.u32.wrap s7)))
 else
 some (.inr (s7,s8,o6))
noncomputable def qhS9 (a0 : List Int) (a1 : List Int) : Option ((List Int) × Int) :=
 (qfK9 a0).bind fun x1 =>
 if x1 = true then
  (qfK9 a1).bind fun x2 =>
  if x2 = true then
   if 0≤(w64 ((max (a0.length : Int) (a1.length : Int)) + 1)) then
   if 4 * (w64 ((max (a0.length : Int) (a1.length : Int)) + 1))≤140737488355328 then
   (wh (qfF9 a0 a1 ([] : List Int)) (0,0,List.replicate (w64 ((max (a0.length : Int) (a1.length : Int)) + 1)).toNat (0 : Int))).bind fun x14 =>
   match x14 with
   | (x15,x16,x17) =>
   (qjG9 x17).bind fun x18 =>
   some (x18.1,x18.2)
   else none
   else none
  else
  some (([] : List Int),10)
 else
 some (([] : List Int),10)
noncomputable def qbN9 (s0 : List Mono) (s1 : Mono) (s4 : List Mono) (b3_0 : List Int) (b3_1 : List Int) : Bool × Int × (List Mono)→Option ((Bool × Int × (List Mono)) ⊕ (((List Mono) × Bool) ⊕ (Bool × Int × (List Mono)))):=fun (s7,s8,o6) =>
 if s8 < (s0.length : Int) then
  (idx s0 s8).bind fun x2 =>
  (qeO9 b3_1 x2.Exps).bind fun x3 =>
  if x3 < 0 then
   if s7 = true then
    if x3 = 0 then
     (qhS9 x2.Coef b3_0).bind fun x4 =>
     if x4.2 = 0 then
      if 64 < (x4.1.length : Int) then
       some (.inr (.inl (([] : List Mono),false)))
      else
      if (o6.length + 1) * 48≤140737488355328 then
      some (.inl (true,w64 (s8 + 1),o6++[(Mono.mk x4.1 b3_1)]))
      else none
     else
     some (.inr (.inl (([] : List Mono),false)))
    else
    if (o6.length + 1) * 48≤140737488355328 then
    some (.inl (s7,w64 (s8 + 1),o6++[x2]))
    else none
   else
   if (o6.length + 1) * 48≤140737488355328 then
   if x3 = 0 then
    (qhS9 x2.Coef b3_0).bind fun x5 =>
    if x5.2 = 0 then
     if 64 < (x5.1.length : Int) then
      some (.inr (.inl (([] : List Mono),false)))
     else
     if ((o6++[(Mono.mk b3_0 b3_1)]).length + 1) * 48≤140737488355328 then
     some (.inl (true,w64 (s8 + 1),(o6++[(Mono.mk b3_0 b3_1)])++[(Mono.mk x5.1 b3_1)]))
     else none
    else
    some (.inr (.inl (([] : List Mono),false)))
   else
   if ((o6++[(Mono.mk b3_0 b3_1)]).length + 1) * 48≤140737488355328 then
   some (.inl (true,w64 (s8 + 1),(o6++[(Mono.mk b3_0 b3_1)])++[x2]))
   else none
   else none
  else
  if x3 = 0 then
   (qhS9 x2.Coef b3_0).bind fun x6 =>
   if x6.2 = 0 then
    if 64 < (x6.1.length : Int) then
     some (.inr (.inl (([] : List Mono),false)))
    else
    if (o6.length + 1) * 48≤140737488355328 then
    some (.inl (true,w64 (s8 + 1),o6++[(Mono.mk x6.1 b3_1)]))
    else none
   else
   some (.inr (.inl (([] : List Mono),false)))
  else
  if (o6.length + 1) * 48≤140737488355328 then
  some (.inl (s7,w64 (s8 + 1),o6++[x2]))
  else none
 else
 some (.inr (.inr (s7,s8,o6)))
noncomputable def qjA9 (a0 : List Mono) (a1 : Mono) : Option ((List Mono) × Bool) :=
 (qhX9 a1).bind fun x1 =>
 if x1 = true then
  (wh (qbN9 a0 a1 ([] : List Mono) a1.Coef a1.Exps) (false,0,([] : List Mono))).bind fun x7 =>
  match x7 with
  | .inl x8 =>
   some x8
  | .inr (x9,x10,x11) =>
   if x9 = true then
    some (x11,decide ((x11.length : Int)≤256))
   else
   if (x11.length + 1) * 48≤140737488355328 then
   some (x11++[a1],decide (((x11++[a1]).length : Int)≤256))
   else none
 else
 some (([] : List Mono),false)
noncomputable def qff9 (s0 : List Mono) (s1 : List Mono) (s4 : List Mono) (s6 : Int) : (List Mono) × Int→Option (((List Mono) × Int) ⊕ (((List Mono) × Int) ⊕ ((List Mono) × Int))):=fun (s7,s8) =>
 if s8 < (s1.length : Int) then
  (idx s1 s8).bind fun x3 =>
  (qjA9 s7 x3).bind fun x4 =>
  if x4.2 = true then
   some (.inl (x4.1,w64 (s8 + 1)))
  else
  some (.inr (.inl (([] : List Mono),2)))
 else
 some (.inr (.inr (s7,s8)))
noncomputable def qjs9 (a0 : List Mono) (a1 : List Mono) : Option ((List Mono) × Int) :=
 (qfM9 a0 4611686018427387904).bind fun x1 =>
 if x1 = 0 then
  (qfM9 a1 4611686018427387904).bind fun x2 =>
  if x2 = 0 then
   (wh (qff9 a0 a1 ([] : List Mono) x2) (a0,0)).bind fun x5 =>
   match x5 with
   | .inl x6 =>
    some x6
   | .inr (x7,x8) =>
    some (x7,0)
  else
  some (([] : List Mono),x2)
 else
 some (([] : List Mono),x1)
noncomputable def qfW9 (s0 : List Mono) (s1 : List Int) (s4 : List Int) : Int→Option (Int ⊕ (((List Int)) ⊕ Int)):=fun s5 =>
 if s5 < (s0.length : Int) then
  (idx s0 s5).bind fun x1 =>
  (qeO9 x1.Exps s1).bind fun x2 =>
  if x2 = 0 then
   some (.inr (.inl x1.Coef))
  else
  some (.inl (w64 (s5 + 1)))
 else
 some (.inr (.inr s5))
noncomputable def qgZ9 (a0 : List Mono) (a1 : List Int) : Option ((List Int)) :=
 (wh (qfW9 a0 a1 ([] : List Int)) 0).bind fun x3 =>
 match x3 with
 | .inl x4 =>
  some x4
 | .inr x5 =>
  some ([] : List Int)
noncomputable def qfI9 (s0 : List Int) (s1 : List Int) : Int→Option (Int ⊕ ((Int × Int) ⊕ Int)):=fun s6 =>
 if 0≤s6 then
  (idx s0 s6).bind fun x3 =>
  (idx s1 s6).bind fun x4 =>
  if x3 < x4 then
   some (.inr (.inl ((-1),0)))
  else
  if x4 < x3 then
   some (.inr (.inl (1,0)))
  else
  some (.inl (w64 (s6 - 1)))
 else
 some (.inr (.inr s6))
noncomputable def qgA9 (a0 : List Int) (a1 : List Int) : Option (Int × Int) :=
 (qfK9 a0).bind fun x1 =>
 if x1 = true then
  (qfK9 a1).bind fun x2 =>
  if x2 = true then
   if (a0.length : Int) = (a1.length : Int) then
    (wh (qfI9 a0 a1) (w64 ((a0.length : Int) - 1))).bind fun x5 =>
    match x5 with
    | .inl x6 =>
     some x6
    | .inr x7 =>
     some (0,0)
   else
   if (a0.length : Int) < (a1.length : Int) then
    some ((-1),0)
   else
   some (1,0)
  else
  some (0,10)
 else
 some (0,10)
noncomputable def qek9 (s0 : List Mono) (s1 : List Mono) : Int→Option (Int ⊕ (Bool ⊕ Int)):=fun s5 =>
 if s5 < (s1.length : Int) then
  (idx s1 s5).bind fun x3 =>
  (qgZ9 s0 x3.Exps).bind fun x4 =>
  (qgA9 x4 x3.Coef).bind fun x5 =>
  if x5.1 < 0 then
   some (.inr (.inl false))
  else
  some (.inl (w64 (s5 + 1)))
 else
 some (.inr (.inr s5))
noncomputable def qhs9 (a0 : List Mono) (a1 : List Mono) : Option Bool :=
 (qfM9 a0 4611686018427387904).bind fun x1 =>
 if x1 = 0 then
  (qfM9 a1 4611686018427387904).bind fun x2 =>
  if x2 = 0 then
   (wh (qek9 a0 a1) 0).bind fun x6 =>
   match x6 with
   | .inl x7 =>
    some x7
   | .inr x8 =>
    some true
  else
  some false
 else
 some false
noncomputable def qiO9 (a0 : List Mono) (a1 : List Mono) : Option Bool :=
 (qgZ9 a0 ([] : List Int)).bind fun x1 =>
 (qgZ9 a1 ([] : List Int)).bind fun x2 =>
 (qgA9 x1 x2).bind fun x3 =>
 (qhs9 a0 a1).bind fun x4 =>
 if x4 = true then
  some (decide (0 < x3.1))
 else
 some false
def CopOK (p : List Mono) : Prop:=p.length≤1048576∧∀ m∈p,m.Coef.length≤1048576∧m.Exps.length≤1048576
open Classical in
noncomputable def qks9 (p : List Mono) : Option (List Mono):=if CopOK p then some p else none

noncomputable def qAu9 (a0 : List Mono) (a1 : Int) : Option Bool :=
 (qiR9).bind fun x1 =>
 if x1 = true then
  (qks9 a0).bind fun x2 =>
  (qbO9 x2 a1).bind fun x3 =>
  (qfM9 a0 a1).bind fun x4 =>
  if x3 = x4 then
   (qfs9 x2 a0).bind fun x5 =>
   some x5
  else
  some false
 else
 some false
end Ld

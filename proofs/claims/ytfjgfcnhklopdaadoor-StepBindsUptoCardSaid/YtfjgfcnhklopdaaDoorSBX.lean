import Derived.Test.YtfjgfcnhklopdaaDoorSBP
set_option maxHeartbeats 400000
set_option linter.unusedVariables false
set_option linter.unusedSimpArgs false
namespace Ld
open Go Go.Abs
noncomputable def qfD9 (s0 : ByteArray) (t7 : ByteArray) : ByteArray × Nat → Option ((ByteArray × Nat) ⊕ (ByteArray × Nat)) := fun (s3, q7) =>
  if q7 < t7.size then
    if ((s3.size + (Utf8.encode ((Utf8.decode t7 q7).1 : Int)).size : Nat) : Int) ≤ 9223372036854775807 then
    some (.inl (s3 ++ (Utf8.encode ((Utf8.decode t7 q7).1 : Int)), q7 + (Utf8.decode t7 q7).2))
    else none
  else
  some (.inr (s3, q7))
noncomputable def qmV9 (a0 : ByteArray) : Option Bool :=
  (wh (qfD9 a0 a0) ({ data := #[] }, 0)).bind fun x1 =>
  match x1 with
  | (x2, x3) =>
  some (decide (x2 = a0))
noncomputable def qkq9 (a0 : Int) : Option Bool :=
  if 97 ≤ a0 then
    if a0 ≤ 122 then
      some true
    else
    if 65 ≤ a0 then
      if a0 ≤ 90 then
        some true
      else
      some (decide (128 ≤ a0))
    else
    some (decide (128 ≤ a0))
  else
  if 65 ≤ a0 then
    if a0 ≤ 90 then
      some true
    else
    some (decide (128 ≤ a0))
  else
  some (decide (128 ≤ a0))
noncomputable def qmM9 (a0 : Int) : Option Bool :=
  (qkq9 a0).bind fun x1 =>
  if x1 = true then
    some true
  else
  if 48 ≤ a0 then
    if a0 ≤ 57 then
      some true
    else
    if a0 = 95 then
      some true
    else
    some (decide (a0 = 39))
  else
  if a0 = 95 then
    some true
  else
  some (decide (a0 = 39))
noncomputable def qjK9 (s0 : ByteArray) (t18 : ByteArray) : Nat → Option (Nat ⊕ (Bool ⊕ Nat)) := fun q18 =>
  if q18 < t18.size then
    if (q18 : Int) = 0 then
      (qkq9 ((Utf8.decode t18 q18).1 : Int)).bind fun x2 =>
      if x2 = true then
        (qmM9 ((Utf8.decode t18 q18).1 : Int)).bind fun x3 =>
        if x3 = true then
          some (.inl (q18 + (Utf8.decode t18 q18).2))
        else
        some (.inr (.inl false))
      else
      some (.inr (.inl false))
    else
    (qmM9 ((Utf8.decode t18 q18).1 : Int)).bind fun x4 =>
    if x4 = true then
      some (.inl (q18 + (Utf8.decode t18 q18).2))
    else
    some (.inr (.inl false))
  else
  some (.inr (.inr q18))
noncomputable def qkz9 (a0 : ByteArray) : Option Bool :=
  if a0 = ({ data := #[] }) then
    some false
  else
  if 32 < (a0.size : Int) then
    some false
  else
  (qmV9 a0).bind fun x1 =>
  if x1 = true then
    (wh (qjK9 a0 a0) 0).bind fun x5 =>
    match x5 with
    | .inl x6 =>
      some x6
    | .inr x7 =>
      some true
  else
  some false
noncomputable def qiH9 (a0 : ByteArray) : Option Bool :=
  if 0 < (a0.size : Int) then
    (sidx a0 (w64 ((a0.size : Int) - 1))).bind fun x1 =>
    if x1 = 35 then
      (cutBA a0 0 (w64 ((a0.size : Int) - 1))).bind fun x2 =>
      (qkz9 x2).bind fun x3 =>
      some x3
    else
    some false
  else
  some false
noncomputable def qdZ9 (s0 : List Symbol) (s3 : Int) : Int → Option (Int ⊕ (Int ⊕ Unit)) := fun s4 =>
  if s4 < s3 then
    (idx s0 s4).bind fun x9 =>
    (idx s0 s3).bind fun x10 =>
    if x9.Name = x10.Name then
      some (.inr (.inl 36))
    else
    some (.inl (w64 (s4 + 1)))
  else
  some (.inr (.inr ()))
noncomputable def qdV9 (s0 : List Symbol) : Int → Option (Int ⊕ (Int ⊕ Int)) := fun s3 =>
  if s3 < (s0.length : Int) then
    (idx s0 s3).bind fun x1 =>
    (qkz9 x1.Name).bind fun x2 =>
    if x2 = true then
      if x1.Arity < 0 then
        some (.inr (.inl 35))
      else
      if 8 < x1.Arity then
        some (.inr (.inl 35))
      else
      (wh (qdZ9 s0 s3) 0).bind fun x5 =>
      match x5 with
      | .inl x6 =>
        some (.inr (.inl x6))
      | .inr () =>
        some (.inl (w64 (s3 + 1)))
    else
    (qiH9 x1.Name).bind fun x8 =>
    if x8 = true then
      if x1.Arity < 0 then
        some (.inr (.inl 35))
      else
      if 8 < x1.Arity then
        some (.inr (.inl 35))
      else
      (wh (qdZ9 s0 s3) 0).bind fun x11 =>
      match x11 with
      | .inl x12 =>
        some (.inr (.inl x12))
      | .inr () =>
        some (.inl (w64 (s3 + 1)))
    else
    some (.inr (.inl 34))
  else
  some (.inr (.inr s3))
noncomputable def qhg9 (a0 : List Symbol) : Option Int :=
  if 128 < (a0.length : Int) then
    some 37
  else
  (wh (qdV9 a0) 0).bind fun x14 =>
  match x14 with
  | .inl x15 =>
    some x15
  | .inr x16 =>
    some 0
noncomputable def qrE9 (s0 : List Symbol) (s1 : List Int) : Int × Int → Option ((Int × Int) ⊕ (Int ⊕ (Int × Int))) := fun (s5, s6) =>
  if 0 < s5 then
    if s6 = (s1.length : Int) then
      some (.inr (.inl 31))
    else
    (idx s1 s6).bind fun x1 =>
    if (s0.length : Int) ≤ x1 then
      some (.inr (.inl 30))
    else
    if x1 < (-1048576) then
      some (.inr (.inl 30))
    else
    if 0 ≤ x1 then
      (idx s0 x1).bind fun x2 =>
      if (w64 ((w64 (s5 - 1)) + x2.Arity)) = 0 then
        if (w64 (s6 + 1)) < (s1.length : Int) then
          some (.inr (.inl 32))
        else
        some (.inl (w64 ((w64 (s5 - 1)) + x2.Arity), w64 (s6 + 1)))
      else
      some (.inl (w64 ((w64 (s5 - 1)) + x2.Arity), w64 (s6 + 1)))
    else
    if (w64 (s5 - 1)) = 0 then
      if (w64 (s6 + 1)) < (s1.length : Int) then
        some (.inr (.inl 32))
      else
      some (.inl (w64 (s5 - 1), w64 (s6 + 1)))
    else
    some (.inl (w64 (s5 - 1), w64 (s6 + 1)))
  else
  some (.inr (.inr (s5, s6)))
noncomputable def qvG9 (a0 : List Symbol) (a1 : List Int) : Option Int :=
  (wh (qrE9 a0 a1) (1, 0)).bind fun x3 =>
  match x3 with
  | .inl x4 =>
    some x4
  | .inr (x5, x6) =>
    some 0
noncomputable def qzj9 (a0 : List Symbol) (a1 : List Int) : Option Int :=
  (qhg9 a0).bind fun x1 =>
  if x1 = 0 then
    (qvG9 a0 a1).bind fun x2 =>
    some x2
  else
  some x1
noncomputable def qtC9 (s0 : List Symbol) (s1 : List Int) : Int × Int → Option ((Int × Int) ⊕ (Int × Int)) := fun (s2, s7) =>
  if 0 < s7 then
    (idx s1 s2).bind fun x1 =>
    if 0 ≤ x1 then
      (idx s0 x1).bind fun x2 =>
      some (.inl (w64 (s2 + 1), w64 ((w64 (s7 - 1)) + x2.Arity)))
    else
    some (.inl (w64 (s2 + 1), w64 (s7 - 1)))
  else
  some (.inr (s2, s7))
noncomputable def qzl9 (a0 : List Symbol) (a1 : List Int) (a2 : Int) : Option Int :=
  (wh (qtC9 a0 a1) (a2, 1)).bind fun x3 =>
  match x3 with
  | (x4, x5) =>
  some x4
end Ld

import Derived.Test.YtfjgfcnhklopdaaDoorWKT
import Derived.Lib.ValidU
import Derived.Lib.BitFns
set_option maxHeartbeats 400000
set_option linter.unusedVariables false
set_option linter.unusedSimpArgs false
namespace Ld
open Go Go.Abs
set_option maxRecDepth 8000
noncomputable def qjA9  : Option System :=
  some (System.mk ([(Symbol.mk ({ data := #[122, 101, 114, 111] }) 0), (Symbol.mk ({ data := #[115] }) 1), (Symbol.mk ({ data := #[112, 108, 117, 115] }) 2)] : List Symbol) ([(Rule.mk ([2, 0, (-2)] : List Int) ([(-2)] : List Int)), (Rule.mk ([2, 1, (-1), (-2)] : List Int) ([1, 2, (-1), (-2)] : List Int))] : List Rule))
def qbg9 (s : ByteArray) : Option Bool := if s.size ≤ 9223372036854775807 then some (Go.Lib.validD s.data.toList) else none

noncomputable def qdT9 (a0 : Int) : Option Bool :=
  if 97 ≤ a0 then
    if a0 ≤ 122 then
      some true
    else
    if 65 ≤ a0 then
      if a0 ≤ 90 then
        some true
      else
      some (decide (128 ≤ a0))
    else
    some (decide (128 ≤ a0))
  else
  if 65 ≤ a0 then
    if a0 ≤ 90 then
      some true
    else
    some (decide (128 ≤ a0))
  else
  some (decide (128 ≤ a0))
noncomputable def qbe9 (s0 : ByteArray) (t18 : ByteArray) : Nat → Option (Nat ⊕ (Bool ⊕ Nat)) := fun q18 =>
  if q18 < t18.size then
    (qdT9 ((Utf8.decode t18 q18).1 : Int)).bind fun x2 =>
    if x2 = true then
      some (.inl (q18 + (Utf8.decode t18 q18).2))
    else
    if 0 < (q18 : Int) then
      if 48 ≤ ((Utf8.decode t18 q18).1 : Int) then
        if ((Utf8.decode t18 q18).1 : Int) ≤ 57 then
          some (.inl (q18 + (Utf8.decode t18 q18).2))
        else
        if ((Utf8.decode t18 q18).1 : Int) = 95 then
          some (.inl (q18 + (Utf8.decode t18 q18).2))
        else
        if ((Utf8.decode t18 q18).1 : Int) = 39 then
          some (.inl (q18 + (Utf8.decode t18 q18).2))
        else
        some (.inr (.inl false))
      else
      if ((Utf8.decode t18 q18).1 : Int) = 95 then
        some (.inl (q18 + (Utf8.decode t18 q18).2))
      else
      if ((Utf8.decode t18 q18).1 : Int) = 39 then
        some (.inl (q18 + (Utf8.decode t18 q18).2))
      else
      some (.inr (.inl false))
    else
    some (.inr (.inl false))
  else
  some (.inr (.inr q18))
noncomputable def qX9 (a0 : ByteArray) : Option Bool :=
  if a0 = ({ data := #[] }) then
    some false
  else
  if 32 < (a0.size : Int) then
    some false
  else
  (qbg9 a0).bind fun x1 =>
  if x1 = true then
    (wh (qbe9 a0 a0) 0).bind fun x3 =>
    match x3 with
    | .inl x4 =>
      some x4
    | .inr x5 =>
      some true
  else
  some false
noncomputable def qel9 (a0 : Symbol) (a1 : Symbol) : Option Bool :=
  some (decide (a0.Name = a1.Name))
noncomputable def qj9 (s0 : List Symbol) (s1_0 : Symbol) (s7 : Int) : Int → Option (Int ⊕ (Int ⊕ Int)) := fun s8 =>
  if s8 < s7 then
    (idx s0 s8).bind fun x1 =>
    (qel9 x1 s1_0).bind fun x2 =>
    if x2 = true then
      some (.inr (.inl s8))
    else
    some (.inl (w64 (s8 + 1)))
  else
  some (.inr (.inr s8))
noncomputable def qA9 (a0 : List Symbol) (a1_0 : Symbol) : Option Int :=
  (wh (qj9 a0 a1_0 (a0.length : Int)) 0).bind fun x3 =>
  match x3 with
  | .inl x4 =>
    some x4
  | .inr x5 =>
    some (-1)
noncomputable def qk9 (a0 : List Symbol) (a1_0 : Symbol) : Option Bool :=
  (qA9 a0 a1_0).bind fun x1 =>
  some (decide (0 ≤ x1))
noncomputable def qD9 (s0 : List Symbol) (s9 : List Symbol) (s10 : Int) : Int → Option (Int ⊕ (Int ⊕ Int)) := fun s11 =>
  if s11 < s10 then
    (idx s9 s11).bind fun x1 =>
    (qX9 x1.Name).bind fun x2 =>
    if x2 = true then
      if x1.Arity < 0 then
        some (.inr (.inl 35))
      else
      if 8 < x1.Arity then
        some (.inr (.inl 35))
      else
      (cutL s0 0 s11).bind fun x3 =>
      (qk9 x3 x1).bind fun x4 =>
      if x4 = true then
        some (.inr (.inl 36))
      else
      some (.inl (w64 (s11 + 1)))
    else
    if (x1.Name.size : Int) = 0 then
      some (.inr (.inl 34))
    else
    (sidx x1.Name (w64 ((x1.Name.size : Int) - 1))).bind fun x5 =>
    if x5 = 35 then
      (cutBA x1.Name 0 (w64 ((x1.Name.size : Int) - 1))).bind fun x6 =>
      (qX9 x6).bind fun x7 =>
      if x7 = true then
        if x1.Arity < 0 then
          some (.inr (.inl 35))
        else
        if 8 < x1.Arity then
          some (.inr (.inl 35))
        else
        (cutL s0 0 s11).bind fun x8 =>
        (qk9 x8 x1).bind fun x9 =>
        if x9 = true then
          some (.inr (.inl 36))
        else
        some (.inl (w64 (s11 + 1)))
      else
      some (.inr (.inl 34))
    else
    some (.inr (.inl 34))
  else
  some (.inr (.inr s11))
noncomputable def qr9 (a0 : List Symbol) : Option Int :=
  if 128 < (a0.length : Int) then
    some 37
  else
  (wh (qD9 a0 a0 (a0.length : Int)) 0).bind fun x10 =>
  match x10 with
  | .inl x11 =>
    some x11
  | .inr x12 =>
    some 0
noncomputable def qbN9 (a0 : ByteArray) (a1 : ByteArray) : Option Bool :=
  if (a1.size : Int) ≤ (a0.size : Int) then
    (cutBA a0 (w64 ((a0.size : Int) - (a1.size : Int))) (a0.size : Int)).bind fun x1 =>
    some (decide (x1 = a1))
  else
  some false
noncomputable def qdV9 (a0 : ByteArray) (a1 : ByteArray) : Option Bool :=
  (qbN9 a0 a1).bind fun x1 =>
  some x1
noncomputable def qdN9 (a0 : Symbol) : Option Bool :=
  (qdV9 a0.Name ({ data := #[35] })).bind fun x1 =>
  some x1
noncomputable def ql9 (s0 : List Symbol) (s7 : Int) : Int → Option (Int ⊕ (Int ⊕ Int)) := fun s8 =>
  if s8 < s7 then
    (idx s0 s8).bind fun x1 =>
    (qdN9 x1).bind fun x2 =>
    if x2 = true then
      some (.inr (.inl s8))
    else
    some (.inl (w64 (s8 + 1)))
  else
  some (.inr (.inr s8))
noncomputable def qC9 (a0 : List Symbol) : Option Int :=
  (wh (ql9 a0 (a0.length : Int)) 0).bind fun x3 =>
  match x3 with
  | .inl x4 =>
    some x4
  | .inr x5 =>
    some (-1)
noncomputable def qs9 (a0 : List Symbol) : Option Bool :=
  (qC9 a0).bind fun x1 =>
  some (decide (0 ≤ x1))
noncomputable def qdF9 (a0 : List Symbol) : Option Int :=
  (qr9 a0).bind fun x1 =>
  if x1 = 0 then
    if 64 < (a0.length : Int) then
      some 37
    else
    (qs9 a0).bind fun x2 =>
    if x2 = true then
      some 34
    else
    some 0
  else
  some x1
def arOf (sig : List Symbol) (c : Int) : Nat := if 0 ≤ c then ((sig[c.toNat]?).map (·.Arity.toNat)).getD 0 else 0
def rdT (sig : List Symbol) : List Int → Nat → List Int × Int
  | r, 0 => (r, 0)
  | [], _ + 1 => ([], 31)
  | c :: r, k + 1 => if (sig.length : Int) ≤ c ∨ c < -1048576 then (c :: r, 30) else rdT sig r (k + arOf sig c)
def qo9 (sig : List Symbol) (t : List Int) : Int := match rdT sig t 1 with
  | (r, e) => if e = 0 then (if r = [] then 0 else 32) else e

noncomputable def qep9 (sig : List Symbol) (t : List Int) : Option Int := if t.length < 4611686018427387904 ∧ sig.all (fun s => decide (s.Arity ≤ 1099511627776)) = true then some (qo9 sig t) else none

noncomputable def qbP9 (s0 : List Int) (s2 : List Int) (s10 : List Int) (s11 : Int) : Int × (List (Int × Int)) × (List Int) → Option ((Int × (List (Int × Int)) × (List Int)) ⊕ (Int × (List (Int × Int)) × (List Int))) := fun (s12, m3, o4) =>
  if s12 < s11 then
    (idx s10 s12).bind fun x1 =>
    match mget m3 x1 with
    | some x2 =>
      if x1 < 0 then
        some (.inl (w64 (s12 + 1), m3, o4))
      else
      some (.inl (w64 (s12 + 1), m3, o4))
    | none =>
      if x1 < 0 then
        if (o4.length + 1) * 8 ≤ 140737488355328 then
        some (.inl (w64 (s12 + 1), mset m3 x1 s12, o4 ++ [w64 ((-1) - x1)]))
        else none
      else
      some (.inl (w64 (s12 + 1), m3, o4))
  else
  some (.inr (s12, m3, o4))
noncomputable def qgn9 (a0 : List Int) : Option ((List Int)) :=
  (wh (qbP9 a0 ([] : List Int) a0 (a0.length : Int)) (0, ([] : List (Int × Int)), ([] : List Int))).bind fun x3 =>
  match x3 with
  | (x4, x5, x6) =>
  some x6
noncomputable def qbo9 (s0 : List Int) (s1 : Int) (s7 : Int) : Int → Option (Int ⊕ (Int ⊕ Int)) := fun s8 =>
  if s8 < s7 then
    (idx s0 s8).bind fun x1 =>
    if s1 = x1 then
      some (.inr (.inl s8))
    else
    some (.inl (w64 (s8 + 1)))
  else
  some (.inr (.inr s8))
noncomputable def qcO9 (a0 : List Int) (a1 : Int) : Option Int :=
  (wh (qbo9 a0 a1 (a0.length : Int)) 0).bind fun x2 =>
  match x2 with
  | .inl x3 =>
    some x3
  | .inr x4 =>
    some (-1)
noncomputable def qbL9 (a0 : List Int) (a1 : Int) : Option Bool :=
  (qcO9 a0 a1).bind fun x1 =>
  some (decide (0 ≤ x1))
noncomputable def qbT9 (s0 : List Symbol) (s1 : Rule) (s5 : Int) (s6 : Int) (s7 : List Int) (s44 : List Int) (s45 : Int) (b3_0 : List Int) (b3_1 : List Int) : Int → Option (Int ⊕ (Int ⊕ Int)) := fun s46 =>
  if s46 < s45 then
    (idx s44 s46).bind fun x6 =>
    (qbL9 s7 x6).bind fun x7 =>
    if x7 = true then
      some (.inl (w64 (s46 + 1)))
    else
    some (.inr (.inl 72))
  else
  some (.inr (.inr s46))
noncomputable def qR9 (a0 : List Symbol) (a1 : Rule) : Option Int :=
  (qep9 a0 a1.L).bind fun x1 =>
  if x1 = 0 then
    (qep9 a0 a1.R).bind fun x2 =>
    if x2 = 0 then
      if 512 < (max (a1.L.length : Int) (a1.R.length : Int)) then
        some 2
      else
      (idx a1.L 0).bind fun x3 =>
      if x3 < 0 then
        some 71
      else
      (qgn9 a1.L).bind fun x4 =>
      (qgn9 a1.R).bind fun x5 =>
      (wh (qbT9 a0 a1 x1 x2 x4 x5 (x5.length : Int) a1.L a1.R) 0).bind fun x8 =>
      match x8 with
      | .inl x9 =>
        some x9
      | .inr x10 =>
        some 0
    else
    some x2
  else
  some x1
noncomputable def qbM9 (s0 : System) (s4 : Int) (s19 : List Rule) (s20 : Int) (b1_0 : List Symbol) (b1_1 : List Rule) : Int → Option (Int ⊕ ((Int × Int) ⊕ Int)) := fun s21 =>
  if s21 < s20 then
    (idx s19 s21).bind fun x2 =>
    (qR9 b1_0 x2).bind fun x3 =>
    if x3 = 0 then
      some (.inl (w64 (s21 + 1)))
    else
    some (.inr (.inl (x3, s21)))
  else
  some (.inr (.inr s21))
noncomputable def qcW9 (a0 : System) : Option (Int × Int) :=
  (qdF9 a0.Sig).bind fun x1 =>
  if x1 = 0 then
    if 64 < (a0.Rules.length : Int) then
      some (70, (-1))
    else
    (wh (qbM9 a0 x1 a0.Rules (a0.Rules.length : Int) a0.Sig a0.Rules) 0).bind fun x4 =>
    match x4 with
    | .inl x5 =>
      some x5
    | .inr x6 =>
      some (0, 0)
  else
  some (x1, (-1))
theorem qdv9 {sig : List Symbol} (h : qr9 sig = some 0) : ∀ s ∈ sig, 0 ≤ s.Arity ∧ s.Arity ≤ 8 := by
  simp only [qr9] at h
  split at h
  · cases h
  rename_i hlen
  obtain ⟨x, hx, h⟩ := bsome h
  have hI := qoD9 (fun i : Int => 0 ≤ i ∧ i ≤ sig.length ∧ ∀ (k : Nat) (s : Symbol), (k : Int) < i → sig[k]? = some s → 0 ≤ s.Arity ∧ s.Arity ≤ 8) (Q := fun r => match r with | .inl e => e ≠ 0 | .inr _ => ∀ (k : Nat) (s : Symbol), sig[k]? = some s → 0 ≤ s.Arity ∧ s.Arity ≤ 8) hx ⟨Int.le_refl _, by omega, fun k s hk => by omega⟩ ?_ ?_
  · cases x with
    | inl e => simp only [Option.some.injEq] at h; exact absurd h hI
    | inr i =>
      intro s hs
      obtain ⟨k, hk⟩ := List.getElem?_of_mem hs
      exact hI k s hk
  · intro i i' hi hs
    simp only [qD9] at hs
    obtain ⟨h0, h1, h2⟩ := hi
    have key : ∀ x1 : Symbol, idx sig i = some x1 → i < sig.length → 0 ≤ x1.Arity → x1.Arity ≤ 8 → i' = w64 (i + 1) → 0 ≤ i' ∧ i' ≤ sig.length ∧ ∀ (k : Nat) (s : Symbol), (k : Int) < i' → sig[k]? = some s → 0 ≤ s.Arity ∧ s.Arity ≤ 8 := by
      intro x1 hx1 hlt a1 a2 e
      have hw : w64 (i + 1) = i + 1 := qf9 (by omega) (by omega)
      rw [hw] at e
      subst e
      refine ⟨by omega, by omega, fun k s hk hs => ?_⟩
      by_cases hki : (k : Int) < i
      · exact h2 k s hki hs
      · have : (k : Int) = i := by omega
        have h3 := (qa9 hx1).2.2
        rw [← this] at h3
        simp only [Int.toNat_natCast] at h3
        rw [hs] at h3
        cases h3
        exact ⟨a1, a2⟩
    split at hs
    · rename_i hlt
      obtain ⟨x1, e1, hs⟩ := bsome hs
      obtain ⟨x2, e2, hs⟩ := bsome hs
      split at hs
      · split at hs
        · cases hs
        split at hs
        · cases hs
        rename_i a1 a2
        obtain ⟨x3, e3, hs⟩ := bsome hs
        obtain ⟨x4, e4, hs⟩ := bsome hs
        split at hs
        · cases hs
        · simp only [Option.some.injEq, Sum.inl.injEq] at hs
          exact key x1 e1 hlt (by omega) (by omega) hs.symm
      · split at hs
        · cases hs
        obtain ⟨x5, e5, hs⟩ := bsome hs
        split at hs
        · obtain ⟨x6, e6, hs⟩ := bsome hs
          obtain ⟨x7, e7, hs⟩ := bsome hs
          split at hs
          · split at hs
            · cases hs
            split at hs
            · cases hs
            rename_i a1 a2
            obtain ⟨x8, e8, hs⟩ := bsome hs
            obtain ⟨x9, e9, hs⟩ := bsome hs
            split at hs
            · cases hs
            · simp only [Option.some.injEq, Sum.inl.injEq] at hs
              exact key x1 e1 hlt (by omega) (by omega) hs.symm
          · cases hs
        · cases hs
    · cases hs
  · intro i q hi hs
    simp only [qD9] at hs
    obtain ⟨h0, h1, h2⟩ := hi
    split at hs
    · rename_i hlt
      obtain ⟨x1, e1, hs⟩ := bsome hs
      obtain ⟨x2, e2, hs⟩ := bsome hs
      split at hs
      · split at hs
        · cases hs; simp
        split at hs
        · cases hs; simp
        obtain ⟨x3, e3, hs⟩ := bsome hs
        obtain ⟨x4, e4, hs⟩ := bsome hs
        split at hs <;> cases hs
        simp
      · split at hs
        · cases hs; simp
        obtain ⟨x5, e5, hs⟩ := bsome hs
        split at hs
        · obtain ⟨x6, e6, hs⟩ := bsome hs
          obtain ⟨x7, e7, hs⟩ := bsome hs
          split at hs
          · split at hs
            · cases hs; simp
            split at hs
            · cases hs; simp
            obtain ⟨x8, e8, hs⟩ := bsome hs
            obtain ⟨x9, e9, hs⟩ := bsome hs
            split at hs <;> cases hs
            simp
          · cases hs; simp
        · cases hs; simp
    · rename_i hnl
      cases hs
      intro k s hk
      have := (List.getElem?_eq_some_iff.1 hk).1
      exact h2 k s (by omega) hk

noncomputable def qbJ9 (sig : List Symbol) (t : List Int) : Option Int := (qr9 sig).bind fun e => if e = 0 then (if t.length < 4611686018427387904 then some (qo9 sig t) else none) else some e

noncomputable def qib9 (a0 : System) (a1 : List Int) : Option Int :=
  (qcW9 a0).bind fun x1 =>
  if x1.1 = 0 then
    (qbJ9 a0.Sig a1).bind fun x2 =>
    some x2
  else
  some x1.1

noncomputable def qfc9 (a0 : System) (a1 : List Int) : Option Int :=
  (qcW9 a0).bind fun x1 =>
  if x1.1 = 0 then
    (qbJ9 a0.Sig a1).bind fun x2 =>
    some x2
  else
  some x1.1
noncomputable def qcb9 (rec : Int × (List Symbol) × (List Int) × (List Int) → Option (Int × (List Symbol) × (List Int) × (List Int))) (s0 : Int) (s22 : Int) : Int × Int × (List Symbol) × (List Int) × (List Int) → Option ((Int × Int × (List Symbol) × (List Int) × (List Int)) ⊕ (Int × Int × (List Symbol) × (List Int) × (List Int))) := fun (s7, s23, b2_0, b1_0, o3_0_3_0) =>
  if s23 < s22 then
    (rec (s7, b2_0, b1_0, o3_0_3_0)).bind fun x3 =>
    some (.inl (x3.1, w64 (s23 + 1), x3.2.1, x3.2.2.1, x3.2.2.2))
  else
  some (.inr (s7, s23, b2_0, b1_0, o3_0_3_0))
noncomputable def qbG9 (rec : Int × (List Symbol) × (List Int) × (List Int) → Option (Int × (List Symbol) × (List Int) × (List Int))) (s0 : Int) (b2_0 : List Symbol) (b1_0 : List Int) (o3_0_3_0 : List Int) : Option (Int × (List Symbol) × (List Int) × (List Int)) :=
  (idx b1_0 s0).bind fun x1 =>
  if 0 ≤ x1 then
    (idx b2_0 x1).bind fun x2 =>
    (wh (qcb9 rec s0 x2.Arity) (w64 (s0 + 1), 0, b2_0, b1_0, o3_0_3_0)).bind fun x5 =>
    match x5 with
    | (x6, x7, x8, x9, x10) =>
    (idx x10 s0).bind fun x12 =>
    some (x6, x8, x9, x10.set (s0).toNat x6)
  else
  (idx o3_0_3_0 s0).bind fun x13 =>
  some (w64 (s0 + 1), b2_0, b1_0, o3_0_3_0.set (s0).toNat (w64 (s0 + 1)))
noncomputable def qih9 (s0 : Int) (b2_0 : List Symbol) (b1_0 : List Int) (o3_0_3_0 : List Int) : Option (Int × (List Symbol) × (List Int) × (List Int)) := fixO (fun rec (p : Int × (List Symbol) × (List Int) × (List Int)) => qbG9 rec p.1 p.2.1 p.2.2.1 p.2.2.2) (s0, b2_0, b1_0, o3_0_3_0)
noncomputable def qgi9 (a0 : List Symbol) (a1 : List Int) : Option ((List Int)) :=
  if 0 ≤ (a1.length : Int) then
  if 8 * (a1.length : Int) ≤ 140737488355328 then
  (qih9 0 a0 a1 (List.replicate ((a1.length : Int)).toNat 0)).bind fun x1 =>
  some x1.2.2.2
  else none
  else none
noncomputable def qeq9 (a0 : Int) : Option D :=
  if a0 < 0 then
    some (.ifc 130 (.v (.int .i64 (w64 ((-1) - a0)))))
  else
  some (.ifc 128 (.v (.int .i64 a0)))
noncomputable def qcs9 (s0 : List Symbol) (s1 : List Int) : Int × Int → Option ((Int × Int) ⊕ (Int × Int)) := fun (s5, s6) =>
  if 0 < s6 then
    (idx s1 s5).bind fun x1 =>
    if 0 ≤ x1 then
      (idx s0 x1).bind fun x2 =>
      some (.inl (w64 (s5 + 1), w64 ((w64 (s6 + x2.Arity)) - 1)))
    else
    some (.inl (w64 (s5 + 1), w64 (s6 - 1)))
  else
  some (.inr (s5, s6))
noncomputable def qfp9 (a0 : List Symbol) (a1 : List Int) : Option Int :=
  (wh (qcs9 a0 a1) (0, 1)).bind fun x3 =>
  match x3 with
  | (x4, x5) =>
  some x4
noncomputable def qcB9 (s0 : List Int) (s1 : List Int) (s12 : Int) : Int → Option (Int ⊕ (Bool ⊕ Int)) := fun s13 =>
  if s13 < s12 then
    (idx s0 s13).bind fun x1 =>
    (idx s1 s13).bind fun x2 =>
    if x1 = x2 then
      some (.inl (w64 (s13 + 1)))
    else
    some (.inr (.inl false))
  else
  some (.inr (.inr s13))
noncomputable def qbF9 (a0 : List Int) (a1 : List Int) : Option Bool :=
  if (a0.length : Int) = (a1.length : Int) then
    (wh (qcB9 a0 a1 (a0.length : Int)) 0).bind fun x3 =>
    match x3 with
    | .inl x4 =>
      some x4
    | .inr x5 =>
      some true
  else
  some false
def qdK9 (n : Int) : Option Int := if 0 ≤ n ∧ n ≤ 18446744073709551615 then some ((Go.Lib.bitLen n.toNat : Nat) : Int) else none

noncomputable def qdM9 (a0 : Int) : Option Bool :=
  some (!decide (a0 = a0))
noncomputable def qeI9 (a0 : Int) (a1 : Int) : Option Int :=
  (qdM9 a0).bind fun x1 =>
  (qdM9 a1).bind fun x2 =>
  if x1 = true then
    if x2 = true then
      some 0
    else
    some (-1)
  else
  if x2 = true then
    some 1
  else
  if a0 < a1 then
    some (-1)
  else
  if a1 < a0 then
    some 1
  else
  some 0
noncomputable def qi9 (a0 : Bind) (a1 : Bind) : Option Int :=
  (qeI9 a0.Var a1.Var).bind fun x1 =>
  some x1
noncomputable def qW9 (s1 : Int) (s2 : Int) (s8 : Int) : Int × (List Bind) → Option ((Int × (List Bind)) ⊕ ((List Bind))) := fun (s9, o0) =>
  if s1 < s9 then
    (idx o0 s9).bind fun x1 =>
    (idx o0 (w64 (s9 - 1))).bind fun x2 =>
    (qi9 x1 x2).bind fun x3 =>
    if x3 < 0 then
      (idx (o0.set (s9).toNat x2) (w64 (s9 - 1))).bind fun x4 =>
      some (.inl (w64 (s9 - 1), (o0.set (s9).toNat x2).set (w64 (s9 - 1)).toNat x1))
    else
    some (.inr o0)
  else
  some (.inr o0)
noncomputable def qP9 (s1 : Int) (s2 : Int) : Int × (List Bind) → Option ((Int × (List Bind)) ⊕ (Int × (List Bind))) := fun (s8, o0) =>
  if s8 < s2 then
    (wh (qW9 s1 s2 s8) (s8, o0)).bind fun x6 =>
    some (.inl (w64 (s8 + 1), x6))
  else
  some (.inr (s8, o0))
noncomputable def qbW9 (s1 : Int) (s2 : Int) (o0 : List Bind) : Option ((List Bind)) :=
  (wh (qP9 s1 s2) (w64 (s1 + 1), o0)).bind fun x9 =>
  match x9 with
  | (x10, x11) =>
  some x11
noncomputable def qG9 (s1 : Int) (s2 : Int) (s3 : Int) : Int × (List Bind) → Option ((Int × (List Bind)) ⊕ ((Int × (List Bind)) ⊕ ((List Bind)))) := fun (s10, o0) =>
  if s2 ≤ (w64 ((w64 (2 * s10)) + 1)) then
    some (.inr (.inl (s10, o0)))
  else
  if (w64 ((w64 ((w64 (2 * s10)) + 1)) + 1)) < s2 then
    (idx o0 (w64 (s3 + (w64 ((w64 (2 * s10)) + 1))))).bind fun x1 =>
    (idx o0 (w64 ((w64 (s3 + (w64 ((w64 (2 * s10)) + 1)))) + 1))).bind fun x2 =>
    (qi9 x1 x2).bind fun x3 =>
    if x3 < 0 then
      (idx o0 (w64 (s3 + s10))).bind fun x4 =>
      (idx o0 (w64 (s3 + (w64 ((w64 ((w64 (2 * s10)) + 1)) + 1))))).bind fun x5 =>
      (qi9 x4 x5).bind fun x6 =>
      if x6 < 0 then
        (idx (o0.set (w64 (s3 + s10)).toNat x5) (w64 (s3 + (w64 ((w64 ((w64 (2 * s10)) + 1)) + 1))))).bind fun x7 =>
        some (.inl (w64 ((w64 ((w64 (2 * s10)) + 1)) + 1), (o0.set (w64 (s3 + s10)).toNat x5).set (w64 (s3 + (w64 ((w64 ((w64 (2 * s10)) + 1)) + 1)))).toNat x4))
      else
      some (.inr (.inr o0))
    else
    (idx o0 (w64 (s3 + s10))).bind fun x8 =>
    (qi9 x8 x1).bind fun x9 =>
    if x9 < 0 then
      (idx (o0.set (w64 (s3 + s10)).toNat x1) (w64 (s3 + (w64 ((w64 (2 * s10)) + 1))))).bind fun x10 =>
      some (.inl (w64 ((w64 (2 * s10)) + 1), (o0.set (w64 (s3 + s10)).toNat x1).set (w64 (s3 + (w64 ((w64 (2 * s10)) + 1)))).toNat x8))
    else
    some (.inr (.inr o0))
  else
  (idx o0 (w64 (s3 + s10))).bind fun x11 =>
  (idx o0 (w64 (s3 + (w64 ((w64 (2 * s10)) + 1))))).bind fun x12 =>
  (qi9 x11 x12).bind fun x13 =>
  if x13 < 0 then
    (idx (o0.set (w64 (s3 + s10)).toNat x12) (w64 (s3 + (w64 ((w64 (2 * s10)) + 1))))).bind fun x14 =>
    some (.inl (w64 ((w64 (2 * s10)) + 1), (o0.set (w64 (s3 + s10)).toNat x12).set (w64 (s3 + (w64 ((w64 (2 * s10)) + 1)))).toNat x11))
  else
  some (.inr (.inr o0))
noncomputable def qbR9 (s1 : Int) (s2 : Int) (s3 : Int) (o0 : List Bind) : Option ((List Bind)) :=
  (wh (qG9 s1 s2 s3) (s1, o0)).bind fun x15 =>
  match x15 with
  | .inl (x16, x17) =>
    some x17
  | .inr x20 =>
    some x20
noncomputable def qbu9 (s1 : Int) (s2 : Int) (s8 : Int) (s10 : Int) (s11 : Int) : Int × (List Bind) → Option ((Int × (List Bind)) ⊕ (Int × (List Bind))) := fun (s12, o0) =>
  if 0 ≤ s12 then
    (idx o0 (w64 (s8 + s12))).bind fun x8 =>
    (idx o0 s8).bind fun x9 =>
    (idx (o0.set (s8).toNat x8) (w64 (s8 + s12))).bind fun x10 =>
    (qbR9 0 s12 s8 ((o0.set (s8).toNat x8).set (w64 (s8 + s12)).toNat x9)).bind fun x11 =>
    some (.inl (w64 (s12 - 1), x11))
  else
  some (.inr (s12, o0))
noncomputable def qbt9 (s1 : Int) (s2 : Int) (s8 : Int) (s10 : Int) : Int × (List Bind) → Option ((Int × (List Bind)) ⊕ (Int × (List Bind))) := fun (s11, o0) =>
  if 0 ≤ s11 then
    (qbR9 s11 s10 s8 o0).bind fun x2 =>
    some (.inl (w64 (s11 - 1), x2))
  else
  some (.inr (s11, o0))
noncomputable def qcV9 (s1 : Int) (s2 : Int) (o0 : List Bind) : Option ((List Bind)) :=
  (quoV .i64 (w64 ((w64 (s2 - s1)) - 1)) 2).bind fun x1 =>
  (wh (qbt9 s1 s2 s1 (w64 (s2 - s1))) (x1, o0)).bind fun x4 =>
  match x4 with
  | (x5, x6) =>
  (wh (qbu9 s1 s2 s1 (w64 (s2 - s1)) x5) (w64 ((w64 (s2 - s1)) - 1), x6)).bind fun x13 =>
  match x13 with
  | (x14, x15) =>
  some x15
noncomputable def qco9 (s1 : Int) (s2 : Int) (o0 : List Bind) (b3_0 : Int) : Option (Int × Int × Int) :=
  (idx o0 s2).bind fun x1 =>
  (idx o0 s1).bind fun x2 =>
  (qi9 x1 x2).bind fun x3 =>
  if x3 < 0 then
    some (s2, s1, w64 (b3_0 + 1))
  else
  some (s1, s2, b3_0)
noncomputable def qcq9 (s1 : Int) (s2 : Int) (s3 : Int) (o0 : List Bind) (b4_0 : Int) : Option (Int × Int) :=
  (qco9 s1 s2 o0 b4_0).bind fun x1 =>
  (qco9 x1.2.1 s3 o0 x1.2.2).bind fun x2 =>
  (qco9 x1.1 x2.1 o0 x2.2.2).bind fun x3 =>
  some (x3.2.1, x3.2.2)
noncomputable def qbj9 (s1 : Int) (o0 : List Bind) (b2_0 : Int) : Option (Int × Int) :=
  (qcq9 (w64 (s1 - 1)) s1 (w64 (s1 + 1)) o0 b2_0).bind fun x1 =>
  some (x1.1, x1.2)
noncomputable def qbO9 (s1 : Int) (s2 : Int) (o0 : List Bind) : Option (Int × Int) :=
  (quoV .i64 (w64 (s2 - s1)) 4).bind fun x1 =>
  if 8 ≤ (w64 (s2 - s1)) then
    if 50 ≤ (w64 (s2 - s1)) then
      (qbj9 (w64 (s1 + (w64 (x1 * 1)))) o0 0).bind fun x2 =>
      (qbj9 (w64 (s1 + (w64 (x1 * 2)))) o0 x2.2).bind fun x3 =>
      (qbj9 (w64 (s1 + (w64 (x1 * 3)))) o0 x3.2).bind fun x4 =>
      (qcq9 x2.1 x3.1 x4.1 o0 x4.2).bind fun x5 =>
      if x5.2 = 0 then
        some (x5.1, 1)
      else
      if x5.2 = 12 then
        some (x5.1, 2)
      else
      some (x5.1, 0)
    else
    (qcq9 (w64 (s1 + (w64 (x1 * 1)))) (w64 (s1 + (w64 (x1 * 2)))) (w64 (s1 + (w64 (x1 * 3)))) o0 0).bind fun x6 =>
    if x6.2 = 0 then
      some (x6.1, 1)
    else
    if x6.2 = 12 then
      some (x6.1, 2)
    else
    some (x6.1, 0)
  else
  some (w64 (s1 + (w64 (x1 * 2))), 1)
noncomputable def qS9 (s1 : Int) (s2 : Int) : Int × Int × (List Bind) → Option ((Int × Int × (List Bind)) ⊕ (Int × Int × (List Bind))) := fun (s8, s9, o0) =>
  if s8 < s9 then
    (idx o0 s9).bind fun x1 =>
    (idx o0 s8).bind fun x2 =>
    (idx (o0.set (s8).toNat x1) s9).bind fun x3 =>
    some (.inl (w64 (s8 + 1), w64 (s9 - 1), (o0.set (s8).toNat x1).set (s9).toNat x2))
  else
  some (.inr (s8, s9, o0))
noncomputable def qbm9 (s1 : Int) (s2 : Int) (o0 : List Bind) : Option ((List Bind)) :=
  (wh (qS9 s1 s2) (s1, w64 (s2 - 1), o0)).bind fun x4 =>
  match x4 with
  | (x5, x6, x7) =>
  some x7
noncomputable def qx9 (s1 : Int) (s2 : Int) (s9 : Int) (s10 : Int) : Int × (List Bind) → Option ((Int × (List Bind)) ⊕ ((List Bind))) := fun (s12, o0) =>
  if s12 < s2 then
    (idx o0 s12).bind fun x26 =>
    (idx o0 (w64 (s12 - 1))).bind fun x27 =>
    (qi9 x26 x27).bind fun x28 =>
    if x28 < 0 then
      (idx (o0.set (s12).toNat x27) (w64 (s12 - 1))).bind fun x29 =>
      some (.inl (w64 (s12 + 1), (o0.set (s12).toNat x27).set (w64 (s12 - 1)).toNat x26))
    else
    some (.inr o0)
  else
  some (.inr o0)
noncomputable def qJ9 (s1 : Int) (s2 : Int) (s9 : Int) (s10 : Int) : Int × (List Bind) → Option ((Int × (List Bind)) ⊕ ((List Bind))) := fun (s11, o0) =>
  if 1 ≤ s11 then
    (idx o0 s11).bind fun x10 =>
    (idx o0 (w64 (s11 - 1))).bind fun x11 =>
    (qi9 x10 x11).bind fun x12 =>
    if x12 < 0 then
      (idx (o0.set (s11).toNat x11) (w64 (s11 - 1))).bind fun x13 =>
      some (.inl (w64 (s11 - 1), (o0.set (s11).toNat x11).set (w64 (s11 - 1)).toNat x10))
    else
    some (.inr o0)
  else
  some (.inr o0)
noncomputable def qB9 (s1 : Int) (s2 : Int) (s10 : Int) (o0 : List Bind) : Int → Option (Int ⊕ Int) := fun s9 =>
  if s9 < s2 then
    (idx o0 s9).bind fun x1 =>
    (idx o0 (w64 (s9 - 1))).bind fun x2 =>
    (qi9 x1 x2).bind fun x3 =>
    if x3 < 0 then
      some (.inr s9)
    else
    some (.inl (w64 (s9 + 1)))
  else
  some (.inr s9)
noncomputable def qH9 (s1 : Int) (s2 : Int) : Int × Int × (List Bind) → Option ((Int × Int × (List Bind)) ⊕ ((Bool × (List Bind)) ⊕ (Int × Int × (List Bind)))) := fun (s9, s10, o0) =>
  if s10 < 5 then
    (wh (qB9 s1 s2 s10 o0) s9).bind fun x5 =>
    if x5 = s2 then
      some (.inr (.inl (true, o0)))
    else
    if (w64 (s2 - s1)) < 50 then
      some (.inr (.inl (false, o0)))
    else
    (idx o0 (w64 (x5 - 1))).bind fun x7 =>
    (idx o0 x5).bind fun x8 =>
    (idx (o0.set (x5).toNat x7) (w64 (x5 - 1))).bind fun x9 =>
    if 2 ≤ (w64 (x5 - s1)) then
      (wh (qJ9 s1 s2 x5 s10) (w64 (x5 - 1), (o0.set (x5).toNat x7).set (w64 (x5 - 1)).toNat x8)).bind fun x15 =>
      if 2 ≤ (w64 (s2 - x5)) then
        (wh (qx9 s1 s2 x5 s10) (w64 (x5 + 1), x15)).bind fun x23 =>
        some (.inl (x5, w64 (s10 + 1), x23))
      else
      some (.inl (x5, w64 (s10 + 1), x15))
    else
    if 2 ≤ (w64 (s2 - x5)) then
      (wh (qx9 s1 s2 x5 s10) (w64 (x5 + 1), (o0.set (x5).toNat x7).set (w64 (x5 - 1)).toNat x8)).bind fun x31 =>
      some (.inl (x5, w64 (s10 + 1), x31))
    else
    some (.inl (x5, w64 (s10 + 1), (o0.set (x5).toNat x7).set (w64 (x5 - 1)).toNat x8))
  else
  some (.inr (.inr (s9, s10, o0)))
noncomputable def qO9 (s1 : Int) (s2 : Int) (o0 : List Bind) : Option (Bool × (List Bind)) :=
  (wh (qH9 s1 s2) (w64 (s1 + 1), 0, o0)).bind fun x34 =>
  match x34 with
  | .inl x35 =>
    some x35
  | .inr (x36, x37, x38) =>
    some (false, x38)
noncomputable def qce9 (s1 : Int) (s2 : Int) (s3 : Int) (s12 : Int) (o0 : List Bind) : Int → Option (Int ⊕ Int) := fun s13 =>
  if s12 ≤ s13 then
    (idx o0 s13).bind fun x28 =>
    (idx o0 s1).bind fun x29 =>
    (qi9 x28 x29).bind fun x30 =>
    if x30 < 0 then
      some (.inr s13)
    else
    some (.inl (w64 (s13 - 1)))
  else
  some (.inr s13)
noncomputable def qch9 (s1 : Int) (s2 : Int) (s3 : Int) (s13 : Int) (o0 : List Bind) : Int → Option (Int ⊕ Int) := fun s12 =>
  if s12 ≤ s13 then
    (idx o0 s12).bind fun x22 =>
    (idx o0 s1).bind fun x23 =>
    (qi9 x22 x23).bind fun x24 =>
    if x24 < 0 then
      some (.inl (w64 (s12 + 1)))
    else
    some (.inr s12)
  else
  some (.inr s12)
noncomputable def qbc9 (s1 : Int) (s2 : Int) (s3 : Int) : Int × Int × (List Bind) → Option ((Int × Int × (List Bind)) ⊕ (Int × Int × (List Bind))) := fun (s12, s13, o0) =>
  (wh (qch9 s1 s2 s3 s13 o0) s12).bind fun x26 =>
  (wh (qce9 s1 s2 s3 x26 o0) s13).bind fun x32 =>
  if x32 < x26 then
    some (.inr (x26, x32, o0))
  else
  (idx o0 x32).bind fun x34 =>
  (idx o0 x26).bind fun x35 =>
  (idx (o0.set (x26).toNat x34) x32).bind fun x36 =>
  some (.inl (w64 (x26 + 1), w64 (x32 - 1), (o0.set (x26).toNat x34).set (x32).toNat x35))
noncomputable def qcj9 (s1 : Int) (s2 : Int) (s3 : Int) (s12 : Int) (o0 : List Bind) : Int → Option (Int ⊕ Int) := fun s13 =>
  if s12 ≤ s13 then
    (idx o0 s13).bind fun x10 =>
    (idx o0 s1).bind fun x11 =>
    (qi9 x10 x11).bind fun x12 =>
    if x12 < 0 then
      some (.inr s13)
    else
    some (.inl (w64 (s13 - 1)))
  else
  some (.inr s13)
noncomputable def qcd9 (s1 : Int) (s2 : Int) (s3 : Int) (s13 : Int) (o0 : List Bind) : Int → Option (Int ⊕ Int) := fun s12 =>
  if s12 ≤ s13 then
    (idx o0 s12).bind fun x4 =>
    (idx o0 s1).bind fun x5 =>
    (qi9 x4 x5).bind fun x6 =>
    if x6 < 0 then
      some (.inl (w64 (s12 + 1)))
    else
    some (.inr s12)
  else
  some (.inr s12)
noncomputable def qp9 (s1 : Int) (s2 : Int) (s3 : Int) (o0 : List Bind) : Option (Int × Bool × (List Bind)) :=
  (idx o0 s3).bind fun x1 =>
  (idx o0 s1).bind fun x2 =>
  (idx (o0.set (s1).toNat x1) s3).bind fun x3 =>
  (wh (qcd9 s1 s2 s3 (w64 (s2 - 1)) ((o0.set (s1).toNat x1).set (s3).toNat x2)) (w64 (s1 + 1))).bind fun x8 =>
  (wh (qcj9 s1 s2 s3 x8 ((o0.set (s1).toNat x1).set (s3).toNat x2)) (w64 (s2 - 1))).bind fun x14 =>
  if x14 < x8 then
    (idx ((o0.set (s1).toNat x1).set (s3).toNat x2) s1).bind fun x16 =>
    (idx ((o0.set (s1).toNat x1).set (s3).toNat x2) x14).bind fun x17 =>
    (idx (((o0.set (s1).toNat x1).set (s3).toNat x2).set (x14).toNat x16) s1).bind fun x18 =>
    some (x14, true, (((o0.set (s1).toNat x1).set (s3).toNat x2).set (x14).toNat x16).set (s1).toNat x17)
  else
  (idx ((o0.set (s1).toNat x1).set (s3).toNat x2) x14).bind fun x19 =>
  (idx ((o0.set (s1).toNat x1).set (s3).toNat x2) x8).bind fun x20 =>
  (idx (((o0.set (s1).toNat x1).set (s3).toNat x2).set (x8).toNat x19) x14).bind fun x21 =>
  (wh (qbc9 s1 s2 s3) (w64 (x8 + 1), w64 (x14 - 1), (((o0.set (s1).toNat x1).set (s3).toNat x2).set (x8).toNat x19).set (x14).toNat x20)).bind fun x37 =>
  match x37 with
  | (x38, x39, x40) =>
  (idx x40 s1).bind fun x42 =>
  (idx x40 x39).bind fun x43 =>
  (idx (x40.set (x39).toNat x42) s1).bind fun x44 =>
  some (x39, false, (x40.set (x39).toNat x42).set (s1).toNat x43)
noncomputable def qbB9 (s1 : Int) (s2 : Int) (s3 : Int) (s11 : Int) (o0 : List Bind) : Int → Option (Int ⊕ Int) := fun s12 =>
  if s11 ≤ s12 then
    (idx o0 s1).bind fun x10 =>
    (idx o0 s12).bind fun x11 =>
    (qi9 x10 x11).bind fun x12 =>
    if x12 < 0 then
      some (.inl (w64 (s12 - 1)))
    else
    some (.inr s12)
  else
  some (.inr s12)
noncomputable def qbA9 (s1 : Int) (s2 : Int) (s3 : Int) (s12 : Int) (o0 : List Bind) : Int → Option (Int ⊕ Int) := fun s11 =>
  if s11 ≤ s12 then
    (idx o0 s1).bind fun x4 =>
    (idx o0 s11).bind fun x5 =>
    (qi9 x4 x5).bind fun x6 =>
    if x6 < 0 then
      some (.inr s11)
    else
    some (.inl (w64 (s11 + 1)))
  else
  some (.inr s11)
noncomputable def qN9 (s1 : Int) (s2 : Int) (s3 : Int) : Int × Int × (List Bind) → Option ((Int × Int × (List Bind)) ⊕ (Int × Int × (List Bind))) := fun (s11, s12, o0) =>
  (wh (qbA9 s1 s2 s3 s12 o0) s11).bind fun x8 =>
  (wh (qbB9 s1 s2 s3 x8 o0) s12).bind fun x14 =>
  if x14 < x8 then
    some (.inr (x8, x14, o0))
  else
  (idx o0 x14).bind fun x16 =>
  (idx o0 x8).bind fun x17 =>
  (idx (o0.set (x8).toNat x16) x14).bind fun x18 =>
  some (.inl (w64 (x8 + 1), w64 (x14 - 1), (o0.set (x8).toNat x16).set (x14).toNat x17))
noncomputable def qz9 (s1 : Int) (s2 : Int) (s3 : Int) (o0 : List Bind) : Option (Int × (List Bind)) :=
  (idx o0 s3).bind fun x1 =>
  (idx o0 s1).bind fun x2 =>
  (idx (o0.set (s1).toNat x1) s3).bind fun x3 =>
  (wh (qN9 s1 s2 s3) (w64 (s1 + 1), w64 (s2 - 1), (o0.set (s1).toNat x1).set (s3).toNat x2)).bind fun x19 =>
  match x19 with
  | (x20, x21, x22) =>
  some (x20, x22)
noncomputable def qct9 (a0 : Int) : Option Int :=
  (qdK9 (IntKind.u64.wrap a0)).bind fun x1 =>
  (shlV .u64 1 x1).bind fun x2 =>
  some x2
noncomputable def qcG9 (b0_0 : Int) : Option (Int × Int) :=
  (shlV .u64 b0_0 13).bind fun x1 =>
  (shrV .u64 (xorV .u64 b0_0 x1) 7).bind fun x2 =>
  (shlV .u64 (xorV .u64 (xorV .u64 b0_0 x1) x2) 17).bind fun x3 =>
  some (xorV .u64 (xorV .u64 (xorV .u64 b0_0 x1) x2) x3, xorV .u64 (xorV .u64 (xorV .u64 b0_0 x1) x2) x3)
noncomputable def qF9 (s1 : Int) (s2 : Int) (s8 : Int) (s10 : Int) : Int × (List Bind) × Int → Option ((Int × (List Bind) × Int) ⊕ (Int × (List Bind) × Int)) := fun (s11, o0, b9_0) =>
  (quoV .i64 s8 4).bind fun x3 =>
  if s11 ≤ (w64 ((w64 (s1 + (w64 (x3 * 2)))) + 1)) then
    (qcG9 b9_0).bind fun x4 =>
    if s8 ≤ (w64 (andV .u64 x4.1 (IntKind.u64.wrap (s10 - 1)))) then
      (idx o0 (w64 (s1 + (w64 ((w64 (andV .u64 x4.1 (IntKind.u64.wrap (s10 - 1)))) - s8))))).bind fun x5 =>
      (idx o0 s11).bind fun x6 =>
      (idx (o0.set (s11).toNat x5) (w64 (s1 + (w64 ((w64 (andV .u64 x4.1 (IntKind.u64.wrap (s10 - 1)))) - s8))))).bind fun x7 =>
      some (.inl (w64 (s11 + 1), (o0.set (s11).toNat x5).set (w64 (s1 + (w64 ((w64 (andV .u64 x4.1 (IntKind.u64.wrap (s10 - 1)))) - s8)))).toNat x6, x4.2))
    else
    (idx o0 (w64 (s1 + (w64 (andV .u64 x4.1 (IntKind.u64.wrap (s10 - 1))))))).bind fun x8 =>
    (idx o0 s11).bind fun x9 =>
    (idx (o0.set (s11).toNat x8) (w64 (s1 + (w64 (andV .u64 x4.1 (IntKind.u64.wrap (s10 - 1))))))).bind fun x10 =>
    some (.inl (w64 (s11 + 1), (o0.set (s11).toNat x8).set (w64 (s1 + (w64 (andV .u64 x4.1 (IntKind.u64.wrap (s10 - 1)))))).toNat x9, x4.2))
  else
  some (.inr (s11, o0, b9_0))
noncomputable def qbV9 (s1 : Int) (s2 : Int) (o0 : List Bind) : Option ((List Bind)) :=
  if 8 ≤ (w64 (s2 - s1)) then
    (qct9 (w64 (s2 - s1))).bind fun x1 =>
    (quoV .i64 (w64 (s2 - s1)) 4).bind fun x2 =>
    (wh (qF9 s1 s2 (w64 (s2 - s1)) x1) (w64 ((w64 (s1 + (w64 (x2 * 2)))) - 1), o0, IntKind.u64.wrap (w64 (s2 - s1)))).bind fun x11 =>
    match x11 with
    | (x12, x13, x14) =>
    some x13
  else
  some o0
noncomputable def qn9 (rec : Int × Int × Int × (List Bind) → Option ((List Bind)))  : Int × Int × Int × Bool × Bool × (List Bind) → Option ((Int × Int × Int × Bool × Bool × (List Bind)) ⊕ ((List Bind))) := fun (s1, s2, s3, s10, s11, o0) =>
  if (w64 (s2 - s1)) ≤ 12 then
    (qbW9 s1 s2 o0).bind fun x1 =>
    some (.inr x1)
  else
  if s3 = 0 then
    (qcV9 s1 s2 o0).bind fun x3 =>
    some (.inr x3)
  else
  if s10 = true then
    (qbO9 s1 s2 o0).bind fun x5 =>
    if x5.2 = 2 then
      (qbm9 s1 s2 o0).bind fun x7 =>
      if s11 = true then
        (qO9 s1 s2 x7).bind fun x8 =>
        if x8.1 = true then
          some (.inr x8.2)
        else
        if 0 < s1 then
          (idx x8.2 (w64 (s1 - 1))).bind fun x10 =>
          (idx x8.2 (w64 ((w64 (s2 - 1)) - (w64 (x5.1 - s1))))).bind fun x11 =>
          (qi9 x10 x11).bind fun x12 =>
          if x12 < 0 then
            (qp9 s1 s2 (w64 ((w64 (s2 - 1)) - (w64 (x5.1 - s1)))) x8.2).bind fun x13 =>
            (quoV .i64 (w64 (s2 - s1)) 8).bind fun x15 =>
            if (w64 (x13.1 - s1)) < (w64 (s2 - x13.1)) then
              (rec (s1, x13.1, s3, x13.2.2)).bind fun x16 =>
              some (.inl (w64 (x13.1 + 1), s2, s3, decide (x15 ≤ (w64 (x13.1 - s1))), x13.2.1, x16))
            else
            (rec (w64 (x13.1 + 1), s2, s3, x13.2.2)).bind fun x18 =>
            some (.inl (s1, x13.1, s3, decide (x15 ≤ (w64 (s2 - x13.1))), x13.2.1, x18))
          else
          (qz9 s1 s2 (w64 ((w64 (s2 - 1)) - (w64 (x5.1 - s1)))) x8.2).bind fun x20 =>
          some (.inl (x20.1, s2, s3, s10, s11, x20.2))
        else
        (qp9 s1 s2 (w64 ((w64 (s2 - 1)) - (w64 (x5.1 - s1)))) x8.2).bind fun x22 =>
        (quoV .i64 (w64 (s2 - s1)) 8).bind fun x24 =>
        if (w64 (x22.1 - s1)) < (w64 (s2 - x22.1)) then
          (rec (s1, x22.1, s3, x22.2.2)).bind fun x25 =>
          some (.inl (w64 (x22.1 + 1), s2, s3, decide (x24 ≤ (w64 (x22.1 - s1))), x22.2.1, x25))
        else
        (rec (w64 (x22.1 + 1), s2, s3, x22.2.2)).bind fun x27 =>
        some (.inl (s1, x22.1, s3, decide (x24 ≤ (w64 (s2 - x22.1))), x22.2.1, x27))
      else
      if 0 < s1 then
        (idx x7 (w64 (s1 - 1))).bind fun x29 =>
        (idx x7 (w64 ((w64 (s2 - 1)) - (w64 (x5.1 - s1))))).bind fun x30 =>
        (qi9 x29 x30).bind fun x31 =>
        if x31 < 0 then
          (qp9 s1 s2 (w64 ((w64 (s2 - 1)) - (w64 (x5.1 - s1)))) x7).bind fun x32 =>
          (quoV .i64 (w64 (s2 - s1)) 8).bind fun x34 =>
          if (w64 (x32.1 - s1)) < (w64 (s2 - x32.1)) then
            (rec (s1, x32.1, s3, x32.2.2)).bind fun x35 =>
            some (.inl (w64 (x32.1 + 1), s2, s3, decide (x34 ≤ (w64 (x32.1 - s1))), x32.2.1, x35))
          else
          (rec (w64 (x32.1 + 1), s2, s3, x32.2.2)).bind fun x37 =>
          some (.inl (s1, x32.1, s3, decide (x34 ≤ (w64 (s2 - x32.1))), x32.2.1, x37))
        else
        (qz9 s1 s2 (w64 ((w64 (s2 - 1)) - (w64 (x5.1 - s1)))) x7).bind fun x39 =>
        some (.inl (x39.1, s2, s3, s10, s11, x39.2))
      else
      (qp9 s1 s2 (w64 ((w64 (s2 - 1)) - (w64 (x5.1 - s1)))) x7).bind fun x41 =>
      (quoV .i64 (w64 (s2 - s1)) 8).bind fun x43 =>
      if (w64 (x41.1 - s1)) < (w64 (s2 - x41.1)) then
        (rec (s1, x41.1, s3, x41.2.2)).bind fun x44 =>
        some (.inl (w64 (x41.1 + 1), s2, s3, decide (x43 ≤ (w64 (x41.1 - s1))), x41.2.1, x44))
      else
      (rec (w64 (x41.1 + 1), s2, s3, x41.2.2)).bind fun x46 =>
      some (.inl (s1, x41.1, s3, decide (x43 ≤ (w64 (s2 - x41.1))), x41.2.1, x46))
    else
    if s11 = true then
      if x5.2 = 1 then
        (qO9 s1 s2 o0).bind fun x48 =>
        if x48.1 = true then
          some (.inr x48.2)
        else
        if 0 < s1 then
          (idx x48.2 (w64 (s1 - 1))).bind fun x50 =>
          (idx x48.2 x5.1).bind fun x51 =>
          (qi9 x50 x51).bind fun x52 =>
          if x52 < 0 then
            (qp9 s1 s2 x5.1 x48.2).bind fun x53 =>
            (quoV .i64 (w64 (s2 - s1)) 8).bind fun x55 =>
            if (w64 (x53.1 - s1)) < (w64 (s2 - x53.1)) then
              (rec (s1, x53.1, s3, x53.2.2)).bind fun x56 =>
              some (.inl (w64 (x53.1 + 1), s2, s3, decide (x55 ≤ (w64 (x53.1 - s1))), x53.2.1, x56))
            else
            (rec (w64 (x53.1 + 1), s2, s3, x53.2.2)).bind fun x58 =>
            some (.inl (s1, x53.1, s3, decide (x55 ≤ (w64 (s2 - x53.1))), x53.2.1, x58))
          else
          (qz9 s1 s2 x5.1 x48.2).bind fun x60 =>
          some (.inl (x60.1, s2, s3, s10, s11, x60.2))
        else
        (qp9 s1 s2 x5.1 x48.2).bind fun x62 =>
        (quoV .i64 (w64 (s2 - s1)) 8).bind fun x64 =>
        if (w64 (x62.1 - s1)) < (w64 (s2 - x62.1)) then
          (rec (s1, x62.1, s3, x62.2.2)).bind fun x65 =>
          some (.inl (w64 (x62.1 + 1), s2, s3, decide (x64 ≤ (w64 (x62.1 - s1))), x62.2.1, x65))
        else
        (rec (w64 (x62.1 + 1), s2, s3, x62.2.2)).bind fun x67 =>
        some (.inl (s1, x62.1, s3, decide (x64 ≤ (w64 (s2 - x62.1))), x62.2.1, x67))
      else
      if 0 < s1 then
        (idx o0 (w64 (s1 - 1))).bind fun x69 =>
        (idx o0 x5.1).bind fun x70 =>
        (qi9 x69 x70).bind fun x71 =>
        if x71 < 0 then
          (qp9 s1 s2 x5.1 o0).bind fun x72 =>
          (quoV .i64 (w64 (s2 - s1)) 8).bind fun x74 =>
          if (w64 (x72.1 - s1)) < (w64 (s2 - x72.1)) then
            (rec (s1, x72.1, s3, x72.2.2)).bind fun x75 =>
            some (.inl (w64 (x72.1 + 1), s2, s3, decide (x74 ≤ (w64 (x72.1 - s1))), x72.2.1, x75))
          else
          (rec (w64 (x72.1 + 1), s2, s3, x72.2.2)).bind fun x77 =>
          some (.inl (s1, x72.1, s3, decide (x74 ≤ (w64 (s2 - x72.1))), x72.2.1, x77))
        else
        (qz9 s1 s2 x5.1 o0).bind fun x79 =>
        some (.inl (x79.1, s2, s3, s10, s11, x79.2))
      else
      (qp9 s1 s2 x5.1 o0).bind fun x81 =>
      (quoV .i64 (w64 (s2 - s1)) 8).bind fun x83 =>
      if (w64 (x81.1 - s1)) < (w64 (s2 - x81.1)) then
        (rec (s1, x81.1, s3, x81.2.2)).bind fun x84 =>
        some (.inl (w64 (x81.1 + 1), s2, s3, decide (x83 ≤ (w64 (x81.1 - s1))), x81.2.1, x84))
      else
      (rec (w64 (x81.1 + 1), s2, s3, x81.2.2)).bind fun x86 =>
      some (.inl (s1, x81.1, s3, decide (x83 ≤ (w64 (s2 - x81.1))), x81.2.1, x86))
    else
    if 0 < s1 then
      (idx o0 (w64 (s1 - 1))).bind fun x88 =>
      (idx o0 x5.1).bind fun x89 =>
      (qi9 x88 x89).bind fun x90 =>
      if x90 < 0 then
        (qp9 s1 s2 x5.1 o0).bind fun x91 =>
        (quoV .i64 (w64 (s2 - s1)) 8).bind fun x93 =>
        if (w64 (x91.1 - s1)) < (w64 (s2 - x91.1)) then
          (rec (s1, x91.1, s3, x91.2.2)).bind fun x94 =>
          some (.inl (w64 (x91.1 + 1), s2, s3, decide (x93 ≤ (w64 (x91.1 - s1))), x91.2.1, x94))
        else
        (rec (w64 (x91.1 + 1), s2, s3, x91.2.2)).bind fun x96 =>
        some (.inl (s1, x91.1, s3, decide (x93 ≤ (w64 (s2 - x91.1))), x91.2.1, x96))
      else
      (qz9 s1 s2 x5.1 o0).bind fun x98 =>
      some (.inl (x98.1, s2, s3, s10, s11, x98.2))
    else
    (qp9 s1 s2 x5.1 o0).bind fun x100 =>
    (quoV .i64 (w64 (s2 - s1)) 8).bind fun x102 =>
    if (w64 (x100.1 - s1)) < (w64 (s2 - x100.1)) then
      (rec (s1, x100.1, s3, x100.2.2)).bind fun x103 =>
      some (.inl (w64 (x100.1 + 1), s2, s3, decide (x102 ≤ (w64 (x100.1 - s1))), x100.2.1, x103))
    else
    (rec (w64 (x100.1 + 1), s2, s3, x100.2.2)).bind fun x105 =>
    some (.inl (s1, x100.1, s3, decide (x102 ≤ (w64 (s2 - x100.1))), x100.2.1, x105))
  else
  (qbV9 s1 s2 o0).bind fun x107 =>
  (qbO9 s1 s2 x107).bind fun x109 =>
  if x109.2 = 2 then
    (qbm9 s1 s2 x107).bind fun x111 =>
    if 0 < s1 then
      (idx x111 (w64 (s1 - 1))).bind fun x112 =>
      (idx x111 (w64 ((w64 (s2 - 1)) - (w64 (x109.1 - s1))))).bind fun x113 =>
      (qi9 x112 x113).bind fun x114 =>
      if x114 < 0 then
        (qp9 s1 s2 (w64 ((w64 (s2 - 1)) - (w64 (x109.1 - s1)))) x111).bind fun x115 =>
        (quoV .i64 (w64 (s2 - s1)) 8).bind fun x117 =>
        if (w64 (x115.1 - s1)) < (w64 (s2 - x115.1)) then
          (rec (s1, x115.1, w64 (s3 - 1), x115.2.2)).bind fun x118 =>
          some (.inl (w64 (x115.1 + 1), s2, w64 (s3 - 1), decide (x117 ≤ (w64 (x115.1 - s1))), x115.2.1, x118))
        else
        (rec (w64 (x115.1 + 1), s2, w64 (s3 - 1), x115.2.2)).bind fun x120 =>
        some (.inl (s1, x115.1, w64 (s3 - 1), decide (x117 ≤ (w64 (s2 - x115.1))), x115.2.1, x120))
      else
      (qz9 s1 s2 (w64 ((w64 (s2 - 1)) - (w64 (x109.1 - s1)))) x111).bind fun x122 =>
      some (.inl (x122.1, s2, w64 (s3 - 1), s10, s11, x122.2))
    else
    (qp9 s1 s2 (w64 ((w64 (s2 - 1)) - (w64 (x109.1 - s1)))) x111).bind fun x124 =>
    (quoV .i64 (w64 (s2 - s1)) 8).bind fun x126 =>
    if (w64 (x124.1 - s1)) < (w64 (s2 - x124.1)) then
      (rec (s1, x124.1, w64 (s3 - 1), x124.2.2)).bind fun x127 =>
      some (.inl (w64 (x124.1 + 1), s2, w64 (s3 - 1), decide (x126 ≤ (w64 (x124.1 - s1))), x124.2.1, x127))
    else
    (rec (w64 (x124.1 + 1), s2, w64 (s3 - 1), x124.2.2)).bind fun x129 =>
    some (.inl (s1, x124.1, w64 (s3 - 1), decide (x126 ≤ (w64 (s2 - x124.1))), x124.2.1, x129))
  else
  if 0 < s1 then
    (idx x107 (w64 (s1 - 1))).bind fun x131 =>
    (idx x107 x109.1).bind fun x132 =>
    (qi9 x131 x132).bind fun x133 =>
    if x133 < 0 then
      (qp9 s1 s2 x109.1 x107).bind fun x134 =>
      (quoV .i64 (w64 (s2 - s1)) 8).bind fun x136 =>
      if (w64 (x134.1 - s1)) < (w64 (s2 - x134.1)) then
        (rec (s1, x134.1, w64 (s3 - 1), x134.2.2)).bind fun x137 =>
        some (.inl (w64 (x134.1 + 1), s2, w64 (s3 - 1), decide (x136 ≤ (w64 (x134.1 - s1))), x134.2.1, x137))
      else
      (rec (w64 (x134.1 + 1), s2, w64 (s3 - 1), x134.2.2)).bind fun x139 =>
      some (.inl (s1, x134.1, w64 (s3 - 1), decide (x136 ≤ (w64 (s2 - x134.1))), x134.2.1, x139))
    else
    (qz9 s1 s2 x109.1 x107).bind fun x141 =>
    some (.inl (x141.1, s2, w64 (s3 - 1), s10, s11, x141.2))
  else
  (qp9 s1 s2 x109.1 x107).bind fun x143 =>
  (quoV .i64 (w64 (s2 - s1)) 8).bind fun x145 =>
  if (w64 (x143.1 - s1)) < (w64 (s2 - x143.1)) then
    (rec (s1, x143.1, w64 (s3 - 1), x143.2.2)).bind fun x146 =>
    some (.inl (w64 (x143.1 + 1), s2, w64 (s3 - 1), decide (x145 ≤ (w64 (x143.1 - s1))), x143.2.1, x146))
  else
  (rec (w64 (x143.1 + 1), s2, w64 (s3 - 1), x143.2.2)).bind fun x148 =>
  some (.inl (s1, x143.1, w64 (s3 - 1), decide (x145 ≤ (w64 (s2 - x143.1))), x143.2.1, x148))
noncomputable def qbq9 (rec : Int × Int × Int × (List Bind) → Option ((List Bind))) (s1 : Int) (s2 : Int) (s3 : Int) (o0 : List Bind) : Option ((List Bind)) :=
  (wh (qn9 rec) (s1, s2, s3, true, true, o0)).bind fun x151 =>
  some x151
noncomputable def qdU9 (s1 : Int) (s2 : Int) (s3 : Int) (o0 : List Bind) : Option ((List Bind)) := fixO (fun rec (p : Int × Int × Int × (List Bind)) => qbq9 rec p.1 p.2.1 p.2.2.1 p.2.2.2) (s1, s2, s3, o0)
noncomputable def qcy9 (o0 : List Bind) : Option ((List Bind)) :=
  (qdK9 (IntKind.u64.wrap (o0.length : Int))).bind fun x1 =>
  (qdU9 0 (o0.length : Int) x1 o0).bind fun x2 =>
  some x2
noncomputable def qbd9 (s0 : List Symbol) (s1 : List Int) (s6 : List Bind) (s30 : List Int) (s31 : Int) : (List Int) × Int × (List (Int × (List Int))) × (List Bind) → Option (((List Int) × Int × (List (Int × (List Int))) × (List Bind)) ⊕ (((List Bind) × Bool) ⊕ ((List Int) × Int × (List (Int × (List Int))) × (List Bind)))) := fun (s2, s32, m8, o9) =>
  if s32 < s31 then
    (idx s30 s32).bind fun x3 =>
    (qeq9 x3).bind fun x4 =>
    if ifInt x4 = true then
    match asI 128 .i64 x4 with
    | some x5 =>
      (idx s2 0).bind fun x6 =>
      if x6 = x5 then
        (cutL s2 1 (s2.length : Int)).bind fun x7 =>
        some (.inl (x7, w64 (s32 + 1), m8, o9))
      else
      some (.inr (.inl (([] : List Bind), false)))
    | none =>
      (asI 130 .i64 x4).bind fun x8 =>
      (qfp9 s0 s2).bind fun x9 =>
      match mget m8 x8 with
      | some x10 =>
        (cutL s2 0 x9).bind fun x11 =>
        (qbF9 x10 x11).bind fun x12 =>
        if x12 = true then
          (cutL s2 x9 (s2.length : Int)).bind fun x13 =>
          some (.inl (x13, w64 (s32 + 1), m8, o9))
        else
        some (.inr (.inl (([] : List Bind), false)))
      | none =>
        (cutL s2 0 x9).bind fun x14 =>
        if x14.length * 8 ≤ 140737488355328 then
        if (o9.length + 1) * 32 ≤ 140737488355328 then
        (cutL s2 x9 (s2.length : Int)).bind fun x15 =>
        some (.inl (x15, w64 (s32 + 1), mset m8 x8 x14, o9 ++ [(Bind.mk x8 x14)]))
        else none
        else none
    else none
  else
  some (.inr (.inr (s2, s32, m8, o9)))
noncomputable def qeE9 (a0 : List Symbol) (a1 : List Int) (a2 : List Int) : Option ((List Bind) × Bool) :=
  (qbJ9 a0 a1).bind fun x1 =>
  if x1 = 0 then
    (qbJ9 a0 a2).bind fun x2 =>
    if x2 = 0 then
      (wh (qbd9 a0 a1 ([] : List Bind) a1 (a1.length : Int)) (a2, 0, ([] : List (Int × (List Int))), ([] : List Bind))).bind fun x16 =>
      match x16 with
      | .inl x17 =>
        some x17
      | .inr (x18, x19, x20, x21) =>
        (qcy9 x21).bind fun x24 =>
        some (x24, true)
    else
    some (([] : List Bind), false)
  else
  some (([] : List Bind), false)
noncomputable def qek9 (s0 : Int) (b2_0 : Int) (b2_1 : Int) (b1_0 : Int) : Option (Bool × Int × Int) :=
  some (false, b1_0, s0)
noncomputable def qw9 (s0_0 : List Symbol) (s0_1 : List Rule) (s1 : List Int) (s12 : List Rule) (s13 : Int) (b2_0_0 : Int) (b3_0 : List Symbol) (b3_1 : List Rule) : Int × Int × Int → Option ((Int × Int × Int) ⊕ ((Bool × Int × Int) ⊕ (Int × Int × Int))) := fun (s14, b2_1_0, b2_1_1) =>
  if s14 < s13 then
    (idx s12 s14).bind fun x1 =>
    (idx x1.L 0).bind fun x2 =>
    (idx s1 0).bind fun x3 =>
    if x2 = x3 then
      (qeE9 b3_0 x1.L s1).bind fun x4 =>
      if x4.2 = true then
        (qek9 s14 b2_1_0 b2_1_1 b2_0_0).bind fun x5 =>
        if x5.1 = true then
          some (.inl (w64 (s14 + 1), x5.2.1, x5.2.2))
        else
        some (.inr (.inl (false, x5.2.1, x5.2.2)))
      else
      some (.inl (w64 (s14 + 1), b2_1_0, b2_1_1))
    else
    some (.inl (w64 (s14 + 1), b2_1_0, b2_1_1))
  else
  some (.inr (.inr (s14, b2_1_0, b2_1_1)))
noncomputable def qbl9 (s0_0 : List Symbol) (s0_1 : List Rule) (s1 : List Int) (b2_1_0 : Int) (b2_1_1 : Int) (b2_0_0 : Int) : Option (Bool × Int × Int) :=
  (wh (qw9 s0_0 s0_1 s1 s0_1 (s0_1.length : Int) b2_0_0 s0_0 s0_1) (0, b2_1_0, b2_1_1)).bind fun x6 =>
  match x6 with
  | .inl x7 =>
    some x7
  | .inr (x8, x9, x10) =>
    some (true, x9, x10)
noncomputable def qbD9 (rec : Int × (List Symbol) × (List Rule) × (List Int) × (List Int) × Int × Int → Option (Bool × (List Symbol) × (List Rule) × (List Int) × (List Int) × Int × Int)) (s0 : Int) (b6_0 : Int) : Int × (List Symbol) × (List Rule) × (List Int) × (List Int) × Int × Int → Option ((Int × (List Symbol) × (List Rule) × (List Int) × (List Int) × Int × Int) ⊕ ((Bool × (List Symbol) × (List Rule) × (List Int) × (List Int) × Int × Int) ⊕ (Int × (List Symbol) × (List Rule) × (List Int) × (List Int) × Int × Int))) := fun (s8, b2_0_2_0, b2_0_2_1, b2_0_3_0, b1_0, b2_0_4_0, b2_0_4_1) =>
  (idx b1_0 b6_0).bind fun x1 =>
  if s8 < x1 then
    (rec (s8, b2_0_2_0, b2_0_2_1, b2_0_3_0, b1_0, b2_0_4_0, b2_0_4_1)).bind fun x2 =>
    if x2.1 = true then
      some (.inr (.inl (true, x2.2.1, x2.2.2.1, x2.2.2.2.1, x2.2.2.2.2.1, x2.2.2.2.2.2.1, x2.2.2.2.2.2.2)))
    else
    (idx x2.2.2.2.2.1 s8).bind fun x4 =>
    some (.inl (x4, x2.2.1, x2.2.2.1, x2.2.2.2.1, x2.2.2.2.2.1, x2.2.2.2.2.2.1, x2.2.2.2.2.2.2))
  else
  some (.inr (.inr (s8, b2_0_2_0, b2_0_2_1, b2_0_3_0, b1_0, b2_0_4_0, b2_0_4_1)))
noncomputable def qbx9 (rec : Int × (List Symbol) × (List Rule) × (List Int) × (List Int) × Int × Int → Option (Bool × (List Symbol) × (List Rule) × (List Int) × (List Int) × Int × Int)) (s0 : Int) (b2_0_2_0 : List Symbol) (b2_0_2_1 : List Rule) (b2_0_3_0 : List Int) (b1_0 : List Int) (b2_0_4_0 : Int) (b2_0_4_1 : Int) : Option (Bool × (List Symbol) × (List Rule) × (List Int) × (List Int) × Int × Int) :=
  (wh (qbD9 rec s0 s0) (w64 (s0 + 1), b2_0_2_0, b2_0_2_1, b2_0_3_0, b1_0, b2_0_4_0, b2_0_4_1)).bind fun x5 =>
  match x5 with
  | .inl x6 =>
    some x6
  | .inr (x7, x8, x9, x10, x11, x12, x13) =>
    (idx x11 s0).bind fun x15 =>
    (cutL x10 s0 x15).bind fun x16 =>
    (qbl9 x8 x9 x16 x12 x13 s0).bind fun x17 =>
    some (!x17.1, x8, x9, x10, x11, x17.2.1, x17.2.2)
noncomputable def qhA9 (s0 : Int) (b2_0_2_0 : List Symbol) (b2_0_2_1 : List Rule) (b2_0_3_0 : List Int) (b1_0 : List Int) (b2_0_4_0 : Int) (b2_0_4_1 : Int) : Option (Bool × (List Symbol) × (List Rule) × (List Int) × (List Int) × Int × Int) := fixO (fun rec (p : Int × (List Symbol) × (List Rule) × (List Int) × (List Int) × Int × Int) => qbx9 rec p.1 p.2.1 p.2.2.1 p.2.2.2.1 p.2.2.2.2.1 p.2.2.2.2.2.1 p.2.2.2.2.2.2) (s0, b2_0_2_0, b2_0_2_1, b2_0_3_0, b1_0, b2_0_4_0, b2_0_4_1)
noncomputable def qbE9 (a0 : System) (a1 : List Int) : Option (Redex × Bool) :=
  (qfc9 a0 a1).bind fun x1 =>
  if x1 = 0 then
    (qgi9 a0.Sig a1).bind fun x2 =>
    (qhA9 0 a0.Sig a0.Rules a1 x2 0 0).bind fun x3 =>
    some ((Redex.mk x3.2.2.2.2.2.1 x3.2.2.2.2.2.2), x3.1)
  else
  some ((Redex.mk 0 0), false)
noncomputable def qdL9 (s0 : List Bind) (s1 : Int) (s4 : List Int) (s7 : List Bind) (s8 : Int) : Int → Option (Int ⊕ (((List Int)) ⊕ Int)) := fun s9 =>
  if s9 < s8 then
    (idx s7 s9).bind fun x1 =>
    if x1.Var = (w64 ((-1) - s1)) then
      some (.inr (.inl x1.T))
    else
    some (.inl (w64 (s9 + 1)))
  else
  some (.inr (.inr s9))
noncomputable def qgt9 (a0 : List Bind) (a1 : Int) : Option ((List Int)) :=
  (wh (qdL9 a0 a1 ([] : List Int) a0 (a0.length : Int)) 0).bind fun x2 =>
  match x2 with
  | .inl x3 =>
    some x3
  | .inr x4 =>
    some ([a1] : List Int)
noncomputable def qes9 (s0 : System) (s1 : List Int) (s2 : Redex) (s6 : List Int) (s8 : Int) (s9 : Int) (s11 : List Bind) (s12 : Bool) (s14 : Int) (s87 : List Int) (s88 : Int) (b3_0 : List Symbol) (b3_1 : List Rule) (b5_0 : Int) (b5_1 : Int) (b10_0 : List Int) (b10_1 : List Int) : Int × (List Int) → Option ((Int × (List Int)) ⊕ (((List Int) × Int) ⊕ (Int × (List Int)))) := fun (s89, o13) =>
  if s89 < s88 then
    (idx s87 s89).bind fun x8 =>
    if x8 < 0 then
      (qgt9 s11 x8).bind fun x9 =>
      if 512 < (w64 ((w64 ((o13.length : Int) + (x9.length : Int))) + s14)) then
        some (.inr (.inl (([] : List Int), 2)))
      else
      if (o13.length + x9.length) * 8 ≤ 140737488355328 then
      some (.inl (w64 (s89 + 1), o13 ++ x9))
      else none
    else
    if 512 < (w64 ((w64 ((o13.length : Int) + 1)) + s14)) then
      some (.inr (.inl (([] : List Int), 2)))
    else
    if (o13.length + 1) * 8 ≤ 140737488355328 then
    some (.inl (w64 (s89 + 1), o13 ++ ([x8] : List Int)))
    else none
  else
  some (.inr (.inr (s89, o13)))
noncomputable def qgc9 (a0 : System) (a1 : List Int) (a2 : Redex) : Option ((List Int) × Int) :=
  (qfc9 a0 a1).bind fun x1 =>
  if x1 = 0 then
    if a2.At < 0 then
      some (([] : List Int), 33)
    else
    if (a1.length : Int) ≤ a2.At then
      some (([] : List Int), 33)
    else
    if a2.Rule < 0 then
      some (([] : List Int), 1)
    else
    if (a0.Rules.length : Int) ≤ a2.Rule then
      some (([] : List Int), 1)
    else
    (qgi9 a0.Sig a1).bind fun x2 =>
    (idx x2 a2.At).bind fun x3 =>
    (idx a0.Rules a2.Rule).bind fun x4 =>
    (cutL a1 a2.At x3).bind fun x5 =>
    (qeE9 a0.Sig x4.L x5).bind fun x6 =>
    if x6.2 = true then
      (cutL a1 0 a2.At).bind fun x7 =>
      if x7.length * 8 ≤ 140737488355328 then
      (wh (qes9 a0 a1 a2 ([] : List Int) x1 x3 x6.1 x6.2 (w64 ((a1.length : Int) - x3)) x4.R (x4.R.length : Int) a0.Sig a0.Rules a2.At a2.Rule x4.L x4.R) (0, x7)).bind fun x10 =>
      match x10 with
      | .inl x11 =>
        some x11
      | .inr (x12, x13) =>
        (cutL a1 x3 (a1.length : Int)).bind fun x15 =>
        if (x13.length + x15.length) * 8 ≤ 140737488355328 then
        some (x13 ++ x15, 0)
        else none
      else none
    else
    some (([] : List Int), 80)
  else
  some (([] : List Int), x1)
noncomputable def qck9 (s0 : System) (s1 : List Int) (s2 : Int) (s8 : Int) (b3_0 : List Symbol) (b3_1 : List Rule) (b6_0 : List Redex) (b6_1 : List Int) (b6_2 : Bool) (b9_2 : Bool) : (List Int) × (List Redex) → Option (((List Int) × (List Redex)) ⊕ (Walk × Int)) := fun (b9_1, o9_0) =>
  if 512 < (b9_1.length : Int) then
    some (.inr ((Walk.mk ([] : List Redex) ([] : List Int) false), 2))
  else
  (qbE9 (System.mk b3_0 b3_1) b9_1).bind fun x2 =>
  if x2.2 = true then
    if (o9_0.length : Int) = s2 then
      some (.inr ((Walk.mk o9_0 b9_1 (!x2.2)), 0))
    else
    (qgc9 (System.mk b3_0 b3_1) b9_1 x2.1).bind fun x3 =>
    if x3.2 = 0 then
      if (o9_0.length + 1) * 16 ≤ 140737488355328 then
      some (.inl (x3.1, o9_0 ++ [x2.1]))
      else none
    else
    some (.inr ((Walk.mk ([] : List Redex) ([] : List Int) false), x3.2))
  else
  some (.inr ((Walk.mk o9_0 b9_1 (!x2.2)), 0))
noncomputable def qbr9 (a0 : System) (a1 : List Int) (a2 : Int) : Option (Walk × Int) :=
  (qib9 a0 a1).bind fun x1 =>
  if x1 = 0 then
    if a2 < 0 then
      some ((Walk.mk ([] : List Redex) ([] : List Int) false), 1)
    else
    if 4096 < a2 then
      some ((Walk.mk ([] : List Redex) ([] : List Int) false), 1)
    else
    if a1.length * 8 ≤ 140737488355328 then
    (wh (qck9 a0 a1 a2 x1 a0.Sig a0.Rules ([] : List Redex) ([] : List Int) false false) (a1, ([] : List Redex))).bind fun x5 =>
    some x5
    else none
  else
  some ((Walk.mk ([] : List Redex) ([] : List Int) false), x1)
noncomputable def qcl9 (s0 : System) (s2 : List Redex) (s6 : List Int) (s9 : Int) (s25 : List Redex) (s26 : Int) (b3_0 : List Symbol) (b3_1 : List Rule) : (List Int) × Int → Option (((List Int) × Int) ⊕ (((List Int) × Int × Int) ⊕ ((List Int) × Int))) := fun (s1, s27) =>
  if s27 < s26 then
    (idx s25 s27).bind fun x2 =>
    (qgc9 (System.mk b3_0 b3_1) s1 x2).bind fun x3 =>
    if x3.2 = 0 then
      some (.inl (x3.1, w64 (s27 + 1)))
    else
    some (.inr (.inl (([] : List Int), x3.2, s27)))
  else
  some (.inr (.inr (s1, s27)))
noncomputable def qdp9 (a0 : System) (a1 : List Int) (a2 : List Redex) : Option ((List Int) × Int × Int) :=
  (qib9 a0 a1).bind fun x1 =>
  if x1 = 0 then
    if 512 < (a1.length : Int) then
      some (([] : List Int), 2, 0)
    else
    if a1.length * 8 ≤ 140737488355328 then
    (wh (qcl9 a0 a2 ([] : List Int) x1 a2 (a2.length : Int) a0.Sig a0.Rules) (a1, 0)).bind fun x4 =>
    match x4 with
    | .inl x5 =>
      some x5
    | .inr (x6, x7) =>
      some (x6, 0, 0)
    else none
  else
  some (([] : List Int), x1, 0)
noncomputable def qfd9 (s0 : List Int) (s1 : List Int) : Int → Option (Int ⊕ (Bool ⊕ Int)) := fun s5 =>
  if s5 < (s0.length : Int) then
    (idx s0 s5).bind fun x1 =>
    (idx s1 s5).bind fun x2 =>
    if x1 = x2 then
      some (.inl (w64 (s5 + 1)))
    else
    some (.inr (.inl false))
  else
  some (.inr (.inr s5))
noncomputable def qbw9 (a0 : List Int) (a1 : List Int) : Option Bool :=
  if (a0.length : Int) = (a1.length : Int) then
    (wh (qfd9 a0 a1) 0).bind fun x3 =>
    match x3 with
    | .inl x4 =>
      some x4
    | .inr x5 =>
      some true
  else
  some false
noncomputable def qfG9 (s0 : Walk) (s1 : Walk) (s5 : Bool) (b2_0 : List Redex) (b2_1 : List Int) (b2_2 : Bool) (b3_0 : List Redex) (b3_1 : List Int) (b3_2 : Bool) : Int → Option (Int ⊕ (Bool ⊕ Int)) := fun s6 =>
  if s6 < (b2_0.length : Int) then
    (idx b2_0 s6).bind fun x2 =>
    (idx b3_0 s6).bind fun x3 =>
    if (decide (x2.At = x3.At) && decide (x2.Rule = x3.Rule)) = true then
      some (.inl (w64 (s6 + 1)))
    else
    some (.inr (.inl false))
  else
  some (.inr (.inr s6))
noncomputable def qeT9 (a0 : Walk) (a1 : Walk) : Option Bool :=
  (qbw9 a0.End a1.End).bind fun x1 =>
  if x1 = true then
    if (a0.Steps.length : Int) = (a1.Steps.length : Int) then
      if (a0.Normal != a1.Normal) = true then
        some false
      else
      (wh (qfG9 a0 a1 x1 a0.Steps a0.End a0.Normal a1.Steps a1.End a1.Normal) 0).bind fun x4 =>
      match x4 with
      | .inl x5 =>
        some x5
      | .inr x6 =>
        some true
    else
    some false
  else
  some false
noncomputable def qhn9  : Option Bool :=
  (qjA9).bind fun x1 =>
  (qbr9 x1 ([2, 1, 0, 1, 0] : List Int) 9).bind fun x2 =>
  (qbr9 x1 ([2, 1, 0, 1, 0] : List Int) 1).bind fun x3 =>
  (qdp9 x1 ([2, 1, 0, 1, 0] : List Int) ([(Redex.mk 0 1), (Redex.mk 1 0)] : List Redex)).bind fun x4 =>
  (qdp9 x1 ([2, 1, 0, 1, 0] : List Int) ([(Redex.mk 0 0)] : List Redex)).bind fun x5 =>
  (qeT9 x2.1 (Walk.mk ([(Redex.mk 0 1), (Redex.mk 1 0)] : List Redex) ([1, 1, 0] : List Int) true)).bind fun x6 =>
  (qeT9 x3.1 (Walk.mk ([(Redex.mk 0 1)] : List Redex) ([1, 2, 0, 1, 0] : List Int) false)).bind fun x7 =>
  (qbw9 x4.1 ([1, 1, 0] : List Int)).bind fun x8 =>
  if x6 = true then
    if x7 = true then
      if x8 = true then
        if x2.2 = 0 then
          if x3.2 = 0 then
            if x4.2.1 = 0 then
              if x4.2.2 = 0 then
                if x5.2.1 = 80 then
                  some (decide (x5.2.2 = 0))
                else
                some false
              else
              some false
            else
            some false
          else
          some false
        else
        some false
      else
      some false
    else
    some false
  else
  some false
noncomputable def qdt9 (s0 : ByteArray) (t7 : ByteArray) : ByteArray × Nat → Option ((ByteArray × Nat) ⊕ (ByteArray × Nat)) := fun (s3, q7) =>
  if q7 < t7.size then
    if ((s3.size + (Utf8.encode ((Utf8.decode t7 q7).1 : Int)).size : Nat) : Int) ≤ 9223372036854775807 then
    some (.inl (s3 ++ (Utf8.encode ((Utf8.decode t7 q7).1 : Int)), q7 + (Utf8.decode t7 q7).2))
    else none
  else
  some (.inr (s3, q7))
noncomputable def qid9 (a0 : ByteArray) : Option Bool :=
  (wh (qdt9 a0 a0) ({ data := #[] }, 0)).bind fun x1 =>
  match x1 with
  | (x2, x3) =>
  some (decide (x2 = a0))
noncomputable def qgq9 (a0 : Int) : Option Bool :=
  if 97 ≤ a0 then
    if a0 ≤ 122 then
      some true
    else
    if 65 ≤ a0 then
      if a0 ≤ 90 then
        some true
      else
      some (decide (128 ≤ a0))
    else
    some (decide (128 ≤ a0))
  else
  if 65 ≤ a0 then
    if a0 ≤ 90 then
      some true
    else
    some (decide (128 ≤ a0))
  else
  some (decide (128 ≤ a0))
noncomputable def qin9 (a0 : Int) : Option Bool :=
  (qgq9 a0).bind fun x1 =>
  if x1 = true then
    some true
  else
  if 48 ≤ a0 then
    if a0 ≤ 57 then
      some true
    else
    if a0 = 95 then
      some true
    else
    some (decide (a0 = 39))
  else
  if a0 = 95 then
    some true
  else
  some (decide (a0 = 39))
noncomputable def qfx9 (s0 : ByteArray) (t18 : ByteArray) : Nat → Option (Nat ⊕ (Bool ⊕ Nat)) := fun q18 =>
  if q18 < t18.size then
    if (q18 : Int) = 0 then
      (qgq9 ((Utf8.decode t18 q18).1 : Int)).bind fun x2 =>
      if x2 = true then
        (qin9 ((Utf8.decode t18 q18).1 : Int)).bind fun x3 =>
        if x3 = true then
          some (.inl (q18 + (Utf8.decode t18 q18).2))
        else
        some (.inr (.inl false))
      else
      some (.inr (.inl false))
    else
    (qin9 ((Utf8.decode t18 q18).1 : Int)).bind fun x4 =>
    if x4 = true then
      some (.inl (q18 + (Utf8.decode t18 q18).2))
    else
    some (.inr (.inl false))
  else
  some (.inr (.inr q18))
noncomputable def qgI9 (a0 : ByteArray) : Option Bool :=
  if a0 = ({ data := #[] }) then
    some false
  else
  if 32 < (a0.size : Int) then
    some false
  else
  (qid9 a0).bind fun x1 =>
  if x1 = true then
    (wh (qfx9 a0 a0) 0).bind fun x5 =>
    match x5 with
    | .inl x6 =>
      some x6
    | .inr x7 =>
      some true
  else
  some false
noncomputable def qdm9 (a0 : ByteArray) : Option Bool :=
  if 0 < (a0.size : Int) then
    (sidx a0 (w64 ((a0.size : Int) - 1))).bind fun x1 =>
    if x1 = 35 then
      (cutBA a0 0 (w64 ((a0.size : Int) - 1))).bind fun x2 =>
      (qgI9 x2).bind fun x3 =>
      some x3
    else
    some false
  else
  some false
noncomputable def qca9 (s0 : List Symbol) (s3 : Int) : Int → Option (Int ⊕ (Int ⊕ Unit)) := fun s4 =>
  if s4 < s3 then
    (idx s0 s4).bind fun x9 =>
    (idx s0 s3).bind fun x10 =>
    if x9.Name = x10.Name then
      some (.inr (.inl 36))
    else
    some (.inl (w64 (s4 + 1)))
  else
  some (.inr (.inr ()))
noncomputable def qbZ9 (s0 : List Symbol) : Int → Option (Int ⊕ (Int ⊕ Int)) := fun s3 =>
  if s3 < (s0.length : Int) then
    (idx s0 s3).bind fun x1 =>
    (qgI9 x1.Name).bind fun x2 =>
    if x2 = true then
      if x1.Arity < 0 then
        some (.inr (.inl 35))
      else
      if 8 < x1.Arity then
        some (.inr (.inl 35))
      else
      (wh (qca9 s0 s3) 0).bind fun x5 =>
      match x5 with
      | .inl x6 =>
        some (.inr (.inl x6))
      | .inr () =>
        some (.inl (w64 (s3 + 1)))
    else
    (qdm9 x1.Name).bind fun x8 =>
    if x8 = true then
      if x1.Arity < 0 then
        some (.inr (.inl 35))
      else
      if 8 < x1.Arity then
        some (.inr (.inl 35))
      else
      (wh (qca9 s0 s3) 0).bind fun x11 =>
      match x11 with
      | .inl x12 =>
        some (.inr (.inl x12))
      | .inr () =>
        some (.inl (w64 (s3 + 1)))
    else
    some (.inr (.inl 34))
  else
  some (.inr (.inr s3))
noncomputable def qdH9 (a0 : List Symbol) : Option Int :=
  if 128 < (a0.length : Int) then
    some 37
  else
  (wh (qbZ9 a0) 0).bind fun x14 =>
  match x14 with
  | .inl x15 =>
    some x15
  | .inr x16 =>
    some 0
noncomputable def qea9 (s0 : List Symbol) (s3 : Int) : Int → Option (Int ⊕ (Int ⊕ Int)) := fun s4 =>
  if s4 < (s0.length : Int) then
    (idx s0 s4).bind fun x2 =>
    (qdm9 x2.Name).bind fun x3 =>
    if x3 = true then
      some (.inr (.inl 34))
    else
    some (.inl (w64 (s4 + 1)))
  else
  some (.inr (.inr s4))
noncomputable def qhg9 (a0 : List Symbol) : Option Int :=
  (qdH9 a0).bind fun x1 =>
  if x1 = 0 then
    if 64 < (a0.length : Int) then
      some 37
    else
    (wh (qea9 a0 x1) 0).bind fun x4 =>
    match x4 with
    | .inl x5 =>
      some x5
    | .inr x6 =>
      some 0
  else
  some x1
noncomputable def qcK9 (s0 : List Symbol) (s1 : List Int) : Int × Int → Option ((Int × Int) ⊕ (Int ⊕ (Int × Int))) := fun (s5, s6) =>
  if 0 < s5 then
    if s6 = (s1.length : Int) then
      some (.inr (.inl 31))
    else
    (idx s1 s6).bind fun x1 =>
    if (s0.length : Int) ≤ x1 then
      some (.inr (.inl 30))
    else
    if x1 < (-1048576) then
      some (.inr (.inl 30))
    else
    if 0 ≤ x1 then
      (idx s0 x1).bind fun x2 =>
      if (w64 ((w64 (s5 - 1)) + x2.Arity)) = 0 then
        if (w64 (s6 + 1)) < (s1.length : Int) then
          some (.inr (.inl 32))
        else
        some (.inl (w64 ((w64 (s5 - 1)) + x2.Arity), w64 (s6 + 1)))
      else
      some (.inl (w64 ((w64 (s5 - 1)) + x2.Arity), w64 (s6 + 1)))
    else
    if (w64 (s5 - 1)) = 0 then
      if (w64 (s6 + 1)) < (s1.length : Int) then
        some (.inr (.inl 32))
      else
      some (.inl (w64 (s5 - 1), w64 (s6 + 1)))
    else
    some (.inl (w64 (s5 - 1), w64 (s6 + 1)))
  else
  some (.inr (.inr (s5, s6)))
noncomputable def qfN9 (a0 : List Symbol) (a1 : List Int) : Option Int :=
  (wh (qcK9 a0 a1) (1, 0)).bind fun x3 =>
  match x3 with
  | .inl x4 =>
    some x4
  | .inr (x5, x6) =>
    some 0
noncomputable def qdR9 (s0 : List Int) (s2 : List Int) (s4 : Int) (o3 : List Int) : Bool × Int → Option ((Bool × Int) ⊕ Bool) := fun (s5, s6) =>
  if s6 < (o3.length : Int) then
    if s5 = true then
      some (.inl (true, w64 (s6 + 1)))
    else
    (idx o3 s6).bind fun x2 =>
    (idx s0 s4).bind fun x3 =>
    some (.inl (decide (x2 = (w64 ((-1) - x3))), w64 (s6 + 1)))
  else
  some (.inr s5)
noncomputable def qcM9 (s0 : List Int) (s2 : List Int) : Int × (List Int) → Option ((Int × (List Int)) ⊕ (Int × (List Int))) := fun (s4, o3) =>
  if s4 < (s0.length : Int) then
    (idx s0 s4).bind fun x1 =>
    (wh (qdR9 s0 s2 s4 o3) (decide (0 ≤ x1), 0)).bind fun x5 =>
    if x5 = true then
      some (.inl (w64 (s4 + 1), o3))
    else
    if (o3.length + 1) * 8 ≤ 140737488355328 then
    some (.inl (w64 (s4 + 1), o3 ++ [w64 ((-1) - x1)]))
    else none
  else
  some (.inr (s4, o3))
noncomputable def qgS9 (a0 : List Int) : Option ((List Int)) :=
  (wh (qcM9 a0 ([] : List Int)) (0, ([] : List Int))).bind fun x7 =>
  match x7 with
  | (x8, x9) =>
  some x9
noncomputable def qff9 (s0 : List Int) (s1 : Int) : Int → Option (Int ⊕ (Bool ⊕ Int)) := fun s5 =>
  if s5 < (s0.length : Int) then
    (idx s0 s5).bind fun x1 =>
    if x1 = s1 then
      some (.inr (.inl true))
    else
    some (.inl (w64 (s5 + 1)))
  else
  some (.inr (.inr s5))
noncomputable def qjj9 (a0 : List Int) (a1 : Int) : Option Bool :=
  (wh (qff9 a0 a1) 0).bind fun x2 =>
  match x2 with
  | .inl x3 =>
    some x3
  | .inr x4 =>
    some false
noncomputable def qeD9 (s0 : List Symbol) (s1 : Rule) (s5 : Int) (s6 : List Int) (s7 : List Int) (b3_0 : List Int) (b3_1 : List Int) : Int → Option (Int ⊕ (Int ⊕ Int)) := fun s8 =>
  if s8 < (s7.length : Int) then
    (idx s7 s8).bind fun x6 =>
    (qjj9 s6 x6).bind fun x7 =>
    if x7 = true then
      some (.inl (w64 (s8 + 1)))
    else
    some (.inr (.inl 72))
  else
  some (.inr (.inr s8))
noncomputable def qig9 (a0 : List Symbol) (a1 : Rule) : Option Int :=
  (qfN9 a0 a1.L).bind fun x1 =>
  if x1 = 0 then
    (qfN9 a0 a1.R).bind fun x2 =>
    if x2 = 0 then
      if 512 < (a1.L.length : Int) then
        some 2
      else
      if 512 < (a1.R.length : Int) then
        some 2
      else
      (idx a1.L 0).bind fun x3 =>
      if x3 < 0 then
        some 71
      else
      (qgS9 a1.L).bind fun x4 =>
      (qgS9 a1.R).bind fun x5 =>
      (wh (qeD9 a0 a1 x2 x4 x5 a1.L a1.R) 0).bind fun x8 =>
      match x8 with
      | .inl x9 =>
        some x9
      | .inr x10 =>
        some 0
    else
    some x2
  else
  some x1
noncomputable def qed9 (s0 : System) (s4 : Int) (b1_0 : List Symbol) (b1_1 : List Rule) : Int → Option (Int ⊕ ((Int × Int) ⊕ Int)) := fun s5 =>
  if s5 < (b1_1.length : Int) then
    (idx b1_1 s5).bind fun x2 =>
    (qig9 b1_0 x2).bind fun x3 =>
    if x3 = 0 then
      some (.inl (w64 (s5 + 1)))
    else
    some (.inr (.inl (x3, s5)))
  else
  some (.inr (.inr s5))
noncomputable def qhi9 (a0 : System) : Option (Int × Int) :=
  (qhg9 a0.Sig).bind fun x1 =>
  if x1 = 0 then
    if 64 < (a0.Rules.length : Int) then
      some (70, (-1))
    else
    (wh (qed9 a0 x1 a0.Sig a0.Rules) 0).bind fun x4 =>
    match x4 with
    | .inl x5 =>
      some x5
    | .inr x6 =>
      some (0, 0)
  else
  some (x1, (-1))
noncomputable def qhs9 (a0 : System) : Option Bool :=
  (qhi9 a0).bind fun x1 =>
  some (decide (x1.1 = 0))
noncomputable def qeO9 (a0 : List Symbol) (a1 : List Int) : Option Int :=
  (qdH9 a0).bind fun x1 =>
  if x1 = 0 then
    (qfN9 a0 a1).bind fun x2 =>
    some x2
  else
  some x1
noncomputable def qgk9 (a0 : Int) (a1 : Int) : Option Int :=
  if a0 < 0 then
    (remV (w64 (0 - (w64 (a0 + 1)))) a1).bind fun x1 =>
    some x1
  else
  (remV a0 a1).bind fun x2 =>
  some x2
noncomputable def qT9 (s0 : System) (s1 : List Int) (s2 : Int × Int) (s7 : Bool) (s8 : Bool) (s9 : Int) (s10 : Int) (s11 : Int) (s13 : Int) (s15 : Int) (s16 : List Int) (s17 : Int) (s19 : Bool) (s20 : Int) (b3_0 : List Symbol) (b3_1 : List Rule) (b5_0 : Int) (b5_1 : Int) (b12_0 : List Redex) (b12_1 : List Int) (b12_2 : Bool) (b14_0 : List Redex) (b14_1 : List Int) (b14_2 : Bool) (b21_0 : List Redex) (b21_1 : List Int) (b21_2 : Bool) : Int → Option (Int ⊕ (Bool ⊕ Int)) := fun s22 =>
  if s22 < (b21_0.length : Int) then
    (idx b21_0 s22).bind fun x56 =>
    (idx b12_0 (w64 ((b14_0.length : Int) + s22))).bind fun x57 =>
    if (decide (x56.At = x57.At) && decide (x56.Rule = x57.Rule)) = true then
      some (.inl (w64 (s22 + 1)))
    else
    some (.inr (.inl false))
  else
  some (.inr (.inr s22))
noncomputable def qV9 (s0 : System) (s1 : List Int) (s2 : Int × Int) (s7 : Bool) (s8 : Bool) (s9 : Int) (s10 : Int) (s11 : Int) (s13 : Int) (s15 : Int) (s16 : List Int) (s17 : Int) (s19 : Bool) (b3_0 : List Symbol) (b3_1 : List Rule) (b5_0 : Int) (b5_1 : Int) (b12_0 : List Redex) (b12_1 : List Int) (b12_2 : Bool) (b14_0 : List Redex) (b14_1 : List Int) (b14_2 : Bool) : Int → Option (Int ⊕ (Bool ⊕ Int)) := fun s20 =>
  if s20 < (b14_0.length : Int) then
    (idx b14_0 s20).bind fun x49 =>
    (idx b12_0 s20).bind fun x50 =>
    if (decide (x49.At = x50.At) && decide (x49.Rule = x50.Rule)) = true then
      some (.inl (w64 (s20 + 1)))
    else
    some (.inr (.inl false))
  else
  some (.inr (.inr s20))
noncomputable def qey9 (a0 : System) (a1 : List Int) (a2 : Int × Int) : Option Bool :=
  (qhn9).bind fun x1 =>
  (qhs9 a0).bind fun x2 =>
  (qeO9 a0.Sig a1).bind fun x3 =>
  if x1 = true then
    if x2 = true then
      if x3 = 0 then
        (qgk9 a2.1 300).bind fun x4 =>
        (qgk9 a2.2 (w64 (x4 + 1))).bind fun x5 =>
        (qbr9 a0 a1 x4).bind fun x6 =>
        (qbr9 a0 a1 x5).bind fun x7 =>
        if x6.2 = 0 then
          (qdp9 a0 a1 x6.1.Steps).bind fun x8 =>
          (qbw9 x8.1 x6.1.End).bind fun x9 =>
          if x7.2 = 0 then
            if x8.2.1 = 0 then
              if x9 = true then
                if x4 < (x6.1.Steps.length : Int) then
                  some false
                else
                if (x6.1.Steps.length : Int) < (x7.1.Steps.length : Int) then
                  some false
                else
                if (x7.1.Steps.length : Int) < (x6.1.Steps.length : Int) then
                  if (x7.1.Steps.length : Int) = x5 then
                    if x6.1.Normal = true then
                      (wh (qV9 a0 a1 a2 x1 x2 x3 x4 x5 x6.2 x7.2 x8.1 x8.2.1 x9 a0.Sig a0.Rules a2.1 a2.2 x6.1.Steps x6.1.End x6.1.Normal x7.1.Steps x7.1.End x7.1.Normal) 0).bind fun x12 =>
                      match x12 with
                      | .inl x13 =>
                        some x13
                      | .inr x14 =>
                        (qbr9 a0 x7.1.End (w64 (x4 - (x7.1.Steps.length : Int)))).bind fun x15 =>
                        (qbw9 x15.1.End x6.1.End).bind fun x16 =>
                        if x15.2 = 0 then
                          if x16 = true then
                            if (x15.1.Steps.length : Int) = (w64 ((x6.1.Steps.length : Int) - (x7.1.Steps.length : Int))) then
                              if (x15.1.Normal != x6.1.Normal) = true then
                                some false
                              else
                              (wh (qT9 a0 a1 a2 x1 x2 x3 x4 x5 x15.2 x7.2 x8.1 x8.2.1 x16 x14 a0.Sig a0.Rules a2.1 a2.2 x6.1.Steps x6.1.End x6.1.Normal x7.1.Steps x7.1.End x7.1.Normal x15.1.Steps x15.1.End x15.1.Normal) 0).bind fun x19 =>
                              match x19 with
                              | .inl x20 =>
                                some x20
                              | .inr x21 =>
                                (qbE9 a0 x6.1.End).bind fun x22 =>
                                some (x22.2 == (!x6.1.Normal))
                            else
                            some false
                          else
                          some false
                        else
                        some false
                    else
                    if (x6.1.Steps.length : Int) = x4 then
                      (wh (qV9 a0 a1 a2 x1 x2 x3 x4 x5 x6.2 x7.2 x8.1 x8.2.1 x9 a0.Sig a0.Rules a2.1 a2.2 x6.1.Steps x6.1.End x6.1.Normal x7.1.Steps x7.1.End x7.1.Normal) 0).bind fun x25 =>
                      match x25 with
                      | .inl x26 =>
                        some x26
                      | .inr x27 =>
                        (qbr9 a0 x7.1.End (w64 (x4 - (x7.1.Steps.length : Int)))).bind fun x28 =>
                        (qbw9 x28.1.End x6.1.End).bind fun x29 =>
                        if x28.2 = 0 then
                          if x29 = true then
                            if (x28.1.Steps.length : Int) = (w64 ((x6.1.Steps.length : Int) - (x7.1.Steps.length : Int))) then
                              if (x28.1.Normal != x6.1.Normal) = true then
                                some false
                              else
                              (wh (qT9 a0 a1 a2 x1 x2 x3 x4 x5 x28.2 x7.2 x8.1 x8.2.1 x29 x27 a0.Sig a0.Rules a2.1 a2.2 x6.1.Steps x6.1.End x6.1.Normal x7.1.Steps x7.1.End x7.1.Normal x28.1.Steps x28.1.End x28.1.Normal) 0).bind fun x32 =>
                              match x32 with
                              | .inl x33 =>
                                some x33
                              | .inr x34 =>
                                (qbE9 a0 x6.1.End).bind fun x35 =>
                                some (x35.2 == (!x6.1.Normal))
                            else
                            some false
                          else
                          some false
                        else
                        some false
                    else
                    some false
                  else
                  some false
                else
                if x6.1.Normal = true then
                  (wh (qV9 a0 a1 a2 x1 x2 x3 x4 x5 x6.2 x7.2 x8.1 x8.2.1 x9 a0.Sig a0.Rules a2.1 a2.2 x6.1.Steps x6.1.End x6.1.Normal x7.1.Steps x7.1.End x7.1.Normal) 0).bind fun x38 =>
                  match x38 with
                  | .inl x39 =>
                    some x39
                  | .inr x40 =>
                    (qbr9 a0 x7.1.End (w64 (x4 - (x7.1.Steps.length : Int)))).bind fun x41 =>
                    (qbw9 x41.1.End x6.1.End).bind fun x42 =>
                    if x41.2 = 0 then
                      if x42 = true then
                        if (x41.1.Steps.length : Int) = (w64 ((x6.1.Steps.length : Int) - (x7.1.Steps.length : Int))) then
                          if (x41.1.Normal != x6.1.Normal) = true then
                            some false
                          else
                          (wh (qT9 a0 a1 a2 x1 x2 x3 x4 x5 x41.2 x7.2 x8.1 x8.2.1 x42 x40 a0.Sig a0.Rules a2.1 a2.2 x6.1.Steps x6.1.End x6.1.Normal x7.1.Steps x7.1.End x7.1.Normal x41.1.Steps x41.1.End x41.1.Normal) 0).bind fun x45 =>
                          match x45 with
                          | .inl x46 =>
                            some x46
                          | .inr x47 =>
                            (qbE9 a0 x6.1.End).bind fun x48 =>
                            some (x48.2 == (!x6.1.Normal))
                        else
                        some false
                      else
                      some false
                    else
                    some false
                else
                if (x6.1.Steps.length : Int) = x4 then
                  (wh (qV9 a0 a1 a2 x1 x2 x3 x4 x5 x6.2 x7.2 x8.1 x8.2.1 x9 a0.Sig a0.Rules a2.1 a2.2 x6.1.Steps x6.1.End x6.1.Normal x7.1.Steps x7.1.End x7.1.Normal) 0).bind fun x51 =>
                  match x51 with
                  | .inl x52 =>
                    some x52
                  | .inr x53 =>
                    (qbr9 a0 x7.1.End (w64 (x4 - (x7.1.Steps.length : Int)))).bind fun x54 =>
                    (qbw9 x54.1.End x6.1.End).bind fun x55 =>
                    if x54.2 = 0 then
                      if x55 = true then
                        if (x54.1.Steps.length : Int) = (w64 ((x6.1.Steps.length : Int) - (x7.1.Steps.length : Int))) then
                          if (x54.1.Normal != x6.1.Normal) = true then
                            some false
                          else
                          (wh (qT9 a0 a1 a2 x1 x2 x3 x4 x5 x54.2 x7.2 x8.1 x8.2.1 x55 x53 a0.Sig a0.Rules a2.1 a2.2 x6.1.Steps x6.1.End x6.1.Normal x7.1.Steps x7.1.End x7.1.Normal x54.1.Steps x54.1.End x54.1.Normal) 0).bind fun x58 =>
                          match x58 with
                          | .inl x59 =>
                            some x59
                          | .inr x60 =>
                            (qbE9 a0 x6.1.End).bind fun x61 =>
                            some (x61.2 == (!x6.1.Normal))
                        else
                        some false
                      else
                      some false
                    else
                    some false
                else
                some false
              else
              some false
            else
            some false
          else
          some false
        else
        if x6.2 = 2 then
          if (x6.1.End.length : Int) = 0 then
            if x7.2 = 0 then
              some true
            else
            some (decide (x7.2 = 2))
          else
          some false
        else
        some false
      else
      some x1
    else
    some x1
  else
  some x1
end Ld

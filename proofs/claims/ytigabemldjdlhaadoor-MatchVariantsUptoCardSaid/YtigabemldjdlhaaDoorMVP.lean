import Derived.Test.YtigabemldjdlhaaDoorMVT
import Derived.Lib.ValidU
set_option maxHeartbeats 400000
set_option linter.unusedVariables false
set_option linter.unusedSimpArgs false
namespace Ld
open Go Go.Abs
set_option maxRecDepth 8000
noncomputable def l05_three  : Option ((List Symbol)) :=
  some ([(Symbol.mk ({ data := #[122, 101, 114, 111] }) 0), (Symbol.mk ({ data := #[115] }) 1), (Symbol.mk ({ data := #[112, 108, 117, 115] }) 2)] : List Symbol)
def unicode_utf8_ValidString (s : ByteArray) : Option Bool := if s.size ≤ 9223372036854775807 then some (Go.Lib.validD s.data.toList) else none

noncomputable def term_letter (a0 : Int) : Option Bool :=
  if 97 ≤ a0 then
    if a0 ≤ 122 then
      some true
    else
    if 65 ≤ a0 then
      if a0 ≤ 90 then
        some true
      else
      some (decide (128 ≤ a0))
    else
    some (decide (128 ≤ a0))
  else
  if 65 ≤ a0 then
    if a0 ≤ 90 then
      some true
    else
    some (decide (128 ≤ a0))
  else
  some (decide (128 ≤ a0))
noncomputable def term_named_l0 (s0 : ByteArray) (t18 : ByteArray) : Nat → Option (Nat ⊕ (Bool ⊕ Nat)) := fun q18 =>
  if q18 < t18.size then
    (term_letter ((Utf8.decode t18 q18).1 : Int)).bind fun x2 =>
    if x2 = true then
      some (.inl (q18 + (Utf8.decode t18 q18).2))
    else
    if 0 < (q18 : Int) then
      if 48 ≤ ((Utf8.decode t18 q18).1 : Int) then
        if ((Utf8.decode t18 q18).1 : Int) ≤ 57 then
          some (.inl (q18 + (Utf8.decode t18 q18).2))
        else
        if ((Utf8.decode t18 q18).1 : Int) = 95 then
          some (.inl (q18 + (Utf8.decode t18 q18).2))
        else
        if ((Utf8.decode t18 q18).1 : Int) = 39 then
          some (.inl (q18 + (Utf8.decode t18 q18).2))
        else
        some (.inr (.inl false))
      else
      if ((Utf8.decode t18 q18).1 : Int) = 95 then
        some (.inl (q18 + (Utf8.decode t18 q18).2))
      else
      if ((Utf8.decode t18 q18).1 : Int) = 39 then
        some (.inl (q18 + (Utf8.decode t18 q18).2))
      else
      some (.inr (.inl false))
    else
    some (.inr (.inl false))
  else
  some (.inr (.inr q18))
noncomputable def term_named (a0 : ByteArray) : Option Bool :=
  if a0 = ({ data := #[] }) then
    some false
  else
  if 32 < (a0.size : Int) then
    some false
  else
  (unicode_utf8_ValidString a0).bind fun x1 =>
  if x1 = true then
    (wh (term_named_l0 a0 a0) 0).bind fun x3 =>
    match x3 with
    | .inl x4 =>
      some x4
    | .inr x5 =>
      some true
  else
  some false
noncomputable def term_CheckSig_c1 (a0 : Symbol) (a1 : Symbol) : Option Bool :=
  some (decide (a0.Name = a1.Name))
noncomputable def slices_IndexFunc_s_api_Symbol_api_Symbol_on_term_CheckSig_c1_l0 (s0 : List Symbol) (s1_0 : Symbol) (s7 : Int) : Int → Option (Int ⊕ (Int ⊕ Int)) := fun s8 =>
  if s8 < s7 then
    (idx s0 s8).bind fun x1 =>
    (term_CheckSig_c1 x1 s1_0).bind fun x2 =>
    if x2 = true then
      some (.inr (.inl s8))
    else
    some (.inl (w64 (s8 + 1)))
  else
  some (.inr (.inr s8))
noncomputable def slices_IndexFunc_s_api_Symbol_api_Symbol_on_term_CheckSig_c1 (a0 : List Symbol) (a1_0 : Symbol) : Option Int :=
  (wh (slices_IndexFunc_s_api_Symbol_api_Symbol_on_term_CheckSig_c1_l0 a0 a1_0 (a0.length : Int)) 0).bind fun x3 =>
  match x3 with
  | .inl x4 =>
    some x4
  | .inr x5 =>
    some (-1)
noncomputable def slices_ContainsFunc_s_api_Symbol_api_Symbol_on_term_CheckSig_c1 (a0 : List Symbol) (a1_0 : Symbol) : Option Bool :=
  (slices_IndexFunc_s_api_Symbol_api_Symbol_on_term_CheckSig_c1 a0 a1_0).bind fun x1 =>
  some (decide (0 ≤ x1))
noncomputable def term_CheckSig_l0 (s0 : List Symbol) (s9 : List Symbol) (s10 : Int) : Int → Option (Int ⊕ (Int ⊕ Int)) := fun s11 =>
  if s11 < s10 then
    (idx s9 s11).bind fun x1 =>
    (term_named x1.Name).bind fun x2 =>
    if x2 = true then
      if x1.Arity < 0 then
        some (.inr (.inl 35))
      else
      if 8 < x1.Arity then
        some (.inr (.inl 35))
      else
      (cutL s0 0 s11).bind fun x3 =>
      (slices_ContainsFunc_s_api_Symbol_api_Symbol_on_term_CheckSig_c1 x3 x1).bind fun x4 =>
      if x4 = true then
        some (.inr (.inl 36))
      else
      some (.inl (w64 (s11 + 1)))
    else
    if (x1.Name.size : Int) = 0 then
      some (.inr (.inl 34))
    else
    (sidx x1.Name (w64 ((x1.Name.size : Int) - 1))).bind fun x5 =>
    if x5 = 35 then
      (cutBA x1.Name 0 (w64 ((x1.Name.size : Int) - 1))).bind fun x6 =>
      (term_named x6).bind fun x7 =>
      if x7 = true then
        if x1.Arity < 0 then
          some (.inr (.inl 35))
        else
        if 8 < x1.Arity then
          some (.inr (.inl 35))
        else
        (cutL s0 0 s11).bind fun x8 =>
        (slices_ContainsFunc_s_api_Symbol_api_Symbol_on_term_CheckSig_c1 x8 x1).bind fun x9 =>
        if x9 = true then
          some (.inr (.inl 36))
        else
        some (.inl (w64 (s11 + 1)))
      else
      some (.inr (.inl 34))
    else
    some (.inr (.inl 34))
  else
  some (.inr (.inr s11))
noncomputable def term_CheckSig (a0 : List Symbol) : Option Int :=
  if 128 < (a0.length : Int) then
    some 37
  else
  (wh (term_CheckSig_l0 a0 a0 (a0.length : Int)) 0).bind fun x10 =>
  match x10 with
  | .inl x11 =>
    some x11
  | .inr x12 =>
    some 0
/-- a symbol's arguments -/
def arOf (sig : List Symbol) (c : Int) : Nat := if 0 ≤ c then ((sig[c.toNat]?).map (·.Arity.toNat)).getD 0 else 0
/-- so many terms, read at a row's front: what is behind them, and what is wrong -/
def rdT (sig : List Symbol) : List Int → Nat → List Int × Int
  | r, 0 => (r, 0)
  | [], _ + 1 => ([], 31)
  | c :: r, k + 1 => if (sig.length : Int) ≤ c ∨ c < -1048576 then (c :: r, 30) else rdT sig r (k + arOf sig c)
def termRight (sig : List Symbol) (t : List Int) : Int := match rdT sig t 1 with
  | (r, e) => if e = 0 then (if r = [] then 0 else 32) else e

noncomputable def term_Check (sig : List Symbol) (t : List Int) : Option Int := (term_CheckSig sig).bind fun e => if e = 0 then (if t.length < 4611686018427387904 then some (termRight sig t) else none) else some e
theorem checkSig_ar {sig : List Symbol} (h : term_CheckSig sig = some 0) : ∀ s ∈ sig, 0 ≤ s.Arity ∧ s.Arity ≤ 8 := by
  simp only [term_CheckSig] at h
  split at h
  · cases h
  rename_i hlen
  obtain ⟨x, hx, h⟩ := bsome h
  have hI := wh_inv (fun i : Int => 0 ≤ i ∧ i ≤ sig.length ∧ ∀ (k : Nat) (s : Symbol), (k : Int) < i → sig[k]? = some s → 0 ≤ s.Arity ∧ s.Arity ≤ 8) (Q := fun r => match r with | .inl e => e ≠ 0 | .inr _ => ∀ (k : Nat) (s : Symbol), sig[k]? = some s → 0 ≤ s.Arity ∧ s.Arity ≤ 8) hx ⟨Int.le_refl _, by omega, fun k s hk => by omega⟩ ?_ ?_
  · cases x with
    | inl e => simp only [Option.some.injEq] at h; exact absurd h hI
    | inr i =>
      intro s hs
      obtain ⟨k, hk⟩ := List.getElem?_of_mem hs
      exact hI k s hk
  · intro i i' hi hs
    simp only [term_CheckSig_l0] at hs
    obtain ⟨h0, h1, h2⟩ := hi
    have key : ∀ x1 : Symbol, idx sig i = some x1 → i < sig.length → 0 ≤ x1.Arity → x1.Arity ≤ 8 → i' = w64 (i + 1) → 0 ≤ i' ∧ i' ≤ sig.length ∧ ∀ (k : Nat) (s : Symbol), (k : Int) < i' → sig[k]? = some s → 0 ≤ s.Arity ∧ s.Arity ≤ 8 := by
      intro x1 hx1 hlt a1 a2 e
      have hw : w64 (i + 1) = i + 1 := w64_small (by omega) (by omega)
      rw [hw] at e
      subst e
      refine ⟨by omega, by omega, fun k s hk hs => ?_⟩
      by_cases hki : (k : Int) < i
      · exact h2 k s hki hs
      · have : (k : Int) = i := by omega
        have h3 := (idx_some hx1).2.2
        rw [← this] at h3
        simp only [Int.toNat_natCast] at h3
        rw [hs] at h3
        cases h3
        exact ⟨a1, a2⟩
    split at hs
    · rename_i hlt
      obtain ⟨x1, e1, hs⟩ := bsome hs
      obtain ⟨x2, e2, hs⟩ := bsome hs
      split at hs
      · split at hs
        · cases hs
        split at hs
        · cases hs
        rename_i a1 a2
        obtain ⟨x3, e3, hs⟩ := bsome hs
        obtain ⟨x4, e4, hs⟩ := bsome hs
        split at hs
        · cases hs
        · simp only [Option.some.injEq, Sum.inl.injEq] at hs
          exact key x1 e1 hlt (by omega) (by omega) hs.symm
      · split at hs
        · cases hs
        obtain ⟨x5, e5, hs⟩ := bsome hs
        split at hs
        · obtain ⟨x6, e6, hs⟩ := bsome hs
          obtain ⟨x7, e7, hs⟩ := bsome hs
          split at hs
          · split at hs
            · cases hs
            split at hs
            · cases hs
            rename_i a1 a2
            obtain ⟨x8, e8, hs⟩ := bsome hs
            obtain ⟨x9, e9, hs⟩ := bsome hs
            split at hs
            · cases hs
            · simp only [Option.some.injEq, Sum.inl.injEq] at hs
              exact key x1 e1 hlt (by omega) (by omega) hs.symm
          · cases hs
        · cases hs
    · cases hs
  · intro i q hi hs
    simp only [term_CheckSig_l0] at hs
    obtain ⟨h0, h1, h2⟩ := hi
    split at hs
    · rename_i hlt
      obtain ⟨x1, e1, hs⟩ := bsome hs
      obtain ⟨x2, e2, hs⟩ := bsome hs
      split at hs
      · split at hs
        · cases hs; simp
        split at hs
        · cases hs; simp
        obtain ⟨x3, e3, hs⟩ := bsome hs
        obtain ⟨x4, e4, hs⟩ := bsome hs
        split at hs <;> cases hs
        simp
      · split at hs
        · cases hs; simp
        obtain ⟨x5, e5, hs⟩ := bsome hs
        split at hs
        · obtain ⟨x6, e6, hs⟩ := bsome hs
          obtain ⟨x7, e7, hs⟩ := bsome hs
          split at hs
          · split at hs
            · cases hs; simp
            split at hs
            · cases hs; simp
            obtain ⟨x8, e8, hs⟩ := bsome hs
            obtain ⟨x9, e9, hs⟩ := bsome hs
            split at hs <;> cases hs
            simp
          · cases hs; simp
        · cases hs; simp
    · rename_i hnl
      cases hs
      intro k s hk
      have := (List.getElem?_eq_some_iff.1 hk).1
      exact h2 k s (by omega) hk

noncomputable def match_part (a0 : Int) : Option D :=
  if a0 < 0 then
    some (.ifc 59 (.v (.int .i64 (w64 ((-1) - a0)))))
  else
  some (.ifc 57 (.v (.int .i64 a0)))
noncomputable def match_reach_l0 (s0 : List Symbol) (s1 : List Int) : Int × Int → Option ((Int × Int) ⊕ (Int × Int)) := fun (s5, s6) =>
  if 0 < s6 then
    (idx s1 s5).bind fun x1 =>
    if 0 ≤ x1 then
      (idx s0 x1).bind fun x2 =>
      some (.inl (w64 (s5 + 1), w64 ((w64 (s6 + x2.Arity)) - 1)))
    else
    some (.inl (w64 (s5 + 1), w64 (s6 - 1)))
  else
  some (.inr (s5, s6))
noncomputable def match_reach (a0 : List Symbol) (a1 : List Int) : Option Int :=
  (wh (match_reach_l0 a0 a1) (0, 1)).bind fun x3 =>
  match x3 with
  | (x4, x5) =>
  some x4
noncomputable def slices_Equal_s_int_int_l0 (s0 : List Int) (s1 : List Int) (s12 : Int) : Int → Option (Int ⊕ (Bool ⊕ Int)) := fun s13 =>
  if s13 < s12 then
    (idx s0 s13).bind fun x1 =>
    (idx s1 s13).bind fun x2 =>
    if x1 = x2 then
      some (.inl (w64 (s13 + 1)))
    else
    some (.inr (.inl false))
  else
  some (.inr (.inr s13))
noncomputable def slices_Equal_s_int_int (a0 : List Int) (a1 : List Int) : Option Bool :=
  if (a0.length : Int) = (a1.length : Int) then
    (wh (slices_Equal_s_int_int_l0 a0 a1 (a0.length : Int)) 0).bind fun x3 =>
    match x3 with
    | .inl x4 =>
      some x4
    | .inr x5 =>
      some true
  else
  some false

noncomputable def cmp_isNaN_int (a0 : Int) : Option Bool :=
  some (!decide (a0 = a0))
noncomputable def cmp_Compare_int (a0 : Int) (a1 : Int) : Option Int :=
  (cmp_isNaN_int a0).bind fun x1 =>
  (cmp_isNaN_int a1).bind fun x2 =>
  if x1 = true then
    if x2 = true then
      some 0
    else
    some (-1)
  else
  if x2 = true then
    some 1
  else
  if a0 < a1 then
    some (-1)
  else
  if a1 < a0 then
    some 1
  else
  some 0
noncomputable def match_Match_c1 (a0 : Bind) (a1 : Bind) : Option Int :=
  (cmp_Compare_int a0.Var a1.Var).bind fun x1 =>
  some x1
/-- binds by rising variables -/
def insB (b : Bind) : List Bind → List Bind
  | [] => [b]
  | c :: r => if b.Var < c.Var then b :: c :: r else c :: insB b r
def sortB : List Bind → List Bind
  | [] => []
  | b :: r => insB b (sortB r)
/-- sorted already -/
def upB : List Bind → Bool
  | [] => true
  | [_] => true
  | b :: c :: r => decide (b.Var < c.Var) && upB (c :: r)
/-- what this machine knows of the sort: short rows, sorted already -/
def sortBind (l : List Bind) : Option (List Bind) := if upB l = true ∧ l.length ≤ 12 then some l else none
theorem sortBind_len {l r : List Bind} (h : sortBind l = some r) : r.length = l.length := by
  obtain ⟨_, h⟩ := gsome h
  rw [← Option.some.inj h]
theorem upB_at : ∀ (l : List Bind), upB l = true → ∀ (i : Nat) (a b : Bind), l[i]? = some a → l[i + 1]? = some b → a.Var < b.Var := by
  intro l
  induction l with
  | nil => intro _ i a b h; simp at h
  | cons x r ih =>
    intro hu i a b ha hb
    cases r with
    | nil => simp at hb
    | cons y s =>
      simp only [upB, Bool.and_eq_true, decide_eq_true_eq] at hu
      cases i with
      | zero => simp at ha hb; subst ha; subst hb; exact hu.1
      | succ i => exact ih hu.2 i a b (by simpa using ha) (by simpa using hb)

noncomputable def match_Match_l0 (s0 : List Symbol) (s1 : List Int) (s6 : List Bind) (s30 : List Int) (s31 : Int) : (List Int) × Int × (List (Int × (List Int))) × (List Bind) → Option (((List Int) × Int × (List (Int × (List Int))) × (List Bind)) ⊕ (((List Bind) × Bool) ⊕ ((List Int) × Int × (List (Int × (List Int))) × (List Bind)))) := fun (s2, s32, m8, o9) =>
  if s32 < s31 then
    (idx s30 s32).bind fun x3 =>
    (match_part x3).bind fun x4 =>
    if ifInt x4 = true then
    match asI 57 .i64 x4 with
    | some x5 =>
      (idx s2 0).bind fun x6 =>
      if x6 = x5 then
        (cutL s2 1 (s2.length : Int)).bind fun x7 =>
        some (.inl (x7, w64 (s32 + 1), m8, o9))
      else
      some (.inr (.inl (([] : List Bind), false)))
    | none =>
      (asI 59 .i64 x4).bind fun x8 =>
      (match_reach s0 s2).bind fun x9 =>
      match mget m8 x8 with
      | some x10 =>
        (cutL s2 0 x9).bind fun x11 =>
        (slices_Equal_s_int_int x10 x11).bind fun x12 =>
        if x12 = true then
          (cutL s2 x9 (s2.length : Int)).bind fun x13 =>
          some (.inl (x13, w64 (s32 + 1), m8, o9))
        else
        some (.inr (.inl (([] : List Bind), false)))
      | none =>
        (cutL s2 0 x9).bind fun x14 =>
        if x14.length * 8 ≤ 140737488355328 then
        if (o9.length + 1) * 32 ≤ 140737488355328 then
        (cutL s2 x9 (s2.length : Int)).bind fun x15 =>
        some (.inl (x15, w64 (s32 + 1), mset m8 x8 x14, o9 ++ [(Bind.mk x8 x14)]))
        else none
        else none
    else none
  else
  some (.inr (.inr (s2, s32, m8, o9)))
noncomputable def match_Match (a0 : List Symbol) (a1 : List Int) (a2 : List Int) : Option ((List Bind) × Bool) :=
  (term_Check a0 a1).bind fun x1 =>
  if x1 = 0 then
    (term_Check a0 a2).bind fun x2 =>
    if x2 = 0 then
      (wh (match_Match_l0 a0 a1 ([] : List Bind) a1 (a1.length : Int)) (a2, 0, ([] : List (Int × (List Int))), ([] : List Bind))).bind fun x16 =>
      match x16 with
      | .inl x17 =>
        some x17
      | .inr (x18, x19, x20, x21) =>
        (sortBind x21).bind fun x24 =>
        some (x24, true)
    else
    some (([] : List Bind), false)
  else
  some (([] : List Bind), false)
noncomputable def l05_sameRow_l0 (s0 : List Int) (s1 : List Int) : Int → Option (Int ⊕ (Bool ⊕ Int)) := fun s5 =>
  if s5 < (s0.length : Int) then
    (idx s0 s5).bind fun x1 =>
    (idx s1 s5).bind fun x2 =>
    if x1 = x2 then
      some (.inl (w64 (s5 + 1)))
    else
    some (.inr (.inl false))
  else
  some (.inr (.inr s5))
noncomputable def l05_sameRow (a0 : List Int) (a1 : List Int) : Option Bool :=
  if (a0.length : Int) = (a1.length : Int) then
    (wh (l05_sameRow_l0 a0 a1) 0).bind fun x3 =>
    match x3 with
    | .inl x4 =>
      some x4
    | .inr x5 =>
      some true
  else
  some false
noncomputable def l05_same_l0 (s0 : List Bind) (s1 : List Bind) : Int → Option (Int ⊕ (Bool ⊕ Int)) := fun s5 =>
  if s5 < (s0.length : Int) then
    (idx s0 s5).bind fun x1 =>
    (idx s1 s5).bind fun x2 =>
    (l05_sameRow x1.T x2.T).bind fun x3 =>
    if x3 = true then
      if x1.Var = x2.Var then
        some (.inl (w64 (s5 + 1)))
      else
      some (.inr (.inl false))
    else
    some (.inr (.inl false))
  else
  some (.inr (.inr s5))
noncomputable def l05_same (a0 : List Bind) (a1 : List Bind) : Option Bool :=
  if (a0.length : Int) = (a1.length : Int) then
    (wh (l05_same_l0 a0 a1) 0).bind fun x4 =>
    match x4 with
    | .inl x5 =>
      some x5
    | .inr x6 =>
      some true
  else
  some false
/-- a variable's code gets a number where it has none -/
def canNum (m : List (Int × Int)) (c : Int) : List (Int × Int) := match mget m c with
  | none => mset m c (m.length : Int)
  | some _ => m
def canRow : List (Int × Int) → List Int → List (Int × Int) × List Int
  | m, [] => (m, [])
  | m, c :: r => if 0 ≤ c then ((canRow m r).1, c :: (canRow m r).2) else ((canRow (canNum m c) r).1, w64 (-1 - (mget (canNum m c) c).getD 0) :: (canRow (canNum m c) r).2)
def canRows : List (Int × Int) → List (List Int) → List (List Int)
  | _, [] => []
  | m, t :: r => (canRow m t).2 :: canRows (canRow m t).1 r
def subst_Canon (l : List (List Int)) : Option (List (List Int)) := if l.length * 24 ≤ 140737488355328 then (if l.all (fun t => decide (t.length * 8 ≤ 140737488355328)) = true then some (canRows [] l) else none) else none

noncomputable def match_Variant_l0 (s0 : List Symbol) (s1 : Rule) (s2 : Rule) (s19 : List (List Int)) (b4_0 : List Int) (b4_1 : List Int) (b5_0 : List Int) (b5_1 : List Int) : Int → Option (Int ⊕ (Bool ⊕ Int)) := fun s21 =>
  if s21 < 4 then
    (idx s19 s21).bind fun x1 =>
    (term_Check s0 x1).bind fun x2 =>
    if x2 = 0 then
      some (.inl (w64 (s21 + 1)))
    else
    some (.inr (.inl false))
  else
  some (.inr (.inr s21))
noncomputable def match_Variant (a0 : List Symbol) (a1 : Rule) (a2 : Rule) : Option Bool :=
  (wh (match_Variant_l0 a0 a1 a2 ([a1.L, a1.R, a2.L, a2.R] : List (List Int)) a1.L a1.R a2.L a2.R) 0).bind fun x3 =>
  match x3 with
  | .inl x4 =>
    some x4
  | .inr x5 =>
    (subst_Canon ([a1.L, a1.R] : List (List Int))).bind fun x6 =>
    (subst_Canon ([a2.L, a2.R] : List (List Int))).bind fun x7 =>
    (idx x6 0).bind fun x8 =>
    (idx x7 0).bind fun x9 =>
    (slices_Equal_s_int_int x8 x9).bind fun x10 =>
    if x10 = true then
      (idx x6 1).bind fun x11 =>
      (idx x7 1).bind fun x12 =>
      (slices_Equal_s_int_int x11 x12).bind fun x13 =>
      some x13
    else
    some false
noncomputable def l05_shown  : Option Bool :=
  (l05_three).bind fun x1 =>
  (match_Match x1 ([2, (-1), (-2)] : List Int) ([2, 1, 0, 0] : List Int)).bind fun x2 =>
  (match_Match x1 ([2, (-1), (-1)] : List Int) ([2, 0, 1, 0] : List Int)).bind fun x3 =>
  (l05_same x2.1 ([(Bind.mk 0 ([1, 0] : List Int)), (Bind.mk 1 ([0] : List Int))] : List Bind)).bind fun x4 =>
  (match_Variant x1 (Rule.mk ([2, (-1), (-2)] : List Int) ([(-1)] : List Int)) (Rule.mk ([2, (-7), (-3)] : List Int) ([(-7)] : List Int))).bind fun x5 =>
  (match_Variant x1 (Rule.mk ([2, (-1), (-2)] : List Int) ([(-1)] : List Int)) (Rule.mk ([2, (-7), (-3)] : List Int) ([(-3)] : List Int))).bind fun x6 =>
  if x4 = true then
    if x2.2 = true then
      if x3.2 = true then
        some false
      else
      if x5 = true then
        some (!x6)
      else
      some false
    else
    some false
  else
  some false
noncomputable def r03_good_l0 (s0 : ByteArray) (t7 : ByteArray) : ByteArray × Nat → Option ((ByteArray × Nat) ⊕ (ByteArray × Nat)) := fun (s3, q7) =>
  if q7 < t7.size then
    if ((s3.size + (Utf8.encode ((Utf8.decode t7 q7).1 : Int)).size : Nat) : Int) ≤ 9223372036854775807 then
    some (.inl (s3 ++ (Utf8.encode ((Utf8.decode t7 q7).1 : Int)), q7 + (Utf8.decode t7 q7).2))
    else none
  else
  some (.inr (s3, q7))
noncomputable def r03_good (a0 : ByteArray) : Option Bool :=
  (wh (r03_good_l0 a0 a0) ({ data := #[] }, 0)).bind fun x1 =>
  match x1 with
  | (x2, x3) =>
  some (decide (x2 = a0))
noncomputable def r03_letter (a0 : Int) : Option Bool :=
  if 97 ≤ a0 then
    if a0 ≤ 122 then
      some true
    else
    if 65 ≤ a0 then
      if a0 ≤ 90 then
        some true
      else
      some (decide (128 ≤ a0))
    else
    some (decide (128 ≤ a0))
  else
  if 65 ≤ a0 then
    if a0 ≤ 90 then
      some true
    else
    some (decide (128 ≤ a0))
  else
  some (decide (128 ≤ a0))
noncomputable def r03_more (a0 : Int) : Option Bool :=
  (r03_letter a0).bind fun x1 =>
  if x1 = true then
    some true
  else
  if 48 ≤ a0 then
    if a0 ≤ 57 then
      some true
    else
    if a0 = 95 then
      some true
    else
    some (decide (a0 = 39))
  else
  if a0 = 95 then
    some true
  else
  some (decide (a0 = 39))
noncomputable def r03_Name_l0 (s0 : ByteArray) (t18 : ByteArray) : Nat → Option (Nat ⊕ (Bool ⊕ Nat)) := fun q18 =>
  if q18 < t18.size then
    if (q18 : Int) = 0 then
      (r03_letter ((Utf8.decode t18 q18).1 : Int)).bind fun x2 =>
      if x2 = true then
        (r03_more ((Utf8.decode t18 q18).1 : Int)).bind fun x3 =>
        if x3 = true then
          some (.inl (q18 + (Utf8.decode t18 q18).2))
        else
        some (.inr (.inl false))
      else
      some (.inr (.inl false))
    else
    (r03_more ((Utf8.decode t18 q18).1 : Int)).bind fun x4 =>
    if x4 = true then
      some (.inl (q18 + (Utf8.decode t18 q18).2))
    else
    some (.inr (.inl false))
  else
  some (.inr (.inr q18))
noncomputable def r03_Name (a0 : ByteArray) : Option Bool :=
  if a0 = ({ data := #[] }) then
    some false
  else
  if 32 < (a0.size : Int) then
    some false
  else
  (r03_good a0).bind fun x1 =>
  if x1 = true then
    (wh (r03_Name_l0 a0 a0) 0).bind fun x5 =>
    match x5 with
    | .inl x6 =>
      some x6
    | .inr x7 =>
      some true
  else
  some false
noncomputable def r03_Marked (a0 : ByteArray) : Option Bool :=
  if 0 < (a0.size : Int) then
    (sidx a0 (w64 ((a0.size : Int) - 1))).bind fun x1 =>
    if x1 = 35 then
      (cutBA a0 0 (w64 ((a0.size : Int) - 1))).bind fun x2 =>
      (r03_Name x2).bind fun x3 =>
      some x3
    else
    some false
  else
  some false
noncomputable def r03_CheckSig_l1 (s0 : List Symbol) (s3 : Int) : Int → Option (Int ⊕ (Int ⊕ Int)) := fun s4 =>
  if s4 < s3 then
    (idx s0 s4).bind fun x9 =>
    (idx s0 s3).bind fun x10 =>
    if x9.Name = x10.Name then
      some (.inr (.inl 36))
    else
    some (.inl (w64 (s4 + 1)))
  else
  some (.inr (.inr s4))
noncomputable def r03_CheckSig_l0 (s0 : List Symbol) : Int → Option (Int ⊕ (Int ⊕ Int)) := fun s3 =>
  if s3 < (s0.length : Int) then
    (idx s0 s3).bind fun x1 =>
    (r03_Name x1.Name).bind fun x2 =>
    if x2 = true then
      if x1.Arity < 0 then
        some (.inr (.inl 35))
      else
      if 8 < x1.Arity then
        some (.inr (.inl 35))
      else
      (wh (r03_CheckSig_l1 s0 s3) 0).bind fun x5 =>
      match x5 with
      | .inl x6 =>
        some (.inr (.inl x6))
      | .inr x7 =>
        some (.inl (w64 (s3 + 1)))
    else
    (r03_Marked x1.Name).bind fun x8 =>
    if x8 = true then
      if x1.Arity < 0 then
        some (.inr (.inl 35))
      else
      if 8 < x1.Arity then
        some (.inr (.inl 35))
      else
      (wh (r03_CheckSig_l1 s0 s3) 0).bind fun x11 =>
      match x11 with
      | .inl x12 =>
        some (.inr (.inl x12))
      | .inr x13 =>
        some (.inl (w64 (s3 + 1)))
    else
    some (.inr (.inl 34))
  else
  some (.inr (.inr s3))
noncomputable def r03_CheckSig (a0 : List Symbol) : Option Int :=
  if 128 < (a0.length : Int) then
    some 37
  else
  (wh (r03_CheckSig_l0 a0) 0).bind fun x14 =>
  match x14 with
  | .inl x15 =>
    some x15
  | .inr x16 =>
    some 0
noncomputable def r03_Term_l0 (s0 : List Symbol) (s1 : List Int) : Int × Int → Option ((Int × Int) ⊕ (Int ⊕ (Int × Int))) := fun (s5, s6) =>
  if 0 < s5 then
    if s6 = (s1.length : Int) then
      some (.inr (.inl 31))
    else
    (idx s1 s6).bind fun x1 =>
    if (s0.length : Int) ≤ x1 then
      some (.inr (.inl 30))
    else
    if x1 < (-1048576) then
      some (.inr (.inl 30))
    else
    if 0 ≤ x1 then
      (idx s0 x1).bind fun x2 =>
      if (w64 ((w64 (s5 - 1)) + x2.Arity)) = 0 then
        if (w64 (s6 + 1)) < (s1.length : Int) then
          some (.inr (.inl 32))
        else
        some (.inl (w64 ((w64 (s5 - 1)) + x2.Arity), w64 (s6 + 1)))
      else
      some (.inl (w64 ((w64 (s5 - 1)) + x2.Arity), w64 (s6 + 1)))
    else
    if (w64 (s5 - 1)) = 0 then
      if (w64 (s6 + 1)) < (s1.length : Int) then
        some (.inr (.inl 32))
      else
      some (.inl (w64 (s5 - 1), w64 (s6 + 1)))
    else
    some (.inl (w64 (s5 - 1), w64 (s6 + 1)))
  else
  some (.inr (.inr (s5, s6)))
noncomputable def r03_Term (a0 : List Symbol) (a1 : List Int) : Option Int :=
  (wh (r03_Term_l0 a0 a1) (1, 0)).bind fun x3 =>
  match x3 with
  | .inl x4 =>
    some x4
  | .inr (x5, x6) =>
    some 0
noncomputable def r03_Check (a0 : List Symbol) (a1 : List Int) : Option Int :=
  (r03_CheckSig a0).bind fun x1 =>
  if x1 = 0 then
    (r03_Term a0 a1).bind fun x2 =>
    some x2
  else
  some x1
noncomputable def r03_Vars_l1 (s0 : List Int) (s2 : List Int) (s4 : Int) (o3 : List Int) : Bool × Int → Option ((Bool × Int) ⊕ (Bool × Int)) := fun (s5, s6) =>
  if s6 < (o3.length : Int) then
    if s5 = true then
      some (.inl (true, w64 (s6 + 1)))
    else
    (idx o3 s6).bind fun x2 =>
    (idx s0 s4).bind fun x3 =>
    some (.inl (decide (x2 = (w64 ((-1) - x3))), w64 (s6 + 1)))
  else
  some (.inr (s5, s6))
noncomputable def r03_Vars_l0 (s0 : List Int) (s2 : List Int) : Int × (List Int) → Option ((Int × (List Int)) ⊕ (Int × (List Int))) := fun (s4, o3) =>
  if s4 < (s0.length : Int) then
    (idx s0 s4).bind fun x1 =>
    (wh (r03_Vars_l1 s0 s2 s4 o3) (decide (0 ≤ x1), 0)).bind fun x4 =>
    match x4 with
    | (x5, x6) =>
    if x5 = true then
      some (.inl (w64 (s4 + 1), o3))
    else
    if (o3.length + 1) * 8 ≤ 140737488355328 then
    some (.inl (w64 (s4 + 1), o3 ++ [w64 ((-1) - x1)]))
    else none
  else
  some (.inr (s4, o3))
noncomputable def r03_Vars (a0 : List Int) : Option ((List Int)) :=
  (wh (r03_Vars_l0 a0 ([] : List Int)) (0, ([] : List Int))).bind fun x8 =>
  match x8 with
  | (x9, x10) =>
  some x10
noncomputable def r05_Variant_l2 (s0 : List Symbol) (s1 : Rule) (s2 : Rule) (s4 : Rule) (s5 : Rule) (s7 : List Int) (s8 : List Int) (s9 : Int) (s10 : List Int) (s11 : List Int) (s12 : Int) : Int → Option (Int ⊕ (Bool ⊕ Int)) := fun s13 =>
  if s13 < (s10.length : Int) then
    (idx s7 s12).bind fun x14 =>
    (idx s10 s13).bind fun x15 =>
    (idx s8 s12).bind fun x16 =>
    (idx s11 s13).bind fun x17 =>
    if ((decide (x14 = (w64 ((-1) - x15)))) != (decide (x16 = (w64 ((-1) - x17))))) = true then
      some (.inr (.inl false))
    else
    some (.inl (w64 (s13 + 1)))
  else
  some (.inr (.inr s13))
noncomputable def r05_Variant_l1 (s0 : List Symbol) (s1 : Rule) (s2 : Rule) (s4 : Rule) (s5 : Rule) (s7 : List Int) (s8 : List Int) (s9 : Int) (s10 : List Int) (s11 : List Int) : Int → Option (Int ⊕ (Bool ⊕ Int)) := fun s12 =>
  if s12 < (s7.length : Int) then
    (wh (r05_Variant_l2 s0 s1 s2 s4 s5 s7 s8 s9 s10 s11 s12) 0).bind fun x18 =>
    match x18 with
    | .inl x19 =>
      some (.inr (.inl x19))
    | .inr x20 =>
      some (.inl (w64 (s12 + 1)))
  else
  some (.inr (.inr s12))
noncomputable def r05_Variant_l0 (s0 : List Symbol) (s1 : Rule) (s2 : Rule) (s4 : Rule) (s5 : Rule) (s7 : List Int) (s8 : List Int) : Int → Option (Int ⊕ (Bool ⊕ Int)) := fun s9 =>
  if s9 < (s7.length : Int) then
    (idx s7 s9).bind fun x5 =>
    if 0 ≤ x5 then
      (idx s8 s9).bind fun x6 =>
      if x5 = x6 then
        some (.inl (w64 (s9 + 1)))
      else
      some (.inr (.inl false))
    else
    (idx s8 s9).bind fun x7 =>
    if 0 ≤ x7 then
      if x5 = x7 then
        some (.inl (w64 (s9 + 1)))
      else
      some (.inr (.inl false))
    else
    some (.inl (w64 (s9 + 1)))
  else
  some (.inr (.inr s9))
noncomputable def r05_Variant (a0 : List Symbol) (a1 : Rule) (a2 : Rule) : Option Bool :=
  (r03_Check a0 a1.L).bind fun x1 =>
  if x1 = 0 then
    (r03_Check a0 a1.R).bind fun x2 =>
    if x2 = 0 then
      (r03_Check a0 a2.L).bind fun x3 =>
      if x3 = 0 then
        (r03_Check a0 a2.R).bind fun x4 =>
        if x4 = 0 then
          if (a1.L.length : Int) = (a2.L.length : Int) then
            if (a1.R.length : Int) = (a2.R.length : Int) then
              if a1.L.length * 8 ≤ 140737488355328 then
              if (a1.L.length + a1.R.length) * 8 ≤ 140737488355328 then
              if a2.L.length * 8 ≤ 140737488355328 then
              if (a2.L.length + a2.R.length) * 8 ≤ 140737488355328 then
              (wh (r05_Variant_l0 a0 a1 a2 a1 a2 (a1.L ++ a1.R) (a2.L ++ a2.R)) 0).bind fun x8 =>
              match x8 with
              | .inl x9 =>
                some x9
              | .inr x10 =>
                (r03_Vars (a1.L ++ a1.R)).bind fun x12 =>
                (r03_Vars (a2.L ++ a2.R)).bind fun x13 =>
                if (x12.length : Int) = (x13.length : Int) then
                  (wh (r05_Variant_l1 a0 a1 a2 a1 a2 (a1.L ++ a1.R) (a2.L ++ a2.R) x10 x12 x13) 0).bind fun x22 =>
                  match x22 with
                  | .inl x23 =>
                    some x23
                  | .inr x24 =>
                    some true
                else
                some false
              else none
              else none
              else none
              else none
            else
            some false
          else
          some false
        else
        some false
      else
      some false
    else
    some false
  else
  some false
noncomputable def l05_MatchVariants (a0 : List Symbol) (a1 : Rule) (a2 : Rule) : Option Bool :=
  (l05_shown).bind fun x1 =>
  (match_Variant a0 a1 a2).bind fun x2 =>
  (r05_Variant a0 a1 a2).bind fun x3 =>
  if x1 = true then
    some (x2 == x3)
  else
  some false
end Ld

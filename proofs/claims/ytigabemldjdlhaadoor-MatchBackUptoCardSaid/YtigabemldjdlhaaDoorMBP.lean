import Derived.Test.YtigabemldjdlhaaDoorMBT
import Derived.Lib.ValidU
import Derived.Lib.BitFns
set_option maxHeartbeats 400000
set_option linter.unusedVariables false
set_option linter.unusedSimpArgs false
namespace Ld
open Go Go.Abs
set_option maxRecDepth 8000
noncomputable def l05_three  : Option ((List Symbol)) :=
  some ([(Symbol.mk ({ data := #[122, 101, 114, 111] }) 0), (Symbol.mk ({ data := #[115] }) 1), (Symbol.mk ({ data := #[112, 108, 117, 115] }) 2)] : List Symbol)
def unicode_utf8_ValidString (s : ByteArray) : Option Bool := if s.size ≤ 9223372036854775807 then some (Go.Lib.validD s.data.toList) else none

noncomputable def term_letter (a0 : Int) : Option Bool :=
  if 97 ≤ a0 then
    if a0 ≤ 122 then
      some true
    else
    if 65 ≤ a0 then
      if a0 ≤ 90 then
        some true
      else
      some (decide (128 ≤ a0))
    else
    some (decide (128 ≤ a0))
  else
  if 65 ≤ a0 then
    if a0 ≤ 90 then
      some true
    else
    some (decide (128 ≤ a0))
  else
  some (decide (128 ≤ a0))
noncomputable def term_named_l0 (s0 : ByteArray) (t18 : ByteArray) : Nat → Option (Nat ⊕ (Bool ⊕ Nat)) := fun q18 =>
  if q18 < t18.size then
    (term_letter ((Utf8.decode t18 q18).1 : Int)).bind fun x2 =>
    if x2 = true then
      some (.inl (q18 + (Utf8.decode t18 q18).2))
    else
    if 0 < (q18 : Int) then
      if 48 ≤ ((Utf8.decode t18 q18).1 : Int) then
        if ((Utf8.decode t18 q18).1 : Int) ≤ 57 then
          some (.inl (q18 + (Utf8.decode t18 q18).2))
        else
        if ((Utf8.decode t18 q18).1 : Int) = 95 then
          some (.inl (q18 + (Utf8.decode t18 q18).2))
        else
        if ((Utf8.decode t18 q18).1 : Int) = 39 then
          some (.inl (q18 + (Utf8.decode t18 q18).2))
        else
        some (.inr (.inl false))
      else
      if ((Utf8.decode t18 q18).1 : Int) = 95 then
        some (.inl (q18 + (Utf8.decode t18 q18).2))
      else
      if ((Utf8.decode t18 q18).1 : Int) = 39 then
        some (.inl (q18 + (Utf8.decode t18 q18).2))
      else
      some (.inr (.inl false))
    else
    some (.inr (.inl false))
  else
  some (.inr (.inr q18))
noncomputable def term_named (a0 : ByteArray) : Option Bool :=
  if a0 = ({ data := #[] }) then
    some false
  else
  if 32 < (a0.size : Int) then
    some false
  else
  (unicode_utf8_ValidString a0).bind fun x1 =>
  if x1 = true then
    (wh (term_named_l0 a0 a0) 0).bind fun x3 =>
    match x3 with
    | .inl x4 =>
      some x4
    | .inr x5 =>
      some true
  else
  some false
noncomputable def term_CheckSig_c1 (a0 : Symbol) (a1 : Symbol) : Option Bool :=
  some (decide (a0.Name = a1.Name))
noncomputable def slices_IndexFunc_s_api_Symbol_api_Symbol_on_term_CheckSig_c1_l0 (s0 : List Symbol) (s1_0 : Symbol) (s7 : Int) : Int → Option (Int ⊕ (Int ⊕ Int)) := fun s8 =>
  if s8 < s7 then
    (idx s0 s8).bind fun x1 =>
    (term_CheckSig_c1 x1 s1_0).bind fun x2 =>
    if x2 = true then
      some (.inr (.inl s8))
    else
    some (.inl (w64 (s8 + 1)))
  else
  some (.inr (.inr s8))
noncomputable def slices_IndexFunc_s_api_Symbol_api_Symbol_on_term_CheckSig_c1 (a0 : List Symbol) (a1_0 : Symbol) : Option Int :=
  (wh (slices_IndexFunc_s_api_Symbol_api_Symbol_on_term_CheckSig_c1_l0 a0 a1_0 (a0.length : Int)) 0).bind fun x3 =>
  match x3 with
  | .inl x4 =>
    some x4
  | .inr x5 =>
    some (-1)
noncomputable def slices_ContainsFunc_s_api_Symbol_api_Symbol_on_term_CheckSig_c1 (a0 : List Symbol) (a1_0 : Symbol) : Option Bool :=
  (slices_IndexFunc_s_api_Symbol_api_Symbol_on_term_CheckSig_c1 a0 a1_0).bind fun x1 =>
  some (decide (0 ≤ x1))
noncomputable def term_CheckSig_l0 (s0 : List Symbol) (s9 : List Symbol) (s10 : Int) : Int → Option (Int ⊕ (Int ⊕ Int)) := fun s11 =>
  if s11 < s10 then
    (idx s9 s11).bind fun x1 =>
    (term_named x1.Name).bind fun x2 =>
    if x2 = true then
      if x1.Arity < 0 then
        some (.inr (.inl 35))
      else
      if 8 < x1.Arity then
        some (.inr (.inl 35))
      else
      (cutL s0 0 s11).bind fun x3 =>
      (slices_ContainsFunc_s_api_Symbol_api_Symbol_on_term_CheckSig_c1 x3 x1).bind fun x4 =>
      if x4 = true then
        some (.inr (.inl 36))
      else
      some (.inl (w64 (s11 + 1)))
    else
    if (x1.Name.size : Int) = 0 then
      some (.inr (.inl 34))
    else
    (sidx x1.Name (w64 ((x1.Name.size : Int) - 1))).bind fun x5 =>
    if x5 = 35 then
      (cutBA x1.Name 0 (w64 ((x1.Name.size : Int) - 1))).bind fun x6 =>
      (term_named x6).bind fun x7 =>
      if x7 = true then
        if x1.Arity < 0 then
          some (.inr (.inl 35))
        else
        if 8 < x1.Arity then
          some (.inr (.inl 35))
        else
        (cutL s0 0 s11).bind fun x8 =>
        (slices_ContainsFunc_s_api_Symbol_api_Symbol_on_term_CheckSig_c1 x8 x1).bind fun x9 =>
        if x9 = true then
          some (.inr (.inl 36))
        else
        some (.inl (w64 (s11 + 1)))
      else
      some (.inr (.inl 34))
    else
    some (.inr (.inl 34))
  else
  some (.inr (.inr s11))
noncomputable def term_CheckSig (a0 : List Symbol) : Option Int :=
  if 128 < (a0.length : Int) then
    some 37
  else
  (wh (term_CheckSig_l0 a0 a0 (a0.length : Int)) 0).bind fun x10 =>
  match x10 with
  | .inl x11 =>
    some x11
  | .inr x12 =>
    some 0
def arOf (sig : List Symbol) (c : Int) : Nat := if 0 ≤ c then ((sig[c.toNat]?).map (·.Arity.toNat)).getD 0 else 0
def rdT (sig : List Symbol) : List Int → Nat → List Int × Int
  | r, 0 => (r, 0)
  | [], _ + 1 => ([], 31)
  | c :: r, k + 1 => if (sig.length : Int) ≤ c ∨ c < -1048576 then (c :: r, 30) else rdT sig r (k + arOf sig c)
def termRight (sig : List Symbol) (t : List Int) : Int := match rdT sig t 1 with
  | (r, e) => if e = 0 then (if r = [] then 0 else 32) else e

noncomputable def term_Check (sig : List Symbol) (t : List Int) : Option Int := (term_CheckSig sig).bind fun e => if e = 0 then (if t.length < 4611686018427387904 then some (termRight sig t) else none) else some e
theorem checkSig_ar {sig : List Symbol} (h : term_CheckSig sig = some 0) : ∀ s ∈ sig, 0 ≤ s.Arity ∧ s.Arity ≤ 8 := by
  simp only [term_CheckSig] at h
  split at h
  · cases h
  rename_i hlen
  obtain ⟨x, hx, h⟩ := bsome h
  have hI := wh_inv (fun i : Int => 0 ≤ i ∧ i ≤ sig.length ∧ ∀ (k : Nat) (s : Symbol), (k : Int) < i → sig[k]? = some s → 0 ≤ s.Arity ∧ s.Arity ≤ 8) (Q := fun r => match r with | .inl e => e ≠ 0 | .inr _ => ∀ (k : Nat) (s : Symbol), sig[k]? = some s → 0 ≤ s.Arity ∧ s.Arity ≤ 8) hx ⟨Int.le_refl _, by omega, fun k s hk => by omega⟩ ?_ ?_
  · cases x with
    | inl e => simp only [Option.some.injEq] at h; exact absurd h hI
    | inr i =>
      intro s hs
      obtain ⟨k, hk⟩ := List.getElem?_of_mem hs
      exact hI k s hk
  · intro i i' hi hs
    simp only [term_CheckSig_l0] at hs
    obtain ⟨h0, h1, h2⟩ := hi
    have key : ∀ x1 : Symbol, idx sig i = some x1 → i < sig.length → 0 ≤ x1.Arity → x1.Arity ≤ 8 → i' = w64 (i + 1) → 0 ≤ i' ∧ i' ≤ sig.length ∧ ∀ (k : Nat) (s : Symbol), (k : Int) < i' → sig[k]? = some s → 0 ≤ s.Arity ∧ s.Arity ≤ 8 := by
      intro x1 hx1 hlt a1 a2 e
      have hw : w64 (i + 1) = i + 1 := w64_small (by omega) (by omega)
      rw [hw] at e
      subst e
      refine ⟨by omega, by omega, fun k s hk hs => ?_⟩
      by_cases hki : (k : Int) < i
      · exact h2 k s hki hs
      · have : (k : Int) = i := by omega
        have h3 := (idx_some hx1).2.2
        rw [← this] at h3
        simp only [Int.toNat_natCast] at h3
        rw [hs] at h3
        cases h3
        exact ⟨a1, a2⟩
    split at hs
    · rename_i hlt
      obtain ⟨x1, e1, hs⟩ := bsome hs
      obtain ⟨x2, e2, hs⟩ := bsome hs
      split at hs
      · split at hs
        · cases hs
        split at hs
        · cases hs
        rename_i a1 a2
        obtain ⟨x3, e3, hs⟩ := bsome hs
        obtain ⟨x4, e4, hs⟩ := bsome hs
        split at hs
        · cases hs
        · simp only [Option.some.injEq, Sum.inl.injEq] at hs
          exact key x1 e1 hlt (by omega) (by omega) hs.symm
      · split at hs
        · cases hs
        obtain ⟨x5, e5, hs⟩ := bsome hs
        split at hs
        · obtain ⟨x6, e6, hs⟩ := bsome hs
          obtain ⟨x7, e7, hs⟩ := bsome hs
          split at hs
          · split at hs
            · cases hs
            split at hs
            · cases hs
            rename_i a1 a2
            obtain ⟨x8, e8, hs⟩ := bsome hs
            obtain ⟨x9, e9, hs⟩ := bsome hs
            split at hs
            · cases hs
            · simp only [Option.some.injEq, Sum.inl.injEq] at hs
              exact key x1 e1 hlt (by omega) (by omega) hs.symm
          · cases hs
        · cases hs
    · cases hs
  · intro i q hi hs
    simp only [term_CheckSig_l0] at hs
    obtain ⟨h0, h1, h2⟩ := hi
    split at hs
    · rename_i hlt
      obtain ⟨x1, e1, hs⟩ := bsome hs
      obtain ⟨x2, e2, hs⟩ := bsome hs
      split at hs
      · split at hs
        · cases hs; simp
        split at hs
        · cases hs; simp
        obtain ⟨x3, e3, hs⟩ := bsome hs
        obtain ⟨x4, e4, hs⟩ := bsome hs
        split at hs <;> cases hs
        simp
      · split at hs
        · cases hs; simp
        obtain ⟨x5, e5, hs⟩ := bsome hs
        split at hs
        · obtain ⟨x6, e6, hs⟩ := bsome hs
          obtain ⟨x7, e7, hs⟩ := bsome hs
          split at hs
          · split at hs
            · cases hs; simp
            split at hs
            · cases hs; simp
            obtain ⟨x8, e8, hs⟩ := bsome hs
            obtain ⟨x9, e9, hs⟩ := bsome hs
            split at hs <;> cases hs
            simp
          · cases hs; simp
        · cases hs; simp
    · rename_i hnl
      cases hs
      intro k s hk
      have := (List.getElem?_eq_some_iff.1 hk).1
      exact h2 k s (by omega) hk

noncomputable def match_part (a0 : Int) : Option D :=
  if a0 < 0 then
    some (.ifc 59 (.v (.int .i64 (w64 ((-1) - a0)))))
  else
  some (.ifc 57 (.v (.int .i64 a0)))
noncomputable def match_reach_l0 (s0 : List Symbol) (s1 : List Int) : Int × Int → Option ((Int × Int) ⊕ (Int × Int)) := fun (s5, s6) =>
  if 0 < s6 then
    (idx s1 s5).bind fun x1 =>
    if 0 ≤ x1 then
      (idx s0 x1).bind fun x2 =>
      some (.inl (w64 (s5 + 1), w64 ((w64 (s6 + x2.Arity)) - 1)))
    else
    some (.inl (w64 (s5 + 1), w64 (s6 - 1)))
  else
  some (.inr (s5, s6))
noncomputable def match_reach (a0 : List Symbol) (a1 : List Int) : Option Int :=
  (wh (match_reach_l0 a0 a1) (0, 1)).bind fun x3 =>
  match x3 with
  | (x4, x5) =>
  some x4
noncomputable def slices_Equal_s_int_int_l0 (s0 : List Int) (s1 : List Int) (s12 : Int) : Int → Option (Int ⊕ (Bool ⊕ Int)) := fun s13 =>
  if s13 < s12 then
    (idx s0 s13).bind fun x1 =>
    (idx s1 s13).bind fun x2 =>
    if x1 = x2 then
      some (.inl (w64 (s13 + 1)))
    else
    some (.inr (.inl false))
  else
  some (.inr (.inr s13))
noncomputable def slices_Equal_s_int_int (a0 : List Int) (a1 : List Int) : Option Bool :=
  if (a0.length : Int) = (a1.length : Int) then
    (wh (slices_Equal_s_int_int_l0 a0 a1 (a0.length : Int)) 0).bind fun x3 =>
    match x3 with
    | .inl x4 =>
      some x4
    | .inr x5 =>
      some true
  else
  some false

def math_bits_Len (n : Int) : Option Int := if 0 ≤ n ∧ n ≤ 18446744073709551615 then some ((Go.Lib.bitLen n.toNat : Nat) : Int) else none

noncomputable def cmp_isNaN_int (a0 : Int) : Option Bool :=
  some (!decide (a0 = a0))
noncomputable def cmp_Compare_int (a0 : Int) (a1 : Int) : Option Int :=
  (cmp_isNaN_int a0).bind fun x1 =>
  (cmp_isNaN_int a1).bind fun x2 =>
  if x1 = true then
    if x2 = true then
      some 0
    else
    some (-1)
  else
  if x2 = true then
    some 1
  else
  if a0 < a1 then
    some (-1)
  else
  if a1 < a0 then
    some 1
  else
  some 0
noncomputable def match_Match_c1 (a0 : Bind) (a1 : Bind) : Option Int :=
  (cmp_Compare_int a0.Var a1.Var).bind fun x1 =>
  some x1
noncomputable def slices_insertionSort_Bm_l1 (s1 : Int) (s2 : Int) (s8 : Int) : Int × (List Bind) → Option ((Int × (List Bind)) ⊕ ((List Bind))) := fun (s9, o0) =>
  if s1 < s9 then
    (idx o0 s9).bind fun x1 =>
    (idx o0 (w64 (s9 - 1))).bind fun x2 =>
    (match_Match_c1 x1 x2).bind fun x3 =>
    if x3 < 0 then
      (idx (o0.set (s9).toNat x2) (w64 (s9 - 1))).bind fun x4 =>
      some (.inl (w64 (s9 - 1), (o0.set (s9).toNat x2).set (w64 (s9 - 1)).toNat x1))
    else
    some (.inr o0)
  else
  some (.inr o0)
noncomputable def slices_insertionSort_Bm_l0 (s1 : Int) (s2 : Int) : Int × (List Bind) → Option ((Int × (List Bind)) ⊕ (Int × (List Bind))) := fun (s8, o0) =>
  if s8 < s2 then
    (wh (slices_insertionSort_Bm_l1 s1 s2 s8) (s8, o0)).bind fun x6 =>
    some (.inl (w64 (s8 + 1), x6))
  else
  some (.inr (s8, o0))
noncomputable def slices_insertionSort_Bm (s1 : Int) (s2 : Int) (o0 : List Bind) : Option ((List Bind)) :=
  (wh (slices_insertionSort_Bm_l0 s1 s2) (w64 (s1 + 1), o0)).bind fun x9 =>
  match x9 with
  | (x10, x11) =>
  some x11
noncomputable def slices_siftDown_Bm_l0 (s1 : Int) (s2 : Int) (s3 : Int) : Int × (List Bind) → Option ((Int × (List Bind)) ⊕ ((Int × (List Bind)) ⊕ ((List Bind)))) := fun (s10, o0) =>
  if s2 ≤ (w64 ((w64 (2 * s10)) + 1)) then
    some (.inr (.inl (s10, o0)))
  else
  if (w64 ((w64 ((w64 (2 * s10)) + 1)) + 1)) < s2 then
    (idx o0 (w64 (s3 + (w64 ((w64 (2 * s10)) + 1))))).bind fun x1 =>
    (idx o0 (w64 ((w64 (s3 + (w64 ((w64 (2 * s10)) + 1)))) + 1))).bind fun x2 =>
    (match_Match_c1 x1 x2).bind fun x3 =>
    if x3 < 0 then
      (idx o0 (w64 (s3 + s10))).bind fun x4 =>
      (idx o0 (w64 (s3 + (w64 ((w64 ((w64 (2 * s10)) + 1)) + 1))))).bind fun x5 =>
      (match_Match_c1 x4 x5).bind fun x6 =>
      if x6 < 0 then
        (idx (o0.set (w64 (s3 + s10)).toNat x5) (w64 (s3 + (w64 ((w64 ((w64 (2 * s10)) + 1)) + 1))))).bind fun x7 =>
        some (.inl (w64 ((w64 ((w64 (2 * s10)) + 1)) + 1), (o0.set (w64 (s3 + s10)).toNat x5).set (w64 (s3 + (w64 ((w64 ((w64 (2 * s10)) + 1)) + 1)))).toNat x4))
      else
      some (.inr (.inr o0))
    else
    (idx o0 (w64 (s3 + s10))).bind fun x8 =>
    (match_Match_c1 x8 x1).bind fun x9 =>
    if x9 < 0 then
      (idx (o0.set (w64 (s3 + s10)).toNat x1) (w64 (s3 + (w64 ((w64 (2 * s10)) + 1))))).bind fun x10 =>
      some (.inl (w64 ((w64 (2 * s10)) + 1), (o0.set (w64 (s3 + s10)).toNat x1).set (w64 (s3 + (w64 ((w64 (2 * s10)) + 1)))).toNat x8))
    else
    some (.inr (.inr o0))
  else
  (idx o0 (w64 (s3 + s10))).bind fun x11 =>
  (idx o0 (w64 (s3 + (w64 ((w64 (2 * s10)) + 1))))).bind fun x12 =>
  (match_Match_c1 x11 x12).bind fun x13 =>
  if x13 < 0 then
    (idx (o0.set (w64 (s3 + s10)).toNat x12) (w64 (s3 + (w64 ((w64 (2 * s10)) + 1))))).bind fun x14 =>
    some (.inl (w64 ((w64 (2 * s10)) + 1), (o0.set (w64 (s3 + s10)).toNat x12).set (w64 (s3 + (w64 ((w64 (2 * s10)) + 1)))).toNat x11))
  else
  some (.inr (.inr o0))
noncomputable def slices_siftDown_Bm (s1 : Int) (s2 : Int) (s3 : Int) (o0 : List Bind) : Option ((List Bind)) :=
  (wh (slices_siftDown_Bm_l0 s1 s2 s3) (s1, o0)).bind fun x15 =>
  match x15 with
  | .inl (x16, x17) =>
    some x17
  | .inr x20 =>
    some x20
noncomputable def slices_heapSort_Bm_l1 (s1 : Int) (s2 : Int) (s8 : Int) (s10 : Int) (s11 : Int) : Int × (List Bind) → Option ((Int × (List Bind)) ⊕ (Int × (List Bind))) := fun (s12, o0) =>
  if 0 ≤ s12 then
    (idx o0 (w64 (s8 + s12))).bind fun x8 =>
    (idx o0 s8).bind fun x9 =>
    (idx (o0.set (s8).toNat x8) (w64 (s8 + s12))).bind fun x10 =>
    (slices_siftDown_Bm 0 s12 s8 ((o0.set (s8).toNat x8).set (w64 (s8 + s12)).toNat x9)).bind fun x11 =>
    some (.inl (w64 (s12 - 1), x11))
  else
  some (.inr (s12, o0))
noncomputable def slices_heapSort_Bm_l0 (s1 : Int) (s2 : Int) (s8 : Int) (s10 : Int) : Int × (List Bind) → Option ((Int × (List Bind)) ⊕ (Int × (List Bind))) := fun (s11, o0) =>
  if 0 ≤ s11 then
    (slices_siftDown_Bm s11 s10 s8 o0).bind fun x2 =>
    some (.inl (w64 (s11 - 1), x2))
  else
  some (.inr (s11, o0))
noncomputable def slices_heapSort_Bm (s1 : Int) (s2 : Int) (o0 : List Bind) : Option ((List Bind)) :=
  (quoV .i64 (w64 ((w64 (s2 - s1)) - 1)) 2).bind fun x1 =>
  (wh (slices_heapSort_Bm_l0 s1 s2 s1 (w64 (s2 - s1))) (x1, o0)).bind fun x4 =>
  match x4 with
  | (x5, x6) =>
  (wh (slices_heapSort_Bm_l1 s1 s2 s1 (w64 (s2 - s1)) x5) (w64 ((w64 (s2 - s1)) - 1), x6)).bind fun x13 =>
  match x13 with
  | (x14, x15) =>
  some x15
noncomputable def slices_order2_Bm (s1 : Int) (s2 : Int) (o0 : List Bind) (b3_0 : Int) : Option (Int × Int × Int) :=
  (idx o0 s2).bind fun x1 =>
  (idx o0 s1).bind fun x2 =>
  (match_Match_c1 x1 x2).bind fun x3 =>
  if x3 < 0 then
    some (s2, s1, w64 (b3_0 + 1))
  else
  some (s1, s2, b3_0)
noncomputable def slices_median_Bm (s1 : Int) (s2 : Int) (s3 : Int) (o0 : List Bind) (b4_0 : Int) : Option (Int × Int) :=
  (slices_order2_Bm s1 s2 o0 b4_0).bind fun x1 =>
  (slices_order2_Bm x1.2.1 s3 o0 x1.2.2).bind fun x2 =>
  (slices_order2_Bm x1.1 x2.1 o0 x2.2.2).bind fun x3 =>
  some (x3.2.1, x3.2.2)
noncomputable def slices_medianAdjacent_Bm (s1 : Int) (o0 : List Bind) (b2_0 : Int) : Option (Int × Int) :=
  (slices_median_Bm (w64 (s1 - 1)) s1 (w64 (s1 + 1)) o0 b2_0).bind fun x1 =>
  some (x1.1, x1.2)
noncomputable def slices_choosePivot_Bm (s1 : Int) (s2 : Int) (o0 : List Bind) : Option (Int × Int) :=
  (quoV .i64 (w64 (s2 - s1)) 4).bind fun x1 =>
  if 8 ≤ (w64 (s2 - s1)) then
    if 50 ≤ (w64 (s2 - s1)) then
      (slices_medianAdjacent_Bm (w64 (s1 + (w64 (x1 * 1)))) o0 0).bind fun x2 =>
      (slices_medianAdjacent_Bm (w64 (s1 + (w64 (x1 * 2)))) o0 x2.2).bind fun x3 =>
      (slices_medianAdjacent_Bm (w64 (s1 + (w64 (x1 * 3)))) o0 x3.2).bind fun x4 =>
      (slices_median_Bm x2.1 x3.1 x4.1 o0 x4.2).bind fun x5 =>
      if x5.2 = 0 then
        some (x5.1, 1)
      else
      if x5.2 = 12 then
        some (x5.1, 2)
      else
      some (x5.1, 0)
    else
    (slices_median_Bm (w64 (s1 + (w64 (x1 * 1)))) (w64 (s1 + (w64 (x1 * 2)))) (w64 (s1 + (w64 (x1 * 3)))) o0 0).bind fun x6 =>
    if x6.2 = 0 then
      some (x6.1, 1)
    else
    if x6.2 = 12 then
      some (x6.1, 2)
    else
    some (x6.1, 0)
  else
  some (w64 (s1 + (w64 (x1 * 2))), 1)
noncomputable def slices_reverseRange_Bm_l0 (s1 : Int) (s2 : Int) : Int × Int × (List Bind) → Option ((Int × Int × (List Bind)) ⊕ (Int × Int × (List Bind))) := fun (s8, s9, o0) =>
  if s8 < s9 then
    (idx o0 s9).bind fun x1 =>
    (idx o0 s8).bind fun x2 =>
    (idx (o0.set (s8).toNat x1) s9).bind fun x3 =>
    some (.inl (w64 (s8 + 1), w64 (s9 - 1), (o0.set (s8).toNat x1).set (s9).toNat x2))
  else
  some (.inr (s8, s9, o0))
noncomputable def slices_reverseRange_Bm (s1 : Int) (s2 : Int) (o0 : List Bind) : Option ((List Bind)) :=
  (wh (slices_reverseRange_Bm_l0 s1 s2) (s1, w64 (s2 - 1), o0)).bind fun x4 =>
  match x4 with
  | (x5, x6, x7) =>
  some x7
noncomputable def slices_partialInsertionSort_Bm_l3 (s1 : Int) (s2 : Int) (s9 : Int) (s10 : Int) : Int × (List Bind) → Option ((Int × (List Bind)) ⊕ ((List Bind))) := fun (s12, o0) =>
  if s12 < s2 then
    (idx o0 s12).bind fun x26 =>
    (idx o0 (w64 (s12 - 1))).bind fun x27 =>
    (match_Match_c1 x26 x27).bind fun x28 =>
    if x28 < 0 then
      (idx (o0.set (s12).toNat x27) (w64 (s12 - 1))).bind fun x29 =>
      some (.inl (w64 (s12 + 1), (o0.set (s12).toNat x27).set (w64 (s12 - 1)).toNat x26))
    else
    some (.inr o0)
  else
  some (.inr o0)
noncomputable def slices_partialInsertionSort_Bm_l2 (s1 : Int) (s2 : Int) (s9 : Int) (s10 : Int) : Int × (List Bind) → Option ((Int × (List Bind)) ⊕ ((List Bind))) := fun (s11, o0) =>
  if 1 ≤ s11 then
    (idx o0 s11).bind fun x10 =>
    (idx o0 (w64 (s11 - 1))).bind fun x11 =>
    (match_Match_c1 x10 x11).bind fun x12 =>
    if x12 < 0 then
      (idx (o0.set (s11).toNat x11) (w64 (s11 - 1))).bind fun x13 =>
      some (.inl (w64 (s11 - 1), (o0.set (s11).toNat x11).set (w64 (s11 - 1)).toNat x10))
    else
    some (.inr o0)
  else
  some (.inr o0)
noncomputable def slices_partialInsertionSort_Bm_l1 (s1 : Int) (s2 : Int) (s10 : Int) (o0 : List Bind) : Int → Option (Int ⊕ Int) := fun s9 =>
  if s9 < s2 then
    (idx o0 s9).bind fun x1 =>
    (idx o0 (w64 (s9 - 1))).bind fun x2 =>
    (match_Match_c1 x1 x2).bind fun x3 =>
    if x3 < 0 then
      some (.inr s9)
    else
    some (.inl (w64 (s9 + 1)))
  else
  some (.inr s9)
noncomputable def slices_partialInsertionSort_Bm_l0 (s1 : Int) (s2 : Int) : Int × Int × (List Bind) → Option ((Int × Int × (List Bind)) ⊕ ((Bool × (List Bind)) ⊕ (Int × Int × (List Bind)))) := fun (s9, s10, o0) =>
  if s10 < 5 then
    (wh (slices_partialInsertionSort_Bm_l1 s1 s2 s10 o0) s9).bind fun x5 =>
    if x5 = s2 then
      some (.inr (.inl (true, o0)))
    else
    if (w64 (s2 - s1)) < 50 then
      some (.inr (.inl (false, o0)))
    else
    (idx o0 (w64 (x5 - 1))).bind fun x7 =>
    (idx o0 x5).bind fun x8 =>
    (idx (o0.set (x5).toNat x7) (w64 (x5 - 1))).bind fun x9 =>
    if 2 ≤ (w64 (x5 - s1)) then
      (wh (slices_partialInsertionSort_Bm_l2 s1 s2 x5 s10) (w64 (x5 - 1), (o0.set (x5).toNat x7).set (w64 (x5 - 1)).toNat x8)).bind fun x15 =>
      if 2 ≤ (w64 (s2 - x5)) then
        (wh (slices_partialInsertionSort_Bm_l3 s1 s2 x5 s10) (w64 (x5 + 1), x15)).bind fun x23 =>
        some (.inl (x5, w64 (s10 + 1), x23))
      else
      some (.inl (x5, w64 (s10 + 1), x15))
    else
    if 2 ≤ (w64 (s2 - x5)) then
      (wh (slices_partialInsertionSort_Bm_l3 s1 s2 x5 s10) (w64 (x5 + 1), (o0.set (x5).toNat x7).set (w64 (x5 - 1)).toNat x8)).bind fun x31 =>
      some (.inl (x5, w64 (s10 + 1), x31))
    else
    some (.inl (x5, w64 (s10 + 1), (o0.set (x5).toNat x7).set (w64 (x5 - 1)).toNat x8))
  else
  some (.inr (.inr (s9, s10, o0)))
noncomputable def slices_partialInsertionSort_Bm (s1 : Int) (s2 : Int) (o0 : List Bind) : Option (Bool × (List Bind)) :=
  (wh (slices_partialInsertionSort_Bm_l0 s1 s2) (w64 (s1 + 1), 0, o0)).bind fun x34 =>
  match x34 with
  | .inl x35 =>
    some x35
  | .inr (x36, x37, x38) =>
    some (false, x38)
noncomputable def slices_partition_Bm_l4 (s1 : Int) (s2 : Int) (s3 : Int) (s12 : Int) (o0 : List Bind) : Int → Option (Int ⊕ Int) := fun s13 =>
  if s12 ≤ s13 then
    (idx o0 s13).bind fun x28 =>
    (idx o0 s1).bind fun x29 =>
    (match_Match_c1 x28 x29).bind fun x30 =>
    if x30 < 0 then
      some (.inr s13)
    else
    some (.inl (w64 (s13 - 1)))
  else
  some (.inr s13)
noncomputable def slices_partition_Bm_l3 (s1 : Int) (s2 : Int) (s3 : Int) (s13 : Int) (o0 : List Bind) : Int → Option (Int ⊕ Int) := fun s12 =>
  if s12 ≤ s13 then
    (idx o0 s12).bind fun x22 =>
    (idx o0 s1).bind fun x23 =>
    (match_Match_c1 x22 x23).bind fun x24 =>
    if x24 < 0 then
      some (.inl (w64 (s12 + 1)))
    else
    some (.inr s12)
  else
  some (.inr s12)
noncomputable def slices_partition_Bm_l2 (s1 : Int) (s2 : Int) (s3 : Int) : Int × Int × (List Bind) → Option ((Int × Int × (List Bind)) ⊕ (Int × Int × (List Bind))) := fun (s12, s13, o0) =>
  (wh (slices_partition_Bm_l3 s1 s2 s3 s13 o0) s12).bind fun x26 =>
  (wh (slices_partition_Bm_l4 s1 s2 s3 x26 o0) s13).bind fun x32 =>
  if x32 < x26 then
    some (.inr (x26, x32, o0))
  else
  (idx o0 x32).bind fun x34 =>
  (idx o0 x26).bind fun x35 =>
  (idx (o0.set (x26).toNat x34) x32).bind fun x36 =>
  some (.inl (w64 (x26 + 1), w64 (x32 - 1), (o0.set (x26).toNat x34).set (x32).toNat x35))
noncomputable def slices_partition_Bm_l1 (s1 : Int) (s2 : Int) (s3 : Int) (s12 : Int) (o0 : List Bind) : Int → Option (Int ⊕ Int) := fun s13 =>
  if s12 ≤ s13 then
    (idx o0 s13).bind fun x10 =>
    (idx o0 s1).bind fun x11 =>
    (match_Match_c1 x10 x11).bind fun x12 =>
    if x12 < 0 then
      some (.inr s13)
    else
    some (.inl (w64 (s13 - 1)))
  else
  some (.inr s13)
noncomputable def slices_partition_Bm_l0 (s1 : Int) (s2 : Int) (s3 : Int) (s13 : Int) (o0 : List Bind) : Int → Option (Int ⊕ Int) := fun s12 =>
  if s12 ≤ s13 then
    (idx o0 s12).bind fun x4 =>
    (idx o0 s1).bind fun x5 =>
    (match_Match_c1 x4 x5).bind fun x6 =>
    if x6 < 0 then
      some (.inl (w64 (s12 + 1)))
    else
    some (.inr s12)
  else
  some (.inr s12)
noncomputable def slices_partition_Bm (s1 : Int) (s2 : Int) (s3 : Int) (o0 : List Bind) : Option (Int × Bool × (List Bind)) :=
  (idx o0 s3).bind fun x1 =>
  (idx o0 s1).bind fun x2 =>
  (idx (o0.set (s1).toNat x1) s3).bind fun x3 =>
  (wh (slices_partition_Bm_l0 s1 s2 s3 (w64 (s2 - 1)) ((o0.set (s1).toNat x1).set (s3).toNat x2)) (w64 (s1 + 1))).bind fun x8 =>
  (wh (slices_partition_Bm_l1 s1 s2 s3 x8 ((o0.set (s1).toNat x1).set (s3).toNat x2)) (w64 (s2 - 1))).bind fun x14 =>
  if x14 < x8 then
    (idx ((o0.set (s1).toNat x1).set (s3).toNat x2) s1).bind fun x16 =>
    (idx ((o0.set (s1).toNat x1).set (s3).toNat x2) x14).bind fun x17 =>
    (idx (((o0.set (s1).toNat x1).set (s3).toNat x2).set (x14).toNat x16) s1).bind fun x18 =>
    some (x14, true, (((o0.set (s1).toNat x1).set (s3).toNat x2).set (x14).toNat x16).set (s1).toNat x17)
  else
  (idx ((o0.set (s1).toNat x1).set (s3).toNat x2) x14).bind fun x19 =>
  (idx ((o0.set (s1).toNat x1).set (s3).toNat x2) x8).bind fun x20 =>
  (idx (((o0.set (s1).toNat x1).set (s3).toNat x2).set (x8).toNat x19) x14).bind fun x21 =>
  (wh (slices_partition_Bm_l2 s1 s2 s3) (w64 (x8 + 1), w64 (x14 - 1), (((o0.set (s1).toNat x1).set (s3).toNat x2).set (x8).toNat x19).set (x14).toNat x20)).bind fun x37 =>
  match x37 with
  | (x38, x39, x40) =>
  (idx x40 s1).bind fun x42 =>
  (idx x40 x39).bind fun x43 =>
  (idx (x40.set (x39).toNat x42) s1).bind fun x44 =>
  some (x39, false, (x40.set (x39).toNat x42).set (s1).toNat x43)
noncomputable def slices_partitionEqual_Bm_l2 (s1 : Int) (s2 : Int) (s3 : Int) (s11 : Int) (o0 : List Bind) : Int → Option (Int ⊕ Int) := fun s12 =>
  if s11 ≤ s12 then
    (idx o0 s1).bind fun x10 =>
    (idx o0 s12).bind fun x11 =>
    (match_Match_c1 x10 x11).bind fun x12 =>
    if x12 < 0 then
      some (.inl (w64 (s12 - 1)))
    else
    some (.inr s12)
  else
  some (.inr s12)
noncomputable def slices_partitionEqual_Bm_l1 (s1 : Int) (s2 : Int) (s3 : Int) (s12 : Int) (o0 : List Bind) : Int → Option (Int ⊕ Int) := fun s11 =>
  if s11 ≤ s12 then
    (idx o0 s1).bind fun x4 =>
    (idx o0 s11).bind fun x5 =>
    (match_Match_c1 x4 x5).bind fun x6 =>
    if x6 < 0 then
      some (.inr s11)
    else
    some (.inl (w64 (s11 + 1)))
  else
  some (.inr s11)
noncomputable def slices_partitionEqual_Bm_l0 (s1 : Int) (s2 : Int) (s3 : Int) : Int × Int × (List Bind) → Option ((Int × Int × (List Bind)) ⊕ (Int × Int × (List Bind))) := fun (s11, s12, o0) =>
  (wh (slices_partitionEqual_Bm_l1 s1 s2 s3 s12 o0) s11).bind fun x8 =>
  (wh (slices_partitionEqual_Bm_l2 s1 s2 s3 x8 o0) s12).bind fun x14 =>
  if x14 < x8 then
    some (.inr (x8, x14, o0))
  else
  (idx o0 x14).bind fun x16 =>
  (idx o0 x8).bind fun x17 =>
  (idx (o0.set (x8).toNat x16) x14).bind fun x18 =>
  some (.inl (w64 (x8 + 1), w64 (x14 - 1), (o0.set (x8).toNat x16).set (x14).toNat x17))
noncomputable def slices_partitionEqual_Bm (s1 : Int) (s2 : Int) (s3 : Int) (o0 : List Bind) : Option (Int × (List Bind)) :=
  (idx o0 s3).bind fun x1 =>
  (idx o0 s1).bind fun x2 =>
  (idx (o0.set (s1).toNat x1) s3).bind fun x3 =>
  (wh (slices_partitionEqual_Bm_l0 s1 s2 s3) (w64 (s1 + 1), w64 (s2 - 1), (o0.set (s1).toNat x1).set (s3).toNat x2)).bind fun x19 =>
  match x19 with
  | (x20, x21, x22) =>
  some (x20, x22)
noncomputable def slices_nextPowerOfTwo (a0 : Int) : Option Int :=
  (math_bits_Len (IntKind.u64.wrap a0)).bind fun x1 =>
  (shlV .u64 1 x1).bind fun x2 =>
  some x2
noncomputable def slices_xorshift_Next (b0_0 : Int) : Option (Int × Int) :=
  (shlV .u64 b0_0 13).bind fun x1 =>
  (shrV .u64 (xorV .u64 b0_0 x1) 7).bind fun x2 =>
  (shlV .u64 (xorV .u64 (xorV .u64 b0_0 x1) x2) 17).bind fun x3 =>
  some (xorV .u64 (xorV .u64 (xorV .u64 b0_0 x1) x2) x3, xorV .u64 (xorV .u64 (xorV .u64 b0_0 x1) x2) x3)
noncomputable def slices_breakPatterns_Bm_l0 (s1 : Int) (s2 : Int) (s8 : Int) (s10 : Int) : Int × (List Bind) × Int → Option ((Int × (List Bind) × Int) ⊕ (Int × (List Bind) × Int)) := fun (s11, o0, b9_0) =>
  (quoV .i64 s8 4).bind fun x3 =>
  if s11 ≤ (w64 ((w64 (s1 + (w64 (x3 * 2)))) + 1)) then
    (slices_xorshift_Next b9_0).bind fun x4 =>
    if s8 ≤ (w64 (andV .u64 x4.1 (IntKind.u64.wrap (s10 - 1)))) then
      (idx o0 (w64 (s1 + (w64 ((w64 (andV .u64 x4.1 (IntKind.u64.wrap (s10 - 1)))) - s8))))).bind fun x5 =>
      (idx o0 s11).bind fun x6 =>
      (idx (o0.set (s11).toNat x5) (w64 (s1 + (w64 ((w64 (andV .u64 x4.1 (IntKind.u64.wrap (s10 - 1)))) - s8))))).bind fun x7 =>
      some (.inl (w64 (s11 + 1), (o0.set (s11).toNat x5).set (w64 (s1 + (w64 ((w64 (andV .u64 x4.1 (IntKind.u64.wrap (s10 - 1)))) - s8)))).toNat x6, x4.2))
    else
    (idx o0 (w64 (s1 + (w64 (andV .u64 x4.1 (IntKind.u64.wrap (s10 - 1))))))).bind fun x8 =>
    (idx o0 s11).bind fun x9 =>
    (idx (o0.set (s11).toNat x8) (w64 (s1 + (w64 (andV .u64 x4.1 (IntKind.u64.wrap (s10 - 1))))))).bind fun x10 =>
    some (.inl (w64 (s11 + 1), (o0.set (s11).toNat x8).set (w64 (s1 + (w64 (andV .u64 x4.1 (IntKind.u64.wrap (s10 - 1)))))).toNat x9, x4.2))
  else
  some (.inr (s11, o0, b9_0))
noncomputable def slices_breakPatterns_Bm (s1 : Int) (s2 : Int) (o0 : List Bind) : Option ((List Bind)) :=
  if 8 ≤ (w64 (s2 - s1)) then
    (slices_nextPowerOfTwo (w64 (s2 - s1))).bind fun x1 =>
    (quoV .i64 (w64 (s2 - s1)) 4).bind fun x2 =>
    (wh (slices_breakPatterns_Bm_l0 s1 s2 (w64 (s2 - s1)) x1) (w64 ((w64 (s1 + (w64 (x2 * 2)))) - 1), o0, IntKind.u64.wrap (w64 (s2 - s1)))).bind fun x11 =>
    match x11 with
    | (x12, x13, x14) =>
    some x13
  else
  some o0
noncomputable def slices_pdqsort_Bm_l0 (rec : Int × Int × Int × (List Bind) → Option ((List Bind)))  : Int × Int × Int × Bool × Bool × (List Bind) → Option ((Int × Int × Int × Bool × Bool × (List Bind)) ⊕ ((List Bind))) := fun (s1, s2, s3, s10, s11, o0) =>
  if (w64 (s2 - s1)) ≤ 12 then
    (slices_insertionSort_Bm s1 s2 o0).bind fun x1 =>
    some (.inr x1)
  else
  if s3 = 0 then
    (slices_heapSort_Bm s1 s2 o0).bind fun x3 =>
    some (.inr x3)
  else
  if s10 = true then
    (slices_choosePivot_Bm s1 s2 o0).bind fun x5 =>
    if x5.2 = 2 then
      (slices_reverseRange_Bm s1 s2 o0).bind fun x7 =>
      if s11 = true then
        (slices_partialInsertionSort_Bm s1 s2 x7).bind fun x8 =>
        if x8.1 = true then
          some (.inr x8.2)
        else
        if 0 < s1 then
          (idx x8.2 (w64 (s1 - 1))).bind fun x10 =>
          (idx x8.2 (w64 ((w64 (s2 - 1)) - (w64 (x5.1 - s1))))).bind fun x11 =>
          (match_Match_c1 x10 x11).bind fun x12 =>
          if x12 < 0 then
            (slices_partition_Bm s1 s2 (w64 ((w64 (s2 - 1)) - (w64 (x5.1 - s1)))) x8.2).bind fun x13 =>
            (quoV .i64 (w64 (s2 - s1)) 8).bind fun x15 =>
            if (w64 (x13.1 - s1)) < (w64 (s2 - x13.1)) then
              (rec (s1, x13.1, s3, x13.2.2)).bind fun x16 =>
              some (.inl (w64 (x13.1 + 1), s2, s3, decide (x15 ≤ (w64 (x13.1 - s1))), x13.2.1, x16))
            else
            (rec (w64 (x13.1 + 1), s2, s3, x13.2.2)).bind fun x18 =>
            some (.inl (s1, x13.1, s3, decide (x15 ≤ (w64 (s2 - x13.1))), x13.2.1, x18))
          else
          (slices_partitionEqual_Bm s1 s2 (w64 ((w64 (s2 - 1)) - (w64 (x5.1 - s1)))) x8.2).bind fun x20 =>
          some (.inl (x20.1, s2, s3, s10, s11, x20.2))
        else
        (slices_partition_Bm s1 s2 (w64 ((w64 (s2 - 1)) - (w64 (x5.1 - s1)))) x8.2).bind fun x22 =>
        (quoV .i64 (w64 (s2 - s1)) 8).bind fun x24 =>
        if (w64 (x22.1 - s1)) < (w64 (s2 - x22.1)) then
          (rec (s1, x22.1, s3, x22.2.2)).bind fun x25 =>
          some (.inl (w64 (x22.1 + 1), s2, s3, decide (x24 ≤ (w64 (x22.1 - s1))), x22.2.1, x25))
        else
        (rec (w64 (x22.1 + 1), s2, s3, x22.2.2)).bind fun x27 =>
        some (.inl (s1, x22.1, s3, decide (x24 ≤ (w64 (s2 - x22.1))), x22.2.1, x27))
      else
      if 0 < s1 then
        (idx x7 (w64 (s1 - 1))).bind fun x29 =>
        (idx x7 (w64 ((w64 (s2 - 1)) - (w64 (x5.1 - s1))))).bind fun x30 =>
        (match_Match_c1 x29 x30).bind fun x31 =>
        if x31 < 0 then
          (slices_partition_Bm s1 s2 (w64 ((w64 (s2 - 1)) - (w64 (x5.1 - s1)))) x7).bind fun x32 =>
          (quoV .i64 (w64 (s2 - s1)) 8).bind fun x34 =>
          if (w64 (x32.1 - s1)) < (w64 (s2 - x32.1)) then
            (rec (s1, x32.1, s3, x32.2.2)).bind fun x35 =>
            some (.inl (w64 (x32.1 + 1), s2, s3, decide (x34 ≤ (w64 (x32.1 - s1))), x32.2.1, x35))
          else
          (rec (w64 (x32.1 + 1), s2, s3, x32.2.2)).bind fun x37 =>
          some (.inl (s1, x32.1, s3, decide (x34 ≤ (w64 (s2 - x32.1))), x32.2.1, x37))
        else
        (slices_partitionEqual_Bm s1 s2 (w64 ((w64 (s2 - 1)) - (w64 (x5.1 - s1)))) x7).bind fun x39 =>
        some (.inl (x39.1, s2, s3, s10, s11, x39.2))
      else
      (slices_partition_Bm s1 s2 (w64 ((w64 (s2 - 1)) - (w64 (x5.1 - s1)))) x7).bind fun x41 =>
      (quoV .i64 (w64 (s2 - s1)) 8).bind fun x43 =>
      if (w64 (x41.1 - s1)) < (w64 (s2 - x41.1)) then
        (rec (s1, x41.1, s3, x41.2.2)).bind fun x44 =>
        some (.inl (w64 (x41.1 + 1), s2, s3, decide (x43 ≤ (w64 (x41.1 - s1))), x41.2.1, x44))
      else
      (rec (w64 (x41.1 + 1), s2, s3, x41.2.2)).bind fun x46 =>
      some (.inl (s1, x41.1, s3, decide (x43 ≤ (w64 (s2 - x41.1))), x41.2.1, x46))
    else
    if s11 = true then
      if x5.2 = 1 then
        (slices_partialInsertionSort_Bm s1 s2 o0).bind fun x48 =>
        if x48.1 = true then
          some (.inr x48.2)
        else
        if 0 < s1 then
          (idx x48.2 (w64 (s1 - 1))).bind fun x50 =>
          (idx x48.2 x5.1).bind fun x51 =>
          (match_Match_c1 x50 x51).bind fun x52 =>
          if x52 < 0 then
            (slices_partition_Bm s1 s2 x5.1 x48.2).bind fun x53 =>
            (quoV .i64 (w64 (s2 - s1)) 8).bind fun x55 =>
            if (w64 (x53.1 - s1)) < (w64 (s2 - x53.1)) then
              (rec (s1, x53.1, s3, x53.2.2)).bind fun x56 =>
              some (.inl (w64 (x53.1 + 1), s2, s3, decide (x55 ≤ (w64 (x53.1 - s1))), x53.2.1, x56))
            else
            (rec (w64 (x53.1 + 1), s2, s3, x53.2.2)).bind fun x58 =>
            some (.inl (s1, x53.1, s3, decide (x55 ≤ (w64 (s2 - x53.1))), x53.2.1, x58))
          else
          (slices_partitionEqual_Bm s1 s2 x5.1 x48.2).bind fun x60 =>
          some (.inl (x60.1, s2, s3, s10, s11, x60.2))
        else
        (slices_partition_Bm s1 s2 x5.1 x48.2).bind fun x62 =>
        (quoV .i64 (w64 (s2 - s1)) 8).bind fun x64 =>
        if (w64 (x62.1 - s1)) < (w64 (s2 - x62.1)) then
          (rec (s1, x62.1, s3, x62.2.2)).bind fun x65 =>
          some (.inl (w64 (x62.1 + 1), s2, s3, decide (x64 ≤ (w64 (x62.1 - s1))), x62.2.1, x65))
        else
        (rec (w64 (x62.1 + 1), s2, s3, x62.2.2)).bind fun x67 =>
        some (.inl (s1, x62.1, s3, decide (x64 ≤ (w64 (s2 - x62.1))), x62.2.1, x67))
      else
      if 0 < s1 then
        (idx o0 (w64 (s1 - 1))).bind fun x69 =>
        (idx o0 x5.1).bind fun x70 =>
        (match_Match_c1 x69 x70).bind fun x71 =>
        if x71 < 0 then
          (slices_partition_Bm s1 s2 x5.1 o0).bind fun x72 =>
          (quoV .i64 (w64 (s2 - s1)) 8).bind fun x74 =>
          if (w64 (x72.1 - s1)) < (w64 (s2 - x72.1)) then
            (rec (s1, x72.1, s3, x72.2.2)).bind fun x75 =>
            some (.inl (w64 (x72.1 + 1), s2, s3, decide (x74 ≤ (w64 (x72.1 - s1))), x72.2.1, x75))
          else
          (rec (w64 (x72.1 + 1), s2, s3, x72.2.2)).bind fun x77 =>
          some (.inl (s1, x72.1, s3, decide (x74 ≤ (w64 (s2 - x72.1))), x72.2.1, x77))
        else
        (slices_partitionEqual_Bm s1 s2 x5.1 o0).bind fun x79 =>
        some (.inl (x79.1, s2, s3, s10, s11, x79.2))
      else
      (slices_partition_Bm s1 s2 x5.1 o0).bind fun x81 =>
      (quoV .i64 (w64 (s2 - s1)) 8).bind fun x83 =>
      if (w64 (x81.1 - s1)) < (w64 (s2 - x81.1)) then
        (rec (s1, x81.1, s3, x81.2.2)).bind fun x84 =>
        some (.inl (w64 (x81.1 + 1), s2, s3, decide (x83 ≤ (w64 (x81.1 - s1))), x81.2.1, x84))
      else
      (rec (w64 (x81.1 + 1), s2, s3, x81.2.2)).bind fun x86 =>
      some (.inl (s1, x81.1, s3, decide (x83 ≤ (w64 (s2 - x81.1))), x81.2.1, x86))
    else
    if 0 < s1 then
      (idx o0 (w64 (s1 - 1))).bind fun x88 =>
      (idx o0 x5.1).bind fun x89 =>
      (match_Match_c1 x88 x89).bind fun x90 =>
      if x90 < 0 then
        (slices_partition_Bm s1 s2 x5.1 o0).bind fun x91 =>
        (quoV .i64 (w64 (s2 - s1)) 8).bind fun x93 =>
        if (w64 (x91.1 - s1)) < (w64 (s2 - x91.1)) then
          (rec (s1, x91.1, s3, x91.2.2)).bind fun x94 =>
          some (.inl (w64 (x91.1 + 1), s2, s3, decide (x93 ≤ (w64 (x91.1 - s1))), x91.2.1, x94))
        else
        (rec (w64 (x91.1 + 1), s2, s3, x91.2.2)).bind fun x96 =>
        some (.inl (s1, x91.1, s3, decide (x93 ≤ (w64 (s2 - x91.1))), x91.2.1, x96))
      else
      (slices_partitionEqual_Bm s1 s2 x5.1 o0).bind fun x98 =>
      some (.inl (x98.1, s2, s3, s10, s11, x98.2))
    else
    (slices_partition_Bm s1 s2 x5.1 o0).bind fun x100 =>
    (quoV .i64 (w64 (s2 - s1)) 8).bind fun x102 =>
    if (w64 (x100.1 - s1)) < (w64 (s2 - x100.1)) then
      (rec (s1, x100.1, s3, x100.2.2)).bind fun x103 =>
      some (.inl (w64 (x100.1 + 1), s2, s3, decide (x102 ≤ (w64 (x100.1 - s1))), x100.2.1, x103))
    else
    (rec (w64 (x100.1 + 1), s2, s3, x100.2.2)).bind fun x105 =>
    some (.inl (s1, x100.1, s3, decide (x102 ≤ (w64 (s2 - x100.1))), x100.2.1, x105))
  else
  (slices_breakPatterns_Bm s1 s2 o0).bind fun x107 =>
  (slices_choosePivot_Bm s1 s2 x107).bind fun x109 =>
  if x109.2 = 2 then
    (slices_reverseRange_Bm s1 s2 x107).bind fun x111 =>
    if 0 < s1 then
      (idx x111 (w64 (s1 - 1))).bind fun x112 =>
      (idx x111 (w64 ((w64 (s2 - 1)) - (w64 (x109.1 - s1))))).bind fun x113 =>
      (match_Match_c1 x112 x113).bind fun x114 =>
      if x114 < 0 then
        (slices_partition_Bm s1 s2 (w64 ((w64 (s2 - 1)) - (w64 (x109.1 - s1)))) x111).bind fun x115 =>
        (quoV .i64 (w64 (s2 - s1)) 8).bind fun x117 =>
        if (w64 (x115.1 - s1)) < (w64 (s2 - x115.1)) then
          (rec (s1, x115.1, w64 (s3 - 1), x115.2.2)).bind fun x118 =>
          some (.inl (w64 (x115.1 + 1), s2, w64 (s3 - 1), decide (x117 ≤ (w64 (x115.1 - s1))), x115.2.1, x118))
        else
        (rec (w64 (x115.1 + 1), s2, w64 (s3 - 1), x115.2.2)).bind fun x120 =>
        some (.inl (s1, x115.1, w64 (s3 - 1), decide (x117 ≤ (w64 (s2 - x115.1))), x115.2.1, x120))
      else
      (slices_partitionEqual_Bm s1 s2 (w64 ((w64 (s2 - 1)) - (w64 (x109.1 - s1)))) x111).bind fun x122 =>
      some (.inl (x122.1, s2, w64 (s3 - 1), s10, s11, x122.2))
    else
    (slices_partition_Bm s1 s2 (w64 ((w64 (s2 - 1)) - (w64 (x109.1 - s1)))) x111).bind fun x124 =>
    (quoV .i64 (w64 (s2 - s1)) 8).bind fun x126 =>
    if (w64 (x124.1 - s1)) < (w64 (s2 - x124.1)) then
      (rec (s1, x124.1, w64 (s3 - 1), x124.2.2)).bind fun x127 =>
      some (.inl (w64 (x124.1 + 1), s2, w64 (s3 - 1), decide (x126 ≤ (w64 (x124.1 - s1))), x124.2.1, x127))
    else
    (rec (w64 (x124.1 + 1), s2, w64 (s3 - 1), x124.2.2)).bind fun x129 =>
    some (.inl (s1, x124.1, w64 (s3 - 1), decide (x126 ≤ (w64 (s2 - x124.1))), x124.2.1, x129))
  else
  if 0 < s1 then
    (idx x107 (w64 (s1 - 1))).bind fun x131 =>
    (idx x107 x109.1).bind fun x132 =>
    (match_Match_c1 x131 x132).bind fun x133 =>
    if x133 < 0 then
      (slices_partition_Bm s1 s2 x109.1 x107).bind fun x134 =>
      (quoV .i64 (w64 (s2 - s1)) 8).bind fun x136 =>
      if (w64 (x134.1 - s1)) < (w64 (s2 - x134.1)) then
        (rec (s1, x134.1, w64 (s3 - 1), x134.2.2)).bind fun x137 =>
        some (.inl (w64 (x134.1 + 1), s2, w64 (s3 - 1), decide (x136 ≤ (w64 (x134.1 - s1))), x134.2.1, x137))
      else
      (rec (w64 (x134.1 + 1), s2, w64 (s3 - 1), x134.2.2)).bind fun x139 =>
      some (.inl (s1, x134.1, w64 (s3 - 1), decide (x136 ≤ (w64 (s2 - x134.1))), x134.2.1, x139))
    else
    (slices_partitionEqual_Bm s1 s2 x109.1 x107).bind fun x141 =>
    some (.inl (x141.1, s2, w64 (s3 - 1), s10, s11, x141.2))
  else
  (slices_partition_Bm s1 s2 x109.1 x107).bind fun x143 =>
  (quoV .i64 (w64 (s2 - s1)) 8).bind fun x145 =>
  if (w64 (x143.1 - s1)) < (w64 (s2 - x143.1)) then
    (rec (s1, x143.1, w64 (s3 - 1), x143.2.2)).bind fun x146 =>
    some (.inl (w64 (x143.1 + 1), s2, w64 (s3 - 1), decide (x145 ≤ (w64 (x143.1 - s1))), x143.2.1, x146))
  else
  (rec (w64 (x143.1 + 1), s2, w64 (s3 - 1), x143.2.2)).bind fun x148 =>
  some (.inl (s1, x143.1, w64 (s3 - 1), decide (x145 ≤ (w64 (s2 - x143.1))), x143.2.1, x148))
noncomputable def slices_pdqsort_Bm_F (rec : Int × Int × Int × (List Bind) → Option ((List Bind))) (s1 : Int) (s2 : Int) (s3 : Int) (o0 : List Bind) : Option ((List Bind)) :=
  (wh (slices_pdqsort_Bm_l0 rec) (s1, s2, s3, true, true, o0)).bind fun x151 =>
  some x151
noncomputable def slices_pdqsort_Bm (s1 : Int) (s2 : Int) (s3 : Int) (o0 : List Bind) : Option ((List Bind)) := fixO (fun rec (p : Int × Int × Int × (List Bind)) => slices_pdqsort_Bm_F rec p.1 p.2.1 p.2.2.1 p.2.2.2) (s1, s2, s3, o0)
noncomputable def slices_SortFunc_Bm (o0 : List Bind) : Option ((List Bind)) :=
  (math_bits_Len (IntKind.u64.wrap (o0.length : Int))).bind fun x1 =>
  (slices_pdqsort_Bm 0 (o0.length : Int) x1 o0).bind fun x2 =>
  some x2
noncomputable def match_Match_l0 (s0 : List Symbol) (s1 : List Int) (s6 : List Bind) (s30 : List Int) (s31 : Int) : (List Int) × Int × (List (Int × (List Int))) × (List Bind) → Option (((List Int) × Int × (List (Int × (List Int))) × (List Bind)) ⊕ (((List Bind) × Bool) ⊕ ((List Int) × Int × (List (Int × (List Int))) × (List Bind)))) := fun (s2, s32, m8, o9) =>
  if s32 < s31 then
    (idx s30 s32).bind fun x3 =>
    (match_part x3).bind fun x4 =>
    if ifInt x4 = true then
    match asI 57 .i64 x4 with
    | some x5 =>
      (idx s2 0).bind fun x6 =>
      if x6 = x5 then
        (cutL s2 1 (s2.length : Int)).bind fun x7 =>
        some (.inl (x7, w64 (s32 + 1), m8, o9))
      else
      some (.inr (.inl (([] : List Bind), false)))
    | none =>
      (asI 59 .i64 x4).bind fun x8 =>
      (match_reach s0 s2).bind fun x9 =>
      match mget m8 x8 with
      | some x10 =>
        (cutL s2 0 x9).bind fun x11 =>
        (slices_Equal_s_int_int x10 x11).bind fun x12 =>
        if x12 = true then
          (cutL s2 x9 (s2.length : Int)).bind fun x13 =>
          some (.inl (x13, w64 (s32 + 1), m8, o9))
        else
        some (.inr (.inl (([] : List Bind), false)))
      | none =>
        (cutL s2 0 x9).bind fun x14 =>
        if x14.length * 8 ≤ 140737488355328 then
        if (o9.length + 1) * 32 ≤ 140737488355328 then
        (cutL s2 x9 (s2.length : Int)).bind fun x15 =>
        some (.inl (x15, w64 (s32 + 1), mset m8 x8 x14, o9 ++ [(Bind.mk x8 x14)]))
        else none
        else none
    else none
  else
  some (.inr (.inr (s2, s32, m8, o9)))
noncomputable def match_Match (a0 : List Symbol) (a1 : List Int) (a2 : List Int) : Option ((List Bind) × Bool) :=
  (term_Check a0 a1).bind fun x1 =>
  if x1 = 0 then
    (term_Check a0 a2).bind fun x2 =>
    if x2 = 0 then
      (wh (match_Match_l0 a0 a1 ([] : List Bind) a1 (a1.length : Int)) (a2, 0, ([] : List (Int × (List Int))), ([] : List Bind))).bind fun x16 =>
      match x16 with
      | .inl x17 =>
        some x17
      | .inr (x18, x19, x20, x21) =>
        (slices_SortFunc_Bm x21).bind fun x24 =>
        some (x24, true)
    else
    some (([] : List Bind), false)
  else
  some (([] : List Bind), false)
noncomputable def l05_sameRow_l0 (s0 : List Int) (s1 : List Int) : Int → Option (Int ⊕ (Bool ⊕ Int)) := fun s5 =>
  if s5 < (s0.length : Int) then
    (idx s0 s5).bind fun x1 =>
    (idx s1 s5).bind fun x2 =>
    if x1 = x2 then
      some (.inl (w64 (s5 + 1)))
    else
    some (.inr (.inl false))
  else
  some (.inr (.inr s5))
noncomputable def l05_sameRow (a0 : List Int) (a1 : List Int) : Option Bool :=
  if (a0.length : Int) = (a1.length : Int) then
    (wh (l05_sameRow_l0 a0 a1) 0).bind fun x3 =>
    match x3 with
    | .inl x4 =>
      some x4
    | .inr x5 =>
      some true
  else
  some false
noncomputable def l05_same_l0 (s0 : List Bind) (s1 : List Bind) : Int → Option (Int ⊕ (Bool ⊕ Int)) := fun s5 =>
  if s5 < (s0.length : Int) then
    (idx s0 s5).bind fun x1 =>
    (idx s1 s5).bind fun x2 =>
    (l05_sameRow x1.T x2.T).bind fun x3 =>
    if x3 = true then
      if x1.Var = x2.Var then
        some (.inl (w64 (s5 + 1)))
      else
      some (.inr (.inl false))
    else
    some (.inr (.inl false))
  else
  some (.inr (.inr s5))
noncomputable def l05_same (a0 : List Bind) (a1 : List Bind) : Option Bool :=
  if (a0.length : Int) = (a1.length : Int) then
    (wh (l05_same_l0 a0 a1) 0).bind fun x4 =>
    match x4 with
    | .inl x5 =>
      some x5
    | .inr x6 =>
      some true
  else
  some false
def canNum (m : List (Int × Int)) (c : Int) : List (Int × Int) := match mget m c with
  | none => mset m c (m.length : Int)
  | some _ => m
def canRow : List (Int × Int) → List Int → List (Int × Int) × List Int
  | m, [] => (m, [])
  | m, c :: r => if 0 ≤ c then ((canRow m r).1, c :: (canRow m r).2) else ((canRow (canNum m c) r).1, w64 (-1 - (mget (canNum m c) c).getD 0) :: (canRow (canNum m c) r).2)
def canRows : List (Int × Int) → List (List Int) → List (List Int)
  | _, [] => []
  | m, t :: r => (canRow m t).2 :: canRows (canRow m t).1 r
def subst_Canon (l : List (List Int)) : Option (List (List Int)) := if l.length * 24 ≤ 140737488355328 then (if l.all (fun t => decide (t.length * 8 ≤ 140737488355328)) = true then some (canRows [] l) else none) else none

noncomputable def match_Variant_l0 (s0 : List Symbol) (s1 : Rule) (s2 : Rule) (s19 : List (List Int)) (b4_0 : List Int) (b4_1 : List Int) (b5_0 : List Int) (b5_1 : List Int) : Int → Option (Int ⊕ (Bool ⊕ Int)) := fun s21 =>
  if s21 < 4 then
    (idx s19 s21).bind fun x1 =>
    (term_Check s0 x1).bind fun x2 =>
    if x2 = 0 then
      some (.inl (w64 (s21 + 1)))
    else
    some (.inr (.inl false))
  else
  some (.inr (.inr s21))
noncomputable def match_Variant (a0 : List Symbol) (a1 : Rule) (a2 : Rule) : Option Bool :=
  (wh (match_Variant_l0 a0 a1 a2 ([a1.L, a1.R, a2.L, a2.R] : List (List Int)) a1.L a1.R a2.L a2.R) 0).bind fun x3 =>
  match x3 with
  | .inl x4 =>
    some x4
  | .inr x5 =>
    (subst_Canon ([a1.L, a1.R] : List (List Int))).bind fun x6 =>
    (subst_Canon ([a2.L, a2.R] : List (List Int))).bind fun x7 =>
    (idx x6 0).bind fun x8 =>
    (idx x7 0).bind fun x9 =>
    (slices_Equal_s_int_int x8 x9).bind fun x10 =>
    if x10 = true then
      (idx x6 1).bind fun x11 =>
      (idx x7 1).bind fun x12 =>
      (slices_Equal_s_int_int x11 x12).bind fun x13 =>
      some x13
    else
    some false
noncomputable def l05_shown  : Option Bool :=
  (l05_three).bind fun x1 =>
  (match_Match x1 ([2, (-1), (-2)] : List Int) ([2, 1, 0, 0] : List Int)).bind fun x2 =>
  (match_Match x1 ([2, (-1), (-1)] : List Int) ([2, 0, 1, 0] : List Int)).bind fun x3 =>
  (l05_same x2.1 ([(Bind.mk 0 ([1, 0] : List Int)), (Bind.mk 1 ([0] : List Int))] : List Bind)).bind fun x4 =>
  (match_Variant x1 (Rule.mk ([2, (-1), (-2)] : List Int) ([(-1)] : List Int)) (Rule.mk ([2, (-7), (-3)] : List Int) ([(-7)] : List Int))).bind fun x5 =>
  (match_Variant x1 (Rule.mk ([2, (-1), (-2)] : List Int) ([(-1)] : List Int)) (Rule.mk ([2, (-7), (-3)] : List Int) ([(-3)] : List Int))).bind fun x6 =>
  if x4 = true then
    if x2.2 = true then
      if x3.2 = true then
        some false
      else
      if x5 = true then
        some (!x6)
      else
      some false
    else
    some false
  else
  some false
noncomputable def r03_good_l0 (s0 : ByteArray) (t7 : ByteArray) : ByteArray × Nat → Option ((ByteArray × Nat) ⊕ (ByteArray × Nat)) := fun (s3, q7) =>
  if q7 < t7.size then
    if ((s3.size + (Utf8.encode ((Utf8.decode t7 q7).1 : Int)).size : Nat) : Int) ≤ 9223372036854775807 then
    some (.inl (s3 ++ (Utf8.encode ((Utf8.decode t7 q7).1 : Int)), q7 + (Utf8.decode t7 q7).2))
    else none
  else
  some (.inr (s3, q7))
noncomputable def r03_good (a0 : ByteArray) : Option Bool :=
  (wh (r03_good_l0 a0 a0) ({ data := #[] }, 0)).bind fun x1 =>
  match x1 with
  | (x2, x3) =>
  some (decide (x2 = a0))
noncomputable def r03_letter (a0 : Int) : Option Bool :=
  if 97 ≤ a0 then
    if a0 ≤ 122 then
      some true
    else
    if 65 ≤ a0 then
      if a0 ≤ 90 then
        some true
      else
      some (decide (128 ≤ a0))
    else
    some (decide (128 ≤ a0))
  else
  if 65 ≤ a0 then
    if a0 ≤ 90 then
      some true
    else
    some (decide (128 ≤ a0))
  else
  some (decide (128 ≤ a0))
noncomputable def r03_more (a0 : Int) : Option Bool :=
  (r03_letter a0).bind fun x1 =>
  if x1 = true then
    some true
  else
  if 48 ≤ a0 then
    if a0 ≤ 57 then
      some true
    else
    if a0 = 95 then
      some true
    else
    some (decide (a0 = 39))
  else
  if a0 = 95 then
    some true
  else
  some (decide (a0 = 39))
noncomputable def r03_Name_l0 (s0 : ByteArray) (t18 : ByteArray) : Nat → Option (Nat ⊕ (Bool ⊕ Nat)) := fun q18 =>
  if q18 < t18.size then
    if (q18 : Int) = 0 then
      (r03_letter ((Utf8.decode t18 q18).1 : Int)).bind fun x2 =>
      if x2 = true then
        (r03_more ((Utf8.decode t18 q18).1 : Int)).bind fun x3 =>
        if x3 = true then
          some (.inl (q18 + (Utf8.decode t18 q18).2))
        else
        some (.inr (.inl false))
      else
      some (.inr (.inl false))
    else
    (r03_more ((Utf8.decode t18 q18).1 : Int)).bind fun x4 =>
    if x4 = true then
      some (.inl (q18 + (Utf8.decode t18 q18).2))
    else
    some (.inr (.inl false))
  else
  some (.inr (.inr q18))
noncomputable def r03_Name (a0 : ByteArray) : Option Bool :=
  if a0 = ({ data := #[] }) then
    some false
  else
  if 32 < (a0.size : Int) then
    some false
  else
  (r03_good a0).bind fun x1 =>
  if x1 = true then
    (wh (r03_Name_l0 a0 a0) 0).bind fun x5 =>
    match x5 with
    | .inl x6 =>
      some x6
    | .inr x7 =>
      some true
  else
  some false
noncomputable def r03_Marked (a0 : ByteArray) : Option Bool :=
  if 0 < (a0.size : Int) then
    (sidx a0 (w64 ((a0.size : Int) - 1))).bind fun x1 =>
    if x1 = 35 then
      (cutBA a0 0 (w64 ((a0.size : Int) - 1))).bind fun x2 =>
      (r03_Name x2).bind fun x3 =>
      some x3
    else
    some false
  else
  some false
noncomputable def r03_CheckSig_l1 (s0 : List Symbol) (s3 : Int) : Int → Option (Int ⊕ (Int ⊕ Unit)) := fun s4 =>
  if s4 < s3 then
    (idx s0 s4).bind fun x9 =>
    (idx s0 s3).bind fun x10 =>
    if x9.Name = x10.Name then
      some (.inr (.inl 36))
    else
    some (.inl (w64 (s4 + 1)))
  else
  some (.inr (.inr ()))
noncomputable def r03_CheckSig_l0 (s0 : List Symbol) : Int → Option (Int ⊕ (Int ⊕ Int)) := fun s3 =>
  if s3 < (s0.length : Int) then
    (idx s0 s3).bind fun x1 =>
    (r03_Name x1.Name).bind fun x2 =>
    if x2 = true then
      if x1.Arity < 0 then
        some (.inr (.inl 35))
      else
      if 8 < x1.Arity then
        some (.inr (.inl 35))
      else
      (wh (r03_CheckSig_l1 s0 s3) 0).bind fun x5 =>
      match x5 with
      | .inl x6 =>
        some (.inr (.inl x6))
      | .inr () =>
        some (.inl (w64 (s3 + 1)))
    else
    (r03_Marked x1.Name).bind fun x8 =>
    if x8 = true then
      if x1.Arity < 0 then
        some (.inr (.inl 35))
      else
      if 8 < x1.Arity then
        some (.inr (.inl 35))
      else
      (wh (r03_CheckSig_l1 s0 s3) 0).bind fun x11 =>
      match x11 with
      | .inl x12 =>
        some (.inr (.inl x12))
      | .inr () =>
        some (.inl (w64 (s3 + 1)))
    else
    some (.inr (.inl 34))
  else
  some (.inr (.inr s3))
noncomputable def r03_CheckSig (a0 : List Symbol) : Option Int :=
  if 128 < (a0.length : Int) then
    some 37
  else
  (wh (r03_CheckSig_l0 a0) 0).bind fun x14 =>
  match x14 with
  | .inl x15 =>
    some x15
  | .inr x16 =>
    some 0
noncomputable def r03_Term_l0 (s0 : List Symbol) (s1 : List Int) : Int × Int → Option ((Int × Int) ⊕ (Int ⊕ (Int × Int))) := fun (s5, s6) =>
  if 0 < s5 then
    if s6 = (s1.length : Int) then
      some (.inr (.inl 31))
    else
    (idx s1 s6).bind fun x1 =>
    if (s0.length : Int) ≤ x1 then
      some (.inr (.inl 30))
    else
    if x1 < (-1048576) then
      some (.inr (.inl 30))
    else
    if 0 ≤ x1 then
      (idx s0 x1).bind fun x2 =>
      if (w64 ((w64 (s5 - 1)) + x2.Arity)) = 0 then
        if (w64 (s6 + 1)) < (s1.length : Int) then
          some (.inr (.inl 32))
        else
        some (.inl (w64 ((w64 (s5 - 1)) + x2.Arity), w64 (s6 + 1)))
      else
      some (.inl (w64 ((w64 (s5 - 1)) + x2.Arity), w64 (s6 + 1)))
    else
    if (w64 (s5 - 1)) = 0 then
      if (w64 (s6 + 1)) < (s1.length : Int) then
        some (.inr (.inl 32))
      else
      some (.inl (w64 (s5 - 1), w64 (s6 + 1)))
    else
    some (.inl (w64 (s5 - 1), w64 (s6 + 1)))
  else
  some (.inr (.inr (s5, s6)))
noncomputable def r03_Term (a0 : List Symbol) (a1 : List Int) : Option Int :=
  (wh (r03_Term_l0 a0 a1) (1, 0)).bind fun x3 =>
  match x3 with
  | .inl x4 =>
    some x4
  | .inr (x5, x6) =>
    some 0
noncomputable def r03_Check (a0 : List Symbol) (a1 : List Int) : Option Int :=
  (r03_CheckSig a0).bind fun x1 =>
  if x1 = 0 then
    (r03_Term a0 a1).bind fun x2 =>
    some x2
  else
  some x1
noncomputable def r04_Check_l0 (s0 : List Symbol) (s1 : List Bind) : Int × Int → Option ((Int × Int) ⊕ (Int ⊕ (Int × Int))) := fun (s5, s6) =>
  if s6 < (s1.length : Int) then
    (idx s1 s6).bind fun x2 =>
    if x2.Var < 0 then
      some (.inr (.inl 40))
    else
    if 1048576 ≤ x2.Var then
      some (.inr (.inl 40))
    else
    if 0 < s6 then
      (idx s1 (w64 (s6 - 1))).bind fun x3 =>
      if x2.Var ≤ x3.Var then
        some (.inr (.inl 41))
      else
      (r03_Check s0 x2.T).bind fun x4 =>
      if x4 = 0 then
        some (.inl (x4, w64 (s6 + 1)))
      else
      some (.inr (.inl x4))
    else
    (r03_Check s0 x2.T).bind fun x5 =>
    if x5 = 0 then
      some (.inl (x5, w64 (s6 + 1)))
    else
    some (.inr (.inl x5))
  else
  some (.inr (.inr (s5, s6)))
noncomputable def r04_Check (a0 : List Symbol) (a1 : List Bind) : Option Int :=
  (r03_CheckSig a0).bind fun x1 =>
  if x1 = 0 then
    (wh (r04_Check_l0 a0 a1) (x1, 0)).bind fun x6 =>
    match x6 with
    | .inl x7 =>
      some x7
    | .inr (x8, x9) =>
      some 0
  else
  some x1
noncomputable def r04_bound_l0 (s0 : List Bind) (s1 : Int) (s4 : List Int) : Int → Option (Int ⊕ (((List Int) × Bool) ⊕ Int)) := fun s6 =>
  if s6 < (s0.length : Int) then
    (idx s0 s6).bind fun x1 =>
    if x1.Var = s1 then
      some (.inr (.inl (x1.T, true)))
    else
    some (.inl (w64 (s6 + 1)))
  else
  some (.inr (.inr s6))
noncomputable def r04_bound (a0 : List Bind) (a1 : Int) : Option ((List Int) × Bool) :=
  (wh (r04_bound_l0 a0 a1 ([] : List Int)) 0).bind fun x2 =>
  match x2 with
  | .inl x3 =>
    some x3
  | .inr x4 =>
    some (([] : List Int), false)
noncomputable def r04_Laid_l0 (s0 : List Bind) (s1 : List Int) (s2 : Int) (s6 : List Int) : Int × (List Int) → Option ((Int × (List Int)) ⊕ (((List Int) × Bool) ⊕ (Int × (List Int)))) := fun (s9, o8) =>
  if s9 < (s1.length : Int) then
    (cutL s1 s9 (w64 (s9 + 1))).bind fun x1 =>
    (idx s1 s9).bind fun x2 =>
    if x2 < 0 then
      (r04_bound s0 (w64 ((-1) - x2))).bind fun x3 =>
      if x3.2 = true then
        if (w64 (s2 - (o8.length : Int))) < (x3.1.length : Int) then
          some (.inr (.inl (([] : List Int), false)))
        else
        if (o8.length + x3.1.length) * 8 ≤ 140737488355328 then
        some (.inl (w64 (s9 + 1), o8 ++ x3.1))
        else none
      else
      if (w64 (s2 - (o8.length : Int))) < (x1.length : Int) then
        some (.inr (.inl (([] : List Int), false)))
      else
      if (o8.length + x1.length) * 8 ≤ 140737488355328 then
      some (.inl (w64 (s9 + 1), o8 ++ x1))
      else none
    else
    if (w64 (s2 - (o8.length : Int))) < (x1.length : Int) then
      some (.inr (.inl (([] : List Int), false)))
    else
    if (o8.length + x1.length) * 8 ≤ 140737488355328 then
    some (.inl (w64 (s9 + 1), o8 ++ x1))
    else none
  else
  some (.inr (.inr (s9, o8)))
noncomputable def r04_Laid (a0 : List Bind) (a1 : List Int) (a2 : Int) : Option ((List Int) × Bool) :=
  (wh (r04_Laid_l0 a0 a1 a2 ([] : List Int)) (0, ([] : List Int))).bind fun x4 =>
  match x4 with
  | .inl x5 =>
    some x5
  | .inr (x6, x7) =>
    some (x7, true)
noncomputable def r04_Apply (a0 : List Symbol) (a1 : List Bind) (a2 : List Int) : Option ((List Int) × Int) :=
  (r04_Check a0 a1).bind fun x1 =>
  if x1 = 0 then
    (r03_Check a0 a2).bind fun x2 =>
    if x2 = 0 then
      (r04_Laid a1 a2 512).bind fun x3 =>
      if x3.2 = true then
        some (x3.1, 0)
      else
      some (([] : List Int), 2)
    else
    some (([] : List Int), x2)
  else
  some (([] : List Int), x1)
noncomputable def subst_Check_l0 (s0 : List Symbol) (s1 : List Bind) (s5 : Int) (s14 : List Bind) (s15 : Int) : Int → Option (Int ⊕ (Int ⊕ Int)) := fun s16 =>
  if s16 < s15 then
    (idx s14 s16).bind fun x2 =>
    if x2.Var < 0 then
      some (.inr (.inl 40))
    else
    if 1048576 ≤ x2.Var then
      some (.inr (.inl 40))
    else
    if 0 < s16 then
      (idx s1 (w64 (s16 - 1))).bind fun x3 =>
      if x2.Var ≤ x3.Var then
        some (.inr (.inl 41))
      else
      (term_Check s0 x2.T).bind fun x4 =>
      if x4 = 0 then
        some (.inl (w64 (s16 + 1)))
      else
      some (.inr (.inl x4))
    else
    (term_Check s0 x2.T).bind fun x5 =>
    if x5 = 0 then
      some (.inl (w64 (s16 + 1)))
    else
    some (.inr (.inl x5))
  else
  some (.inr (.inr s16))
noncomputable def subst_Check (a0 : List Symbol) (a1 : List Bind) : Option Int :=
  (term_CheckSig a0).bind fun x1 =>
  if x1 = 0 then
    (wh (subst_Check_l0 a0 a1 x1 a1 (a1.length : Int)) 0).bind fun x6 =>
    match x6 with
    | .inl x7 =>
      some x7
    | .inr x8 =>
      some 0
  else
  some x1
noncomputable def subst_Apply_c1 (s0 : Int) (m1_0 : List (Int × Bind)) : Option ((List Int)) :=
  match mget m1_0 s0 with
  | some x1 =>
    some x1.T
  | none =>
    some ([s0] : List Int)
noncomputable def subst_laid_on_subst_Apply_c1_l0 (s0 : List Int) (s4 : List Int) (s10 : List Int) (s11 : Int) (m1_0_0 : List (Int × Bind)) : Int × (List Int) → Option ((Int × (List Int)) ⊕ (((List Int) × Int) ⊕ (Int × (List Int)))) := fun (s12, o6) =>
  if s12 < s11 then
    (idx s10 s12).bind fun x1 =>
    if x1 < 0 then
      (subst_Apply_c1 x1 m1_0_0).bind fun x2 =>
      if (w64 (512 - (o6.length : Int))) < (x2.length : Int) then
        some (.inr (.inl (([] : List Int), 2)))
      else
      if (o6.length + x2.length) * 8 ≤ 140737488355328 then
      some (.inl (w64 (s12 + 1), o6 ++ x2))
      else none
    else
    if (w64 (512 - (o6.length : Int))) < 1 then
      some (.inr (.inl (([] : List Int), 2)))
    else
    if (o6.length + 1) * 8 ≤ 140737488355328 then
    some (.inl (w64 (s12 + 1), o6 ++ ([x1] : List Int)))
    else none
  else
  some (.inr (.inr (s12, o6)))
noncomputable def subst_laid_on_subst_Apply_c1 (s0 : List Int) (m1_0_0 : List (Int × Bind)) : Option ((List Int) × Int) :=
  (wh (subst_laid_on_subst_Apply_c1_l0 s0 ([] : List Int) s0 (s0.length : Int) m1_0_0) (0, ([] : List Int))).bind fun x4 =>
  match x4 with
  | .inl x5 =>
    some x5
  | .inr (x6, x7) =>
    some (x7, 0)
noncomputable def subst_Apply_l0 (s0 : List Symbol) (s1 : List Bind) (s2 : List Int) (s6 : List Int) (s8 : Int) (s9 : Int) (s28 : List Bind) (s29 : Int) : Int × (List (Int × Bind)) → Option ((Int × (List (Int × Bind))) ⊕ (Int × (List (Int × Bind)))) := fun (s30, m10_0) =>
  if s30 < s29 then
    (idx s28 s30).bind fun x3 =>
    some (.inl (w64 (s30 + 1), mset m10_0 (w64 ((-1) - x3.Var)) x3))
  else
  some (.inr (s30, m10_0))
noncomputable def subst_Apply (a0 : List Symbol) (a1 : List Bind) (a2 : List Int) : Option ((List Int) × Int) :=
  (subst_Check a0 a1).bind fun x1 =>
  if x1 = 0 then
    (term_Check a0 a2).bind fun x2 =>
    if x2 = 0 then
      (wh (subst_Apply_l0 a0 a1 a2 ([] : List Int) x1 x2 a1 (a1.length : Int)) (0, ([] : List (Int × Bind)))).bind fun x4 =>
      match x4 with
      | (x5, x6) =>
      (subst_laid_on_subst_Apply_c1 a2 x6).bind fun x8 =>
      some (x8.1, x8.2)
    else
    some (([] : List Int), x2)
  else
  some (([] : List Int), x1)
noncomputable def r03_End_l0 (s0 : List Symbol) (s1 : List Int) : Int × Int → Option ((Int × Int) ⊕ (Int × Int)) := fun (s2, s7) =>
  if 0 < s7 then
    (idx s1 s2).bind fun x1 =>
    if 0 ≤ x1 then
      (idx s0 x1).bind fun x2 =>
      some (.inl (w64 (s2 + 1), w64 ((w64 (s7 - 1)) + x2.Arity)))
    else
    some (.inl (w64 (s2 + 1), w64 (s7 - 1)))
  else
  some (.inr (s2, s7))
noncomputable def r03_End (a0 : List Symbol) (a1 : List Int) (a2 : Int) : Option Int :=
  (wh (r03_End_l0 a0 a1) (a2, 1)).bind fun x3 =>
  match x3 with
  | (x4, x5) =>
  some x4
noncomputable def r05_bound_l0 (s0 : List Bind) (s1 : Int) : Int → Option (Int ⊕ (Int ⊕ Int)) := fun s5 =>
  if s5 < (s0.length : Int) then
    (idx s0 s5).bind fun x1 =>
    if x1.Var = s1 then
      some (.inr (.inl s5))
    else
    some (.inl (w64 (s5 + 1)))
  else
  some (.inr (.inr s5))
noncomputable def r05_bound (a0 : List Bind) (a1 : Int) : Option Int :=
  (wh (r05_bound_l0 a0 a1) 0).bind fun x2 =>
  match x2 with
  | .inl x3 =>
    some x3
  | .inr x4 =>
    some (-1)
noncomputable def r05_sameRow_l0 (s0 : List Int) (s1 : List Int) : Int → Option (Int ⊕ (Bool ⊕ Int)) := fun s5 =>
  if s5 < (s0.length : Int) then
    (idx s0 s5).bind fun x1 =>
    (idx s1 s5).bind fun x2 =>
    if x1 = x2 then
      some (.inl (w64 (s5 + 1)))
    else
    some (.inr (.inl false))
  else
  some (.inr (.inr s5))
noncomputable def r05_sameRow (a0 : List Int) (a1 : List Int) : Option Bool :=
  if (a0.length : Int) = (a1.length : Int) then
    (wh (r05_sameRow_l0 a0 a1) 0).bind fun x3 =>
    match x3 with
    | .inl x4 =>
      some x4
    | .inr x5 =>
      some true
  else
  some false
noncomputable def r05_sorted_l1 (s0 : List Bind) (s2 : List Bind) (o3 : List Bind) : Int × Int → Option ((Int × Int) ⊕ Int) := fun (s4, s5) =>
  if s5 < (s0.length : Int) then
    if (o3.length : Int) = 0 then
      if s4 < 0 then
        some (.inl (s5, w64 (s5 + 1)))
      else
      (idx s0 s5).bind fun x1 =>
      (idx s0 s4).bind fun x2 =>
      if x1.Var < x2.Var then
        some (.inl (s5, w64 (s5 + 1)))
      else
      some (.inl (s4, w64 (s5 + 1)))
    else
    (idx s0 s5).bind fun x3 =>
    (idx o3 (w64 ((o3.length : Int) - 1))).bind fun x4 =>
    if x4.Var < x3.Var then
      if s4 < 0 then
        some (.inl (s5, w64 (s5 + 1)))
      else
      (idx s0 s4).bind fun x5 =>
      if x3.Var < x5.Var then
        some (.inl (s5, w64 (s5 + 1)))
      else
      some (.inl (s4, w64 (s5 + 1)))
    else
    some (.inl (s4, w64 (s5 + 1)))
  else
  some (.inr s4)
noncomputable def r05_sorted_l0 (s0 : List Bind) (s2 : List Bind) : (List Bind) → Option (((List Bind)) ⊕ ((List Bind))) := fun o3 =>
  if (o3.length : Int) < (s0.length : Int) then
    (wh (r05_sorted_l1 s0 s2 o3) ((-1), 0)).bind fun x7 =>
    (idx s0 x7).bind fun x9 =>
    if (o3.length + 1) * 32 ≤ 140737488355328 then
    some (.inl (o3 ++ [x9]))
    else none
  else
  some (.inr o3)
noncomputable def r05_sorted (a0 : List Bind) : Option ((List Bind)) :=
  (wh (r05_sorted_l0 a0 ([] : List Bind)) ([] : List Bind)).bind fun x11 =>
  some x11
noncomputable def r05_Inner_l0 (s0 : List Symbol) (s1 : List Int) (s2 : List Int) (s6 : List Bind) : Int × Int × (List Bind) → Option ((Int × Int × (List Bind)) ⊕ (((List Bind) × Bool) ⊕ (Int × Int × (List Bind)))) := fun (s9, s10, o8) =>
  if s10 < (s1.length : Int) then
    (idx s1 s10).bind fun x1 =>
    if 0 ≤ x1 then
      (idx s2 s9).bind fun x2 =>
      if x2 = x1 then
        some (.inl (w64 (s9 + 1), w64 (s10 + 1), o8))
      else
      some (.inr (.inl (([] : List Bind), false)))
    else
    (r03_End s0 s2 s9).bind fun x3 =>
    (cutL s2 s9 x3).bind fun x4 =>
    if x4.length * 8 ≤ 140737488355328 then
    (r05_bound o8 (w64 ((-1) - x1))).bind fun x5 =>
    if x5 < 0 then
      if (o8.length + 1) * 32 ≤ 140737488355328 then
      some (.inl (x3, w64 (s10 + 1), o8 ++ [(Bind.mk (w64 ((-1) - x1)) x4)]))
      else none
    else
    (idx o8 x5).bind fun x6 =>
    (r05_sameRow x6.T x4).bind fun x7 =>
    if x7 = true then
      some (.inl (x3, w64 (s10 + 1), o8))
    else
    some (.inr (.inl (([] : List Bind), false)))
    else none
  else
  some (.inr (.inr (s9, s10, o8)))
noncomputable def r05_Inner (a0 : List Symbol) (a1 : List Int) (a2 : List Int) : Option ((List Bind) × Bool) :=
  (wh (r05_Inner_l0 a0 a1 a2 ([] : List Bind)) (0, 0, ([] : List Bind))).bind fun x8 =>
  match x8 with
  | .inl x9 =>
    some x9
  | .inr (x10, x11, x12) =>
    (r05_sorted x12).bind fun x15 =>
    some (x15, true)
noncomputable def r05_Match (a0 : List Symbol) (a1 : List Int) (a2 : List Int) : Option ((List Bind) × Bool) :=
  (r03_Check a0 a1).bind fun x1 =>
  if x1 = 0 then
    (r03_Check a0 a2).bind fun x2 =>
    if x2 = 0 then
      (r05_Inner a0 a1 a2).bind fun x3 =>
      some (x3.1, x3.2)
    else
    some (([] : List Bind), false)
  else
  some (([] : List Bind), false)
noncomputable def l05_MatchBack (a0 : List Symbol) (a1 : (List Int) × (List Int)) (a2 : List Bind) : Option Bool :=
  (l05_shown).bind fun x1 =>
  (r03_Check a0 a1.1).bind fun x2 =>
  (r04_Check a0 a2).bind fun x3 =>
  if x1 = true then
    if x2 = 0 then
      if x3 = 0 then
        (r04_Apply a0 a2 a1.1).bind fun x4 =>
        if x4.2 = 0 then
          (match_Match a0 a1.1 x4.1).bind fun x5 =>
          (subst_Apply a0 x5.1 a1.1).bind fun x6 =>
          (l05_sameRow x4.1 x6.1).bind fun x7 =>
          if x5.2 = true then
            if x6.2 = 0 then
              if x7 = true then
                (match_Match a0 a1.1 a1.2).bind fun x8 =>
                (r05_Match a0 a1.1 a1.2).bind fun x9 =>
                if (x8.2 != x9.2) = true then
                  some false
                else
                if x8.2 = true then
                  if 512 < (a1.2.length : Int) then
                    some true
                  else
                  (r04_Apply a0 x8.1 a1.1).bind fun x10 =>
                  (l05_sameRow x10.1 a1.2).bind fun x11 =>
                  if x10.2 = 0 then
                    some x11
                  else
                  some false
                else
                some true
              else
              some false
            else
            some false
          else
          some false
        else
        (match_Match a0 a1.1 a1.2).bind fun x12 =>
        (r05_Match a0 a1.1 a1.2).bind fun x13 =>
        if (x12.2 != x13.2) = true then
          some false
        else
        if x12.2 = true then
          if 512 < (a1.2.length : Int) then
            some true
          else
          (r04_Apply a0 x12.1 a1.1).bind fun x14 =>
          (l05_sameRow x14.1 a1.2).bind fun x15 =>
          if x14.2 = 0 then
            some x15
          else
          some false
        else
        some true
      else
      (match_Match a0 a1.1 a1.2).bind fun x16 =>
      (r05_Match a0 a1.1 a1.2).bind fun x17 =>
      if (x16.2 != x17.2) = true then
        some false
      else
      if x16.2 = true then
        if 512 < (a1.2.length : Int) then
          some true
        else
        (r04_Apply a0 x16.1 a1.1).bind fun x18 =>
        (l05_sameRow x18.1 a1.2).bind fun x19 =>
        if x18.2 = 0 then
          some x19
        else
        some false
      else
      some true
    else
    some x1
  else
  some x1
end Ld

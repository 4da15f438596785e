import Derived.Test.YtigabemldjdlhaaDoorAbs25
set_option maxHeartbeats 400000
set_option linter.unusedVariables false
set_option linter.unusedSimpArgs false
/- Loops. -/
namespace Go.Abs
open Go

/-- A loop that counts, and leaves where something is not so. -/
theorem count_loop {step : St → Option (AExit × St)} {S : Nat → St} {n : Nat} {good : Nat → Prop} {Bad : AExit → St → Prop} {r : AExit × St} (hr : r.1 ≠ .normal)
    (hn : ∀ i, i < n → good i → step (S i) = some (.normal, S (i + 1))) (hd : ∀ i, i < n → ¬ good i → ∃ e s, e ≠ .normal ∧ step (S i) = some (e, s) ∧ Bad e s) (he : step (S n) = some r) :
    ∀ (k i : Nat), i + k = n → ((∀ j, i ≤ j → j < n → good j) ∧ loopLim step (S i) = some r) ∨ (¬ (∀ j, i ≤ j → j < n → good j) ∧ ∃ e s, loopLim step (S i) = some (e, s) ∧ Bad e s) := by
  intro k
  induction k with
  | zero =>
    intro i hi
    have : i = n := by omega
    subst this
    exact .inl ⟨fun j a b => by omega, by obtain ⟨e, s⟩ := r; exact ev_leave he hr⟩
  | succ k ih =>
    intro i hi
    by_cases hg : good i
    · have h1 := hn i (by omega) hg
      rcases ih (i + 1) (by omega) with ⟨a, b⟩ | ⟨a, e, s, b, c⟩
      · refine .inl ⟨fun j h2 h3 => ?_, ev_next h1 b⟩
        rcases Nat.lt_or_ge i j with c | c
        · exact a j c h3
        · have : j = i := by omega
          subst this; exact hg
      · exact .inr ⟨fun h => a (fun j h2 h3 => h j (by omega) h3), e, s, ev_next h1 b, c⟩
    · obtain ⟨e, s, h0, h1, h2⟩ := hd i (by omega) hg
      exact .inr ⟨fun h => hg (h i (Nat.le_refl _) (by omega)), e, s, ev_leave h1 h0, h2⟩

/-- A loop that counts and carries something along: at each number some state. -/
theorem fold_loop {α : Type} {step : St → Option (AExit × St)} {S : Nat → α → St} {n : Nat} {f : Nat → α → Option α} {Bad : Nat → α → AExit → St → Prop}
    (hn : ∀ i a b, i < n → f i a = some b → step (S i a) = some (.normal, S (i + 1) b)) (hd : ∀ i a, i < n → f i a = none → ∃ e s, e ≠ .normal ∧ step (S i a) = some (e, s) ∧ Bad i a e s) :
    ∀ (k i : Nat) (a : α), i + k = n → (∃ b, (loopLim step (S i a) = loopLim step (S n b)) ∧ (List.range' i k).foldlM (fun a i => f i a) a = some b) ∨ ((List.range' i k).foldlM (fun a i => f i a) a = none ∧ ∃ j c e s, i ≤ j ∧ j < n ∧ loopLim step (S i a) = some (e, s) ∧ Bad j c e s) := by
  intro k
  induction k with
  | zero =>
    intro i a hi
    have : i = n := by omega
    subst this
    exact .inl ⟨a, rfl, rfl⟩
  | succ k ih =>
    intro i a hi
    rw [List.range'_succ, List.foldlM_cons]
    cases hf : f i a with
    | none =>
      obtain ⟨e, s, h0, h1, h2⟩ := hd i a (by omega) hf
      exact .inr ⟨rfl, i, a, e, s, Nat.le_refl _, by omega, ev_leave h1 h0, h2⟩
    | some b =>
      have h1 := hn i a b (by omega) hf
      rcases ih (i + 1) b (by omega) with ⟨c, h2, h3⟩ | ⟨h2, j, c, e, s, h3, h4, h5, h6⟩
      · exact .inl ⟨c, by rw [loopLim_eq, h1]; exact h2, h3⟩
      · exact .inr ⟨h2, j, c, e, s, by omega, h4, ev_next h1 h5, h6⟩
end Go.Abs

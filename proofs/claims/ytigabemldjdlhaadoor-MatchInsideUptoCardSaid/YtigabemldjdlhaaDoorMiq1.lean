import Derived.Test.YtigabemldjdlhaaDoorMIP
import Derived.Lib.ValidLaws
import Derived.Lib.MapLaws
set_option maxHeartbeats 400000
set_option linter.unusedVariables false
set_option linter.unusedSimpArgs false
namespace Ld.Law
open Go Go.Abs
/-! ### loops -/
theorem wh_up {σ ρ : Type} {step : σ → Option (σ ⊕ ρ)} (S : Nat → σ) {n : Nat} {r : ρ} (h : ∀ i, i < n → step (S i) = some (.inl (S (i + 1)))) (he : step (S n) = some (.inr r)) : ∀ (k i : Nat), i + k = n → wh step (S i) = some r := by
  intro k
  induction k with
  | zero => intro i hi; have : i = n := by omega
            subst this; exact wh_done he
  | succ k ih => intro i hi; rw [wh_next (h i (by omega))]; exact ih (i + 1) (by omega)
theorem wh_up0 {σ ρ : Type} {step : σ → Option (σ ⊕ ρ)} (S : Nat → σ) (n : Nat) {r : ρ} (h : ∀ i, i < n → step (S i) = some (.inl (S (i + 1)))) (he : step (S n) = some (.inr r)) : wh step (S 0) = some r := wh_up S h he n 0 (by omega)
open Classical in
theorem firstG_all {α ρ : Type} {g : Nat → α → Option ρ} {q : ρ} {P : Nat → Prop} : ∀ (l : List α) (k : Nat), (∀ i x, l[i]? = some x → g (k + i) x = if P (k + i) then none else some q) → firstG g k l = if ∀ i, i < l.length → P (k + i) then none else some q := by
  intro l
  induction l with
  | nil => intro k _; rw [if_pos (fun i h => by simp at h)]; rfl
  | cons a r ih =>
    intro k h
    have h0 := h 0 a rfl
    simp only [Nat.add_zero] at h0
    simp only [firstG, h0]
    by_cases hp : P k
    · rw [if_pos hp]
      simp only
      rw [ih (k + 1) (fun i x hi => by have := h (i + 1) x hi; rw [show k + (i + 1) = k + 1 + i by omega] at this; exact this)]
      by_cases hr : ∀ i, i < r.length → P (k + 1 + i)
      · rw [if_pos hr, if_pos (fun i hi => by
          cases i with
          | zero => exact hp
          | succ i => rw [show k + (i + 1) = k + 1 + i by omega]; exact hr i (by simpa using hi))]
      · rw [if_neg hr, if_neg (fun e => hr (fun i hi => by rw [show k + 1 + i = k + (i + 1) by omega]; exact e (i + 1) (by simpa using hi)))]
    · rw [if_neg hp]
      simp only
      rw [if_neg (fun e => hp (e 0 (by simp)))]
/-! ### rows -/
theorem idx_out {α : Type} {l : List α} {i : Nat} (h : l.length ≤ i) : idx l (i : Int) = none := by
  unfold idx; rw [if_pos (by omega)]; simpa using h
theorem firstG_eq {xs : List Int} : ∀ {ys : List Int} {zs : List Int} {k : Nat}, zs.drop k = ys → xs.length = ys.length → firstG (fun i a => if zs[i]? = some a then none else some (Sum.inl false : Bool ⊕ Int)) k xs = if xs = ys then none else some (Sum.inl false) := by
  induction xs with
  | nil => intro ys zs k _ hl; cases ys with | nil => rfl | cons _ _ => simp at hl
  | cons a r ih =>
    intro ys zs k hd hl
    cases ys with
    | nil => simp at hl
    | cons b s =>
      have hz : zs[k]? = some b := by
        have := congrArg (·[0]?) hd
        simpa using this
      simp only [firstG, hz, Option.some.injEq]
      by_cases hab : b = a
      · subst hab
        simp only [if_true, List.cons.injEq, true_and]
        exact ih (ys := s) (zs := zs) (k := k + 1) (by rw [← List.tail_drop, hd]; rfl) (by simpa using hl)
      · rw [if_neg hab]
        simp only
        rw [if_neg (fun e => hab (List.cons.inj e).1.symm)]
theorem eqLoop {step : Int → Option (Int ⊕ (Bool ⊕ Int))} {xs ys : List Int} (hlen : xs.length = ys.length) (hL : xs.length < 4611686018427387904)
    (hs : ∀ i, step i = if i < (xs.length : Int) then (idx xs i).bind fun a => (idx ys i).bind fun b => if a = b then some (.inl (w64 (i + 1))) else some (.inr (.inl false)) else some (.inr (.inr i))) :
    wh step 0 = some (if xs = ys then .inr (xs.length : Int) else .inl false) := by
  have h1 := wh_for0 (step := step) (l := xs) (g := fun i a => if ys[i]? = some a then none else some (Sum.inl false : Bool ⊕ Int)) (fin := .inr (xs.length : Int)) (fun i x hx => ?_) ?_
  · rw [h1, firstG_eq (ys := ys) (zs := ys) (k := 0) rfl hlen]
    by_cases h : xs = ys
    · simp [h]
    · simp [h]
  · have hlt := (List.getElem?_eq_some_iff.1 hx).1
    have hy : ys[i]? = some ys[i] := List.getElem?_eq_getElem (by omega)
    rw [hs, if_pos (by omega), idx_nat hx, idx_nat hy]
    simp only [Option.bind_some, hy, Option.some.injEq]
    by_cases h : x = ys[i]
    · subst h; simp [w64_small (n := (i : Int) + 1) (by omega) (by omega)]
    · rw [if_neg h, if_neg (Ne.symm h)]
  · rw [hs, if_neg (by omega)]
theorem sameRow_eq {xs ys : List Int} (hL : xs.length < 4611686018427387904) : l05_sameRow xs ys = some (decide (xs = ys)) := by
  simp only [l05_sameRow]
  by_cases hlen : xs.length = ys.length
  · rw [if_pos (by omega), eqLoop (step := l05_sameRow_l0 xs ys) hlen hL (fun i => rfl)]
    by_cases h : xs = ys <;> simp [h]
  · rw [if_neg (by omega), decide_eq_false (fun e => hlen (by rw [e]))]
theorem Equal_eq {xs ys : List Int} (hL : xs.length < 4611686018427387904) : slices_Equal_s_int_int xs ys = some (decide (xs = ys)) := by
  simp only [slices_Equal_s_int_int]
  by_cases hlen : xs.length = ys.length
  · rw [if_pos (by omega), eqLoop (step := slices_Equal_s_int_int_l0 xs ys (xs.length : Int)) hlen hL (fun i => rfl)]
    by_cases h : xs = ys <;> simp [h]
  · rw [if_neg (by omega), decide_eq_false (fun e => hlen (by rw [e]))]
/-! ### terms -/
/-- a signature's arities -/
def Ars (sig : List Symbol) : Prop := ∀ s ∈ sig, 0 ≤ s.Arity ∧ s.Arity ≤ 8
theorem ar_le {sig : List Symbol} (h : Ars sig) (c : Int) : arOf sig c ≤ 8 := by
  unfold arOf
  split
  · cases hq : sig[c.toNat]? with
    | none => simp
    | some s =>
      have := h s (List.mem_of_getElem? hq)
      simp
      omega
  · omega
/-- where nothing is open any more a row must be at its end -/
def stop (r : List Int) : Int := if r = [] then 0 else 32
/-- what a reading comes to -/
def outc (p : List Int × Int) : Int := if p.2 = 0 then stop p.1 else p.2
theorem Term_loop {sig : List Symbol} {t : List Int} (hA : Ars sig) (hL : t.length < 17179869184) : ∀ (n i k : Nat), i + n = t.length → k ≤ 8 * i + 1 → (k = 0 → t.drop i = []) →
    ∃ x, wh (r03_Term_l0 sig t) ((k : Int), (i : Int)) = some x ∧ (match x with | .inl e => e = outc (rdT sig (t.drop i) k) ∧ e ≠ 0 | .inr _ => outc (rdT sig (t.drop i) k) = 0) := by
  intro n
  induction n with
  | zero =>
    intro i k hi hk h0
    have : i = t.length := by omega
    subst this
    rw [List.drop_eq_nil_of_le (Nat.le_refl _)]
    cases k with
    | zero => exact ⟨.inr _, wh_done (by simp only [r03_Term_l0]; rw [if_neg (by omega)]), by simp [rdT, stop, outc]⟩
    | succ k => exact ⟨.inl 31, wh_done (by simp only [r03_Term_l0]; rw [if_pos (by omega)]; simp), by simp [rdT, outc]⟩
  | succ n ih =>
    intro i k hi hk h0
    have hlt : i < t.length := by omega
    have hx : t[i]? = some t[i] := List.getElem?_eq_getElem hlt
    cases k with
    | zero =>
      have := h0 rfl
      rw [List.drop_eq_getElem_cons hlt] at this
      cases this
    | succ k =>
      have hw1 : w64 (((k + 1 : Nat) : Int) - 1) = (k : Int) := by rw [w64_small (by omega) (by omega)]; omega
      have hw2 : w64 ((i : Int) + 1) = ((i + 1 : Nat) : Int) := by rw [w64_small (by omega) (by omega)]; omega
      rw [List.drop_eq_getElem_cons hlt]
      by_cases hc : (sig.length : Int) ≤ t[i] ∨ t[i] < -1048576
      · refine ⟨.inl 30, wh_done ?_, by simp [rdT, hc, outc]⟩
        simp only [r03_Term_l0]
        rw [if_pos (by omega), if_neg (by omega), idx_nat hx]
        simp only [Option.bind_some]
        by_cases h1 : (sig.length : Int) ≤ t[i]
        · rw [if_pos h1]
        · rw [if_neg h1, if_pos (hc.resolve_left h1)]
      have h1 : ¬ (sig.length : Int) ≤ t[i] := fun e => hc (.inl e)
      have h2 : ¬ t[i] < -1048576 := fun e => hc (.inr e)
      have hr : rdT sig (t[i] :: t.drop (i + 1)) (k + 1) = rdT sig (t.drop (i + 1)) (k + arOf sig t[i]) := by simp [rdT, hc]
      rw [hr]
      have har := ar_le hA t[i]
      -- one round
      have round : r03_Term_l0 sig t (((k + 1 : Nat) : Int), (i : Int)) = if ((k + arOf sig t[i] : Nat) : Int) = 0 ∧ i + 1 < t.length then some (.inr (.inl 32)) else some (.inl (((k + arOf sig t[i] : Nat) : Int), ((i + 1 : Nat) : Int))) := by
        simp only [r03_Term_l0]
        rw [if_pos (by omega), if_neg (by omega), idx_nat hx]
        simp only [Option.bind_some]
        rw [if_neg h1, if_neg h2]
        by_cases hn : 0 ≤ t[i]
        · obtain ⟨c, hcn⟩ : ∃ c : Nat, t[i] = (c : Int) := ⟨t[i].toNat, by omega⟩
          have hcs : c < sig.length := by rw [hcn] at h1; omega
          have hs : sig[c]? = some sig[c] := List.getElem?_eq_getElem hcs
          have hra := hA _ (List.getElem_mem hcs)
          have hao : arOf sig t[i] = sig[c].Arity.toNat := by unfold arOf; rw [if_pos hn, hcn]; simp [hs]
          rw [if_pos hn]
          rw [hao]
          rw [hcn, idx_nat hs]
          simp only [Option.bind_some, hw1, hw2]
          have hw3 : w64 ((k : Int) + sig[c].Arity) = ((k + sig[c].Arity.toNat : Nat) : Int) := by rw [w64_small (by omega) (by omega)]; omega
          simp only [hw3]
          by_cases hz : ((k + sig[c].Arity.toNat : Nat) : Int) = 0
          · by_cases hm : i + 1 < t.length
            · rw [if_pos hz, if_pos (by omega), if_pos ⟨hz, hm⟩]
            · rw [if_pos hz, if_neg (by omega), if_neg (fun e => hm e.2)]
          · rw [if_neg hz, if_neg (fun e => hz e.1)]
        · have hao : arOf sig t[i] = 0 := by unfold arOf; rw [if_neg hn]
          rw [if_neg hn, hao]
          simp only [hw1, hw2, Nat.add_zero]
          by_cases hz : (k : Int) = 0
          · by_cases hm : i + 1 < t.length
            · rw [if_pos hz, if_pos (by omega), if_pos ⟨hz, hm⟩]
            · rw [if_pos hz, if_neg (by omega), if_neg (fun e => hm e.2)]
          · rw [if_neg hz, if_neg (fun e => hz e.1)]
      by_cases hst : ((k + arOf sig t[i] : Nat) : Int) = 0 ∧ i + 1 < t.length
      · rw [if_pos hst] at round
        refine ⟨_, wh_done round, ?_⟩
        have hz : k + arOf sig t[i] = 0 := by omega
        have hne : t.drop (i + 1) ≠ [] := by rw [ne_eq, List.drop_eq_nil_iff]; omega
        rw [hz]
        have : rdT sig (t.drop (i + 1)) 0 = (t.drop (i + 1), 0) := by cases t.drop (i + 1) <;> rfl
        rw [this]
        simp [stop, hne, outc]
      · rw [if_neg hst] at round
        rw [wh_next round]
        exact ih (i + 1) (k + arOf sig t[i]) (by omega) (by omega) (fun hz => by
          rw [List.drop_eq_nil_iff]
          rcases Nat.lt_or_ge (i + 1) t.length with h | h
          · exact absurd ⟨by omega, h⟩ hst
          · exact h)
theorem Term_eq {sig : List Symbol} {t : List Int} (hA : Ars sig) (hL : t.length < 17179869184) : r03_Term sig t = some (termRight sig t) := by
  obtain ⟨x, hx, h⟩ := Term_loop hA hL t.length 0 1 (by omega) (by omega) (by omega)
  simp only [r03_Term]
  simp only [Int.natCast_zero, Int.natCast_one] at hx
  rw [hx]
  rw [List.drop_zero] at h
  have e : termRight sig t = outc (rdT sig t 1) := rfl
  cases x with
  | inl e' => simp only [Option.bind_some]; rw [e, ← h.1]
  | inr y => obtain ⟨a, b⟩ := y; simp only [Option.bind_some]; rw [e, h]
end Ld.Law

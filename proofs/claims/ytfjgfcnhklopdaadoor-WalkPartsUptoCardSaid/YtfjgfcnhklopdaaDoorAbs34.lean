import Derived.Test.YtfjgfcnhklopdaaDoorAbs33
import Derived.Test.YtfjgfcnhklopdaaDoorAbs27
set_option maxHeartbeats 400000
set_option linter.unusedVariables false
set_option linter.unusedSimpArgs false
namespace Go.Abs
open Go
def okI (k : IntKind) (n : Int) : Prop := (Lit.int k n).wf = true
def okL {α : Type} (ok : α → Prop) (l : List α) : Prop := ∀ a ∈ l, ok a
theorem okI64 {n : Int} (h : okI .i64 n) : -9223372036854775808 ≤ n ∧ n ≤ 9223372036854775807 := by
  simp only [okI, Lit.wf, Bool.and_eq_true, decide_eq_true_eq] at h
  have e1 : IntKind.i64.min = -9223372036854775808 := by decide
  have e2 : IntKind.i64.max = 9223372036854775807 := by decide
  rw [e1, e2] at h
  exact h
theorem rsV {h : AHeap} {n : Nat} {p : PV} {x : Value} (hp : rs h (n + 1) p = some (.v x)) : p = .d (.v x) := by
  cases p with
  | d y => simp only [rs, Option.some.injEq] at hp; rw [hp]
  | ref id ver off len =>
    simp only [rs] at hp
    split at hp
    · simp only [Option.map_eq_some_iff] at hp; obtain ⟨a, _, h1⟩ := hp; cases h1
    · cases hp
  | ptr id ver idx off =>
    simp only [rs] at hp
    split at hp
    · simp only [Option.map_eq_some_iff, Option.bind_eq_some_iff] at hp; obtain ⟨a, _, b, _, h1⟩ := hp; cases h1
    · cases hp
  | im t es => simp only [rs, Option.map_eq_some_iff] at hp; obtain ⟨a, _, h1⟩ := hp; cases h1
  | bx cs => simp only [rs, Option.map_eq_some_iff] at hp; obtain ⟨a, _, h1⟩ := hp; cases h1
  | ag cs => simp only [rs, Option.map_eq_some_iff] at hp; obtain ⟨a, _, h1⟩ := hp; cases h1
  | ifc t y => simp only [rs, Option.map_eq_some_iff] at hp; obtain ⟨a, _, h1⟩ := hp; cases h1
  | fn f cs => simp only [rs, Option.map_eq_some_iff] at hp; obtain ⟨a, _, h1⟩ := hp; cases h1
  | _ => simp [rs] at hp
theorem rsTV {h : AHeap} {p : PV} {x : Value} (hp : rsT h p = some (.d (.v x))) : p = .d (.v x) := by
  have key : (rs h depth p).map PV.d = some (.d (.v x)) → p = .d (.v x) := by
    intro hp
    obtain ⟨a, h1, h2⟩ := Option.map_eq_some_iff.1 hp
    cases h2
    exact rsV (n := 39) h1
  cases p with
  | tp vs => exfalso; unfold rsT at hp; obtain ⟨a, _, h2⟩ := Option.map_eq_some_iff.1 hp; cases h2
  | _ => exact key hp
theorem qrK9 {α : Type} {f : α → List D} {l : List α} {a : α} (h : a ∈ l) : szL (f a) ≤ szLL (l.map f) := qxK9 (List.mem_map.2 ⟨a, h, rfl⟩)
theorem qwR9 {σ ρ G : Type} {step : σ → Option (σ ⊕ ρ)} {sem : St → Option (AExit × St)} {S : σ → G → St} {I : σ → Prop} {X : ρ → AExit × St → Prop}
    (h : ∀ s g r, I s → step s = some r → Sum.elim (fun s' => (∃ g', sem (S s g) = some (.normal, S s' g')) ∧ I s') (fun x => ∃ q, sem (S s g) = some q ∧ q.1 ≠ .normal ∧ X x q) r) {s : σ} {g : G} {x : ρ} (hI : I s) (hw : wh step s = some x) :
    ∃ q, qbv9 sem (S s g) = some q ∧ X x q := by
  obtain ⟨n, hn⟩ := qgQ9 hw
  clear hw
  induction n generalizing s g with
  | zero => cases hn
  | succ n ih =>
    simp only [itW] at hn
    cases hs : step s with
    | none => simp [hs] at hn
    | some r =>
      have hh := h s g r hI hs
      cases r with
      | inl s' =>
        obtain ⟨⟨g', hg⟩, hI'⟩ := hh
        rw [hs] at hn
        obtain ⟨q, h1, h2⟩ := ih (g := g') hI' hn
        exact ⟨q, qmo9 hg h1, h2⟩
      | inr x' =>
        obtain ⟨q, h2, h1, h3⟩ := hh
        rw [hs] at hn
        simp only [Option.some.injEq] at hn
        subst hn
        obtain ⟨e, st⟩ := q
        exact ⟨_, qlb9 h2 h1, h3⟩
theorem iteP {α : Type} {p : Prop} [Decidable p] {a b : Option α} {r : α} (h : (if p then a else b) = some r) : (p = True ∧ a = some r) ∨ (p = False ∧ b = some r) := by
  by_cases hp : p
  · rw [if_pos hp] at h; exact .inl ⟨eq_true hp, h⟩
  · rw [if_neg hp] at h; exact .inr ⟨eq_false hp, h⟩
theorem iteB {α : Type} {p : Bool} {a b : Option α} {r : α} (h : (if p = true then a else b) = some r) : (p = true ∧ a = some r) ∨ (p = false ∧ b = some r) := by
  cases p with
  | true => exact .inl ⟨rfl, h⟩
  | false => exact .inr ⟨rfl, h⟩
def fixN {α β : Type} (F : (α → Option β) → α → Option β) : Nat → α → Option β
  | 0 => fun _ => none
  | n + 1 => F (fixN F n)
open Classical in
noncomputable def fixO {α β : Type} (F : (α → Option β) → α → Option β) (a : α) : Option β :=
  if h : ∃ n r, fixN F n a = some r then some (Classical.choose (Classical.choose_spec h)) else none
theorem qjM9 {α β : Type} {F : (α → Option β) → α → Option β} {a : α} {r : β} (h : fixO F a = some r) : ∃ n, fixN F n a = some r := by
  unfold fixO at h
  split at h
  · rename_i hex
    have h1 := Classical.choose_spec (Classical.choose_spec hex)
    simp only [Option.some.injEq] at h
    rw [h] at h1
    exact ⟨_, h1⟩
  · cases h
theorem qrG9 {α β : Type} {F : (α → Option β) → α → Option β} {a : α} {r : β} (hex : ∃ n r, fixN F n a = some r) (hu : ∀ n r', fixN F n a = some r' → r' = r) : fixO F a = some r := by
  unfold fixO
  rw [dif_pos hex]
  exact congrArg some (hu _ _ (Classical.choose_spec (Classical.choose_spec hex)))
section
variable {α : Type} {a : α} {l : List α} {b : α} {o : AObj} {h : AHeap} {x y z k : Nat}
theorem cget1 : (a :: l)[x + (k + 1)]? = l[x + k]? := by rw [← Nat.add_assoc]; exact List.getElem?_cons_succ
theorem cget2 : (a :: l)[x + (y + (k + 1))]? = l[x + (y + k)]? := by rw [show x + (y + (k + 1)) = (x + (y + k)) + 1 by omega]; exact List.getElem?_cons_succ
theorem cget3 : (a :: l)[x + (y + (z + (k + 1)))]? = l[x + (y + (z + k))]? := by rw [show x + (y + (z + (k + 1))) = (x + (y + (z + k))) + 1 by omega]; exact List.getElem?_cons_succ
theorem cset1 : (a :: l).set (x + (k + 1)) b = a :: l.set (x + k) b := by rw [← Nat.add_assoc]; rfl
theorem cset2 : (a :: l).set (x + (y + (k + 1))) b = a :: l.set (x + (y + k)) b := by rw [show x + (y + (k + 1)) = (x + (y + k)) + 1 by omega]; rfl
theorem cset3 : (a :: l).set (x + (y + (z + (k + 1)))) b = a :: l.set (x + (y + (z + k))) b := by rw [show x + (y + (z + (k + 1))) = (x + (y + (z + k))) + 1 by omega]; rfl
theorem cmod1 : (o :: h).modify (x + (k + 1)) AObj.freeze = o :: h.modify (x + k) AObj.freeze := by rw [← Nat.add_assoc]; exact qen9
theorem cmod2 : (o :: h).modify (x + (y + (k + 1))) AObj.freeze = o :: h.modify (x + (y + k)) AObj.freeze := by rw [show x + (y + (k + 1)) = (x + (y + k)) + 1 by omega]; exact qen9
theorem cmod3 : (o :: h).modify (x + (y + (z + (k + 1)))) AObj.freeze = o :: h.modify (x + (y + (z + k))) AObj.freeze := by rw [show x + (y + (z + (k + 1))) = (x + (y + (z + k))) + 1 by omega]; exact qen9
end
theorem qh9 {C : Cfg} {g : FuncId} (hp : C.prim g = none) (hu : C.use g = true) (hm : C.mode g = 1) {args : List PV} {h : AHeap} {r : PV × AHeap} (hL : Lim C g args h = some r) : callP C (Lim C) g args h = some r := by
  simp only [callP, hp, hu, if_true, hm]
  exact hL
end Go.Abs

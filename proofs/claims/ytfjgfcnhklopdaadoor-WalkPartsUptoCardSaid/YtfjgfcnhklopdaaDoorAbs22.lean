import Derived.Test.YtfjgfcnhklopdaaDoorAbs21
set_option maxHeartbeats 400000
set_option linter.unusedVariables false
set_option linter.unusedSimpArgs false
namespace Go.Abs
open Go Go.RowKit

theorem qkI9 (keep : Nat) : ∀ (args : List PV) (k i : Nat), (qM9 keep k args).get i = if keep.testBit i = true ∧ k ≤ i then (args[i - k]?).getD .junk else .junk := by
  intro args
  induction args with
  | nil => intro k i; simp [qM9, Env.get]
  | cons x r ih =>
    intro k i
    simp only [qM9]
    rcases Nat.lt_trichotomy i k with c | c | c
    · have e : ¬ (keep.testBit i = true ∧ k ≤ i) := by omega
      have e' : ¬ (keep.testBit i = true ∧ k + 1 ≤ i) := by omega
      rw [if_neg e]
      split
      · rw [Env.get, if_neg (by omega), ih, if_neg e']
      · rw [ih, if_neg e']
    · subst c
      by_cases hk : keep.testBit i = true
      · rw [if_pos hk, Env.get, if_pos rfl, if_pos ⟨hk, Nat.le_refl _⟩]; simp
      · rw [if_neg hk, ih, if_neg (by omega), if_neg (by intro h; exact hk h.1)]
    · have e : (x :: r)[i - k]? = r[i - (k + 1)]? := by
        have : i - k = (i - (k + 1)) + 1 := by omega
        rw [this]; simp
      split
      · rw [Env.get, if_neg (by omega), ih, e]
        by_cases hk : keep.testBit i = true
        · rw [if_pos ⟨hk, by omega⟩, if_pos ⟨hk, by omega⟩]
        · rw [if_neg (fun h => hk h.1), if_neg (fun h => hk h.1)]
      · rw [ih, e]
        by_cases hk : keep.testBit i = true
        · rw [if_pos ⟨hk, by omega⟩, if_pos ⟨hk, by omega⟩]
        · rw [if_neg (fun h => hk h.1), if_neg (fun h => hk h.1)]

structure COk (W0 : World) (C : Cfg) : Prop extends CSound W0 C where
  orders : C.P.follows .mixedOrders = true
  hints : ∀ f fn code, C.use f = true → C.P.funcs[f]? = some fn → fn.body = some code → okT (C.hint f) code = true

section
variable {W0 : World} {X : Nat → Prop} {h : AHeap} {m : Places} {w : World}

theorem qto9 {P : Program} {s : St} (H : HRel W0 X s.h m w) {a : Act} (hg : TRel (Ex X s.h m) s.h m w s.env.get a) {rv : ResultVar} {x : PV} (hr : resP P s rv = some x) :
    ∃ v, ((match rv with | .tmp t => pure (a.tmps.getD t undef) | .cell c t => do loadVar t (← asAddr (a.tmps.getD c undef)) : Sem Value)).run P w = .ok v w ∧ VRel (Ex X s.h m) s.h m w x v := by
  cases rv with
  | tmp t =>
    simp only [resP, Option.some.injEq] at hr
    subst hr
    exact ⟨_, rfl, hg t⟩
  | cell c t =>
    simp only [resP] at hr
    have hv := hg c
    have hld := qlS9 H hv hr
    obtain ⟨v, h1, h2⟩ := hld
    unfold loadP at hr
    cases hc : qbH9 s.h (s.env.get c) with
    | none => simp [hc] at hr
    | some cs =>
      obtain ⟨ad, hva, _⟩ := qkQ9 H hv hc
      refine ⟨v, ?_, h2⟩
      have hva' : a.tmps.getD c undef = .pointer (some ad) := hva
      rw [hva] at h1
      simp only [Instr.loadAt, Instr.sureAddr, Sem.run_bind, Sem.run_pure, Result.andThen_ok] at h1
      simp only [hva', asAddr, Sem.run_bind, Sem.run_pure, Result.andThen_ok]
      exact h1

theorem qwz9 {P : Program} {w : World} {g : ResultVar → Sem Value} {f : ResultVar → Option PV} {E : Nat → Prop} {h : AHeap} {m : Places} (hg : ∀ rv x, f rv = some x → ∃ v, (g rv).run P w = .ok v w ∧ VRel E h m w x v) : ∀ (l : List ResultVar) (xs : List PV), mapO f l = some xs → ∃ vs, (l.mapM g).run P w = .ok vs w ∧ VRels E h m w xs vs := by
  intro l
  induction l with
  | nil =>
    intro xs hx
    simp only [mapO, Option.some.injEq] at hx
    subst hx
    exact ⟨[], by simp, VRels.nil⟩
  | cons a r ih =>
    intro xs hx
    simp only [mapO] at hx
    cases ha : f a with
    | none => simp [ha] at hx
    | some x =>
      simp only [ha] at hx
      cases hr : mapO f r with
      | none => simp [hr] at hx
      | some ys =>
        simp only [hr, Option.some.injEq] at hx
        subst hx
        obtain ⟨v, h1, h2⟩ := hg a x ha
        obtain ⟨vs, k1, k2⟩ := ih ys hr
        exact ⟨v :: vs, by simp [List.mapM_cons, h1, k1], VRels.cons h2 k2⟩

theorem qjH9 {P : Program} {s : St} (H : HRel W0 X s.h m w) {a : Act} (hg : TRel (Ex X s.h m) s.h m w s.env.get a) {fn : Func} {xs : List PV} (hr : mapO (resP P s) fn.results.toList = some xs) :
    ∃ v, (results fn a.tmps).run P w = .ok v w ∧ VRel (Ex X s.h m) s.h m w (resOf xs) v := by
  obtain ⟨vs, h1, h2⟩ := qwz9 (fun rv x hx => qto9 H hg hx) fn.results.toList xs hr
  unfold results
  rw [Array.mapM_eq_mapM_toList]
  have e : ∀ (k : Array Value → Sem Value) (l : Sem (List Value)), ((List.toArray <$> l) >>= k : Sem Value) = l >>= fun a => k a.toArray := by
    intro k l
    rw [bind_map_left]
  rw [e, Sem.run_bind]
  refine ⟨if h : vs.toArray.size = 1 then vs.toArray[0] else .tuple vs.toArray, ?_, ?_⟩
  · refine Eq.trans (congrArg (fun r => Result.andThen r _) h1) ?_
    rfl
  · have hl := h2.1
    cases xs with
    | nil =>
      obtain rfl : vs = [] := List.eq_nil_of_length_eq_zero (by simpa using hl)
      exact .tp [] [] rfl (fun j u x a => by simp at a)
    | cons x r =>
      cases r with
      | nil =>
        obtain ⟨v, rfl⟩ : ∃ v, vs = [v] := by
          cases vs with
          | nil => simp at hl
          | cons v r => cases r with
            | nil => exact ⟨v, rfl⟩
            | cons _ _ => simp at hl
        exact h2.2 0 x v rfl rfl
      | cons y r =>
        have : ¬ vs.toArray.size = 1 := by simp at hl ⊢; omega
        rw [dif_neg this]
        exact .tp _ vs h2.1 h2.2

theorem qsE9 {C : Cfg} {L : Oracle} (hC : COk W0 C) (hL : OSound W0 C L) : OSound W0 C (runF C L) := by
  intro f hu args h r h' ho X m w vs H hv
  unfold runF at ho
  cases hf : C.P.funcs[f]? with
  | none => simp [hf] at ho
  | some fn =>
    simp only [hf] at ho
    cases hb : fn.body with
    | none => simp [hb] at ho
    | some code =>
      simp only [hb] at ho
      refine calls_of_wp hf hb ?_
      have hl : vs.toArray.size = args.length := by simpa using hv.1
      have hsr : SRel W0 X (C.hint f) 0 (args.length + (fn.ntmps - args.length)) ⟨qM9 (C.hint f).keep 0 args, h⟩ m w { tmps := vs.toArray ++ Array.replicate (fn.ntmps - vs.toArray.size) undef, defers := [] } := by
        refine ⟨by simp [hv.1], rfl, H, fun i => ?_, fun i _ hk => ?_⟩
        · show VRel _ _ _ _ ((qM9 (C.hint f).keep 0 args).get i) _
          rw [qkI9]
          split
          · rename_i hc
            simp only [Nat.sub_zero]
            cases hi : args[i]? with
            | none => exact .junk _
            | some x =>
              have hlt : i < vs.length := by rw [hv.1]; exact (List.getElem?_eq_some_iff.1 hi).1
              have := hv.2 i x _ hi (List.getElem?_eq_getElem hlt)
              have e : (vs.toArray ++ Array.replicate (fn.ntmps - vs.toArray.size) undef).getD i undef = vs[i] := by
                rw [Array.getD_eq_getD_getElem?, Array.getElem?_append_left (by simpa using hlt)]
                simp [hlt]
              simp only [Act.eval, Option.getD_some]
              rw [e]
              exact this
          · exact .junk _
        · show (qM9 (C.hint f).keep 0 args).get i = _
          rw [qkI9, if_neg]
          intro hc
          rw [hk] at hc
          cases hc.1
      cases hs : semT C L (C.hint f) (args.length + (fn.ntmps - args.length)) code ⟨qM9 (C.hint f).keep 0 args, h⟩ with
      | none => simp [hs] at ho
      | some p =>
        obtain ⟨e, s⟩ := p
        refine qrV9 hC.toCSound hL hC.orders (C.hint f) _ code _ e s hs (hC.hints f fn code hu hf hb) _ m w _ hsr (fun a' m' w' k1 k2 => ?_)
        have key : (mapO (resP C.P s) fn.results.toList).map (fun vs => (resOf vs, s.h)) = some (r, h') → bodyPost C.P fn (Ret fun v w' => Out W0 X h m w r h' v w') .normal a' w' := by
          intro hk
          simp only [Option.map_eq_some_iff, Prod.mk.injEq] at hk
          obtain ⟨xs, q1, rfl, rfl⟩ := hk
          obtain ⟨v, r1, r2⟩ := qjH9 k1.heap k1.env q1
          exact ⟨k1.dfs, v, r1, m', r2, k1.heap, k2⟩
        cases e with
        | normal => simp only [hs] at ho; exact key ho
        | exit id => simp [hs] at ho
        | ret => simp only [hs] at ho; exact key ho
        | goto id => simp [hs] at ho

theorem qqs9 {C : Cfg} (hC : COk W0 C) (d : Nat) : OSound W0 C (pcall C d) := by
  induction d with
  | zero => intro f _ args h r h' ho; simp [pcall] at ho
  | succ d ih => exact qsE9 hC ih

theorem qog9 {C : Cfg} {f : FuncId} {args : List PV} {h : AHeap} {p : PV × AHeap} (hl : Lim C f args h = some p) : ∃ d, pcall C d f args h = some p := by
  unfold Lim at hl
  split at hl
  · rename_i k
    simp only [Option.some.injEq] at hl
    have := Classical.choose_spec (Classical.choose_spec k)
    rw [hl] at this
    exact ⟨_, this⟩
  · cases hl
theorem qtP9 {C : Cfg} (hC : COk W0 C) : OSound W0 C (Lim C) := by
  intro f hu args h r h' ho
  obtain ⟨d, hd⟩ := qog9 ho
  exact qqs9 hC d f hu args h r h' hd
end
end Go.Abs

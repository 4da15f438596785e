import Derived.Test.YtfjgfcnhklopdaaDoorAbs3
import Derived.Laws.Cells
import Derived.Laws.CopyRow
import Derived.Laws.AppendOwn
import Derived.Laws.Append
import Derived.Laws.OwnMore
set_option maxHeartbeats 400000
set_option linter.unusedVariables false
set_option linter.unusedSimpArgs false
namespace Go.Abs
open Go Go.RowKit

theorem qga9 {α : Type} {P : Program} {s : Sem α} {a : α} (h : pev P s = some a) (w : World) : s.run P w = .ok a w := by
  induction s generalizing a with
  | pure x => simp only [pev, Option.some.injEq] at h; subst h; rfl
  | program k ih => simp only [pev] at h; simp only [Sem.run]; exact ih P h
  | _ => simp [pev] at h

def Out (W0 : World) (X : Nat → Prop) (h : AHeap) (m : Places) (w : World) (r : PV) (h' : AHeap) (v : Value) (w' : World) : Prop :=
  ∃ m', VRel (Ex X h' m') h' m' w' r v ∧ HRel W0 X h' m' w' ∧ Evo (Ex X h m) h m w (Ex X h' m') h' m' w'

theorem qcS9 {α β : Type} {f : α → Option β} : ∀ {xs : List α} {ys : List β}, mapO f xs = some ys → ys.length = xs.length ∧ ∀ (i : Nat) (x : α), xs[i]? = some x → ∃ y, ys[i]? = some y ∧ f x = some y := by
  intro xs
  induction xs with
  | nil =>
    intro ys h
    simp only [mapO, Option.some.injEq] at h
    subst h
    exact ⟨rfl, fun i x hx => by simp at hx⟩
  | cons a r ih =>
    intro ys h
    simp only [mapO] at h
    cases hf : f a with
    | none => simp [hf] at h
    | some y =>
      simp only [hf] at h
      cases hr : mapO f r with
      | none => simp [hr] at h
      | some zs =>
        simp only [hr, Option.some.injEq] at h
        subst h
        obtain ⟨h1, h2⟩ := ih hr
        refine ⟨by simp [h1], fun i x hx => ?_⟩
        cases i with
        | zero => simp at hx; subst hx; exact ⟨y, rfl, hf⟩
        | succ i => simp at hx; simpa using h2 i x hx

section
variable {W0 : World} {E : Nat → Prop} {X : Nat → Prop} {h h' : AHeap} {m : Places} {w : World} {P : Program}

theorem VRel.cell_v {x : PV} {v u : Value} (hv : VRel E h m w x v) (hc : cellV x = some u) : v = u := by
  cases hv with
  | d x v hd =>
    cases hd with
    | v x => simpa [cellV] using hc
    | _ => simp [cellV] at hc
  | _ => simp [cellV] at hc

theorem qny9 {cs : List PV} {vs l : List Value} (hl : vs.length = cs.length) (hr : ∀ (j : Nat) (u : PV) (x : Value), cs[j]? = some u → vs[j]? = some x → VRel E h m w u x) (hm : mapO cellV cs = some l) : vs = l := by
  obtain ⟨h1, h2⟩ := qcS9 hm
  apply List.ext_getElem?
  intro i
  rcases Nat.lt_or_ge i cs.length with hlt | hge
  · have a1 : cs[i]? = some cs[i] := List.getElem?_eq_getElem hlt
    have a2 : vs[i]? = some (vs[i]'(by omega)) := List.getElem?_eq_getElem (by omega)
    obtain ⟨y, b1, b2⟩ := h2 i _ a1
    rw [a2, b1]
    exact congrArg some ((hr i _ _ a1 a2).cell_v b2)
  · rw [List.getElem?_eq_none (by omega), List.getElem?_eq_none (by omega)]

theorem VRel.of_d_cells {cs : List D} {vs : List Value} (hr : ∀ (j : Nat) (u : D) (x : Value), cs[j]? = some u → vs[j]? = some x → DRel E w u x) (j : Nat) (u : PV) (x : Value) (h1 : (cs.map PV.d)[j]? = some u) (h2 : vs[j]? = some x) : VRel E h m w u x := by
  rw [List.getElem?_map] at h1
  cases hc : cs[j]? with
  | none => simp [hc] at h1
  | some c =>
    simp only [hc, Option.map_some, Option.some.injEq] at h1
    subst h1
    exact .d _ _ (hr j c x hc h2)

theorem VRel.to_v {x : PV} {v u : Value} (hv : VRel E h m w x v) (hc : toV x = some u) : v = u := by
  cases hv with
  | d x v hd =>
    cases hd with
    | v x => simpa [toV] using hc
    | ag cs vs hl h1 hr =>
      simp only [toV] at hc
      cases hm : mapO cellV (cs.map PV.d) with
      | none => simp [hm] at hc
      | some l =>
        simp only [hm, Option.map_some, Option.some.injEq] at hc
        subst hc
        rw [qny9 (E := E) (h := h) (m := m) (w := w) (by simpa using hl) (VRel.of_d_cells hr) hm]
    | _ => simp [toV] at hc
  | ag cs vs hl h1 hr =>
    simp only [toV] at hc
    cases hm : mapO cellV cs with
    | none => simp [hm] at hc
    | some l =>
      simp only [hm, Option.map_some, Option.some.injEq] at hc
      subst hc
      rw [qny9 hl hr hm]
  | _ => simp [toV] at hc

theorem VRel.as_int {x : PV} {v : Value} {n : Int} (hv : VRel E h m w x v) (hc : qbQ9 x = some n) : ∃ k, v = .int k n := by
  unfold qbQ9 at hc
  split at hc
  · simp only [Option.some.injEq] at hc
    subst hc
    cases hv with | d _ _ hd => cases hd with | v _ => exact ⟨_, rfl⟩
  · cases hc

theorem VRel.as_bool {v : Value} {b : Bool} (hv : VRel E h m w (.d (.v (.bool b))) v) : v = .bool b := hv.to_v rfl

theorem VRel.cells {x : PV} {v : Value} (hv : VRel E h m w x v) (hok : qdA9 x = true) : v.cells.size = (qY9 x).length ∧ ∀ (j : Nat) (u : PV) (y : Value), (qY9 x)[j]? = some u → v.cells[j]? = some y → y.oneCell' = true ∧ VRel E h m w u y := by
  have one : ∀ {x : PV} {v : Value}, VRel E h m w x v → v.cells = #[v] → qY9 x = [x] → v.oneCell' = true → v.cells.size = (qY9 x).length ∧ ∀ (j : Nat) (u : PV) (y : Value), (qY9 x)[j]? = some u → v.cells[j]? = some y → y.oneCell' = true ∧ VRel E h m w u y := by
    intro x v hv h1 h2 h3
    rw [h1, h2]
    refine ⟨rfl, fun j u y a b => ?_⟩
    cases j with
    | zero => simp at a b; subst a; subst b; exact ⟨h3, hv⟩
    | succ j => simp at a
  have ags : ∀ (cs : List PV) (vs : List Value), vs.length = cs.length → (∀ (j : Nat) (x : Value), vs[j]? = some x → x.oneCell' = true) → (∀ (j : Nat) (u : PV) (x : Value), cs[j]? = some u → vs[j]? = some x → VRel E h m w u x) →
      (Value.agg vs.toArray).cells.size = cs.length ∧ ∀ (j : Nat) (u : PV) (y : Value), cs[j]? = some u → (Value.agg vs.toArray).cells[j]? = some y → y.oneCell' = true ∧ VRel E h m w u y := by
    intro cs vs hl h1 hr
    refine ⟨by simpa [Value.cells] using hl, fun j u y a b => ?_⟩
    simp only [Value.cells, List.getElem?_toArray] at b
    exact ⟨h1 j y b, hr j u y a b⟩
  cases hv with
  | d x v hd =>
    cases hd with
    | v x =>
      have h3 : v.oneCell' = true := by simpa [qdA9, isOne] using hok
      refine one (.d _ _ (.v v)) ?_ rfl h3
      cases v <;> simp_all [Value.cells, Value.oneCell']
    | ag cs vs hl h1 hr => exact (ags (cs.map PV.d) vs (by simpa using hl) h1 (VRel.of_d_cells hr))
    | rd xs A c sz f hc hsz hA hE hr => exact one (.d _ _ (.rd xs A c sz f hc hsz hA hE hr)) rfl rfl rfl
    | bx cs ad f hE hr => exact one (.d _ _ (.bx cs ad f hE hr)) rfl rfl rfl
    | ifc t x v hx => exact one (.d _ _ (.ifc t x v hx)) rfl rfl rfl
    | fn f cs vs hl hr => exact one (.d _ _ (.fn f cs vs hl hr)) rfl rfl rfl
  | junk v => simp [qdA9, isOne] at hok
  | im t xs A c sz f hc ht hsz hA hE hr => exact one (.im t xs A c sz f hc ht hsz hA hE hr) rfl rfl rfl
  | bx cs ad f hE hr => exact one (.bx cs ad f hE hr) rfl rfl rfl
  | ref id ver off len v hs =>
    have hv : VRel E h m w (.ref id ver off len) v := .ref id ver off len v hs
    obtain ⟨A, cap, rfl, _⟩ := hs
    exact one hv rfl rfl rfl
  | ptr id ver idx off v hp =>
    have hv : VRel E h m w (.ptr id ver idx off) v := .ptr id ver idx off v hp
    obtain ⟨⟨a, rfl⟩, _⟩ := hp
    exact one hv rfl rfl rfl
  | mp id es g bo ho hm => exact one (.mp id es g bo ho hm) rfl rfl rfl
  | it id s pos g bo ho hm => exact one (.it id s pos g bo ho hm) rfl rfl rfl
  | ag cs vs hl h1 hr => exact ags cs vs hl h1 hr
  | tp cs vs hl hr => simp [qdA9, isOne] at hok
  | ifc t x v hx => exact one (.ifc t x v hx) rfl rfl rfl
  | fn f cs vs hl hr => exact one (.fn f cs vs hl hr) rfl rfl rfl
end
end Go.Abs

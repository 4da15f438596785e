import Derived.Test.YtfjgfcnhklopdaaDoorAbs14
set_option maxHeartbeats 400000
set_option linter.unusedVariables false
set_option linter.unusedSimpArgs false
namespace Go.Abs
open Go Go.RowKit

section
variable {W0 : World} {E E' : Nat → Prop} {X : Nat → Prop} {h h' : AHeap} {m : Places} {w w' : World} {P : Program}

def Ret (R : Value → World → Prop) : Ending → World → Prop
  | .returned v, w' => R v w'
  | _, _ => False
theorem Ret.mono {R R' : Value → World → Prop} (h : ∀ v w, R v w → R' v w) : ∀ e w, Ret R e w → Ret R' e w := by
  intro e w hr
  cases e <;> first | exact h _ _ hr | exact hr

def Callable (P : Program) (g : FuncId) : Prop := ∃ fn, P.funcs[g]? = some fn ∧ fn.name ≠ "runtime.NumGoroutine" ∧ fn.body.isSome = true
theorem qjS9 {g : FuncId} (hg : Callable P g) (args : Array Value) : (callFunc g args).run P w = .ok (.enter g args) w := by
  obtain ⟨fn, h1, h2, h3⟩ := hg
  have hb : fn.body ≠ none := by
    intro hq
    simp [hq] at h3
  simp [callFunc, h1, h2, hb]

def FSound (W0 : World) (P : Program) (g : FuncId) (F : List PV → AHeap → Option (PV × AHeap)) : Prop :=
  ∀ (args : List PV) (h : AHeap) (r : PV) (h' : AHeap), F args h = some (r, h') → ∀ (X : Nat → Prop) (m : Places) (w : World) (vs : List Value), HRel W0 X h m w → VRels (Ex X h m) h m w args vs →
    Calls P g vs.toArray w (Ret fun v w' => Out W0 X h m w r h' v w')
structure CSound (W0 : World) (C : Cfg) : Prop where
  use : ∀ g, C.use g = true → Callable C.P g
  prim : ∀ g p, C.prim g = some p → Callable C.P g ∧ FSound W0 C.P g p
def OSound (W0 : World) (C : Cfg) (L : Oracle) : Prop := ∀ g, C.use g = true → FSound W0 C.P g (L g)

theorem qjF9 (ids : List Nat) : ∀ (h : AHeap) (id : Nat) (fz : Bool) (ver sz : Nat) (es : List (List PV)), h[id]? = some (.row fz ver sz es) → (id ∈ ids ∨ fz = true) → (freezeAll ids h)[id]? = some (.row true ver sz es) := by
  induction ids with
  | nil =>
    intro h id fz ver sz es ho hc
    rcases hc with hc | rfl
    · cases hc
    · exact ho
  | cons i r ih =>
    intro h id fz ver sz es ho hc
    show (freezeAll r (h.modify i AObj.freeze))[id]? = _
    by_cases e : i = id
    · subst e
      exact ih _ _ true ver sz es (by simp [ho, AObj.freeze]) (.inr rfl)
    · refine ih _ _ fz ver sz es (by rw [List.getElem?_modify]; simp [e, ho]) ?_
      rcases hc with hc | hc
      · rcases List.mem_cons.1 hc with rfl | hc
        · exact absurd rfl e
        · exact .inl hc
      · exact .inr hc

def RD (E : Nat → Prop) (w : World) (r : PV) (v : Value) : Prop :=
  (∃ d, r = .d d ∧ DRel E w d v) ∨ ∃ (ds : List D) (us : List Value), r = .tp (ds.map PV.d) ∧ v = .tuple us.toArray ∧ us.length = ds.length ∧ ∀ (j : Nat) (u : D) (y : Value), ds[j]? = some u → us[j]? = some y → DRel E w u y
structure Grown (w w' : World) : Prop where
  os : w'.os = w.os
  tape : w'.tape = w.tape
  out : Outs w w'
  size : w.heap.size ≤ w'.heap.size
  blk : ∀ b, b < w.heap.size → w'.heap[b]? = w.heap[b]?

theorem HRel.empty {X X' : Nat → Prop} {h0 : AHeap} {m0 : Places} (H : HRel W0 X h0 m0 w) (hx : ∀ b, X' b → b < w.heap.size) : HRel W0 X' [] (fun _ => none) w :=
  ⟨fun id o ho => by simp at ho, fun id o g bo ho => by simp at ho, fun id id' o o' g bo bo' ho => by simp at ho, fun id o g bo ho => by simp at ho, hx, H.osz, H.old, fun id o g bo ho => by simp at ho⟩

theorem qnu9 {C : Cfg} {L : Oracle} {g : FuncId} {X : Nat → Prop} {h0 : AHeap} {m0 : Places} (H : HRel W0 X h0 m0 w) (hL : FSound W0 C.P g (L g)) {X' : Nat → Prop} (hx : ∀ b, X' b → b < w.heap.size) {ds : List D} {vs : List Value} (hl : vs.length = ds.length)
    (hd : ∀ (j : Nat) (u : D) (y : Value), ds[j]? = some u → vs[j]? = some y → DRel X' w u y) {r r' : PV} {h1 : AHeap} (ho : L g (ds.map PV.d) [] = some (r, h1)) (hr : rsT h1 r = some r') :
    Calls C.P g vs.toArray w (Ret fun v w' => RD X' w' r' v ∧ Grown w w') := by
  have hv : VRels (Ex X' [] (fun _ => none)) [] (fun _ => none) w (ds.map PV.d) vs := by
    refine ⟨by simp [hl], fun j u y a b => ?_⟩
    rw [List.getElem?_map] at a
    cases hj : ds[j]? with
    | none => simp [hj] at a
    | some d =>
      simp only [hj, Option.map_some, Option.some.injEq] at a
      subst a
      refine .d _ _ ((hd j d y hj b).move (fun b _ he => ?_) (fun _ _ _ => rfl))
      rcases he with he | ⟨id, o, bo, k, _⟩
      · exact he
      · simp at k
  refine Calls.mono (hL _ _ _ _ ho X' (fun _ => none) w vs (HRel.empty H hx) hv) (Ret.mono fun v w' hout => ?_)
  obtain ⟨m', o1, o2, o3⟩ := hout
  refine ⟨?_, ⟨o3.os, o3.tape, o3.output, o3.size, fun b hb => o3.blk2 b hb (fun he => ?_)⟩⟩
  · have hrs : ∀ (n : Nat) (x : PV) (d : D) (v : Value), rs h1 n x = some d → VRel (Ex X' h1 m') h1 m' w' x v → DRel X' w' d v := fun n x d v a b =>
      qjx9 o2 (fun b hb => .inl hb) n x d v a (fun id _ g bo fz ver sz es hm hid => o2.apart id _ g bo hid hm) b
    unfold rsT at hr
    split at hr
    · rename_i xs
      simp only [Option.map_eq_some_iff] at hr
      obtain ⟨ds', k1, rfl⟩ := hr
      obtain ⟨m1, m2⟩ := qcS9 k1
      cases o1 with
      | tp _ us hl' hr' =>
        refine .inr ⟨ds', us, rfl, rfl, by omega, fun j u y a b => ?_⟩
        have hlt : j < xs.length := by rw [← m1]; exact (List.getElem?_eq_some_iff.1 a).1
        obtain ⟨u', q1, q2⟩ := m2 j xs[j] (List.getElem?_eq_getElem hlt)
        rw [a] at q1
        cases q1
        exact hrs _ _ _ _ q2 (hr' j _ y (List.getElem?_eq_getElem hlt) b)
    · simp only [Option.map_eq_some_iff] at hr
      obtain ⟨d, k1, rfl⟩ := hr
      exact .inl ⟨d, rfl, hrs _ _ _ _ k1 o1⟩
  · rcases he with he | ⟨id, o, bo, k, _⟩
    · exact he
    · simp at k

theorem RD.vrel {r : PV} {v : Value} (hr : RD E w r v) : VRel E h m w r v := by
  rcases hr with ⟨d, rfl, hd⟩ | ⟨ds, us, rfl, rfl, hl, hd⟩
  · exact .d d v hd
  · refine .tp _ us (by simp [hl]) (fun j u y a b => ?_)
    rw [List.getElem?_map] at a
    cases hj : ds[j]? with
    | none => simp [hj] at a
    | some d =>
      simp only [hj, Option.map_some, Option.some.injEq] at a
      subst a
      exact .d _ _ (hd j d y hj b)
theorem RD.scalar {r : PV} {v : Value} (hr : RD E w r v) (hs : Go.Abs.scalar r = true) : RD E' w r v := by
  have one : ∀ (x : Value) (y : Value), DRel E w (.v x) y → DRel E' w (.v x) y := by
    intro x y hd
    cases hd
    exact .v x
  rcases hr with ⟨d, rfl, hd⟩ | ⟨ds, us, rfl, rfl, hl, hd⟩
  · cases d with
    | v x => exact .inl ⟨_, rfl, one x v hd⟩
    | _ => simp [Go.Abs.scalar] at hs
  · refine .inr ⟨ds, us, rfl, rfl, hl, fun j u y a b => ?_⟩
    simp only [Go.Abs.scalar, List.all_eq_true, List.mem_map] at hs
    have := hs (.d u) ⟨u, List.mem_of_getElem? a, rfl⟩
    cases u with
    | v x => exact one x y (hd j _ y a b)
    | _ => simp at this

theorem qkJ9 {C : Cfg} {L : Oracle} (hC : CSound W0 C) (hL : OSound W0 C L) (H : HRel W0 X h m w) {g : FuncId} {args : List PV} {vs : List Value} {r : PV} {h1 : AHeap} (hv : VRels (Ex X h m) h m w args vs) (ho : callP C L g args h = some (r, h1)) :
    Callable C.P g ∧ Calls C.P g vs.toArray w (Ret fun v w' => Out W0 X h m w r h1 v w') := by
  unfold callP at ho
  split at ho
  · rename_i p hp
    obtain ⟨c1, c2⟩ := hC.prim g p hp
    exact ⟨c1, c2 _ _ _ _ ho X m w vs H hv⟩
  · split at ho
    · rename_i hu
      refine ⟨hC.use g hu, ?_⟩
      split at ho
      · exact hL g hu _ _ _ _ ho X m w vs H hv
      · split at ho
        · cases ho
        · rename_i ds hds
          obtain ⟨m1, m2⟩ := qcS9 hds
          have back : ∀ (j : Nat) (u : D) (y : Value), ds[j]? = some u → vs[j]? = some y → ∃ x, args[j]? = some x ∧ rs h depth x = some u ∧ VRel (Ex X h m) h m w x y := by
            intro j u y a b
            have hlt : j < args.length := by rw [← m1]; exact (List.getElem?_eq_some_iff.1 a).1
            obtain ⟨u', q1, q2⟩ := m2 j args[j] (List.getElem?_eq_getElem hlt)
            rw [a] at q1
            cases q1
            exact ⟨_, List.getElem?_eq_getElem hlt, q2, hv.2 j _ y (List.getElem?_eq_getElem hlt) b⟩
          have hf := FzH.freezeAll (args.flatMap (reach h depth)) h
          obtain ⟨f1, f2⟩ := qtZ9 H hf
          have hdat : ∀ (j : Nat) (u : D) (y : Value), ds[j]? = some u → vs[j]? = some y → DRel (Ex X (freezeAll (args.flatMap (reach h depth)) h) m) w u y := by
            intro j u y a b
            obtain ⟨x, q1, q2, q3⟩ := back j u y a b
            refine qjx9 H (fun b hb => ?_) _ _ _ _ q2 (fun id hid g bo fz ver sz es hm ho hE => ?_) q3
            · rcases hb with hb | ⟨id, o, bo, k1, k2, k3⟩
              · exact .inl hb
              · obtain ⟨o0, l1, l2⟩ := hf.back k1
                refine .inr ⟨id, o0, bo, l1, ?_, k3⟩
                cases o0 <;> cases o <;> simp_all [Fz, AObj.active]
            · rcases hE with hE | ⟨id', o', bo', k1, k2, k3⟩
              · exact H.apart id _ g bo ho hm hE
              · obtain ⟨o0, l1, l2⟩ := hf.back k1
                have e := H.inj id' id o0 _ g bo' bo l1 ho k3 hm
                subst e
                have hmem : id' ∈ args.flatMap (reach h depth) := qeM9 (List.mem_of_getElem? q1) hid
                have := qjF9 _ h id' fz ver sz es ho (.inl hmem)
                rw [this] at k1
                cases k1
                simp [AObj.active] at k2
          split at ho
          · have hvr : VRels (Ex X (freezeAll (args.flatMap (reach h depth)) h) m) (freezeAll (args.flatMap (reach h depth)) h) m w (ds.map PV.d) vs := by
              refine ⟨by simp [hv.1, m1], fun j u y a b => ?_⟩
              rw [List.getElem?_map] at a
              cases hj : ds[j]? with
              | none => simp [hj] at a
              | some d =>
                simp only [hj, Option.map_some, Option.some.injEq] at a
                subst a
                exact .d _ _ (hdat j d y hj b)
            refine Calls.mono (hL g hu _ _ _ _ ho X m w vs f2 hvr) (Ret.mono fun v w' hq => ?_)
            obtain ⟨m', q1, q2, q3⟩ := hq
            exact ⟨m', q1, q2, f1.trans q3⟩
          split at ho
          · cases ho
          · rename_i r0 h2 hcall
            split at ho
            · cases ho
            · rename_i r' hr'
              simp only [Option.some.injEq, Prod.mk.injEq] at ho
              obtain ⟨rfl, rfl⟩ := ho
              by_cases hs : scalar r' = true
              · rw [if_pos hs]
                refine Calls.mono (qnu9 H (hL g hu) (X' := fun _ => False) (fun b hb => hb.elim) (by rw [hv.1, m1]) (fun j u y a b => ?_) hcall hr') (Ret.mono fun v w' hq => ?_)
                · obtain ⟨x, q1, q2, q3⟩ := back j u y a b
                  exact qjx9 H (fun b hb => hb.elim) _ _ _ _ q2 (fun _ _ _ _ _ _ _ _ _ _ hf => hf) q3
                · obtain ⟨q1, q2⟩ := hq
                  exact ⟨m, (q1.scalar hs).vrel, HRel.grow H q2.os q2.tape q2.out q2.size q2.blk, Evo.grow H q2.os q2.tape q2.out q2.size q2.blk⟩
              · rw [if_neg hs]
                refine Calls.mono (qnu9 H (hL g hu) (X' := Ex X (freezeAll (args.flatMap (reach h depth)) h) m) (fun b hb => ?_) (by rw [hv.1, m1]) hdat hcall hr') (Ret.mono fun v w' hq => ?_)
                · rcases hb with hb | ⟨id, o, bo, k1, _, k3⟩
                  · exact H.xlt b hb
                  · exact f2.lt id o b bo k1 k3
                · obtain ⟨q1, q2⟩ := hq
                  exact ⟨m, q1.vrel, HRel.grow f2 q2.os q2.tape q2.out q2.size q2.blk, f1.trans (Evo.grow f2 q2.os q2.tape q2.out q2.size q2.blk)⟩
    · cases ho
end
end Go.Abs

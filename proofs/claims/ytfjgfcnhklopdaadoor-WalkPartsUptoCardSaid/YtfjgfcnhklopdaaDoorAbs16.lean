import Derived.Test.YtfjgfcnhklopdaaDoorAbs15
set_option maxHeartbeats 400000
set_option linter.unusedVariables false
set_option linter.unusedSimpArgs false
namespace Go.Abs
open Go Go.RowKit

section
variable {W0 : World} {E E' : Nat → Prop} {X : Nat → Prop} {h h' : AHeap} {m : Places} {w w' : World}

def TRel (E : Nat → Prop) (h : AHeap) (m : Places) (w : World) (get : Nat → PV) (a : Act) : Prop := ∀ i, VRel E h m w (get i) (a.eval (.tmp i))

theorem TRel.op {get : Nat → PV} {a : Act} (hg : TRel E h m w get a) (x : Operand) : VRel E h m w (evO get x) (a.eval x) := by
  cases x with
  | tmp t => exact hg t
  | const v => exact qkT9 v
  | global g => exact .junk _
  | func f => exact .fn f [] [] rfl (fun j u y a => by simp at a)

theorem qgw9 {P : Program} {o : Oper} {a : Act} {K : Act → World → Prop} {Q : Exit → Act → World → Prop} {v : Value} (hr : (execOp a.eval o).run P w = .ok (.value v) w') (hk : K (a.put o.dst v) w') : o.wp P a w K Q := by
  unfold Oper.wp
  rw [hr]
  exact hk
theorem qxZ9 {P : Program} {o : Oper} {a : Act} {K : Act → World → Prop} {Q : Exit → Act → World → Prop} (hr : (execOp a.eval o).run P w = .ok .skip w') (hk : K (a.put o.dst undef) w') : o.wp P a w K Q := by
  unfold Oper.wp
  rw [hr]
  exact hk
theorem qrF9 {P : Program} {o : Oper} {a : Act} {K : Act → World → Prop} {Q : Exit → Act → World → Prop} {g : FuncId} {args : Array Value} {R : Value → World → Prop} (hr : (execOp a.eval o).run P w = .ok (.enter g args) w) (hc : Calls P g args w (Ret R)) (hk : ∀ v w', R v w' → K (a.put o.dst v) w') : o.wp P a w K Q := by
  unfold Oper.wp
  rw [hr]
  refine Calls.mono hc (fun e w' he => ?_)
  cases e with
  | returned v => exact hk v w' he
  | panicked c => exact he.elim
  | outgrown => exact he.elim

theorem qjO9 {P : Program} {t : TypeId} {d : TypeDesc} {v : Value} {b : Bool} {o : Option String} (hu : P.underlying t = some d) (hd : (b = true ∧ ∃ e, d = .pointer e) ∨ (b = false ∧ ∀ e, d ≠ .pointer e)) : (receiverAt t (.val v) b o).run P w = .ok v w := by
  rcases hd with ⟨rfl, e, rfl⟩ | ⟨rfl, hd⟩
  · simp [receiverAt, run_underlying hu, Place.get]
  · cases d <;> first | exact absurd rfl (hd _) | simp [receiverAt, run_underlying hu, Place.get]

theorem qts9 {P : Program} {t : TypeId} {name : String} {g : FuncId} {v : Value} (hm : qeC9 P t name = some g) (n : Nat) : (method (n + 1) t v name).run P w = .ok (g, v) w := by
  unfold qeC9 at hm
  cases hi : P.info? t with
  | none => simp [hi] at hm
  | some i =>
    simp only [hi] at hm
    cases hf : i.methods.find? (·.name == name) with
    | none => simp [hf] at hm
    | some md =>
      simp only [hf] at hm
      split at hm
      · rename_i hp
        have hpl : md.path.toList = [] := by simpa using hp
        split at hm
        · rename_i f e hfn hu
          cases hm
          have hr := fun o => qjO9 (w := w) (v := v) (b := true) (o := o) hu (.inl ⟨rfl, _, rfl⟩)
          simp [method, typeInfo, hi, hf, hpl, follow, hfn, hr]
        · rename_i f d hfn hu
          have hne : ∀ e, d ≠ .pointer e := by
            intro e he; subst he; simp at hm
          have hg : f = g := by cases d <;> simp_all
          subst hg
          have hr := fun o => qjO9 (w := w) (v := v) (b := false) (o := o) hu (.inr ⟨rfl, hne⟩)
          simp [method, typeInfo, hi, hf, hpl, follow, hfn, hr]
        · cases hm
      · cases hm

theorem qnF9 {get : Nat → PV} {a : Act} (hg : TRel E h m w get a) (ps : Array (Nat × Operand)) : PRelL E h m w (ps.toList.map fun p => (p.1, evO get p.2)) (ps.map fun (i, x) => (i, a.eval x)).toList := by
  refine ⟨by simp, fun j p q h1 h2 => ?_⟩
  simp only [Array.toList_map, List.getElem?_map] at h1 h2
  cases hj : ps.toList[j]? with
  | none => simp [hj] at h1
  | some x =>
    simp only [hj, Option.map_some, Option.some.injEq] at h1 h2
    subst h1
    subst h2
    exact ⟨rfl, hg.op x.2⟩
theorem qpu9 {get : Nat → PV} {a : Act} (hg : TRel E h m w get a) (xs : Array Operand) : VRels E h m w (xs.toList.map (evO get)) (xs.map a.eval).toList := by
  rw [Array.toList_map]
  exact VRels.map (fun x _ => hg.op x)
theorem qjd9 {get : Nat → PV} {a : Act} (hg : TRel E h m w get a) (x : Option Operand) : (∀ z, x.map (evO get) = some z → ∃ v, x.map a.eval = some v ∧ VRel E h m w z v) ∧ (x.map (evO get) = none → x.map a.eval = none) := by
  cases x with
  | none => exact ⟨fun z hz => by simp at hz, fun _ => rfl⟩
  | some x => exact ⟨fun z hz => ⟨a.eval x, rfl, by simp at hz; subst hz; exact hg.op x⟩, fun hz => by simp at hz⟩

theorem qrR9 {C : Cfg} {L : Oracle} (hC : CSound W0 C) (hL : OSound W0 C L) (H : HRel W0 X h m w) {get : Nat → PV} {a : Act} (hg : TRel (Ex X h m) h m w get a) {o : Oper} {c : Call} (hop : o.op = .call c) {r : PV} {h1 : AHeap}
    (ho : qdk9 C L h c.callee (qdW9 get c.callee) c.argTypes o.type (c.args.toList.map (evO get)) = some (r, h1)) {K : Act → World → Prop} {Q : Exit → Act → World → Prop} (hK : ∀ v w', Out W0 X h m w r h1 v w' → K (a.put o.dst v) w') : o.wp C.P a w K Q := by
  have hargs := qpu9 hg c.args
  unfold qdk9 at ho
  cases hc : c.callee with
  | builtin b =>
    simp only [hc] at ho
    obtain ⟨u, w', q1, q2⟩ := qnP9 (cs := c.args.map fun | .const _ => true | _ => false) H hargs ho
    refine qgw9 ?_ (hK _ _ q2)
    simp only [Array.toArray_toList] at q1
    simp only [execOp, hop, resolve, hc, Sem.run_bind, Sem.run_pure, Result.andThen_ok, invoke]
    exact q1
  | value f =>
    simp only [hc, qdW9] at ho
    have key : ∀ (g : FuncId) (caps : List PV) (vs : List Value), a.eval f = .func (.func g) #[] vs.toArray → VRels (Ex X h m) h m w caps vs → callP C L g (c.args.toList.map (evO get) ++ caps) h = some (r, h1) → o.wp C.P a w K Q := by
      intro g caps vs hev hvs hcp
      obtain ⟨q1, q2⟩ := qkJ9 hC hL H (hargs.append hvs) hcp
      refine qrF9 (g := g) (args := c.args.map a.eval ++ vs.toArray) ?_ (by
        have e : ((c.args.map a.eval).toList ++ vs).toArray = c.args.map a.eval ++ vs.toArray := by
          apply Array.ext'; simp
        rw [e] at q2
        exact q2) hK
      simp only [execOp, hop, resolve, hc, hev, Deferred.ofValue, Sem.run_bind, Sem.run_pure, Result.andThen_ok, invoke]
      rw [show (#[] : Array Value) ++ c.args.map a.eval = c.args.map a.eval from by apply Array.ext'; simp]
      exact qjS9 q1 _
    have hf := hg.op f
    split at ho
    · rename_i g caps hfv
      rw [hfv] at hf
      generalize hev : a.eval f = vf at hf
      cases hf with
      | fn _ _ vs hl hvs => exact key g caps vs hev ⟨hl, hvs⟩ ho
    · rename_i g caps hfv
      rw [hfv] at hf
      generalize hev : a.eval f = vf at hf
      cases hf with
      | d _ _ hd => cases hd with
        | fn _ _ vs hl hvs => exact key g (caps.map PV.d) vs hev ⟨by simp [hl], VRel.of_d_cells hvs⟩ ho
    · cases ho
  | invoke x name =>
    simp only [hc, qdW9] at ho
    have key : ∀ (t : TypeId) (y : PV) (v : Value), a.eval x = .iface t v → VRel (Ex X h m) h m w y v → (match qeC9 C.P t name with | some g => callP C L g (y :: c.args.toList.map (evO get)) h | none => none) = some (r, h1) → o.wp C.P a w K Q := by
      intro t y v hev hvs hcp
      cases hmt : qeC9 C.P t name with
      | none => simp [hmt] at hcp
      | some g =>
        simp only [hmt] at hcp
        obtain ⟨q1, q2⟩ := qkJ9 hC hL H (VRels.cons hvs hargs) hcp
        refine qrF9 (g := g) (args := #[v] ++ c.args.map a.eval) ?_ (by
          have e : (v :: (c.args.map a.eval).toList).toArray = #[v] ++ c.args.map a.eval := by
            apply Array.ext'; simp
          rw [e] at q2
          exact q2) hK
        have hme := qts9 (w := w) (v := v) hmt (C.P.types.size + Made.depth - 1)
        have hpos : C.P.types.size + Made.depth - 1 + 1 = C.P.types.size + Made.depth := by
          have : 0 < Made.depth := by decide
          omega
        rw [hpos] at hme
        have e2 : (#[Value.iface t v] ++ c.args.map a.eval).extract 1 (#[Value.iface t v] ++ c.args.map a.eval).size = c.args.map a.eval := by
          apply Array.ext'
          simp only [Array.toList_extract, Array.toList_append, List.extract_eq_take_drop, Array.toList_map]
          simp [List.take_of_length_le]
        have e3 : (#[Value.iface t v] ++ c.args.map a.eval)[0]? = some (Value.iface t v) := by
          rw [← Array.getElem?_toList]
          simp
        simp only [execOp, hop, resolve, hc, hev, Sem.run_bind, Sem.run_pure, Result.andThen_ok, invoke, e3, e2, callMethod, run_program, hme]
        exact qjS9 q1 _
    have hf := hg.op x
    split at ho
    · rename_i t y hfv
      rw [hfv] at hf
      generalize hev : a.eval x = vf at hf
      cases hf with
      | ifc _ _ v hv => exact key t y v hev hv ho
    · rename_i t y hfv
      rw [hfv] at hf
      generalize hev : a.eval x = vf at hf
      cases hf with
      | d _ _ hd => cases hd with
        | ifc _ _ v hv => exact key t (.d y) v hev (.d _ _ hv) ho
    · cases ho
end
end Go.Abs

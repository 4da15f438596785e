import Derived.Test.YtfjgfcnhklopdaaDoorAbs16
set_option maxHeartbeats 400000
set_option linter.unusedVariables false
set_option linter.unusedSimpArgs false
namespace Go.Abs
open Go Go.RowKit

section
variable {W0 : World} {X : Nat → Prop} {h : AHeap} {m : Places} {w : World}

theorem quV9 {C : Cfg} {L : Oracle} (hC : CSound W0 C) (hL : OSound W0 C L) (H : HRel W0 X h m w) {get : Nat → PV} {a : Act} (hg : TRel (Ex X h m) h m w get a) {o : Oper} {r : PV} {h1 : AHeap}
    (ho : aop C L get h o = some (r, h1)) {K : Act → World → Prop} {Q : Exit → Act → World → Prop} (hK : ∀ v w', Out W0 X h m w r h1 v w' → K (a.put o.dst v) w') : o.wp C.P a w K Q := by
  have hv := fun x => hg.op x
  -- an operation that leaves the world as it is
  have same : ∀ {s : Sem Value}, execOp a.eval o = (do pure (.value (← s))) → (h1 = h ∧ ∃ u, s.run C.P w = .ok u w ∧ VRel (Ex X h m) h m w r u) → o.wp C.P a w K Q := by
    intro s he hs
    obtain ⟨rfl, u, h2, h3⟩ := hs
    exact qgw9 (w' := w) (v := u) (by rw [he]; simp [h2]) (hK _ _ (Out.same H h3))
  have made : ∀ {s : Sem Value}, execOp a.eval o = (do pure (.value (← s))) → (∃ u w', s.run C.P w = .ok u w' ∧ Out W0 X h m w r h1 u w') → o.wp C.P a w K Q := by
    intro s he hs
    obtain ⟨u, w', h2, h3⟩ := hs
    exact qgw9 (w' := w') (v := u) (by rw [he]; simp [h2]) (hK _ _ h3)
  have unit : ∀ {s : Sem Unit}, execOp a.eval o = (do s; pure .skip) → (∃ w', s.run C.P w = .ok () w' ∧ ∀ u, Out W0 X h m w r h1 u w') → o.wp C.P a w K Q := by
    intro s he hs
    obtain ⟨w', h2, h3⟩ := hs
    exact qxZ9 (w' := w') (by rw [he]; simp [h2]) (hK _ _ (h3 _))
  cases hop : o.op with
  | move x =>
    simp only [aop, hop, Option.some.injEq, Prod.mk.injEq] at ho
    obtain ⟨rfl, rfl⟩ := ho
    exact qgw9 (w' := w) (v := a.eval x) (by simp only [execOp, hop]; rfl) (hK _ _ (Out.same H (hv x)))
  | assign x =>
    simp only [aop, hop, Option.some.injEq, Prod.mk.injEq] at ho
    obtain ⟨rfl, rfl⟩ := ho
    exact qgw9 (w' := w) (v := a.eval x) (by simp only [execOp, hop]; rfl) (hK _ _ (Out.same H (hv x)))
  | pick c x y =>
    simp only [aop, hop, qkg9] at ho
    split at ho
    · rename_i t hc
      simp only [Option.some.injEq, Prod.mk.injEq] at ho
      obtain ⟨rfl, rfl⟩ := ho
      have hcv := hv c
      rw [hc] at hcv
      have hb := hcv.as_bool
      refine qgw9 (w' := w) (v := if t = true then a.eval x else a.eval y) (by simp only [execOp, hop]; simp [hb, asBool]) (hK _ _ (Out.same H ?_))
      cases t
      · exact hv y
      · exact hv x
    · cases ho
  | alloc e =>
    simp only [aop, hop] at ho
    exact made (by simp only [execOp, hop]) (qqR9 H ho)
  | box e x =>
    simp only [aop, hop] at ho
    exact made (s := Instr.box e (a.eval x)) (by simp only [execOp, hop]) (qtI9 H (hv x) ho)
  | build t ps =>
    simp only [aop, hop] at ho
    exact same (by simp only [execOp, hop]) (qrd9 (qnF9 hg ps) ho)
  | buildSlice t len ps =>
    simp only [aop, hop] at ho
    exact made (by simp only [execOp, hop]) (qlj9 H (qnF9 hg ps) ho)
  | load t x =>
    simp only [aop, hop, Option.map_eq_some_iff, Prod.mk.injEq] at ho
    obtain ⟨y, h2, rfl, rfl⟩ := ho
    exact same (by simp only [execOp, hop]) ⟨rfl, qlS9 H (hv x) h2⟩
  | store t x y =>
    simp only [aop, hop, Option.map_eq_some_iff, Prod.mk.injEq] at ho
    obtain ⟨h2, h3, rfl, rfl⟩ := ho
    exact unit (by simp only [execOp, hop]) (qqE9 H (hv x) (hv y) h3)
  | nilCheck x =>
    simp only [aop, hop] at ho
    obtain ⟨rfl, rfl, hc⟩ := qvc9 (hv x) ho
    refine qgw9 (w' := w) (v := a.eval x) ?_ (hK _ _ (Out.same H (hv x)))
    rcases hc with ⟨ad, hc⟩ | ⟨t, u, hc⟩ <;> simp only [execOp, hop, hc] <;> rfl
  | binOp op t x y _ =>
    simp only [aop, hop] at ho
    exact same (by simp only [execOp, hop]) (quG9 (hv x) (hv y) ho)
  | unOp op _ x =>
    simp only [aop, hop] at ho
    exact same (by simp only [execOp, hop]) (qvi9 (hv x) ho)
  | convert s d x =>
    simp only [aop, hop] at ho
    exact same (by simp only [execOp, hop]) (qta9 (hv x) ho)
  | makeInterface t x =>
    simp only [aop, hop] at ho
    exact same (by simp only [execOp, hop]) (qqz9 (hv x) ho)
  | makeFunc fn first caps =>
    simp only [aop, hop] at ho
    obtain ⟨c1, c2⟩ := qpu9 hg caps
    exact same (s := Instr.makeFunc fn (first.map a.eval) (caps.map a.eval)) (by simp only [execOp, hop]) (qqw9 (vf := first.map a.eval) (vc := caps.map a.eval) (by simp) (by simp) (fun j u x p q => c2 j u x p (by simpa using q)) ho)
  | makeMap t x =>
    simp only [aop, hop] at ho
    obtain ⟨o1, o2⟩ := qjd9 hg x
    refine made (s := Instr.makeMap t (x.map a.eval)) (by simp only [execOp, hop]) (qnK9 H ?_ (fun z v hz hzv => ?_) ho)
    · cases x <;> rfl
    · obtain ⟨v', hv', hr⟩ := o1 z hz
      rw [hv'] at hzv
      cases hzv
      exact hr
  | makeSlice t l c =>
    simp only [aop, hop] at ho
    exact made (by simp only [execOp, hop]) (qmb9 H (hv l) (hv c) ho)
  | slice t x lo hi mx =>
    simp only [aop, hop] at ho
    cases mx with
    | some z =>
      obtain ⟨l1, l2⟩ := qjd9 hg lo
      obtain ⟨k1, k2⟩ := qjd9 hg hi
      exact same (s := Instr.sliceAt t (a.eval x) (lo.map a.eval) (hi.map a.eval) (some (a.eval z))) (by simp only [execOp, hop]; rfl) (qsh9 (hv x) l2 k1 (hv z) ho)
    | none =>
      obtain ⟨l1, l2⟩ := qjd9 hg lo
      obtain ⟨k1, k2⟩ := qjd9 hg hi
      exact same (s := Instr.sliceAt t (a.eval x) (lo.map a.eval) (hi.map a.eval) none) (by simp only [execOp, hop]; rfl) (qsB9 (hv x) l1 l2 k1 k2 ho)
  | fieldAddr s x f =>
    simp only [aop, hop] at ho
    exact same (by simp only [execOp, hop]) (qmf9 (hv x) ho)
  | field t x f =>
    simp only [aop, hop] at ho
    exact same (by simp only [execOp, hop]) (qrb9 (hv x) ho)
  | indexAddr t x i =>
    simp only [aop, hop] at ho
    exact same (by simp only [execOp, hop]) (qlw9 (hv x) (hv i) ho)
  | index t x i =>
    simp only [aop, hop] at ho
    exact same (by simp only [execOp, hop]) (qqO9 (hv x) (hv i) ho)
  | lookup t x k ok =>
    simp only [aop, hop] at ho
    exact same (by simp only [execOp, hop]) (qqi9 H (hv x) (hv k) ho)
  | mapUpdate t x k v =>
    simp only [aop, hop] at ho
    obtain ⟨rfl, q⟩ := qly9 H (hv x) (hv k) (hv v) ho
    exact unit (by simp only [execOp, hop]) q
  | typeAssert x xt asserted ok =>
    simp only [aop, hop] at ho
    exact same (s := Instr.typeAssert (a.eval x) xt asserted ok) (by simp only [execOp, hop]) (qpe9 (hv x) ho)
  | extract x i =>
    simp only [aop, hop] at ho
    exact same (by simp only [execOp, hop]) (qnO9 (hv x) ho)
  | range t x =>
    simp only [aop, hop] at ho
    exact made (s := Instr.range t (a.eval x)) (by simp only [execOp, hop]) (qru9 H (hv x) ho)
  | next x b =>
    simp only [aop, hop] at ho
    exact made (s := Instr.next (a.eval x) b o.type) (by simp only [execOp, hop]) (qsy9 H (hv x) ho)
  | call c =>
    simp only [aop, hop] at ho
    exact qrR9 hC hL H hg hop ho hK
  | _ => simp [aop, hop] at ho
end
end Go.Abs

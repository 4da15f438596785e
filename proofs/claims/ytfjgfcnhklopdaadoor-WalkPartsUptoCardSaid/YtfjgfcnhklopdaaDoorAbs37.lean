import Derived.Test.YtfjgfcnhklopdaaDoorAbs36
set_option maxHeartbeats 400000
set_option linter.unusedVariables false
set_option linter.unusedSimpArgs false
namespace Go.Abs
open Go
variable {P : Program}
theorem qhq9 {α β : Type} {a : Sem α} {f : α → Sem β} {r : α} (h : pev P a = some r) : pev P (a.bind f) = pev P (f r) := by
  exact qhZ9 h
theorem qhj9 {α β γ : Type} {a : Sem α} {f : α → Sem β} {g : β → Sem γ} {r : α} (h : pev P a = some r) : pev P ((a.bind f).bind g) = pev P ((f r).bind g) := by
  have e : ∀ (a : Sem α), pev P a = some r → pev P ((a.bind f).bind g) = pev P ((f r).bind g) := by
    intro a
    induction a with
    | pure x => intro h; simp only [pev, Option.some.injEq] at h; subst h; rfl
    | program k ih => intro h; simp only [pev] at h; simp only [Sem.bind, pev]; exact ih _ h
    | _ => intro h; simp [pev] at h
  exact e a h
theorem qve9 {n : Nat} {t : TypeId} {k k' : IntKind} {a b : Int} (h : P.underlying t = some (.int k')) : pev P (Op.equalIn (n + 1) t (.int k a) (.int k b)) = some (decide (a = b)) := by
  rw [Op.equalIn]
  simp only [underlying, program, bind, pure, Sem.bind, pev, h, if_true]
  rfl
theorem qpB9 {t : TypeId} {k : IntKind} {cs : Array Value} {off : Nat} {v : Value} (h : P.underlying t = some (.int k)) (hv : cs[off]? = some v) : pev P (part t cs off) = some v := by
  unfold part isAgg
  simp only [underlying, program, bind, pure, Sem.bind, pev, h, hv]
  rfl
theorem qxR9 {n : Nat} {t : TypeId} {f0 f1 : Field} {k k0 k1 : IntKind} {a b c d : Int} (hu : P.underlying t = some (.struct #[f0, f1])) (hs : P.stoodInHeld t = false) (n0 : f0.name ≠ "_") (n1 : f1.name ≠ "_") (o0 : f0.offset = 0) (o1 : f1.offset = 1)
    (h0 : P.underlying f0.type = some (.int k0)) (h1 : P.underlying f1.type = some (.int k1)) : pev P (Op.equalIn (n + 1 + 1) t (.agg #[.int k a, .int k b]) (.agg #[.int k c, .int k d])) = some (decide (a = c) && decide (b = d)) := by
  rw [Op.equalIn]
  simp only [underlying, program, bind, pure, Sem.bind, pev, hu, hs, Bool.false_eq_true, if_false, Array.forIn_toList.symm, List.forIn_cons, n0, n1, ne_eq, not_false_eq_true, if_true, o0, o1]
  have F : ∀ {f : Field} {k2 : IntKind} (o : Nat) (x y : Int) (xs ys : Array Value), P.underlying f.type = some (.int k2) → xs[o]? = some (.int k x) → ys[o]? = some (.int k y) →
      pev P ((part f.type xs o).bind fun u => (part f.type ys o).bind fun v => (Op.equalIn (n + 1) f.type u v).bind fun r => if (!r) = true then Sem.pure (ForInStep.done (some false, ())) else Sem.pure (ForInStep.yield ((none : Option Bool), ()))) = some (if x = y then ForInStep.yield (none, ()) else ForInStep.done (some false, ())) := by
    intro f k2 o x y xs ys hf hx hy
    rw [qhq9 (qpB9 hf hx), qhq9 (qpB9 hf hy), qhq9 (qve9 hf)]
    by_cases h : x = y
    · rw [if_pos h, decide_eq_true h]; rfl
    · rw [if_neg h, decide_eq_false h]; rfl
  have A := F (f := f0) 0 a c #[.int k a, .int k b] #[.int k c, .int k d] h0 rfl rfl
  have B := F (f := f1) 1 b d #[.int k a, .int k b] #[.int k c, .int k d] h1 rfl rfl
  by_cases h : a = c
  · rw [if_pos h] at A
    by_cases g : b = d
    · rw [if_pos g] at B
      rw [decide_eq_true h, decide_eq_true g]
      rw [qhj9 A]
      simp only
      rw [qhj9 B]
      rfl
    · rw [if_neg g] at B
      rw [decide_eq_true h, decide_eq_false g]
      rw [qhj9 A]
      simp only
      rw [qhj9 B]
      rfl
  · rw [if_neg h] at A
    rw [decide_eq_false h]
    rw [qhj9 A]
    rfl
structure Two (P : Program) (t : TypeId) : Prop where
  two : ∃ f0 f1 k0 k1, P.underlying t = some (.struct #[f0, f1]) ∧ f0.name ≠ "_" ∧ f1.name ≠ "_" ∧ f0.offset = 0 ∧ f1.offset = 1 ∧ P.underlying f0.type = some (.int k0) ∧ P.underlying f1.type = some (.int k1)
  held : P.stoodInHeld t = false
  guard : P.eqGuardType P.depth t = false
def twoB (P : Program) (t : TypeId) : Bool := (match P.underlying t with
  | some (.struct fs) => (match fs.toList with
    | [f0, f1] => f0.name != "_" && f1.name != "_" && f0.offset == 0 && f1.offset == 1 && (match P.underlying f0.type, P.underlying f1.type with | some (.int _), some (.int _) => true | _, _ => false)
    | _ => false)
  | _ => false) && !P.stoodInHeld t && !P.eqGuardType P.depth t
theorem Two.of {t : TypeId} (h : twoB P t = true) : Two P t := by
  unfold twoB at h
  simp only [Bool.and_eq_true, Bool.not_eq_true'] at h
  refine ⟨?_, h.1.2, h.2⟩
  have h1 := h.1.1
  split at h1
  rotate_left
  · cases h1
  rename_i fs hfs
  split at h1
  · rename_i f0 f1 hu
    have hu' : P.underlying t = some (.struct #[f0, f1]) := by
      rw [hfs]
      have : fs = #[f0, f1] := Array.toList_inj.1 hu
      rw [this]
    simp only [Bool.and_eq_true, bne_iff_ne, beq_iff_eq] at h1
    obtain ⟨⟨⟨⟨a, b⟩, c⟩, d⟩, e⟩ := h1
    split at e
    · rename_i k0 k1 u0 u1
      exact ⟨f0, f1, k0, k1, hu', a, b, c, d, u0, u1⟩
    · cases e
  · cases h1
theorem qrL9 {t : TypeId} (H : Two P t) {k : IntKind} {a b c d : Int} : pev P (Op.equal t (.agg #[.int k a, .int k b]) (.agg #[.int k c, .int k d])) = some (decide (a = c) && decide (b = d)) := by
  obtain ⟨f0, f1, k0, k1, hu, n0, n1, o0, o1, h0, h1⟩ := H.two
  exact qxR9 (n := 9998) hu H.held n0 n1 o0 o1 h0 h1
theorem qns9 {t : TypeId} (H : Two P t) {op : BinOp} {x y : Operand} {a b : Array Value} : pev P (eqGuard op t x y (.agg a) (.agg b)) = some () := by
  unfold eqGuard
  cases op <;> simp [program, bind, pure, Sem.bind, pev, H.guard]
theorem qkz9 {t : TypeId} (H : Two P t) {h : AHeap} {x y : Operand} {X Y : PV} {k : IntKind} {a b c d : Int} (hX : toV X = some (.agg #[.int k a, .int k b])) (hY : toV Y = some (.agg #[.int k c, .int k d])) : opBin P h .neq t x y X Y = some (.d (.v (.bool (!(decide (a = c) && decide (b = d))))), h) := by
  have hn : qfI9 P .neq t X Y = none := by
    obtain ⟨f0, f1, k0, k1, hu, _⟩ := H.two
    unfold qfI9
    rw [if_neg]
    unfold qiX9
    rw [hu]
    simp
  unfold opBin
  rw [hn]
  simp only [hX, hY]
  have : pev P (do eqGuard .neq t x y (.agg #[.int k a, .int k b]) (.agg #[.int k c, .int k d]); binOp .neq t (.agg #[.int k a, .int k b]) (.agg #[.int k c, .int k d])) = some (.bool (!(decide (a = c) && decide (b = d)))) := by
    rw [qhZ9 (qns9 H)]
    show pev P ((Op.equal t _ _).bind _) = _
    rw [qhq9 (qrL9 H)]
    rfl
  rw [this]; rfl
theorem qkn9 {t : TypeId} (H : Two P t) {h : AHeap} {x y : Operand} {X Y : PV} {k : IntKind} {a b c d : Int} (hX : toV X = some (.agg #[.int k a, .int k b])) (hY : toV Y = some (.agg #[.int k c, .int k d])) : opBin P h .eql t x y X Y = some (.d (.v (.bool (decide (a = c) && decide (b = d)))), h) := by
  have hn : qfI9 P .eql t X Y = none := by
    obtain ⟨f0, f1, k0, k1, hu, _⟩ := H.two
    unfold qfI9
    rw [if_neg]
    unfold qiX9
    rw [hu]
    simp
  unfold opBin
  rw [hn]
  simp only [hX, hY]
  have : pev P (do eqGuard .eql t x y (.agg #[.int k a, .int k b]) (.agg #[.int k c, .int k d]); binOp .eql t (.agg #[.int k a, .int k b]) (.agg #[.int k c, .int k d])) = some (.bool (decide (a = c) && decide (b = d))) := by
    rw [qhZ9 (qns9 H)]
    show pev P ((Op.equal t _ _).bind _) = _
    rw [qhq9 (qrL9 H)]
    rfl
  rw [this]; rfl

theorem qxQ9 {C : Cfg} {L : Oracle} {get : Nat → PV} {h : AHeap} {d : Option Nat} {op : BinOp} {t t2 : TypeId} {x y : Operand} {ty : TypeId} {p : String} {af} {g} : aop C L get h { dst := d, op := .binOp op t x y t2, type := ty, pos := p, after := af, guard := g } = opBin C.P h op t x y (evO get x) (evO get y) := rfl
theorem la1 {x k : Nat} : 1 + (x + k) = x + (k + 1) := by omega
theorem la2 {x k : Nat} : 2 + (x + k) = x + (k + 2) := by omega
theorem la3 {x k : Nat} : 3 + (x + k) = x + (k + 3) := by omega
theorem la4 {x k : Nat} : 4 + (x + k) = x + (k + 4) := by omega
theorem la5 {x k : Nat} : 5 + (x + k) = x + (k + 5) := by omega
theorem la6 {x k : Nat} : 6 + (x + k) = x + (k + 6) := by omega
section
variable {α : Type} {a : α} {l : List α} {b : α} {o : AObj} {h : AHeap} {x y z u w v q k : Nat}
theorem cget4 : (a :: l)[x + (y + (z + (u + (k + 1))))]? = l[x + (y + (z + (u + k)))]? := by rw [show x + (y + (z + (u + (k + 1)))) = (x + (y + (z + (u + k)))) + 1 by omega]; exact List.getElem?_cons_succ
theorem cset4 : (a :: l).set (x + (y + (z + (u + (k + 1))))) b = a :: l.set (x + (y + (z + (u + k)))) b := by rw [show x + (y + (z + (u + (k + 1)))) = (x + (y + (z + (u + k)))) + 1 by omega]; rfl
theorem cmod4 : (o :: h).modify (x + (y + (z + (u + (k + 1))))) AObj.freeze = o :: h.modify (x + (y + (z + (u + k)))) AObj.freeze := by rw [show x + (y + (z + (u + (k + 1)))) = (x + (y + (z + (u + k)))) + 1 by omega]; exact qen9
theorem cget5 : (a :: l)[x + (y + (z + (u + (w + (k + 1)))))]? = l[x + (y + (z + (u + (w + k))))]? := by rw [show x + (y + (z + (u + (w + (k + 1))))) = (x + (y + (z + (u + (w + k))))) + 1 by omega]; exact List.getElem?_cons_succ
theorem cset5 : (a :: l).set (x + (y + (z + (u + (w + (k + 1)))))) b = a :: l.set (x + (y + (z + (u + (w + k))))) b := by rw [show x + (y + (z + (u + (w + (k + 1))))) = (x + (y + (z + (u + (w + k))))) + 1 by omega]; rfl
theorem cmod5 : (o :: h).modify (x + (y + (z + (u + (w + (k + 1)))))) AObj.freeze = o :: h.modify (x + (y + (z + (u + (w + k))))) AObj.freeze := by rw [show x + (y + (z + (u + (w + (k + 1))))) = (x + (y + (z + (u + (w + k))))) + 1 by omega]; exact qen9
theorem cget6 : (a :: l)[x + (y + (z + (u + (w + (v + (k + 1))))))]? = l[x + (y + (z + (u + (w + (v + k)))))]? := by rw [show x + (y + (z + (u + (w + (v + (k + 1)))))) = (x + (y + (z + (u + (w + (v + k)))))) + 1 by omega]; exact List.getElem?_cons_succ
theorem cset6 : (a :: l).set (x + (y + (z + (u + (w + (v + (k + 1))))))) b = a :: l.set (x + (y + (z + (u + (w + (v + k)))))) b := by rw [show x + (y + (z + (u + (w + (v + (k + 1)))))) = (x + (y + (z + (u + (w + (v + k)))))) + 1 by omega]; rfl
theorem cmod6 : (o :: h).modify (x + (y + (z + (u + (w + (v + (k + 1))))))) AObj.freeze = o :: h.modify (x + (y + (z + (u + (w + (v + k)))))) AObj.freeze := by rw [show x + (y + (z + (u + (w + (v + (k + 1)))))) = (x + (y + (z + (u + (w + (v + k)))))) + 1 by omega]; exact qen9
theorem cget7 : (a :: l)[x + (y + (z + (u + (w + (v + (q + (k + 1)))))))]? = l[x + (y + (z + (u + (w + (v + (q + k))))))]? := by rw [show x + (y + (z + (u + (w + (v + (q + (k + 1))))))) = (x + (y + (z + (u + (w + (v + (q + k))))))) + 1 by omega]; exact List.getElem?_cons_succ
theorem cset7 : (a :: l).set (x + (y + (z + (u + (w + (v + (q + (k + 1)))))))) b = a :: l.set (x + (y + (z + (u + (w + (v + (q + k))))))) b := by rw [show x + (y + (z + (u + (w + (v + (q + (k + 1))))))) = (x + (y + (z + (u + (w + (v + (q + k))))))) + 1 by omega]; rfl
theorem cmod7 : (o :: h).modify (x + (y + (z + (u + (w + (v + (q + (k + 1)))))))) AObj.freeze = o :: h.modify (x + (y + (z + (u + (w + (v + (q + k))))))) AObj.freeze := by rw [show x + (y + (z + (u + (w + (v + (q + (k + 1))))))) = (x + (y + (z + (u + (w + (v + (q + k))))))) + 1 by omega]; exact qen9
end
attribute [go_sem_proc] Nat.reduceDiv Nat.reduceMod Int.reduceToNat Nat.reduceAdd Nat.reduceLT Nat.reduceMul Nat.reducePow reduceCtorEq
attribute [go_sem] qM9 la1 la2 la3 la4 la5 la6
attribute [go_sem] qxQ9 qkp9 cget4 cset4 cmod4 cget5 cset5 cmod5 cget6 cset6 cmod6 cget7 cset7 cmod7
end Go.Abs

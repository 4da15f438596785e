import Derived.Test.YtigabemldjdlhaaDoorAbs23
set_option maxHeartbeats 400000
set_option linter.unusedVariables false
set_option linter.unusedSimpArgs false
/- Rules by which the machine is run. -/
namespace Go.Abs
open Go

section
variable {C : Cfg} {L : Oracle} {t : Hint} {nt : Nat} {W : List Nat} {ops : Array Oper} {env te : Env} {h : AHeap}

theorem ev_opsS_nil : opsS C L nt ops env [] te h = some (te, h) := rfl
theorem ev_opsS {o : Oper} {r : List Oper} : opsS C L nt ops env (o :: r) te h = match opT C L nt ops o env te h with
    | some (te', h') => opsS C L nt ops env r te' h'
    | none => none := by
  simp only [opsS]
  cases opT C L nt ops o env te h <;> rfl
theorem ev_opsD_nil {k : Nat} : opsD C L nt W ops env k [] te h = some (te, h) := rfl
open Classical in
/-- In a region whose order is drawn. -/
theorem ev_opsD {k : Nat} {o : Oper} {r : List Oper} : opsD C L nt W ops env k (o :: r) te h = match opS C L nt ops o env te h with
    | some (te', h') => if (W.contains k = true ∨ h' = h) ∧ (W.contains (k + 1000) = true → floatOk (get2 te env) o = true) then opsD C L nt W ops env (k + 1) r te' h' else none
    | none => none := by
  simp only [opsD]
  cases opS C L nt ops o env te h <;> rfl
theorem ev_opS {d : Tmp} {op : Op} {ty : TypeId} {pos : String} {af : Array Edge} : opS C L nt ops ⟨some d, op, ty, pos, af, none⟩ env te h = match aop C L (get2 te env) h ⟨some d, op, ty, pos, af, none⟩ with
    | some (r, h') => if d < nt then some ((d, r) :: te, h') else none
    | none => none := by
  simp only [opS, opV]
  cases aop C L (get2 te env) h ⟨some d, op, ty, pos, af, none⟩ with
  | none => rfl
  | some p => simp only [Option.bind_some, putT]; split <;> rfl
theorem ev_opS_none {op : Op} {ty : TypeId} {pos : String} {af : Array Edge} : opS C L nt ops ⟨none, op, ty, pos, af, none⟩ env te h = match aop C L (get2 te env) h ⟨none, op, ty, pos, af, none⟩ with
    | some (_, h') => some (te, h')
    | none => none := by
  simp only [opS, opV]
  cases aop C L (get2 te env) h ⟨none, op, ty, pos, af, none⟩ <;> rfl
/-- Under a guard. -/
theorem ev_opS_guard {d : Tmp} {op : Op} {ty : TypeId} {pos : String} {af : Array Edge} {j : Nat} {b : Bool} {g : Tmp} {b' : Bool} (hj : (ops[j]?).bind (·.dst) = some g) (hg : g < nt) (hb : get2 te env g = .d (.v (.bool b'))) :
    opS C L nt ops ⟨some d, op, ty, pos, af, some (j, b)⟩ env te h = match (if b' = b then aop C L (get2 te env) h ⟨some d, op, ty, pos, af, some (j, b)⟩ else some (undefP, h)) with
    | some (r, h') => if d < nt then some ((d, r) :: te, h') else none
    | none => none := by
  simp only [opS, opV, hj, if_pos hg, hb]
  cases (if b' = b then aop C L (get2 te env) h ⟨some d, op, ty, pos, af, some (j, b)⟩ else some (undefP, h)) with
  | none => rfl
  | some p => simp only [Option.bind_some, putT]; split <;> rfl
theorem ev_region {id : Nat} : sem C L t nt (.region id ops false) ⟨env, h⟩ = match coE t (lookC t.pre id) ⟨env, h⟩ with
    | some s => (match opsS C L nt ops s.env ops.toList [] s.h with
      | some (te, h') => (match coE t (lookC t.post id) ⟨Env.commit t.keep te s.env, h'⟩ with
        | some s => some (.normal, s)
        | none => none)
      | none => none)
    | none => none := by
  simp only [sem]
  cases coE t (lookC t.pre id) ⟨env, h⟩ with
  | none => rfl
  | some s =>
    simp only [Option.bind_some]
    cases opsS C L nt ops s.env ops.toList [] s.h with
    | none => rfl
    | some p =>
      simp only [Option.bind_some]
      cases coE t (lookC t.post id) ⟨Env.commit t.keep p.1 s.env, p.2⟩ <;> rfl
theorem ev_region_draw {id : Nat} : sem C L t nt (.region id ops true) ⟨env, h⟩ = match coE t (lookC t.pre id) ⟨env, h⟩ with
    | some s => (match opsD C L nt (t.wrs id) ops s.env 0 ops.toList [] s.h with
      | some (te, h') => (match coE t (lookC t.post id) ⟨Env.commit t.keep te s.env, h'⟩ with
        | some s => some (.normal, s)
        | none => none)
      | none => none)
    | none => none := by
  simp only [sem]
  cases coE t (lookC t.pre id) ⟨env, h⟩ with
  | none => rfl
  | some s =>
    simp only [Option.bind_some]
    cases opsD C L nt (t.wrs id) ops s.env 0 ops.toList [] s.h with
    | none => rfl
    | some p =>
      simp only [Option.bind_some]
      cases coE t (lookC t.post id) ⟨Env.commit t.keep p.1 s.env, p.2⟩ <;> rfl
theorem ev_co_nil {s : St} : coE t [] s = some s := rfl
theorem ev_co {i k : Nat} {r : List (Nat × Nat)} : coE t ((i, k) :: r) ⟨env, h⟩ = if t.keep.testBit i = true then (match coV h k (env.get i) with
    | some p => coE t r ⟨env.set i p.1, p.2⟩
    | none => none) else none := rfl
theorem ev_seq {a b : Code} : sem C L t nt (.seq a b) ⟨env, h⟩ = match sem C L t nt a ⟨env, h⟩ with
    | some (.normal, s') => sem C L t nt b s'
    | r => r := rfl
theorem ev_cond {c : Operand} {a b : Code} : sem C L t nt (.cond c a b) ⟨env, h⟩ = match evO env.get c with
    | .d (.v (.bool true)) => sem C L t nt a (condSt t c ⟨env, h⟩)
    | .d (.v (.bool false)) => sem C L t nt b (condSt t c ⟨env, h⟩)
    | _ => none := rfl
theorem ev_block {id : Nat} {c : Code} : sem C L t nt (.block id c) ⟨env, h⟩ = match sem C L t nt c ⟨env, h⟩ with
    | some (.normal, s') => some (.normal, ⟨Env.del (t.drop id) s'.env, s'.h⟩)
    | some (.exit j, s') => if j = id then some (.normal, ⟨Env.del (t.drop id) s'.env, s'.h⟩) else some (.exit j, s')
    | r => r := rfl
theorem ev_loop {c : Code} : sem C L t nt (.loop c) ⟨env, h⟩ = loopLim (sem C L t nt c) ⟨env, h⟩ := rfl
theorem ev_exit {id : Nat} : sem C L t nt (.exit id) ⟨env, h⟩ = some (.exit id, ⟨env, h⟩) := rfl
theorem ev_skip : sem C L t nt .skip ⟨env, h⟩ = some (.normal, ⟨env, h⟩) := rfl
theorem ev_ret : sem C L t nt .ret ⟨env, h⟩ = some (.ret, ⟨env, h⟩) := rfl
theorem ev_condSt {i : Nat} : condSt t (.tmp i) ⟨env, h⟩ = if i < t.loc then ⟨env, h⟩ else ⟨Env.del (2 ^ i) env, h⟩ := rfl
theorem ev_runF {f : FuncId} {args : List PV} {fn : Func} {code : Code} (hf : C.P.funcs[f]? = some fn) (hb : fn.body = some code) : runF C L f args h = match sem C L (C.hint f) (args.length + (fn.ntmps - args.length)) code ⟨callEnv (C.hint f).keep 0 args, h⟩ with
    | some (.normal, s) => (mapO (resP C.P s) fn.results.toList).map fun vs => (resOf vs, s.h)
    | some (.ret, s) => (mapO (resP C.P s) fn.results.toList).map fun vs => (resOf vs, s.h)
    | _ => none := by
  simp only [runF, hf, hb]
  generalize sem C L (C.hint f) (args.length + (fn.ntmps - args.length)) code ⟨callEnv (C.hint f).keep 0 args, h⟩ = z
  cases z with
  | none => rfl
  | some p => obtain ⟨e, s⟩ := p; cases e <;> rfl
/-- A loop's round that goes on. -/
theorem ev_next {step : St → Option (AExit × St)} {s s' : St} {r : Option (AExit × St)} (h : step s = some (.normal, s')) (h' : loopLim step s' = r) : loopLim step s = r := by
  rw [loopLim_eq, h]; exact h'
theorem ev_leave {step : St → Option (AExit × St)} {s s' : St} {e : AExit} (h : step s = some (e, s')) (he : e ≠ .normal) : loopLim step s = some (e, s') := by
  rw [loopLim_eq, h]
  cases e <;> first | exact absurd rfl he | rfl
end
end Go.Abs
namespace Go.Abs
open Go
section
variable {C : Cfg} {L : Oracle} {h : AHeap}
theorem ev_len {t : TypeId} {ty : TypeId} {fv x : PV} : opCall C L h (.builtin .len) fv #[t] ty [x] = match C.P.underlying t with
    | some (.slice _) => (match lenP x with
      | some n => some (.d (.v (.int .i64 n)), h)
      | none => builtinP C h .len #[t] ty [x])
    | _ => builtinP C h .len #[t] ty [x] := by
  have e : (#[t][0]?).bind C.P.underlying = C.P.underlying t := rfl
  simp only [opCall]
  split
  · rename_i e' hu
    split
    · rename_i n hl
      simp only [builtinP, hl, e, hu]
    · rfl
  · rfl

/-- Rows of data. -/
def rowD {α : Type} (f : α → List D) (l : List α) : PV := .d (.rd (l.map f))
theorem lenP_rowD {α : Type} (f : α → List D) (l : List α) : lenP (rowD f l) = some l.length := by simp [rowD, lenP]
def int (n : Int) : PV := .d (.v (.int .i64 n))
def bool (b : Bool) : PV := .d (.v (.bool b))
theorem ev_index {α : Type} {f : α → List D} {l : List α} {t e : TypeId} {sz : Nat} {i : Nat} {a : α} (hu : C.P.underlying t = some (.slice e)) (hs : sizeT C.P e = some sz) (h0 : 0 < sz) (hi : l[i]? = some a) (hf : (f a).length = sz) :
    opIndexAddr C.P h t (rowD f l) (.d (.v (.int .i64 i))) = some (.d (.bx (f a)), h) := by
  have hlt := (List.getElem?_eq_some_iff.1 hi).1
  have : (i : Int) < (l.length : Int) := by omega
  have hget : l[i] = a := by rw [List.getElem?_eq_getElem hlt] at hi; exact Option.some.inj hi
  simp [opIndexAddr, asInt', hu, hs, lenP, h0, hlt, rowD, elemAt, elemOk, hget, hf]

section
variable {P : Program} {t : TypeId} {x y : Operand} {k : IntKind} {a b : Int}
theorem bin_of {op : BinOp} {X Y : PV} {u v w : Value} (hn : nilCmp P op t X Y = none) (hX : toV X = some u) (hY : toV Y = some v) (hp : pev P (do eqGuard op t x y u v; binOp op t u v) = some w) : opBin P h op t x y X Y = some (.d (.v w), h) := by
  simp [opBin, hn, hX, hY, hp]
theorem nilCmp_v {op : BinOp} {u v : Value} : nilCmp P op t (.d (.v u)) (.d (.v v)) = none := by
  have h1 : ∀ z : Value, notNil P t (.d (.v z)) = false := by intro z; simp [notNil]
  simp [nilCmp, h1]
theorem ev_lss : opBin P h .lss t x y (.d (.v (.int k a))) (.d (.v (.int k b))) = some (.d (.v (.bool (decide (a < b)))), h) := bin_of nilCmp_v rfl rfl (by simp [eqGuard, binOp, Op.intCmp]; rfl)
theorem ev_leq : opBin P h .leq t x y (.d (.v (.int k a))) (.d (.v (.int k b))) = some (.d (.v (.bool (decide (a ≤ b)))), h) := bin_of nilCmp_v rfl rfl (by simp [eqGuard, binOp, Op.intCmp]; rfl)
theorem ev_gtr : opBin P h .gtr t x y (.d (.v (.int k a))) (.d (.v (.int k b))) = some (.d (.v (.bool (decide (b < a)))), h) := bin_of nilCmp_v rfl rfl (by simp [eqGuard, binOp, Op.intCmp]; rfl)
theorem ev_geq : opBin P h .geq t x y (.d (.v (.int k a))) (.d (.v (.int k b))) = some (.d (.v (.bool (decide (b ≤ a)))), h) := bin_of nilCmp_v rfl rfl (by simp [eqGuard, binOp, Op.intCmp]; rfl)
theorem ev_eql : opBin P h .eql t x y (.d (.v (.int k a))) (.d (.v (.int k b))) = some (.d (.v (.bool (decide (a = b)))), h) := bin_of nilCmp_v rfl rfl (by simp [eqGuard, binOp, Op.intCmp]; rfl)
theorem ev_neq : opBin P h .neq t x y (.d (.v (.int k a))) (.d (.v (.int k b))) = some (.d (.v (.bool (decide (a ≠ b)))), h) := bin_of nilCmp_v rfl rfl (by simp [eqGuard, binOp, Op.intCmp]; rfl)
theorem ev_add : opBin P h .add t x y (.d (.v (.int k a))) (.d (.v (.int k b))) = some (.d (.v (.int k (k.wrap (a + b)))), h) := bin_of nilCmp_v rfl rfl (by simp [eqGuard, binOp, Op.intArith]; rfl)
theorem ev_sub : opBin P h .sub t x y (.d (.v (.int k a))) (.d (.v (.int k b))) = some (.d (.v (.int k (k.wrap (a - b)))), h) := bin_of nilCmp_v rfl rfl (by simp [eqGuard, binOp, Op.intArith]; rfl)
theorem ev_mul : opBin P h .mul t x y (.d (.v (.int k a))) (.d (.v (.int k b))) = some (.d (.v (.int k (k.wrap (a * b)))), h) := bin_of nilCmp_v rfl rfl (by simp [eqGuard, binOp, Op.intArith]; rfl)
theorem ev_not {b : Bool} : opUn P h .not (.d (.v (.bool b))) = some (.d (.v (.bool (!b))), h) := by simp [opUn, toV, Op.unary]; rfl
end
end
end Go.Abs

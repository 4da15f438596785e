import Derived.Test.YtfjgfcnhklopdaaDoorAbs23
set_option maxHeartbeats 400000
set_option linter.unusedVariables false
set_option linter.unusedSimpArgs false
namespace Go.Abs
open Go

section
variable {C : Cfg} {L : Oracle} {t : Hint} {nt : Nat} {W : List Nat} {ops : Array Oper} {env te : Env} {h : AHeap}

theorem qxC9 {f : FuncId} {args : List PV} {fn : Func} {code : Code} (hf : C.P.funcs[f]? = some fn) (hb : fn.body = some code) : runF C L f args h = match semT C L (C.hint f) (args.length + (fn.ntmps - args.length)) code ⟨qM9 (C.hint f).keep 0 args, h⟩ with
    | some (.normal, s) => (mapO (resP C.P s) fn.results.toList).map fun vs => (resOf vs, s.h)
    | some (.ret, s) => (mapO (resP C.P s) fn.results.toList).map fun vs => (resOf vs, s.h)
    | _ => none := by
  simp only [runF, hf, hb]
  generalize semT C L (C.hint f) (args.length + (fn.ntmps - args.length)) code ⟨qM9 (C.hint f).keep 0 args, h⟩ = z
  cases z with
  | none => rfl
  | some p => obtain ⟨e, s⟩ := p; cases e <;> rfl
theorem qmo9 {step : St → Option (AExit × St)} {s s' : St} {r : Option (AExit × St)} (h : step s = some (.normal, s')) (h' : qbv9 step s' = r) : qbv9 step s = r := by
  rw [qlN9, h]; exact h'
theorem qlb9 {step : St → Option (AExit × St)} {s s' : St} {e : AExit} (h : step s = some (e, s')) (he : e ≠ .normal) : qbv9 step s = some (e, s') := by
  rw [qlN9, h]
  cases e <;> first | exact absurd rfl he | rfl
end
end Go.Abs
namespace Go.Abs
open Go
section
variable {C : Cfg} {L : Oracle} {h : AHeap}
theorem qyI9 {t : TypeId} {ty : TypeId} {fv x : PV} : qdk9 C L h (.builtin .len) fv #[t] ty [x] = match C.P.underlying t with
    | some (.slice _) => (match lenP x with
      | some n => some (.d (.v (.int .i64 n)), h)
      | none => qcp9 C h .len #[t] ty [x])
    | _ => qcp9 C h .len #[t] ty [x] := by
  have e : (#[t][0]?).bind C.P.underlying = C.P.underlying t := rfl
  simp only [qdk9]
  split
  · rename_i e' hu
    split
    · rename_i n hl
      simp only [qcp9, hl, e, hu]
    · rfl
  · rfl

def rowD {α : Type} (f : α → List D) (l : List α) : PV := .d (.rd (l.map f))
def int (n : Int) : PV := .d (.v (.int .i64 n))
def bool (b : Bool) : PV := .d (.v (.bool b))

section
variable {P : Program} {t : TypeId} {x y : Operand} {k : IntKind} {a b : Int}
theorem qcf9 {op : BinOp} {X Y : PV} {u v w : Value} (hn : qfI9 P op t X Y = none) (hX : toV X = some u) (hY : toV Y = some v) (hp : pev P (do eqGuard op t x y u v; binOp op t u v) = some w) : opBin P h op t x y X Y = some (.d (.v w), h) := by
  simp [opBin, hn, hX, hY, hp]
theorem qbn9 {op : BinOp} {u v : Value} : qfI9 P op t (.d (.v u)) (.d (.v v)) = none := by
  have h1 : ∀ z : Value, qiR9 P t (.d (.v z)) = false := by intro z; simp [qiR9]
  simp [qfI9, h1]
theorem qzo9 : opBin P h .lss t x y (.d (.v (.int k a))) (.d (.v (.int k b))) = some (.d (.v (.bool (decide (a < b)))), h) := qcf9 qbn9 rfl rfl (by simp [eqGuard, binOp, Op.intCmp]; rfl)
theorem qzC9 : opBin P h .leq t x y (.d (.v (.int k a))) (.d (.v (.int k b))) = some (.d (.v (.bool (decide (a ≤ b)))), h) := qcf9 qbn9 rfl rfl (by simp [eqGuard, binOp, Op.intCmp]; rfl)
theorem qzE9 : opBin P h .gtr t x y (.d (.v (.int k a))) (.d (.v (.int k b))) = some (.d (.v (.bool (decide (b < a)))), h) := qcf9 qbn9 rfl rfl (by simp [eqGuard, binOp, Op.intCmp]; rfl)
theorem qzv9 : opBin P h .geq t x y (.d (.v (.int k a))) (.d (.v (.int k b))) = some (.d (.v (.bool (decide (b ≤ a)))), h) := qcf9 qbn9 rfl rfl (by simp [eqGuard, binOp, Op.intCmp]; rfl)
theorem qyR9 : opBin P h .eql t x y (.d (.v (.int k a))) (.d (.v (.int k b))) = some (.d (.v (.bool (decide (a = b)))), h) := qcf9 qbn9 rfl rfl (by simp [eqGuard, binOp, Op.intCmp]; rfl)
theorem qyH9 : opBin P h .neq t x y (.d (.v (.int k a))) (.d (.v (.int k b))) = some (.d (.v (.bool (decide (a ≠ b)))), h) := qcf9 qbn9 rfl rfl (by simp [eqGuard, binOp, Op.intCmp]; rfl)
theorem qzs9 : opBin P h .add t x y (.d (.v (.int k a))) (.d (.v (.int k b))) = some (.d (.v (.int k (k.wrap (a + b)))), h) := qcf9 qbn9 rfl rfl (by simp [eqGuard, binOp, Op.intArith]; rfl)
theorem qyJ9 : opBin P h .sub t x y (.d (.v (.int k a))) (.d (.v (.int k b))) = some (.d (.v (.int k (k.wrap (a - b)))), h) := qcf9 qbn9 rfl rfl (by simp [eqGuard, binOp, Op.intArith]; rfl)
theorem qzh9 : opBin P h .mul t x y (.d (.v (.int k a))) (.d (.v (.int k b))) = some (.d (.v (.int k (k.wrap (a * b)))), h) := qcf9 qbn9 rfl rfl (by simp [eqGuard, binOp, Op.intArith]; rfl)
theorem qze9 {b : Bool} : opUn P h .not (.d (.v (.bool b))) = some (.d (.v (.bool (!b))), h) := by simp [opUn, toV, Op.unary]; rfl
end
end
end Go.Abs

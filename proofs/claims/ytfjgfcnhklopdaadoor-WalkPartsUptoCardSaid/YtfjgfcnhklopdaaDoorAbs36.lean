import Derived.Test.YtfjgfcnhklopdaaDoorAbs35
set_option maxHeartbeats 400000
set_option linter.unusedVariables false
set_option linter.unusedSimpArgs false
namespace Go.Abs
open Go
variable {C : Cfg} {L : Oracle} {get : Nat → PV} {h : AHeap}
theorem qqN9 {ts : Array TypeId} {ty : TypeId} {k : IntKind} {a b : Int} : qcp9 C h .max ts ty [.d (.v (.int k a)), .d (.v (.int k b))] = some (.d (.v (.int k (max a b))), h) := by
  have e : (if b > a then b else a) = max a b := by split <;> omega
  have : pev C.P (Builtin.max_ ts ty #[.int k a, .int k b]) = some (.int k (if b > a then b else a)) := rfl
  simp only [qcp9, mapO, toV, Option.bind_some]
  show (pev C.P (Builtin.max_ ts ty #[.int k a, .int k b])).map _ = _
  rw [this, e]; rfl
theorem qqx9 {ts : Array TypeId} {ty : TypeId} {k : IntKind} {a b : Int} : qcp9 C h .min ts ty [.d (.v (.int k a)), .d (.v (.int k b))] = some (.d (.v (.int k (min a b))), h) := by
  have e : (if b < a then b else a) = min a b := by split <;> omega
  have : pev C.P (Builtin.min_ ts ty #[.int k a, .int k b]) = some (.int k (if b < a then b else a)) := rfl
  simp only [qcp9, mapO, toV, Option.bind_some]
  show (pev C.P (Builtin.min_ ts ty #[.int k a, .int k b])).map _ = _
  rw [this, e]; rfl
theorem qxg9 {d : Option Nat} {x y : Operand} {ts : Array TypeId} {ty : TypeId} {p : String} {af} {g} : aop C L get h { dst := d, op := .call { callee := .builtin .max, args := #[x, y], argTypes := ts }, type := ty, pos := p, after := af, guard := g } = qcp9 C h .max ts ty [evO get x, evO get y] := rfl
theorem qya9 {d : Option Nat} {x y : Operand} {ts : Array TypeId} {ty : TypeId} {p : String} {af} {g} : aop C L get h { dst := d, op := .call { callee := .builtin .min, args := #[x, y], argTypes := ts }, type := ty, pos := p, after := af, guard := g } = qcp9 C h .min ts ty [evO get x, evO get y] := rfl
attribute [go_sem] qqN9 qqx9 qxg9 qya9
theorem quz9 {P : Program} {s : St} {a t n : Nat} {cs : List PV} (h1 : (P.underlying t).map qfJ9 = some true) (h2 : (P.info? t).map (·.size) = some n) (h3 : qbH9 s.h (s.env.get a) = some cs) (h4 : n ≤ cs.length) : resP P s (.cell a t) = some (.ag (cs.take n)) := by
  simp only [resP, loadP, h3, Option.bind_some, partP]
  cases hu : P.underlying t with
  | none => rw [hu] at h1; cases h1
  | some d =>
    cases hi : P.info? t with
    | none => rw [hi] at h2; cases h2
    | some i =>
      rw [hu] at h1; rw [hi] at h2
      simp only [Option.map_some, Option.some.injEq] at h1 h2
      simp only [h1, h2, if_true, Nat.zero_add, List.drop_zero]
      rw [if_pos h4]
end Go.Abs

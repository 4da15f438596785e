import Derived.Test.YtfjgfcnhklopdaaDoorAbs27
set_option maxHeartbeats 400000
set_option linter.unusedVariables false
set_option linter.unusedSimpArgs false
namespace Go.Abs
open Go
section
variable {P : Program} {h : AHeap} {t : TypeId} {x y : Operand}
theorem qwm9 {s : ByteArray} (hu : P.underlying t = some .string) : qiY9 P h t (.d (.v (.string s))) = some (.it h.length, h ++ [.siter s 0]) := by simp [qiY9, hu]
theorem qxd9 {a b : ByteArray} : opBin P h .eql t x y (.d (.v (.string a))) (.d (.v (.string b))) = some (.d (.v (.bool (decide (a = b)))), h) := qcf9 qbn9 rfl rfl (by
  have e : (a.toList == b.toList) = decide (a = b) := by
    rw [← Go.beq_toListBytes]
    exact Bool.eq_iff_iff.2 ((qlE9 a b).trans (decide_eq_true_iff).symm)
  simp [eqGuard, binOp, Op.stringOp, e]
  rfl)
theorem qyc9 {a b : ByteArray} : opBin P h .neq t x y (.d (.v (.string a))) (.d (.v (.string b))) = some (.d (.v (.bool (decide (a ≠ b)))), h) := qcf9 qbn9 rfl rfl (by
  have e : (a.toList == b.toList) = decide (a = b) := by
    rw [← Go.beq_toListBytes]
    exact Bool.eq_iff_iff.2 ((qlE9 a b).trans (decide_eq_true_iff).symm)
  simp [eqGuard, binOp, Op.stringOp, e]
  rfl)
theorem qxp9 {a b : ByteArray} (hs : ((a.size + b.size : Nat) : Int) ≤ 9223372036854775807) : opBin P h .add t x y (.d (.v (.string a))) (.d (.v (.string b))) = some (.d (.v (.string (a ++ b))), h) := qcf9 qbn9 rfl rfl (by
  have e : ¬ (((a.size + b.size : Nat) : Int) > IntKind.i64.max) := by simp only [IntKind.max_i64]; omega
  simp only [eqGuard, binOp, Op.stringOp, if_neg e]
  rfl)
theorem qvJ9 {s d : TypeId} {ds : TypeDesc} {k' : IntKind} {n : Int} (hs : P.underlying s = some ds) (hd : P.underlying d = some .string) : qht9 P h s d (.d (.v (.int k' n))) = some (.d (.v (.string (Utf8.encode n))), h) := by
  have e : pev P (convert s d (.int k' n)) = some (.string (Utf8.encode n)) := by
    simp only [convert, underlying, program, bind, pure, Sem.bind, pev, hs, hd]
    cases ds <;> rfl
  simp [qht9, toV, e]
theorem qyl9 {C : Cfg} {L : Oracle} {ty : TypeId} {fv : PV} {s : ByteArray} (hu : C.P.underlying t = some .string) : qdk9 C L h (.builtin .len) fv #[t] ty [.d (.v (.string s))] = some (.d (.v (.int .i64 s.size)), h) := by
  have e : pev C.P (Builtin.len_ #[t] ty #[.string s]) = some (.int .i64 s.size) := by
    simp only [Builtin.len_, underlying, program, bind, pure, Sem.bind, pev]
    show pev C.P (Sem.program _) = _
    simp only [pev, List.getElem_toArray, List.getElem_cons_zero, hu]
    rfl
  simp [qdk9, qcp9, lenP, toV, e]
end
end Go.Abs
namespace Go.Abs
open Go
section
variable {P : Program} {h : AHeap} {t : TypeId}
theorem sindex {s : ByteArray} {i : Nat} {k : IntKind} {b : UInt8} (hu : P.underlying t = some .string) (hb : s[i]? = some b) : qhY9 P h t (.d (.v (.string s))) (.d (.v (.int k (i : Int)))) = some (.d (.v (.int .u8 (b.toNat : Nat))), h) := by
  have e : pev P (Instr.index t (.string s) (.int k (i : Int))) = some (.int .u8 (b.toNat : Nat)) := by
    have h1 : (0 : Int) ≤ (i : Int) := by omega
    simp only [Instr.index, asIntOf, underlying, program, bind, pure, Sem.bind, pev, hu, if_pos h1, Int.toNat_natCast, hb]
  simp [qhY9, toV, e]
end
end Go.Abs

import Derived.Test.YtfjgfcnhklopdaaDoorAbs38
set_option maxHeartbeats 400000
set_option linter.unusedVariables false
set_option linter.unusedSimpArgs false
namespace Go.Abs
open Go Go.RowKit
def qzO9 (n : Nat) (b : Int) : List PV → AHeap → Option (PV × AHeap) := fun args h => match args with
  | [.im true [], .d (.v (.int .i64 k))] => if 0 ≤ k ∧ k * b ≤ 140737488355328 then some (.ref h.length 1 0 0, h ++ [.row false 1 n []]) else none
  | _ => none
def okTF (P : Program) (t : Hint) (N : FuncId) : Bool := match P.funcs[N]? with
  | some fn => (match fn.body with | some c => okT t c | none => false)
  | none => false
theorem qwM9 {α : Type} {f : α → List D} {n : Nat} (hf : ∀ a, (f a).length = n) {h : AHeap} {l : List α} {a b : IntKind} : cutF n h (.d (.rd (l.map f))) (some (.d (.v (.int a (l.length : Int))))) (.d (.v (.int b (l.length : Int)))) = some (.im true (rowP f l)) := by
  simp only [cutF, Option.bind_some, qbQ9, szOk, quM9 hf, List.length_map, and_self, if_true, rowP, List.map_map]
  rfl
def onceA (r : Option (AExit × St)) (k : St → Option (AExit × St)) : Option (AExit × St) := match r with
  | some (.normal, s') => k s'
  | r => r
theorem qoS9 {s : St} {k : St → Option (AExit × St)} : onceA (some (.normal, s)) k = k s := rfl
theorem quE9 {s : St} {k : St → Option (AExit × St)} : onceA (some (.ret, s)) k = some (.ret, s) := rfl
theorem qrX9 {s : St} {k : St → Option (AExit × St)} {i : Nat} : onceA (some (.exit i, s)) k = some (.exit i, s) := rfl
theorem qrp9 {α : Type} {f : α → List D} {l : List α} {h : AHeap} : mapO (mapO (rs h 37)) (rowP f l) = some (l.map f) := qjN9 (n := 36)
attribute [go_sem] qoS9 quE9 qrX9 qrp9 qkL9 qwM9
end Go.Abs

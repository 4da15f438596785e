import Derived.Test.YtmkohpkfeamjiaaAbs39
set_option maxHeartbeats 400000
set_option linter.unusedVariables false
set_option linter.unusedSimpArgs false
namespace Ld
open Go Go.Abs
structure Mono where
  Coef : List Int
  Exps : List Int
  deriving DecidableEq
def qa9 (x : Mono) : List D := [.rd (x.Coef.map qc9), .rd (x.Exps.map intD)]
def qiF9 (x : Mono) : Prop := (okL (okI .u32)) x.Coef ∧ (okL (okI .i64)) x.Exps
theorem qxi9 {h : AHeap} {l : List (Int)} {k : IntKind} {n : Int} : ixA h 1 (.d (.rd (l.map intD))) (.d (.v (.int k n))) = (idx l n).map fun a => .d (.bx (intD a)) := qit9 (f := intD) (fun _ => rfl)
theorem qxK9 {h : AHeap} {l : List (Int)} {i k : Int} {a b : IntKind} : cutA 1 h (.d (.rd (l.map intD))) (some (.d (.v (.int a i)))) (some (.d (.v (.int b k)))) = (cutL l i k).map fun l => .d (.rd (l.map intD)) := qgr9 (f := intD) (fun _ => rfl)
theorem qxM9 {h : AHeap} {l : List (Int)} {k : Int} {b : IntKind} : cutA 1 h (.d (.rd (l.map intD))) none (some (.d (.v (.int b k)))) = (cutL l 0 k).map fun l => .d (.rd (l.map intD)) := qfw9 (f := intD) (fun _ => rfl)
theorem qxN9 {h : AHeap} {l : List (Int)} {i : Int} {a : IntKind} : cutA 1 h (.d (.rd (l.map intD))) (some (.d (.v (.int a i)))) none = (cutL l i (l.length : Int)).map fun l => .d (.rd (l.map intD)) := qft9 (f := intD) (fun _ => rfl)
theorem qxu9 {l : List (Int)} : (rowP intD l).all (fun cs => cs.length == 1) = true := qgb9 (f := intD) (fun _ => rfl)
theorem qwX9 {a : Int} {l : List (Int)} {r : List (List PV)} : rowP intD l ++ ([.d (.v (.int .i64 a))] :: r) = rowP intD (l ++ [a]) ++ r := qfR9 (f := intD) (a := a) rfl
theorem qwF9 {a : Int} {l : List (Int)} {i : Nat} : (rowP intD l).set i [.d (.v (.int .i64 a))] = rowP intD (l.set i a) := qgA9 (f := intD) (a := a) rfl
theorem qxx9 {a : Int} {k : Int} {l : List (Int × (Int))} : putP (.int .i64 k) (.d (.v (.int .i64 a))) (mapP keyI intD l) = some (mapP keyI intD (mset l k a)) := qgn9 (f := intD) (v := a) rfl
theorem qxh9 {a : Int} {k : ByteArray} {l : List (ByteArray × (Int))} : putP (.string k) (.d (.v (.int .i64 a))) (mapP keyS intD l) = some (mapP keyS intD (mset l k a)) := qgC9 (f := intD) (v := a) rfl
theorem qxf9 {a : Int} {n : Nat} : List.replicate n [.d (.v (.int .i64 a))] = rowP intD (List.replicate n a) := qhs9 (f := intD) (a := a) rfl
theorem quV9 {h : AHeap} {l : List (Bool)} {k : IntKind} {n : Int} : ixA h 1 (.d (.rd (l.map boolD))) (.d (.v (.int k n))) = (idx l n).map fun a => .d (.bx (boolD a)) := qit9 (f := boolD) (fun _ => rfl)
theorem quS9 {h : AHeap} {l : List (Bool)} {i k : Int} {a b : IntKind} : cutA 1 h (.d (.rd (l.map boolD))) (some (.d (.v (.int a i)))) (some (.d (.v (.int b k)))) = (cutL l i k).map fun l => .d (.rd (l.map boolD)) := qgr9 (f := boolD) (fun _ => rfl)
theorem qwa9 {h : AHeap} {l : List (Bool)} {k : Int} {b : IntKind} : cutA 1 h (.d (.rd (l.map boolD))) none (some (.d (.v (.int b k)))) = (cutL l 0 k).map fun l => .d (.rd (l.map boolD)) := qfw9 (f := boolD) (fun _ => rfl)
theorem qvO9 {h : AHeap} {l : List (Bool)} {i : Int} {a : IntKind} : cutA 1 h (.d (.rd (l.map boolD))) (some (.d (.v (.int a i)))) none = (cutL l i (l.length : Int)).map fun l => .d (.rd (l.map boolD)) := qft9 (f := boolD) (fun _ => rfl)
theorem qvE9 {l : List (Bool)} : (rowP boolD l).all (fun cs => cs.length == 1) = true := qgb9 (f := boolD) (fun _ => rfl)
theorem qvx9 {a : Bool} {l : List (Bool)} {r : List (List PV)} : rowP boolD l ++ ([.d (.v (.bool a))] :: r) = rowP boolD (l ++ [a]) ++ r := qfR9 (f := boolD) (a := a) rfl
theorem qvj9 {a : Bool} {l : List (Bool)} {i : Nat} : (rowP boolD l).set i [.d (.v (.bool a))] = rowP boolD (l.set i a) := qgA9 (f := boolD) (a := a) rfl
theorem qvJ9 {a : Bool} {k : Int} {l : List (Int × (Bool))} : putP (.int .i64 k) (.d (.v (.bool a))) (mapP keyI boolD l) = some (mapP keyI boolD (mset l k a)) := qgn9 (f := boolD) (v := a) rfl
theorem qwr9 {a : Bool} {k : ByteArray} {l : List (ByteArray × (Bool))} : putP (.string k) (.d (.v (.bool a))) (mapP keyS boolD l) = some (mapP keyS boolD (mset l k a)) := qgC9 (f := boolD) (v := a) rfl
theorem qvd9 {a : Bool} {n : Nat} : List.replicate n [.d (.v (.bool a))] = rowP boolD (List.replicate n a) := qhs9 (f := boolD) (a := a) rfl
theorem qwG9 {h : AHeap} {l : List (ByteArray)} {k : IntKind} {n : Int} : ixA h 1 (.d (.rd (l.map strD))) (.d (.v (.int k n))) = (idx l n).map fun a => .d (.bx (strD a)) := qit9 (f := strD) (fun _ => rfl)
theorem qxA9 {h : AHeap} {l : List (ByteArray)} {i k : Int} {a b : IntKind} : cutA 1 h (.d (.rd (l.map strD))) (some (.d (.v (.int a i)))) (some (.d (.v (.int b k)))) = (cutL l i k).map fun l => .d (.rd (l.map strD)) := qgr9 (f := strD) (fun _ => rfl)
theorem qyg9 {h : AHeap} {l : List (ByteArray)} {k : Int} {b : IntKind} : cutA 1 h (.d (.rd (l.map strD))) none (some (.d (.v (.int b k)))) = (cutL l 0 k).map fun l => .d (.rd (l.map strD)) := qfw9 (f := strD) (fun _ => rfl)
theorem qyd9 {h : AHeap} {l : List (ByteArray)} {i : Int} {a : IntKind} : cutA 1 h (.d (.rd (l.map strD))) (some (.d (.v (.int a i)))) none = (cutL l i (l.length : Int)).map fun l => .d (.rd (l.map strD)) := qft9 (f := strD) (fun _ => rfl)
theorem qxJ9 {l : List (ByteArray)} : (rowP strD l).all (fun cs => cs.length == 1) = true := qgb9 (f := strD) (fun _ => rfl)
theorem qxa9 {a : ByteArray} {l : List (ByteArray)} {r : List (List PV)} : rowP strD l ++ ([.d (.v (.string a))] :: r) = rowP strD (l ++ [a]) ++ r := qfR9 (f := strD) (a := a) rfl
theorem qxI9 {a : ByteArray} {l : List (ByteArray)} {i : Nat} : (rowP strD l).set i [.d (.v (.string a))] = rowP strD (l.set i a) := qgA9 (f := strD) (a := a) rfl
theorem qyi9 {a : ByteArray} {k : Int} {l : List (Int × (ByteArray))} : putP (.int .i64 k) (.d (.v (.string a))) (mapP keyI strD l) = some (mapP keyI strD (mset l k a)) := qgn9 (f := strD) (v := a) rfl
theorem qyj9 {a : ByteArray} {k : ByteArray} {l : List (ByteArray × (ByteArray))} : putP (.string k) (.d (.v (.string a))) (mapP keyS strD l) = some (mapP keyS strD (mset l k a)) := qgC9 (f := strD) (v := a) rfl
theorem qxb9 {a : ByteArray} {n : Nat} : List.replicate n [.d (.v (.string a))] = rowP strD (List.replicate n a) := qhs9 (f := strD) (a := a) rfl
theorem qyX9 {h : AHeap} {l : List (D)} {k : IntKind} {n : Int} : ixA h 1 (.d (.rd (l.map ifD))) (.d (.v (.int k n))) = (idx l n).map fun a => .d (.bx (ifD a)) := qit9 (f := ifD) (fun _ => rfl)
theorem qyJ9 {h : AHeap} {l : List (D)} {i k : Int} {a b : IntKind} : cutA 1 h (.d (.rd (l.map ifD))) (some (.d (.v (.int a i)))) (some (.d (.v (.int b k)))) = (cutL l i k).map fun l => .d (.rd (l.map ifD)) := qgr9 (f := ifD) (fun _ => rfl)
theorem qzr9 {h : AHeap} {l : List (D)} {k : Int} {b : IntKind} : cutA 1 h (.d (.rd (l.map ifD))) none (some (.d (.v (.int b k)))) = (cutL l 0 k).map fun l => .d (.rd (l.map ifD)) := qfw9 (f := ifD) (fun _ => rfl)
theorem qyo9 {h : AHeap} {l : List (D)} {i : Int} {a : IntKind} : cutA 1 h (.d (.rd (l.map ifD))) (some (.d (.v (.int a i)))) none = (cutL l i (l.length : Int)).map fun l => .d (.rd (l.map ifD)) := qft9 (f := ifD) (fun _ => rfl)
theorem qyv9 {l : List (D)} : (rowP ifD l).all (fun cs => cs.length == 1) = true := qgb9 (f := ifD) (fun _ => rfl)
theorem qsL9 {h : AHeap} {l : List (Mono)} {k : IntKind} {n : Int} : ixA h 2 (.d (.rd (l.map qa9))) (.d (.v (.int k n))) = (idx l n).map fun a => .d (.bx (qa9 a)) := qit9 (f := qa9) (fun _ => rfl)
theorem qsB9 {h : AHeap} {l : List (Mono)} {i k : Int} {a b : IntKind} : cutA 2 h (.d (.rd (l.map qa9))) (some (.d (.v (.int a i)))) (some (.d (.v (.int b k)))) = (cutL l i k).map fun l => .d (.rd (l.map qa9)) := qgr9 (f := qa9) (fun _ => rfl)
theorem qrP9 {h : AHeap} {l : List (Mono)} {k : Int} {b : IntKind} : cutA 2 h (.d (.rd (l.map qa9))) none (some (.d (.v (.int b k)))) = (cutL l 0 k).map fun l => .d (.rd (l.map qa9)) := qfw9 (f := qa9) (fun _ => rfl)
theorem qsj9 {h : AHeap} {l : List (Mono)} {i : Int} {a : IntKind} : cutA 2 h (.d (.rd (l.map qa9))) (some (.d (.v (.int a i)))) none = (cutL l i (l.length : Int)).map fun l => .d (.rd (l.map qa9)) := qft9 (f := qa9) (fun _ => rfl)
theorem qsM9 {l : List (Mono)} : (rowP qa9 l).all (fun cs => cs.length == 2) = true := qgb9 (f := qa9) (fun _ => rfl)
theorem qsR9 {y0 : List Int} {y1 : List Int} {l : List (Mono)} {r : List (List PV)} : rowP qa9 l ++ ([.d (.rd (y0.map qc9)), .d (.rd (y1.map intD))] :: r) = rowP qa9 (l ++ [(Mono.mk y0 y1)]) ++ r := qfR9 (f := qa9) (a := (Mono.mk y0 y1)) rfl
theorem qrB9 {y0 : List Int} {y1 : List Int} {l : List (Mono)} {i : Nat} : (rowP qa9 l).set i [.d (.rd (y0.map qc9)), .d (.rd (y1.map intD))] = rowP qa9 (l.set i (Mono.mk y0 y1)) := qgA9 (f := qa9) (a := (Mono.mk y0 y1)) rfl
theorem qsn9 {y0 : List Int} {y1 : List Int} {k : Int} {l : List (Int × (Mono))} : putP (.int .i64 k) (.ag [.d (.rd (y0.map qc9)), .d (.rd (y1.map intD))]) (mapP keyI qa9 l) = some (mapP keyI qa9 (mset l k (Mono.mk y0 y1))) := qgn9 (f := qa9) (v := (Mono.mk y0 y1)) rfl
theorem qrZ9 {y0 : List Int} {y1 : List Int} {k : ByteArray} {l : List (ByteArray × (Mono))} : putP (.string k) (.ag [.d (.rd (y0.map qc9)), .d (.rd (y1.map intD))]) (mapP keyS qa9 l) = some (mapP keyS qa9 (mset l k (Mono.mk y0 y1))) := qgC9 (f := qa9) (v := (Mono.mk y0 y1)) rfl
theorem qsX9 {y0 : List Int} {y1 : List Int} {n : Nat} : List.replicate n [.d (.rd (y0.map qc9)), .d (.rd (y1.map intD))] = rowP qa9 (List.replicate n (Mono.mk y0 y1)) := qhs9 (f := qa9) (a := (Mono.mk y0 y1)) rfl
theorem qrO9 {h : AHeap} {l : List (Int)} {k : IntKind} {n : Int} : ixA h 1 (.d (.rd (l.map qc9))) (.d (.v (.int k n))) = (idx l n).map fun a => .d (.bx (qc9 a)) := qit9 (f := qc9) (fun _ => rfl)
theorem qsW9 {h : AHeap} {l : List (Int)} {i k : Int} {a b : IntKind} : cutA 1 h (.d (.rd (l.map qc9))) (some (.d (.v (.int a i)))) (some (.d (.v (.int b k)))) = (cutL l i k).map fun l => .d (.rd (l.map qc9)) := qgr9 (f := qc9) (fun _ => rfl)
theorem qrU9 {h : AHeap} {l : List (Int)} {k : Int} {b : IntKind} : cutA 1 h (.d (.rd (l.map qc9))) none (some (.d (.v (.int b k)))) = (cutL l 0 k).map fun l => .d (.rd (l.map qc9)) := qfw9 (f := qc9) (fun _ => rfl)
theorem qrC9 {h : AHeap} {l : List (Int)} {i : Int} {a : IntKind} : cutA 1 h (.d (.rd (l.map qc9))) (some (.d (.v (.int a i)))) none = (cutL l i (l.length : Int)).map fun l => .d (.rd (l.map qc9)) := qft9 (f := qc9) (fun _ => rfl)
theorem qsf9 {l : List (Int)} : (rowP qc9 l).all (fun cs => cs.length == 1) = true := qgb9 (f := qc9) (fun _ => rfl)
theorem qsZ9 {a : Int} {l : List (Int)} {r : List (List PV)} : rowP qc9 l ++ ([.d (.v (.int .u32 a))] :: r) = rowP qc9 (l ++ [a]) ++ r := qfR9 (f := qc9) (a := a) rfl
theorem qsr9 {a : Int} {l : List (Int)} {i : Nat} : (rowP qc9 l).set i [.d (.v (.int .u32 a))] = rowP qc9 (l.set i a) := qgA9 (f := qc9) (a := a) rfl
theorem qsY9 {a : Int} {k : Int} {l : List (Int × (Int))} : putP (.int .i64 k) (.d (.v (.int .u32 a))) (mapP keyI qc9 l) = some (mapP keyI qc9 (mset l k a)) := qgn9 (f := qc9) (v := a) rfl
theorem qsx9 {a : Int} {k : ByteArray} {l : List (ByteArray × (Int))} : putP (.string k) (.d (.v (.int .u32 a))) (mapP keyS qc9 l) = some (mapP keyS qc9 (mset l k a)) := qgC9 (f := qc9) (v := a) rfl
theorem qsP9 {a : Int} {n : Nat} : List.replicate n [.d (.v (.int .u32 a))] = rowP qc9 (List.replicate n a) := qhs9 (f := qc9) (a := a) rfl
theorem qui9 {h : AHeap} {l : List (Int)} {k : IntKind} {n : Int} : ixA h 1 (.d (.rd (l.map qbQ9))) (.d (.v (.int k n))) = (idx l n).map fun a => .d (.bx (qbQ9 a)) := qit9 (f := qbQ9) (fun _ => rfl)
theorem qux9 {h : AHeap} {l : List (Int)} {i k : Int} {a b : IntKind} : cutA 1 h (.d (.rd (l.map qbQ9))) (some (.d (.v (.int a i)))) (some (.d (.v (.int b k)))) = (cutL l i k).map fun l => .d (.rd (l.map qbQ9)) := qgr9 (f := qbQ9) (fun _ => rfl)
theorem qtD9 {h : AHeap} {l : List (Int)} {k : Int} {b : IntKind} : cutA 1 h (.d (.rd (l.map qbQ9))) none (some (.d (.v (.int b k)))) = (cutL l 0 k).map fun l => .d (.rd (l.map qbQ9)) := qfw9 (f := qbQ9) (fun _ => rfl)
theorem qtf9 {h : AHeap} {l : List (Int)} {i : Int} {a : IntKind} : cutA 1 h (.d (.rd (l.map qbQ9))) (some (.d (.v (.int a i)))) none = (cutL l i (l.length : Int)).map fun l => .d (.rd (l.map qbQ9)) := qft9 (f := qbQ9) (fun _ => rfl)
theorem quh9 {l : List (Int)} : (rowP qbQ9 l).all (fun cs => cs.length == 1) = true := qgb9 (f := qbQ9) (fun _ => rfl)
theorem qtJ9 {a : Int} {l : List (Int)} {r : List (List PV)} : rowP qbQ9 l ++ ([.d (.v (.int .u8 a))] :: r) = rowP qbQ9 (l ++ [a]) ++ r := qfR9 (f := qbQ9) (a := a) rfl
theorem qtY9 {a : Int} {l : List (Int)} {i : Nat} : (rowP qbQ9 l).set i [.d (.v (.int .u8 a))] = rowP qbQ9 (l.set i a) := qgA9 (f := qbQ9) (a := a) rfl
theorem qtX9 {a : Int} {k : Int} {l : List (Int × (Int))} : putP (.int .i64 k) (.d (.v (.int .u8 a))) (mapP keyI qbQ9 l) = some (mapP keyI qbQ9 (mset l k a)) := qgn9 (f := qbQ9) (v := a) rfl
theorem quJ9 {a : Int} {k : ByteArray} {l : List (ByteArray × (Int))} : putP (.string k) (.d (.v (.int .u8 a))) (mapP keyS qbQ9 l) = some (mapP keyS qbQ9 (mset l k a)) := qgC9 (f := qbQ9) (v := a) rfl
theorem qtl9 {a : Int} {n : Nat} : List.replicate n [.d (.v (.int .u8 a))] = rowP qbQ9 (List.replicate n a) := qhs9 (f := qbQ9) (a := a) rfl
theorem qyx9 {h : AHeap} {c : List D} : elems h (.d (.rd [c])) = some [c.map PV.d] := by simp [elems]
section
variable {α : Type} {f : α → List D} {h : AHeap}
theorem qzC9 {l : List (List α)} {k : IntKind} {n : Int} : ixA h 1 (.d (.rd (l.map (lsD f)))) (.d (.v (.int k n))) = (idx l n).map fun a => .d (.bx ((lsD f) a)) := qit9 (f := (lsD f)) (fun _ => rfl)
theorem qzD9 {l : List (List α)} {i k : Int} {a b : IntKind} : cutA 1 h (.d (.rd (l.map (lsD f)))) (some (.d (.v (.int a i)))) (some (.d (.v (.int b k)))) = (cutL l i k).map fun l => .d (.rd (l.map (lsD f))) := qgr9 (f := (lsD f)) (fun _ => rfl)
theorem qzJ9 {l : List (List α)} {k : Int} {b : IntKind} : cutA 1 h (.d (.rd (l.map (lsD f)))) none (some (.d (.v (.int b k)))) = (cutL l 0 k).map fun l => .d (.rd (l.map (lsD f))) := qfw9 (f := (lsD f)) (fun _ => rfl)
theorem qzF9 {l : List (List α)} {i : Int} {a : IntKind} : cutA 1 h (.d (.rd (l.map (lsD f)))) (some (.d (.v (.int a i)))) none = (cutL l i (l.length : Int)).map fun l => .d (.rd (l.map (lsD f))) := qft9 (f := (lsD f)) (fun _ => rfl)
theorem qzI9 {l : List (List α)} : (rowP (lsD f) l).all (fun cs => cs.length == 1) = true := qgb9 (f := (lsD f)) (fun _ => rfl)
theorem qzG9 {a : List α} {l : List (List α)} {r : List (List PV)} : rowP (lsD f) l ++ ([.d (.rd (a.map f))] :: r) = rowP (lsD f) (l ++ [a]) ++ r := qfR9 (f := (lsD f)) (a := a) rfl
theorem qzH9 {a : List α} {l : List (List α)} {i : Nat} : (rowP (lsD f) l).set i [.d (.rd (a.map f))] = rowP (lsD f) (l.set i a) := qgA9 (f := (lsD f)) (a := a) rfl
theorem qzE9 {a : List α} {k : Int} {l : List (Int × (List α))} : putP (.int .i64 k) (.d (.rd (a.map f))) (mapP keyI (lsD f) l) = some (mapP keyI (lsD f) (mset l k a)) := qgn9 (f := (lsD f)) (v := a) rfl
theorem ps_ls {a : List α} {k : ByteArray} {l : List (ByteArray × (List α))} : putP (.string k) (.d (.rd (a.map f))) (mapP keyS (lsD f) l) = some (mapP keyS (lsD f) (mset l k a)) := qgC9 (f := (lsD f)) (v := a) rfl
theorem qwO9 {l : List (List (List α))} {k : IntKind} {n : Int} : ixA h 1 (.d (.rd (l.map (lsD (lsD f))))) (.d (.v (.int k n))) = (idx l n).map fun a => .d (.bx ((lsD (lsD f)) a)) := qit9 (f := (lsD (lsD f))) (fun _ => rfl)
theorem qxE9 {l : List (List (List α))} {i k : Int} {a b : IntKind} : cutA 1 h (.d (.rd (l.map (lsD (lsD f))))) (some (.d (.v (.int a i)))) (some (.d (.v (.int b k)))) = (cutL l i k).map fun l => .d (.rd (l.map (lsD (lsD f)))) := qgr9 (f := (lsD (lsD f))) (fun _ => rfl)
theorem qxV9 {l : List (List (List α))} {k : Int} {b : IntKind} : cutA 1 h (.d (.rd (l.map (lsD (lsD f))))) none (some (.d (.v (.int b k)))) = (cutL l 0 k).map fun l => .d (.rd (l.map (lsD (lsD f)))) := qfw9 (f := (lsD (lsD f))) (fun _ => rfl)
theorem qxY9 {l : List (List (List α))} {i : Int} {a : IntKind} : cutA 1 h (.d (.rd (l.map (lsD (lsD f))))) (some (.d (.v (.int a i)))) none = (cutL l i (l.length : Int)).map fun l => .d (.rd (l.map (lsD (lsD f)))) := qft9 (f := (lsD (lsD f))) (fun _ => rfl)
theorem qwW9 {l : List (List (List α))} : (rowP (lsD (lsD f)) l).all (fun cs => cs.length == 1) = true := qgb9 (f := (lsD (lsD f))) (fun _ => rfl)
theorem qxn9 {a : List (List α)} {l : List (List (List α))} {r : List (List PV)} : rowP (lsD (lsD f)) l ++ ([.d (.rd (a.map (lsD f)))] :: r) = rowP (lsD (lsD f)) (l ++ [a]) ++ r := qfR9 (f := (lsD (lsD f))) (a := a) rfl
theorem qwT9 {a : List (List α)} {l : List (List (List α))} {i : Nat} : (rowP (lsD (lsD f)) l).set i [.d (.rd (a.map (lsD f)))] = rowP (lsD (lsD f)) (l.set i a) := qgA9 (f := (lsD (lsD f))) (a := a) rfl
theorem qwZ9 {a : List (List α)} {k : Int} {l : List (Int × (List (List α)))} : putP (.int .i64 k) (.d (.rd (a.map (lsD f)))) (mapP keyI (lsD (lsD f)) l) = some (mapP keyI (lsD (lsD f)) (mset l k a)) := qgn9 (f := (lsD (lsD f))) (v := a) rfl
theorem qxk9 {a : List (List α)} {k : ByteArray} {l : List (ByteArray × (List (List α)))} : putP (.string k) (.d (.rd (a.map (lsD f)))) (mapP keyS (lsD (lsD f)) l) = some (mapP keyS (lsD (lsD f)) (mset l k a)) := qgC9 (f := (lsD (lsD f))) (v := a) rfl
end
attribute [go_sem] qxi9 qxK9 qxM9 qxN9 qxu9 qwX9 qwF9 qxx9 qxh9 qxf9 quV9 quS9 qwa9 qvO9 qvE9 qvx9 qvj9 qvJ9 qwr9 qvd9 qwG9 qxA9 qyg9 qyd9 qxJ9 qxa9 qxI9 qyi9 qyj9 qxb9 qyX9 qyJ9 qzr9 qyo9 qyv9 qsL9 qsB9 qrP9 qsj9 qsM9 qsR9 qrB9 qsn9 qrZ9 qsX9 qrO9 qsW9 qrU9 qrC9 qsf9 qsZ9 qsr9 qsY9 qsx9 qsP9 qui9 qux9 qtD9 qtf9 quh9 qtJ9 qtY9 qtX9 quJ9 qtl9 qyx9 qzC9 qzD9 qzJ9 qzF9 qzI9 qzG9 qzH9 qzE9 ps_ls qwO9 qxE9 qxV9 qxY9 qwW9 qxn9 qwT9 qwZ9 qxk9 intD boolD strD ifD lsD ar2D ar3D bxD qa9 qc9 qbQ9
end Ld

import Derived.Test.YtmkohpkfeamjiaaAbs39
set_option maxHeartbeats 400000
set_option linter.unusedVariables false
set_option linter.unusedSimpArgs false
namespace Ld
open Go Go.Abs
structure Mono where
  Coef : List Int
  Exps : List Int
  deriving DecidableEq
def qa9 (x : Mono) : List D := [.rd (x.Coef.map qc9), .rd (x.Exps.map intD)]
def qgt9 (x : Mono) : Prop := (okL (okI .u32)) x.Coef ∧ (okL (okI .i64)) x.Exps
theorem qxc9 {h : AHeap} {l : List (Int)} {k : IntKind} {n : Int} : ixA h 1 (.d (.rd (l.map intD))) (.d (.v (.int k n))) = (idx l n).map fun a => .d (.bx (intD a)) := qip9 (f := intD) (fun _ => rfl)
theorem qxG9 {h : AHeap} {l : List (Int)} {i k : Int} {a b : IntKind} : cutA 1 h (.d (.rd (l.map intD))) (some (.d (.v (.int a i)))) (some (.d (.v (.int b k)))) = (cutL l i k).map fun l => .d (.rd (l.map intD)) := qgq9 (f := intD) (fun _ => rfl)
theorem qxI9 {h : AHeap} {l : List (Int)} {k : Int} {b : IntKind} : cutA 1 h (.d (.rd (l.map intD))) none (some (.d (.v (.int b k)))) = (cutL l 0 k).map fun l => .d (.rd (l.map intD)) := qfD9 (f := intD) (fun _ => rfl)
theorem qxK9 {h : AHeap} {l : List (Int)} {i : Int} {a : IntKind} : cutA 1 h (.d (.rd (l.map intD))) (some (.d (.v (.int a i)))) none = (cutL l i (l.length : Int)).map fun l => .d (.rd (l.map intD)) := qfB9 (f := intD) (fun _ => rfl)
theorem qxq9 {l : List (Int)} : (rowP intD l).all (fun cs => cs.length == 1) = true := qfZ9 (f := intD) (fun _ => rfl)
theorem qwP9 {a : Int} {l : List (Int)} {r : List (List PV)} : rowP intD l ++ ([.d (.v (.int .i64 a))] :: r) = rowP intD (l ++ [a]) ++ r := qfR9 (f := intD) (a := a) rfl
theorem qww9 {a : Int} {l : List (Int)} {i : Nat} : (rowP intD l).set i [.d (.v (.int .i64 a))] = rowP intD (l.set i a) := qgy9 (f := intD) (a := a) rfl
theorem qxt9 {a : Int} {k : Int} {l : List (Int × (Int))} : putP (.int .i64 k) (.d (.v (.int .i64 a))) (mapP keyI intD l) = some (mapP keyI intD (mset l k a)) := qgm9 (f := intD) (v := a) rfl
theorem qxb9 {a : Int} {k : ByteArray} {l : List (ByteArray × (Int))} : putP (.string k) (.d (.v (.int .i64 a))) (mapP keyS intD l) = some (mapP keyS intD (mset l k a)) := qgA9 (f := intD) (v := a) rfl
theorem qwZ9 {a : Int} {n : Nat} : List.replicate n [.d (.v (.int .i64 a))] = rowP intD (List.replicate n a) := qho9 (f := intD) (a := a) rfl
theorem quI9 {h : AHeap} {l : List (Bool)} {k : IntKind} {n : Int} : ixA h 1 (.d (.rd (l.map boolD))) (.d (.v (.int k n))) = (idx l n).map fun a => .d (.bx (boolD a)) := qip9 (f := boolD) (fun _ => rfl)
theorem quF9 {h : AHeap} {l : List (Bool)} {i k : Int} {a b : IntKind} : cutA 1 h (.d (.rd (l.map boolD))) (some (.d (.v (.int a i)))) (some (.d (.v (.int b k)))) = (cutL l i k).map fun l => .d (.rd (l.map boolD)) := qgq9 (f := boolD) (fun _ => rfl)
theorem qvO9 {h : AHeap} {l : List (Bool)} {k : Int} {b : IntKind} : cutA 1 h (.d (.rd (l.map boolD))) none (some (.d (.v (.int b k)))) = (cutL l 0 k).map fun l => .d (.rd (l.map boolD)) := qfD9 (f := boolD) (fun _ => rfl)
theorem qvC9 {h : AHeap} {l : List (Bool)} {i : Int} {a : IntKind} : cutA 1 h (.d (.rd (l.map boolD))) (some (.d (.v (.int a i)))) none = (cutL l i (l.length : Int)).map fun l => .d (.rd (l.map boolD)) := qfB9 (f := boolD) (fun _ => rfl)
theorem qvr9 {l : List (Bool)} : (rowP boolD l).all (fun cs => cs.length == 1) = true := qfZ9 (f := boolD) (fun _ => rfl)
theorem qvk9 {a : Bool} {l : List (Bool)} {r : List (List PV)} : rowP boolD l ++ ([.d (.v (.bool a))] :: r) = rowP boolD (l ++ [a]) ++ r := qfR9 (f := boolD) (a := a) rfl
theorem quW9 {a : Bool} {l : List (Bool)} {i : Nat} : (rowP boolD l).set i [.d (.v (.bool a))] = rowP boolD (l.set i a) := qgy9 (f := boolD) (a := a) rfl
theorem qvx9 {a : Bool} {k : Int} {l : List (Int × (Bool))} : putP (.int .i64 k) (.d (.v (.bool a))) (mapP keyI boolD l) = some (mapP keyI boolD (mset l k a)) := qgm9 (f := boolD) (v := a) rfl
theorem qwi9 {a : Bool} {k : ByteArray} {l : List (ByteArray × (Bool))} : putP (.string k) (.d (.v (.bool a))) (mapP keyS boolD l) = some (mapP keyS boolD (mset l k a)) := qgA9 (f := boolD) (v := a) rfl
theorem quQ9 {a : Bool} {n : Nat} : List.replicate n [.d (.v (.bool a))] = rowP boolD (List.replicate n a) := qho9 (f := boolD) (a := a) rfl
theorem qwx9 {h : AHeap} {l : List (ByteArray)} {k : IntKind} {n : Int} : ixA h 1 (.d (.rd (l.map strD))) (.d (.v (.int k n))) = (idx l n).map fun a => .d (.bx (strD a)) := qip9 (f := strD) (fun _ => rfl)
theorem qxw9 {h : AHeap} {l : List (ByteArray)} {i k : Int} {a b : IntKind} : cutA 1 h (.d (.rd (l.map strD))) (some (.d (.v (.int a i)))) (some (.d (.v (.int b k)))) = (cutL l i k).map fun l => .d (.rd (l.map strD)) := qgq9 (f := strD) (fun _ => rfl)
theorem qyd9 {h : AHeap} {l : List (ByteArray)} {k : Int} {b : IntKind} : cutA 1 h (.d (.rd (l.map strD))) none (some (.d (.v (.int b k)))) = (cutL l 0 k).map fun l => .d (.rd (l.map strD)) := qfD9 (f := strD) (fun _ => rfl)
theorem qya9 {h : AHeap} {l : List (ByteArray)} {i : Int} {a : IntKind} : cutA 1 h (.d (.rd (l.map strD))) (some (.d (.v (.int a i)))) none = (cutL l i (l.length : Int)).map fun l => .d (.rd (l.map strD)) := qfB9 (f := strD) (fun _ => rfl)
theorem qxF9 {l : List (ByteArray)} : (rowP strD l).all (fun cs => cs.length == 1) = true := qfZ9 (f := strD) (fun _ => rfl)
theorem qwU9 {a : ByteArray} {l : List (ByteArray)} {r : List (List PV)} : rowP strD l ++ ([.d (.v (.string a))] :: r) = rowP strD (l ++ [a]) ++ r := qfR9 (f := strD) (a := a) rfl
theorem qxE9 {a : ByteArray} {l : List (ByteArray)} {i : Nat} : (rowP strD l).set i [.d (.v (.string a))] = rowP strD (l.set i a) := qgy9 (f := strD) (a := a) rfl
theorem qyf9 {a : ByteArray} {k : Int} {l : List (Int × (ByteArray))} : putP (.int .i64 k) (.d (.v (.string a))) (mapP keyI strD l) = some (mapP keyI strD (mset l k a)) := qgm9 (f := strD) (v := a) rfl
theorem qyg9 {a : ByteArray} {k : ByteArray} {l : List (ByteArray × (ByteArray))} : putP (.string k) (.d (.v (.string a))) (mapP keyS strD l) = some (mapP keyS strD (mset l k a)) := qgA9 (f := strD) (v := a) rfl
theorem qwV9 {a : ByteArray} {n : Nat} : List.replicate n [.d (.v (.string a))] = rowP strD (List.replicate n a) := qho9 (f := strD) (a := a) rfl
theorem qyU9 {h : AHeap} {l : List (D)} {k : IntKind} {n : Int} : ixA h 1 (.d (.rd (l.map ifD))) (.d (.v (.int k n))) = (idx l n).map fun a => .d (.bx (ifD a)) := qip9 (f := ifD) (fun _ => rfl)
theorem qyG9 {h : AHeap} {l : List (D)} {i k : Int} {a b : IntKind} : cutA 1 h (.d (.rd (l.map ifD))) (some (.d (.v (.int a i)))) (some (.d (.v (.int b k)))) = (cutL l i k).map fun l => .d (.rd (l.map ifD)) := qgq9 (f := ifD) (fun _ => rfl)
theorem qzp9 {h : AHeap} {l : List (D)} {k : Int} {b : IntKind} : cutA 1 h (.d (.rd (l.map ifD))) none (some (.d (.v (.int b k)))) = (cutL l 0 k).map fun l => .d (.rd (l.map ifD)) := qfD9 (f := ifD) (fun _ => rfl)
theorem qyl9 {h : AHeap} {l : List (D)} {i : Int} {a : IntKind} : cutA 1 h (.d (.rd (l.map ifD))) (some (.d (.v (.int a i)))) none = (cutL l i (l.length : Int)).map fun l => .d (.rd (l.map ifD)) := qfB9 (f := ifD) (fun _ => rfl)
theorem qys9 {l : List (D)} : (rowP ifD l).all (fun cs => cs.length == 1) = true := qfZ9 (f := ifD) (fun _ => rfl)
theorem qsz9 {h : AHeap} {l : List (Mono)} {k : IntKind} {n : Int} : ixA h 2 (.d (.rd (l.map qa9))) (.d (.v (.int k n))) = (idx l n).map fun a => .d (.bx (qa9 a)) := qip9 (f := qa9) (fun _ => rfl)
theorem qsq9 {h : AHeap} {l : List (Mono)} {i k : Int} {a b : IntKind} : cutA 2 h (.d (.rd (l.map qa9))) (some (.d (.v (.int a i)))) (some (.d (.v (.int b k)))) = (cutL l i k).map fun l => .d (.rd (l.map qa9)) := qgq9 (f := qa9) (fun _ => rfl)
theorem qrC9 {h : AHeap} {l : List (Mono)} {k : Int} {b : IntKind} : cutA 2 h (.d (.rd (l.map qa9))) none (some (.d (.v (.int b k)))) = (cutL l 0 k).map fun l => .d (.rd (l.map qa9)) := qfD9 (f := qa9) (fun _ => rfl)
theorem qrV9 {h : AHeap} {l : List (Mono)} {i : Int} {a : IntKind} : cutA 2 h (.d (.rd (l.map qa9))) (some (.d (.v (.int a i)))) none = (cutL l i (l.length : Int)).map fun l => .d (.rd (l.map qa9)) := qfB9 (f := qa9) (fun _ => rfl)
theorem qsA9 {l : List (Mono)} : (rowP qa9 l).all (fun cs => cs.length == 2) = true := qfZ9 (f := qa9) (fun _ => rfl)
theorem qsF9 {y0 : List Int} {y1 : List Int} {l : List (Mono)} {r : List (List PV)} : rowP qa9 l ++ ([.d (.rd (y0.map qc9)), .d (.rd (y1.map intD))] :: r) = rowP qa9 (l ++ [(Mono.mk y0 y1)]) ++ r := qfR9 (f := qa9) (a := (Mono.mk y0 y1)) rfl
theorem qro9 {y0 : List Int} {y1 : List Int} {l : List (Mono)} {i : Nat} : (rowP qa9 l).set i [.d (.rd (y0.map qc9)), .d (.rd (y1.map intD))] = rowP qa9 (l.set i (Mono.mk y0 y1)) := qgy9 (f := qa9) (a := (Mono.mk y0 y1)) rfl
theorem qrZ9 {y0 : List Int} {y1 : List Int} {k : Int} {l : List (Int × (Mono))} : putP (.int .i64 k) (.ag [.d (.rd (y0.map qc9)), .d (.rd (y1.map intD))]) (mapP keyI qa9 l) = some (mapP keyI qa9 (mset l k (Mono.mk y0 y1))) := qgm9 (f := qa9) (v := (Mono.mk y0 y1)) rfl
theorem qrL9 {y0 : List Int} {y1 : List Int} {k : ByteArray} {l : List (ByteArray × (Mono))} : putP (.string k) (.ag [.d (.rd (y0.map qc9)), .d (.rd (y1.map intD))]) (mapP keyS qa9 l) = some (mapP keyS qa9 (mset l k (Mono.mk y0 y1))) := qgA9 (f := qa9) (v := (Mono.mk y0 y1)) rfl
theorem qsL9 {y0 : List Int} {y1 : List Int} {n : Nat} : List.replicate n [.d (.rd (y0.map qc9)), .d (.rd (y1.map intD))] = rowP qa9 (List.replicate n (Mono.mk y0 y1)) := qho9 (f := qa9) (a := (Mono.mk y0 y1)) rfl
theorem qrB9 {h : AHeap} {l : List (Int)} {k : IntKind} {n : Int} : ixA h 1 (.d (.rd (l.map qc9))) (.d (.v (.int k n))) = (idx l n).map fun a => .d (.bx (qc9 a)) := qip9 (f := qc9) (fun _ => rfl)
theorem qsK9 {h : AHeap} {l : List (Int)} {i k : Int} {a b : IntKind} : cutA 1 h (.d (.rd (l.map qc9))) (some (.d (.v (.int a i)))) (some (.d (.v (.int b k)))) = (cutL l i k).map fun l => .d (.rd (l.map qc9)) := qgq9 (f := qc9) (fun _ => rfl)
theorem qrG9 {h : AHeap} {l : List (Int)} {k : Int} {b : IntKind} : cutA 1 h (.d (.rd (l.map qc9))) none (some (.d (.v (.int b k)))) = (cutL l 0 k).map fun l => .d (.rd (l.map qc9)) := qfD9 (f := qc9) (fun _ => rfl)
theorem qrp9 {h : AHeap} {l : List (Int)} {i : Int} {a : IntKind} : cutA 1 h (.d (.rd (l.map qc9))) (some (.d (.v (.int a i)))) none = (cutL l i (l.length : Int)).map fun l => .d (.rd (l.map qc9)) := qfB9 (f := qc9) (fun _ => rfl)
theorem qrR9 {l : List (Int)} : (rowP qc9 l).all (fun cs => cs.length == 1) = true := qfZ9 (f := qc9) (fun _ => rfl)
theorem qsN9 {a : Int} {l : List (Int)} {r : List (List PV)} : rowP qc9 l ++ ([.d (.v (.int .u32 a))] :: r) = rowP qc9 (l ++ [a]) ++ r := qfR9 (f := qc9) (a := a) rfl
theorem qsd9 {a : Int} {l : List (Int)} {i : Nat} : (rowP qc9 l).set i [.d (.v (.int .u32 a))] = rowP qc9 (l.set i a) := qgy9 (f := qc9) (a := a) rfl
theorem qsM9 {a : Int} {k : Int} {l : List (Int × (Int))} : putP (.int .i64 k) (.d (.v (.int .u32 a))) (mapP keyI qc9 l) = some (mapP keyI qc9 (mset l k a)) := qgm9 (f := qc9) (v := a) rfl
theorem qsm9 {a : Int} {k : ByteArray} {l : List (ByteArray × (Int))} : putP (.string k) (.d (.v (.int .u32 a))) (mapP keyS qc9 l) = some (mapP keyS qc9 (mset l k a)) := qgA9 (f := qc9) (v := a) rfl
theorem qsD9 {a : Int} {n : Nat} : List.replicate n [.d (.v (.int .u32 a))] = rowP qc9 (List.replicate n a) := qho9 (f := qc9) (a := a) rfl
theorem qtV9 {h : AHeap} {l : List (Int)} {k : IntKind} {n : Int} : ixA h 1 (.d (.rd (l.map qbS9))) (.d (.v (.int k n))) = (idx l n).map fun a => .d (.bx (qbS9 a)) := qip9 (f := qbS9) (fun _ => rfl)
theorem quk9 {h : AHeap} {l : List (Int)} {i k : Int} {a b : IntKind} : cutA 1 h (.d (.rd (l.map qbS9))) (some (.d (.v (.int a i)))) (some (.d (.v (.int b k)))) = (cutL l i k).map fun l => .d (.rd (l.map qbS9)) := qgq9 (f := qbS9) (fun _ => rfl)
theorem qtq9 {h : AHeap} {l : List (Int)} {k : Int} {b : IntKind} : cutA 1 h (.d (.rd (l.map qbS9))) none (some (.d (.v (.int b k)))) = (cutL l 0 k).map fun l => .d (.rd (l.map qbS9)) := qfD9 (f := qbS9) (fun _ => rfl)
theorem qsU9 {h : AHeap} {l : List (Int)} {i : Int} {a : IntKind} : cutA 1 h (.d (.rd (l.map qbS9))) (some (.d (.v (.int a i)))) none = (cutL l i (l.length : Int)).map fun l => .d (.rd (l.map qbS9)) := qfB9 (f := qbS9) (fun _ => rfl)
theorem qtU9 {l : List (Int)} : (rowP qbS9 l).all (fun cs => cs.length == 1) = true := qfZ9 (f := qbS9) (fun _ => rfl)
theorem qtw9 {a : Int} {l : List (Int)} {r : List (List PV)} : rowP qbS9 l ++ ([.d (.v (.int .u8 a))] :: r) = rowP qbS9 (l ++ [a]) ++ r := qfR9 (f := qbS9) (a := a) rfl
theorem qtK9 {a : Int} {l : List (Int)} {i : Nat} : (rowP qbS9 l).set i [.d (.v (.int .u8 a))] = rowP qbS9 (l.set i a) := qgy9 (f := qbS9) (a := a) rfl
theorem qtJ9 {a : Int} {k : Int} {l : List (Int × (Int))} : putP (.int .i64 k) (.d (.v (.int .u8 a))) (mapP keyI qbS9 l) = some (mapP keyI qbS9 (mset l k a)) := qgm9 (f := qbS9) (v := a) rfl
theorem quw9 {a : Int} {k : ByteArray} {l : List (ByteArray × (Int))} : putP (.string k) (.d (.v (.int .u8 a))) (mapP keyS qbS9 l) = some (mapP keyS qbS9 (mset l k a)) := qgA9 (f := qbS9) (v := a) rfl
theorem qta9 {a : Int} {n : Nat} : List.replicate n [.d (.v (.int .u8 a))] = rowP qbS9 (List.replicate n a) := qho9 (f := qbS9) (a := a) rfl
theorem qyu9 {h : AHeap} {c : List D} : elems h (.d (.rd [c])) = some [c.map PV.d] := by simp [elems]
section
variable {α : Type} {f : α → List D} {h : AHeap}
theorem qzA9 {l : List (List α)} {k : IntKind} {n : Int} : ixA h 1 (.d (.rd (l.map (lsD f)))) (.d (.v (.int k n))) = (idx l n).map fun a => .d (.bx ((lsD f) a)) := qip9 (f := (lsD f)) (fun _ => rfl)
theorem qzB9 {l : List (List α)} {i k : Int} {a b : IntKind} : cutA 1 h (.d (.rd (l.map (lsD f)))) (some (.d (.v (.int a i)))) (some (.d (.v (.int b k)))) = (cutL l i k).map fun l => .d (.rd (l.map (lsD f))) := qgq9 (f := (lsD f)) (fun _ => rfl)
theorem qzH9 {l : List (List α)} {k : Int} {b : IntKind} : cutA 1 h (.d (.rd (l.map (lsD f)))) none (some (.d (.v (.int b k)))) = (cutL l 0 k).map fun l => .d (.rd (l.map (lsD f))) := qfD9 (f := (lsD f)) (fun _ => rfl)
theorem qzD9 {l : List (List α)} {i : Int} {a : IntKind} : cutA 1 h (.d (.rd (l.map (lsD f)))) (some (.d (.v (.int a i)))) none = (cutL l i (l.length : Int)).map fun l => .d (.rd (l.map (lsD f))) := qfB9 (f := (lsD f)) (fun _ => rfl)
theorem qzG9 {l : List (List α)} : (rowP (lsD f) l).all (fun cs => cs.length == 1) = true := qfZ9 (f := (lsD f)) (fun _ => rfl)
theorem qzE9 {a : List α} {l : List (List α)} {r : List (List PV)} : rowP (lsD f) l ++ ([.d (.rd (a.map f))] :: r) = rowP (lsD f) (l ++ [a]) ++ r := qfR9 (f := (lsD f)) (a := a) rfl
theorem qzF9 {a : List α} {l : List (List α)} {i : Nat} : (rowP (lsD f) l).set i [.d (.rd (a.map f))] = rowP (lsD f) (l.set i a) := qgy9 (f := (lsD f)) (a := a) rfl
theorem qzC9 {a : List α} {k : Int} {l : List (Int × (List α))} : putP (.int .i64 k) (.d (.rd (a.map f))) (mapP keyI (lsD f) l) = some (mapP keyI (lsD f) (mset l k a)) := qgm9 (f := (lsD f)) (v := a) rfl
theorem ps_ls {a : List α} {k : ByteArray} {l : List (ByteArray × (List α))} : putP (.string k) (.d (.rd (a.map f))) (mapP keyS (lsD f) l) = some (mapP keyS (lsD f) (mset l k a)) := qgA9 (f := (lsD f)) (v := a) rfl
theorem qwG9 {l : List (List (List α))} {k : IntKind} {n : Int} : ixA h 1 (.d (.rd (l.map (lsD (lsD f))))) (.d (.v (.int k n))) = (idx l n).map fun a => .d (.bx ((lsD (lsD f)) a)) := qip9 (f := (lsD (lsD f))) (fun _ => rfl)
theorem qxA9 {l : List (List (List α))} {i k : Int} {a b : IntKind} : cutA 1 h (.d (.rd (l.map (lsD (lsD f))))) (some (.d (.v (.int a i)))) (some (.d (.v (.int b k)))) = (cutL l i k).map fun l => .d (.rd (l.map (lsD (lsD f)))) := qgq9 (f := (lsD (lsD f))) (fun _ => rfl)
theorem qxS9 {l : List (List (List α))} {k : Int} {b : IntKind} : cutA 1 h (.d (.rd (l.map (lsD (lsD f))))) none (some (.d (.v (.int b k)))) = (cutL l 0 k).map fun l => .d (.rd (l.map (lsD (lsD f)))) := qfD9 (f := (lsD (lsD f))) (fun _ => rfl)
theorem qxV9 {l : List (List (List α))} {i : Int} {a : IntKind} : cutA 1 h (.d (.rd (l.map (lsD (lsD f))))) (some (.d (.v (.int a i)))) none = (cutL l i (l.length : Int)).map fun l => .d (.rd (l.map (lsD (lsD f)))) := qfB9 (f := (lsD (lsD f))) (fun _ => rfl)
theorem qwO9 {l : List (List (List α))} : (rowP (lsD (lsD f)) l).all (fun cs => cs.length == 1) = true := qfZ9 (f := (lsD (lsD f))) (fun _ => rfl)
theorem qxh9 {a : List (List α)} {l : List (List (List α))} {r : List (List PV)} : rowP (lsD (lsD f)) l ++ ([.d (.rd (a.map (lsD f)))] :: r) = rowP (lsD (lsD f)) (l ++ [a]) ++ r := qfR9 (f := (lsD (lsD f))) (a := a) rfl
theorem qwL9 {a : List (List α)} {l : List (List (List α))} {i : Nat} : (rowP (lsD (lsD f)) l).set i [.d (.rd (a.map (lsD f)))] = rowP (lsD (lsD f)) (l.set i a) := qgy9 (f := (lsD (lsD f))) (a := a) rfl
theorem qwT9 {a : List (List α)} {k : Int} {l : List (Int × (List (List α)))} : putP (.int .i64 k) (.d (.rd (a.map (lsD f)))) (mapP keyI (lsD (lsD f)) l) = some (mapP keyI (lsD (lsD f)) (mset l k a)) := qgm9 (f := (lsD (lsD f))) (v := a) rfl
theorem qxe9 {a : List (List α)} {k : ByteArray} {l : List (ByteArray × (List (List α)))} : putP (.string k) (.d (.rd (a.map (lsD f)))) (mapP keyS (lsD (lsD f)) l) = some (mapP keyS (lsD (lsD f)) (mset l k a)) := qgA9 (f := (lsD (lsD f))) (v := a) rfl
end
attribute [go_sem] qxc9 qxG9 qxI9 qxK9 qxq9 qwP9 qww9 qxt9 qxb9 qwZ9 quI9 quF9 qvO9 qvC9 qvr9 qvk9 quW9 qvx9 qwi9 quQ9 qwx9 qxw9 qyd9 qya9 qxF9 qwU9 qxE9 qyf9 qyg9 qwV9 qyU9 qyG9 qzp9 qyl9 qys9 qsz9 qsq9 qrC9 qrV9 qsA9 qsF9 qro9 qrZ9 qrL9 qsL9 qrB9 qsK9 qrG9 qrp9 qrR9 qsN9 qsd9 qsM9 qsm9 qsD9 qtV9 quk9 qtq9 qsU9 qtU9 qtw9 qtK9 qtJ9 quw9 qta9 qyu9 qzA9 qzB9 qzH9 qzD9 qzG9 qzE9 qzF9 qzC9 ps_ls qwG9 qxA9 qxS9 qxV9 qwO9 qxh9 qwL9 qwT9 qxe9 intD boolD strD ifD lsD ar2D ar3D bxD qa9 qc9 qbS9
end Ld

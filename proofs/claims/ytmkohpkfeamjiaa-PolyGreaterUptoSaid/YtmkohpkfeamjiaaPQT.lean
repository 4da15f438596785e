import Derived.Test.YtmkohpkfeamjiaaAbs39
set_option maxHeartbeats 400000
set_option linter.unusedVariables false
set_option linter.unusedSimpArgs false
namespace Ld
open Go Go.Abs
structure Mono where
  Coef : List Int
  Exps : List Int
  deriving DecidableEq
def qa9 (x : Mono) : List D := [.rd (x.Coef.map qc9), .rd (x.Exps.map intD)]
def qcO9 (x : Mono) : Prop := (okL (okI .u32)) x.Coef ∧ (okL (okI .i64)) x.Exps
theorem qxs9 {h : AHeap} {l : List (Int)} {k : IntKind} {n : Int} : ixA h 1 (.d (.rd (l.map intD))) (.d (.v (.int k n))) = (idx l n).map fun a => .d (.bx (intD a)) := qiB9 (f := intD) (fun _ => rfl)
theorem qww9 {h : AHeap} {l : List (Int)} {i k : Int} {a b : IntKind} : cutA 1 h (.d (.rd (l.map intD))) (some (.d (.v (.int a i)))) (some (.d (.v (.int b k)))) = (cutL l i k).map fun l => .d (.rd (l.map intD)) := qgu9 (f := intD) (fun _ => rfl)
theorem qwu9 {h : AHeap} {l : List (Int)} {k : Int} {b : IntKind} : cutA 1 h (.d (.rd (l.map intD))) none (some (.d (.v (.int b k)))) = (cutL l 0 k).map fun l => .d (.rd (l.map intD)) := qfx9 (f := intD) (fun _ => rfl)
theorem qwx9 {h : AHeap} {l : List (Int)} {i : Int} {a : IntKind} : cutA 1 h (.d (.rd (l.map intD))) (some (.d (.v (.int a i)))) none = (cutL l i (l.length : Int)).map fun l => .d (.rd (l.map intD)) := qfu9 (f := intD) (fun _ => rfl)
theorem qwy9 {l : List (Int)} : (rowP intD l).all (fun cs => cs.length == 1) = true := qga9 (f := intD) (fun _ => rfl)
theorem qwY9 {a : Int} {l : List (Int)} {r : List (List PV)} : rowP intD l ++ ([.d (.v (.int .i64 a))] :: r) = rowP intD (l ++ [a]) ++ r := qfX9 (f := intD) (a := a) rfl
theorem qxb9 {a : Int} {l : List (Int)} {i : Nat} : (rowP intD l).set i [.d (.v (.int .i64 a))] = rowP intD (l.set i a) := qgC9 (f := intD) (a := a) rfl
theorem qwA9 {a : Int} {k : Int} {l : List (Int × (Int))} : putP (.int .i64 k) (.d (.v (.int .i64 a))) (mapP keyI intD l) = some (mapP keyI intD (mset l k a)) := qgz9 (f := intD) (v := a) rfl
theorem qxo9 {a : Int} {k : ByteArray} {l : List (ByteArray × (Int))} : putP (.string k) (.d (.v (.int .i64 a))) (mapP keyS intD l) = some (mapP keyS intD (mset l k a)) := qgB9 (f := intD) (v := a) rfl
theorem qxm9 {a : Int} {n : Nat} : List.replicate n [.d (.v (.int .i64 a))] = rowP intD (List.replicate n a) := qhu9 (f := intD) (a := a) rfl
theorem qwj9 {h : AHeap} {l : List (Bool)} {k : IntKind} {n : Int} : ixA h 1 (.d (.rd (l.map boolD))) (.d (.v (.int k n))) = (idx l n).map fun a => .d (.bx (boolD a)) := qiB9 (f := boolD) (fun _ => rfl)
theorem qvp9 {h : AHeap} {l : List (Bool)} {i k : Int} {a b : IntKind} : cutA 1 h (.d (.rd (l.map boolD))) (some (.d (.v (.int a i)))) (some (.d (.v (.int b k)))) = (cutL l i k).map fun l => .d (.rd (l.map boolD)) := qgu9 (f := boolD) (fun _ => rfl)
theorem qvm9 {h : AHeap} {l : List (Bool)} {k : Int} {b : IntKind} : cutA 1 h (.d (.rd (l.map boolD))) none (some (.d (.v (.int b k)))) = (cutL l 0 k).map fun l => .d (.rd (l.map boolD)) := qfx9 (f := boolD) (fun _ => rfl)
theorem quF9 {h : AHeap} {l : List (Bool)} {i : Int} {a : IntKind} : cutA 1 h (.d (.rd (l.map boolD))) (some (.d (.v (.int a i)))) none = (cutL l i (l.length : Int)).map fun l => .d (.rd (l.map boolD)) := qfu9 (f := boolD) (fun _ => rfl)
theorem quJ9 {l : List (Bool)} : (rowP boolD l).all (fun cs => cs.length == 1) = true := qga9 (f := boolD) (fun _ => rfl)
theorem qvD9 {a : Bool} {l : List (Bool)} {r : List (List PV)} : rowP boolD l ++ ([.d (.v (.bool a))] :: r) = rowP boolD (l ++ [a]) ++ r := qfX9 (f := boolD) (a := a) rfl
theorem qwc9 {a : Bool} {l : List (Bool)} {i : Nat} : (rowP boolD l).set i [.d (.v (.bool a))] = rowP boolD (l.set i a) := qgC9 (f := boolD) (a := a) rfl
theorem qvX9 {a : Bool} {k : Int} {l : List (Int × (Bool))} : putP (.int .i64 k) (.d (.v (.bool a))) (mapP keyI boolD l) = some (mapP keyI boolD (mset l k a)) := qgz9 (f := boolD) (v := a) rfl
theorem qvr9 {a : Bool} {k : ByteArray} {l : List (ByteArray × (Bool))} : putP (.string k) (.d (.v (.bool a))) (mapP keyS boolD l) = some (mapP keyS boolD (mset l k a)) := qgB9 (f := boolD) (v := a) rfl
theorem qvd9 {a : Bool} {n : Nat} : List.replicate n [.d (.v (.bool a))] = rowP boolD (List.replicate n a) := qhu9 (f := boolD) (a := a) rfl
theorem qxf9 {h : AHeap} {l : List (ByteArray)} {k : IntKind} {n : Int} : ixA h 1 (.d (.rd (l.map strD))) (.d (.v (.int k n))) = (idx l n).map fun a => .d (.bx (strD a)) := qiB9 (f := strD) (fun _ => rfl)
theorem qwo9 {h : AHeap} {l : List (ByteArray)} {i k : Int} {a b : IntKind} : cutA 1 h (.d (.rd (l.map strD))) (some (.d (.v (.int a i)))) (some (.d (.v (.int b k)))) = (cutL l i k).map fun l => .d (.rd (l.map strD)) := qgu9 (f := strD) (fun _ => rfl)
theorem qwz9 {h : AHeap} {l : List (ByteArray)} {k : Int} {b : IntKind} : cutA 1 h (.d (.rd (l.map strD))) none (some (.d (.v (.int b k)))) = (cutL l 0 k).map fun l => .d (.rd (l.map strD)) := qfx9 (f := strD) (fun _ => rfl)
theorem qxy9 {h : AHeap} {l : List (ByteArray)} {i : Int} {a : IntKind} : cutA 1 h (.d (.rd (l.map strD))) (some (.d (.v (.int a i)))) none = (cutL l i (l.length : Int)).map fun l => .d (.rd (l.map strD)) := qfu9 (f := strD) (fun _ => rfl)
theorem qwF9 {l : List (ByteArray)} : (rowP strD l).all (fun cs => cs.length == 1) = true := qga9 (f := strD) (fun _ => rfl)
theorem qxh9 {a : ByteArray} {l : List (ByteArray)} {r : List (List PV)} : rowP strD l ++ ([.d (.v (.string a))] :: r) = rowP strD (l ++ [a]) ++ r := qfX9 (f := strD) (a := a) rfl
theorem qxr9 {a : ByteArray} {l : List (ByteArray)} {i : Nat} : (rowP strD l).set i [.d (.v (.string a))] = rowP strD (l.set i a) := qgC9 (f := strD) (a := a) rfl
theorem qxv9 {a : ByteArray} {k : Int} {l : List (Int × (ByteArray))} : putP (.int .i64 k) (.d (.v (.string a))) (mapP keyI strD l) = some (mapP keyI strD (mset l k a)) := qgz9 (f := strD) (v := a) rfl
theorem qxU9 {a : ByteArray} {k : ByteArray} {l : List (ByteArray × (ByteArray))} : putP (.string k) (.d (.v (.string a))) (mapP keyS strD l) = some (mapP keyS strD (mset l k a)) := qgB9 (f := strD) (v := a) rfl
theorem qxE9 {a : ByteArray} {n : Nat} : List.replicate n [.d (.v (.string a))] = rowP strD (List.replicate n a) := qhu9 (f := strD) (a := a) rfl
theorem qzg9 {h : AHeap} {l : List (D)} {k : IntKind} {n : Int} : ixA h 1 (.d (.rd (l.map ifD))) (.d (.v (.int k n))) = (idx l n).map fun a => .d (.bx (ifD a)) := qiB9 (f := ifD) (fun _ => rfl)
theorem qyJ9 {h : AHeap} {l : List (D)} {i k : Int} {a b : IntKind} : cutA 1 h (.d (.rd (l.map ifD))) (some (.d (.v (.int a i)))) (some (.d (.v (.int b k)))) = (cutL l i k).map fun l => .d (.rd (l.map ifD)) := qgu9 (f := ifD) (fun _ => rfl)
theorem qyA9 {h : AHeap} {l : List (D)} {k : Int} {b : IntKind} : cutA 1 h (.d (.rd (l.map ifD))) none (some (.d (.v (.int b k)))) = (cutL l 0 k).map fun l => .d (.rd (l.map ifD)) := qfx9 (f := ifD) (fun _ => rfl)
theorem qyz9 {h : AHeap} {l : List (D)} {i : Int} {a : IntKind} : cutA 1 h (.d (.rd (l.map ifD))) (some (.d (.v (.int a i)))) none = (cutL l i (l.length : Int)).map fun l => .d (.rd (l.map ifD)) := qfu9 (f := ifD) (fun _ => rfl)
theorem qyh9 {l : List (D)} : (rowP ifD l).all (fun cs => cs.length == 1) = true := qga9 (f := ifD) (fun _ => rfl)
theorem qrE9 {h : AHeap} {l : List (Mono)} {k : IntKind} {n : Int} : ixA h 2 (.d (.rd (l.map qa9))) (.d (.v (.int k n))) = (idx l n).map fun a => .d (.bx (qa9 a)) := qiB9 (f := qa9) (fun _ => rfl)
theorem qrY9 {h : AHeap} {l : List (Mono)} {i k : Int} {a b : IntKind} : cutA 2 h (.d (.rd (l.map qa9))) (some (.d (.v (.int a i)))) (some (.d (.v (.int b k)))) = (cutL l i k).map fun l => .d (.rd (l.map qa9)) := qgu9 (f := qa9) (fun _ => rfl)
theorem qrt9 {h : AHeap} {l : List (Mono)} {k : Int} {b : IntKind} : cutA 2 h (.d (.rd (l.map qa9))) none (some (.d (.v (.int b k)))) = (cutL l 0 k).map fun l => .d (.rd (l.map qa9)) := qfx9 (f := qa9) (fun _ => rfl)
theorem qsd9 {h : AHeap} {l : List (Mono)} {i : Int} {a : IntKind} : cutA 2 h (.d (.rd (l.map qa9))) (some (.d (.v (.int a i)))) none = (cutL l i (l.length : Int)).map fun l => .d (.rd (l.map qa9)) := qfu9 (f := qa9) (fun _ => rfl)
theorem qru9 {l : List (Mono)} : (rowP qa9 l).all (fun cs => cs.length == 2) = true := qga9 (f := qa9) (fun _ => rfl)
theorem qso9 {y0 : List Int} {y1 : List Int} {l : List (Mono)} {r : List (List PV)} : rowP qa9 l ++ ([.d (.rd (y0.map qc9)), .d (.rd (y1.map intD))] :: r) = rowP qa9 (l ++ [(Mono.mk y0 y1)]) ++ r := qfX9 (f := qa9) (a := (Mono.mk y0 y1)) rfl
theorem qsG9 {y0 : List Int} {y1 : List Int} {l : List (Mono)} {i : Nat} : (rowP qa9 l).set i [.d (.rd (y0.map qc9)), .d (.rd (y1.map intD))] = rowP qa9 (l.set i (Mono.mk y0 y1)) := qgC9 (f := qa9) (a := (Mono.mk y0 y1)) rfl
theorem qsM9 {y0 : List Int} {y1 : List Int} {k : Int} {l : List (Int × (Mono))} : putP (.int .i64 k) (.ag [.d (.rd (y0.map qc9)), .d (.rd (y1.map intD))]) (mapP keyI qa9 l) = some (mapP keyI qa9 (mset l k (Mono.mk y0 y1))) := qgz9 (f := qa9) (v := (Mono.mk y0 y1)) rfl
theorem qsr9 {y0 : List Int} {y1 : List Int} {k : ByteArray} {l : List (ByteArray × (Mono))} : putP (.string k) (.ag [.d (.rd (y0.map qc9)), .d (.rd (y1.map intD))]) (mapP keyS qa9 l) = some (mapP keyS qa9 (mset l k (Mono.mk y0 y1))) := qgB9 (f := qa9) (v := (Mono.mk y0 y1)) rfl
theorem qsj9 {y0 : List Int} {y1 : List Int} {n : Nat} : List.replicate n [.d (.rd (y0.map qc9)), .d (.rd (y1.map intD))] = rowP qa9 (List.replicate n (Mono.mk y0 y1)) := qhu9 (f := qa9) (a := (Mono.mk y0 y1)) rfl
theorem qsz9 {h : AHeap} {l : List (Int)} {k : IntKind} {n : Int} : ixA h 1 (.d (.rd (l.map qc9))) (.d (.v (.int k n))) = (idx l n).map fun a => .d (.bx (qc9 a)) := qiB9 (f := qc9) (fun _ => rfl)
theorem qsw9 {h : AHeap} {l : List (Int)} {i k : Int} {a b : IntKind} : cutA 1 h (.d (.rd (l.map qc9))) (some (.d (.v (.int a i)))) (some (.d (.v (.int b k)))) = (cutL l i k).map fun l => .d (.rd (l.map qc9)) := qgu9 (f := qc9) (fun _ => rfl)
theorem qrK9 {h : AHeap} {l : List (Int)} {k : Int} {b : IntKind} : cutA 1 h (.d (.rd (l.map qc9))) none (some (.d (.v (.int b k)))) = (cutL l 0 k).map fun l => .d (.rd (l.map qc9)) := qfx9 (f := qc9) (fun _ => rfl)
theorem qsI9 {h : AHeap} {l : List (Int)} {i : Int} {a : IntKind} : cutA 1 h (.d (.rd (l.map qc9))) (some (.d (.v (.int a i)))) none = (cutL l i (l.length : Int)).map fun l => .d (.rd (l.map qc9)) := qfu9 (f := qc9) (fun _ => rfl)
theorem qrV9 {l : List (Int)} : (rowP qc9 l).all (fun cs => cs.length == 1) = true := qga9 (f := qc9) (fun _ => rfl)
theorem qsv9 {a : Int} {l : List (Int)} {r : List (List PV)} : rowP qc9 l ++ ([.d (.v (.int .u32 a))] :: r) = rowP qc9 (l ++ [a]) ++ r := qfX9 (f := qc9) (a := a) rfl
theorem qrq9 {a : Int} {l : List (Int)} {i : Nat} : (rowP qc9 l).set i [.d (.v (.int .u32 a))] = rowP qc9 (l.set i a) := qgC9 (f := qc9) (a := a) rfl
theorem qrJ9 {a : Int} {k : Int} {l : List (Int × (Int))} : putP (.int .i64 k) (.d (.v (.int .u32 a))) (mapP keyI qc9 l) = some (mapP keyI qc9 (mset l k a)) := qgz9 (f := qc9) (v := a) rfl
theorem qsE9 {a : Int} {k : ByteArray} {l : List (ByteArray × (Int))} : putP (.string k) (.d (.v (.int .u32 a))) (mapP keyS qc9 l) = some (mapP keyS qc9 (mset l k a)) := qgB9 (f := qc9) (v := a) rfl
theorem qsK9 {a : Int} {n : Nat} : List.replicate n [.d (.v (.int .u32 a))] = rowP qc9 (List.replicate n a) := qhu9 (f := qc9) (a := a) rfl
theorem qtz9 {h : AHeap} {l : List (Int)} {k : IntKind} {n : Int} : ixA h 1 (.d (.rd (l.map qbP9))) (.d (.v (.int k n))) = (idx l n).map fun a => .d (.bx (qbP9 a)) := qiB9 (f := qbP9) (fun _ => rfl)
theorem quf9 {h : AHeap} {l : List (Int)} {i k : Int} {a b : IntKind} : cutA 1 h (.d (.rd (l.map qbP9))) (some (.d (.v (.int a i)))) (some (.d (.v (.int b k)))) = (cutL l i k).map fun l => .d (.rd (l.map qbP9)) := qgu9 (f := qbP9) (fun _ => rfl)
theorem qsX9 {h : AHeap} {l : List (Int)} {k : Int} {b : IntKind} : cutA 1 h (.d (.rd (l.map qbP9))) none (some (.d (.v (.int b k)))) = (cutL l 0 k).map fun l => .d (.rd (l.map qbP9)) := qfx9 (f := qbP9) (fun _ => rfl)
theorem qud9 {h : AHeap} {l : List (Int)} {i : Int} {a : IntKind} : cutA 1 h (.d (.rd (l.map qbP9))) (some (.d (.v (.int a i)))) none = (cutL l i (l.length : Int)).map fun l => .d (.rd (l.map qbP9)) := qfu9 (f := qbP9) (fun _ => rfl)
theorem qti9 {l : List (Int)} : (rowP qbP9 l).all (fun cs => cs.length == 1) = true := qga9 (f := qbP9) (fun _ => rfl)
theorem que9 {a : Int} {l : List (Int)} {r : List (List PV)} : rowP qbP9 l ++ ([.d (.v (.int .u8 a))] :: r) = rowP qbP9 (l ++ [a]) ++ r := qfX9 (f := qbP9) (a := a) rfl
theorem qtr9 {a : Int} {l : List (Int)} {i : Nat} : (rowP qbP9 l).set i [.d (.v (.int .u8 a))] = rowP qbP9 (l.set i a) := qgC9 (f := qbP9) (a := a) rfl
theorem qsZ9 {a : Int} {k : Int} {l : List (Int × (Int))} : putP (.int .i64 k) (.d (.v (.int .u8 a))) (mapP keyI qbP9 l) = some (mapP keyI qbP9 (mset l k a)) := qgz9 (f := qbP9) (v := a) rfl
theorem qts9 {a : Int} {k : ByteArray} {l : List (ByteArray × (Int))} : putP (.string k) (.d (.v (.int .u8 a))) (mapP keyS qbP9 l) = some (mapP keyS qbP9 (mset l k a)) := qgB9 (f := qbP9) (v := a) rfl
theorem quo9 {a : Int} {n : Nat} : List.replicate n [.d (.v (.int .u8 a))] = rowP qbP9 (List.replicate n a) := qhu9 (f := qbP9) (a := a) rfl
theorem qyj9 {h : AHeap} {c : List D} : elems h (.d (.rd [c])) = some [c.map PV.d] := by simp [elems]
section
variable {α : Type} {f : α → List D} {h : AHeap}
theorem qzn9 {l : List (List α)} {k : IntKind} {n : Int} : ixA h 1 (.d (.rd (l.map (lsD f)))) (.d (.v (.int k n))) = (idx l n).map fun a => .d (.bx ((lsD f) a)) := qiB9 (f := (lsD f)) (fun _ => rfl)
theorem qzs9 {l : List (List α)} {i k : Int} {a b : IntKind} : cutA 1 h (.d (.rd (l.map (lsD f)))) (some (.d (.v (.int a i)))) (some (.d (.v (.int b k)))) = (cutL l i k).map fun l => .d (.rd (l.map (lsD f))) := qgu9 (f := (lsD f)) (fun _ => rfl)
theorem qzt9 {l : List (List α)} {k : Int} {b : IntKind} : cutA 1 h (.d (.rd (l.map (lsD f)))) none (some (.d (.v (.int b k)))) = (cutL l 0 k).map fun l => .d (.rd (l.map (lsD f))) := qfx9 (f := (lsD f)) (fun _ => rfl)
theorem qzp9 {l : List (List α)} {i : Int} {a : IntKind} : cutA 1 h (.d (.rd (l.map (lsD f)))) (some (.d (.v (.int a i)))) none = (cutL l i (l.length : Int)).map fun l => .d (.rd (l.map (lsD f))) := qfu9 (f := (lsD f)) (fun _ => rfl)
theorem qzu9 {l : List (List α)} : (rowP (lsD f) l).all (fun cs => cs.length == 1) = true := qga9 (f := (lsD f)) (fun _ => rfl)
theorem qzr9 {a : List α} {l : List (List α)} {r : List (List PV)} : rowP (lsD f) l ++ ([.d (.rd (a.map f))] :: r) = rowP (lsD f) (l ++ [a]) ++ r := qfX9 (f := (lsD f)) (a := a) rfl
theorem qzo9 {a : List α} {l : List (List α)} {i : Nat} : (rowP (lsD f) l).set i [.d (.rd (a.map f))] = rowP (lsD f) (l.set i a) := qgC9 (f := (lsD f)) (a := a) rfl
theorem qzq9 {a : List α} {k : Int} {l : List (Int × (List α))} : putP (.int .i64 k) (.d (.rd (a.map f))) (mapP keyI (lsD f) l) = some (mapP keyI (lsD f) (mset l k a)) := qgz9 (f := (lsD f)) (v := a) rfl
theorem ps_ls {a : List α} {k : ByteArray} {l : List (ByteArray × (List α))} : putP (.string k) (.d (.rd (a.map f))) (mapP keyS (lsD f) l) = some (mapP keyS (lsD f) (mset l k a)) := qgB9 (f := (lsD f)) (v := a) rfl
theorem qxA9 {l : List (List (List α))} {k : IntKind} {n : Int} : ixA h 1 (.d (.rd (l.map (lsD (lsD f))))) (.d (.v (.int k n))) = (idx l n).map fun a => .d (.bx ((lsD (lsD f)) a)) := qiB9 (f := (lsD (lsD f))) (fun _ => rfl)
theorem qwk9 {l : List (List (List α))} {i k : Int} {a b : IntKind} : cutA 1 h (.d (.rd (l.map (lsD (lsD f))))) (some (.d (.v (.int a i)))) (some (.d (.v (.int b k)))) = (cutL l i k).map fun l => .d (.rd (l.map (lsD (lsD f)))) := qgu9 (f := (lsD (lsD f))) (fun _ => rfl)
theorem qxM9 {l : List (List (List α))} {k : Int} {b : IntKind} : cutA 1 h (.d (.rd (l.map (lsD (lsD f))))) none (some (.d (.v (.int b k)))) = (cutL l 0 k).map fun l => .d (.rd (l.map (lsD (lsD f)))) := qfx9 (f := (lsD (lsD f))) (fun _ => rfl)
theorem qxw9 {l : List (List (List α))} {i : Int} {a : IntKind} : cutA 1 h (.d (.rd (l.map (lsD (lsD f))))) (some (.d (.v (.int a i)))) none = (cutL l i (l.length : Int)).map fun l => .d (.rd (l.map (lsD (lsD f)))) := qfu9 (f := (lsD (lsD f))) (fun _ => rfl)
theorem qwZ9 {l : List (List (List α))} : (rowP (lsD (lsD f)) l).all (fun cs => cs.length == 1) = true := qga9 (f := (lsD (lsD f))) (fun _ => rfl)
theorem qxP9 {a : List (List α)} {l : List (List (List α))} {r : List (List PV)} : rowP (lsD (lsD f)) l ++ ([.d (.rd (a.map (lsD f)))] :: r) = rowP (lsD (lsD f)) (l ++ [a]) ++ r := qfX9 (f := (lsD (lsD f))) (a := a) rfl
theorem qwP9 {a : List (List α)} {l : List (List (List α))} {i : Nat} : (rowP (lsD (lsD f)) l).set i [.d (.rd (a.map (lsD f)))] = rowP (lsD (lsD f)) (l.set i a) := qgC9 (f := (lsD (lsD f))) (a := a) rfl
theorem qxL9 {a : List (List α)} {k : Int} {l : List (Int × (List (List α)))} : putP (.int .i64 k) (.d (.rd (a.map (lsD f)))) (mapP keyI (lsD (lsD f)) l) = some (mapP keyI (lsD (lsD f)) (mset l k a)) := qgz9 (f := (lsD (lsD f))) (v := a) rfl
theorem qxe9 {a : List (List α)} {k : ByteArray} {l : List (ByteArray × (List (List α)))} : putP (.string k) (.d (.rd (a.map (lsD f)))) (mapP keyS (lsD (lsD f)) l) = some (mapP keyS (lsD (lsD f)) (mset l k a)) := qgB9 (f := (lsD (lsD f))) (v := a) rfl
end
attribute [go_sem] qxs9 qww9 qwu9 qwx9 qwy9 qwY9 qxb9 qwA9 qxo9 qxm9 qwj9 qvp9 qvm9 quF9 quJ9 qvD9 qwc9 qvX9 qvr9 qvd9 qxf9 qwo9 qwz9 qxy9 qwF9 qxh9 qxr9 qxv9 qxU9 qxE9 qzg9 qyJ9 qyA9 qyz9 qyh9 qrE9 qrY9 qrt9 qsd9 qru9 qso9 qsG9 qsM9 qsr9 qsj9 qsz9 qsw9 qrK9 qsI9 qrV9 qsv9 qrq9 qrJ9 qsE9 qsK9 qtz9 quf9 qsX9 qud9 qti9 que9 qtr9 qsZ9 qts9 quo9 qyj9 qzn9 qzs9 qzt9 qzp9 qzu9 qzr9 qzo9 qzq9 ps_ls qxA9 qwk9 qxM9 qxw9 qwZ9 qxP9 qwP9 qxL9 qxe9 intD boolD strD ifD lsD ar2D ar3D bxD qa9 qc9 qbP9
end Ld

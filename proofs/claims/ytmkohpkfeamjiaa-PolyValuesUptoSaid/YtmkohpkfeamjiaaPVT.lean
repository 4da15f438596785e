import Derived.Test.YtmkohpkfeamjiaaAbs39
set_option maxHeartbeats 400000
set_option linter.unusedVariables false
set_option linter.unusedSimpArgs false
set_option linter.unusedSectionVars false
namespace Ld
open Go Go.Abs
structure Mono where
 Coef : List Int
 Exps : List Int
 deriving DecidableEq
def qa9 (x : Mono) : List D:=[.rd (x.Coef.map qc9),.rd (x.Exps.map intD)]
def qjh9 (x : Mono) : Prop:=(okL (okI .u32)) x.Coef∧(okL (okI .i64)) x.Exps
theorem qyA9 {h : AHeap} {l : List (Int)} {k : IntKind} {n : Int} : ixA h 1 (.d (.rd (l.map intD))) (.d (.v (.int k n))) = (idx l n).map fun a=>.d (.bx (intD a)):=qiS9 (f:=intD) (fun _=>rfl)
theorem qzc9 {h : AHeap} {l : List (Int)} {i k : Int} {a b : IntKind} : cutA 1 h (.d (.rd (l.map intD))) (some (.d (.v (.int a i)))) (some (.d (.v (.int b k)))) = (cutL l i k).map fun l=>.d (.rd (l.map intD)):=qgF9 (f:=intD) (fun _=>rfl)
theorem qze9 {h : AHeap} {l : List (Int)} {k : Int} {b : IntKind} : cutA 1 h (.d (.rd (l.map intD))) none (some (.d (.v (.int b k)))) = (cutL l 0 k).map fun l=>.d (.rd (l.map intD)):=qfL9 (f:=intD) (fun _=>rfl)
theorem qzf9 {h : AHeap} {l : List (Int)} {i : Int} {a : IntKind} : cutA 1 h (.d (.rd (l.map intD))) (some (.d (.v (.int a i)))) none = (cutL l i (l.length : Int)).map fun l=>.d (.rd (l.map intD)):=qfJ9 (f:=intD) (fun _=>rfl)
theorem qyM9 {l : List (Int)} : (rowP intD l).all (fun cs=>cs.length == 1) = true:=qgm9 (f:=intD) (fun _=>rfl)
theorem qyn9 {a : Int} {l : List (Int)} {r : List (List PV)} : rowP intD l++([.d (.v (.int .i64 a))]::r) = rowP intD (l++[a])++r:=qgd9 (f:=intD) (a:=a) rfl
theorem qxV9 {a : Int} {l : List (Int)} {i : Nat} : (rowP intD l).set i [.d (.v (.int .i64 a))] = rowP intD (l.set i a):=qgP9 (f:=intD) (a:=a) rfl
theorem qyP9 {a : Int} {k : Int} {l : List (Int × (Int))} : putP (.int .i64 k) (.d (.v (.int .i64 a))) (mapP keyI intD l) = some (mapP keyI intD (mset l k a)):=qgA9 (f:=intD) (v:=a) rfl
theorem qyz9 {a : Int} {k : ByteArray} {l : List (ByteArray × (Int))} : putP (.string k) (.d (.v (.int .i64 a))) (mapP keyS intD l) = some (mapP keyS intD (mset l k a)):=qgR9 (f:=intD) (v:=a) rfl
theorem qyx9 {a : Int} {n : Nat} : List.replicate n [.d (.v (.int .i64 a))] = rowP intD (List.replicate n a):=qhK9 (f:=intD) (a:=a) rfl
theorem qwn9 {h : AHeap} {l : List (Bool)} {k : IntKind} {n : Int} : ixA h 1 (.d (.rd (l.map boolD))) (.d (.v (.int k n))) = (idx l n).map fun a=>.d (.bx (boolD a)):=qiS9 (f:=boolD) (fun _=>rfl)
theorem qwk9 {h : AHeap} {l : List (Bool)} {i k : Int} {a b : IntKind} : cutA 1 h (.d (.rd (l.map boolD))) (some (.d (.v (.int a i)))) (some (.d (.v (.int b k)))) = (cutL l i k).map fun l=>.d (.rd (l.map boolD)):=qgF9 (f:=boolD) (fun _=>rfl)
theorem qxs9 {h : AHeap} {l : List (Bool)} {k : Int} {b : IntKind} : cutA 1 h (.d (.rd (l.map boolD))) none (some (.d (.v (.int b k)))) = (cutL l 0 k).map fun l=>.d (.rd (l.map boolD)):=qfL9 (f:=boolD) (fun _=>rfl)
theorem qxf9 {h : AHeap} {l : List (Bool)} {i : Int} {a : IntKind} : cutA 1 h (.d (.rd (l.map boolD))) (some (.d (.v (.int a i)))) none = (cutL l i (l.length : Int)).map fun l=>.d (.rd (l.map boolD)):=qfJ9 (f:=boolD) (fun _=>rfl)
theorem qwU9 {l : List (Bool)} : (rowP boolD l).all (fun cs=>cs.length == 1) = true:=qgm9 (f:=boolD) (fun _=>rfl)
theorem qwM9 {a : Bool} {l : List (Bool)} {r : List (List PV)} : rowP boolD l++([.d (.v (.bool a))]::r) = rowP boolD (l++[a])++r:=qgd9 (f:=boolD) (a:=a) rfl
theorem qwA9 {a : Bool} {l : List (Bool)} {i : Nat} : (rowP boolD l).set i [.d (.v (.bool a))] = rowP boolD (l.set i a):=qgP9 (f:=boolD) (a:=a) rfl
theorem qxa9 {a : Bool} {k : Int} {l : List (Int × (Bool))} : putP (.int .i64 k) (.d (.v (.bool a))) (mapP keyI boolD l) = some (mapP keyI boolD (mset l k a)):=qgA9 (f:=boolD) (v:=a) rfl
theorem qxI9 {a : Bool} {k : ByteArray} {l : List (ByteArray × (Bool))} : putP (.string k) (.d (.v (.bool a))) (mapP keyS boolD l) = some (mapP keyS boolD (mset l k a)):=qgR9 (f:=boolD) (v:=a) rfl
theorem qwv9 {a : Bool} {n : Nat} : List.replicate n [.d (.v (.bool a))] = rowP boolD (List.replicate n a):=qhK9 (f:=boolD) (a:=a) rfl
theorem qxW9 {h : AHeap} {l : List (ByteArray)} {k : IntKind} {n : Int} : ixA h 1 (.d (.rd (l.map strD))) (.d (.v (.int k n))) = (idx l n).map fun a=>.d (.bx (strD a)):=qiS9 (f:=strD) (fun _=>rfl)
theorem qyR9 {h : AHeap} {l : List (ByteArray)} {i k : Int} {a b : IntKind} : cutA 1 h (.d (.rd (l.map strD))) (some (.d (.v (.int a i)))) (some (.d (.v (.int b k)))) = (cutL l i k).map fun l=>.d (.rd (l.map strD)):=qgF9 (f:=strD) (fun _=>rfl)
theorem qzy9 {h : AHeap} {l : List (ByteArray)} {k : Int} {b : IntKind} : cutA 1 h (.d (.rd (l.map strD))) none (some (.d (.v (.int b k)))) = (cutL l 0 k).map fun l=>.d (.rd (l.map strD)):=qfL9 (f:=strD) (fun _=>rfl)
theorem qzv9 {h : AHeap} {l : List (ByteArray)} {i : Int} {a : IntKind} : cutA 1 h (.d (.rd (l.map strD))) (some (.d (.v (.int a i)))) none = (cutL l i (l.length : Int)).map fun l=>.d (.rd (l.map strD)):=qfJ9 (f:=strD) (fun _=>rfl)
theorem qzb9 {l : List (ByteArray)} : (rowP strD l).all (fun cs=>cs.length == 1) = true:=qgm9 (f:=strD) (fun _=>rfl)
theorem qyr9 {a : ByteArray} {l : List (ByteArray)} {r : List (List PV)} : rowP strD l++([.d (.v (.string a))]::r) = rowP strD (l++[a])++r:=qgd9 (f:=strD) (a:=a) rfl
theorem qza9 {a : ByteArray} {l : List (ByteArray)} {i : Nat} : (rowP strD l).set i [.d (.v (.string a))] = rowP strD (l.set i a):=qgP9 (f:=strD) (a:=a) rfl
theorem qzA9 {a : ByteArray} {k : Int} {l : List (Int × (ByteArray))} : putP (.int .i64 k) (.d (.v (.string a))) (mapP keyI strD l) = some (mapP keyI strD (mset l k a)):=qgA9 (f:=strD) (v:=a) rfl
theorem qzB9 {a : ByteArray} {k : ByteArray} {l : List (ByteArray × (ByteArray))} : putP (.string k) (.d (.v (.string a))) (mapP keyS strD l) = some (mapP keyS strD (mset l k a)):=qgR9 (f:=strD) (v:=a) rfl
theorem qys9 {a : ByteArray} {n : Nat} : List.replicate n [.d (.v (.string a))] = rowP strD (List.replicate n a):=qhK9 (f:=strD) (a:=a) rfl
theorem qAo9 {h : AHeap} {l : List (D)} {k : IntKind} {n : Int} : ixA h 1 (.d (.rd (l.map ifD))) (.d (.v (.int k n))) = (idx l n).map fun a=>.d (.bx (ifD a)):=qiS9 (f:=ifD) (fun _=>rfl)
theorem qAa9 {h : AHeap} {l : List (D)} {i k : Int} {a b : IntKind} : cutA 1 h (.d (.rd (l.map ifD))) (some (.d (.v (.int a i)))) (some (.d (.v (.int b k)))) = (cutL l i k).map fun l=>.d (.rd (l.map ifD)):=qgF9 (f:=ifD) (fun _=>rfl)
theorem qAI9 {h : AHeap} {l : List (D)} {k : Int} {b : IntKind} : cutA 1 h (.d (.rd (l.map ifD))) none (some (.d (.v (.int b k)))) = (cutL l 0 k).map fun l=>.d (.rd (l.map ifD)):=qfL9 (f:=ifD) (fun _=>rfl)
theorem qzG9 {h : AHeap} {l : List (D)} {i : Int} {a : IntKind} : cutA 1 h (.d (.rd (l.map ifD))) (some (.d (.v (.int a i)))) none = (cutL l i (l.length : Int)).map fun l=>.d (.rd (l.map ifD)):=qfJ9 (f:=ifD) (fun _=>rfl)
theorem qzM9 {l : List (D)} : (rowP ifD l).all (fun cs=>cs.length == 1) = true:=qgm9 (f:=ifD) (fun _=>rfl)
theorem quc9 {h : AHeap} {l : List (Mono)} {k : IntKind} {n : Int} : ixA h 2 (.d (.rd (l.map qa9))) (.d (.v (.int k n))) = (idx l n).map fun a=>.d (.bx (qa9 a)):=qiS9 (f:=qa9) (fun _=>rfl)
theorem qtS9 {h : AHeap} {l : List (Mono)} {i k : Int} {a b : IntKind} : cutA 2 h (.d (.rd (l.map qa9))) (some (.d (.v (.int a i)))) (some (.d (.v (.int b k)))) = (cutL l i k).map fun l=>.d (.rd (l.map qa9)):=qgF9 (f:=qa9) (fun _=>rfl)
theorem qtd9 {h : AHeap} {l : List (Mono)} {k : Int} {b : IntKind} : cutA 2 h (.d (.rd (l.map qa9))) none (some (.d (.v (.int b k)))) = (cutL l 0 k).map fun l=>.d (.rd (l.map qa9)):=qfL9 (f:=qa9) (fun _=>rfl)
theorem qty9 {h : AHeap} {l : List (Mono)} {i : Int} {a : IntKind} : cutA 2 h (.d (.rd (l.map qa9))) (some (.d (.v (.int a i)))) none = (cutL l i (l.length : Int)).map fun l=>.d (.rd (l.map qa9)):=qfJ9 (f:=qa9) (fun _=>rfl)
theorem qud9 {l : List (Mono)} : (rowP qa9 l).all (fun cs=>cs.length == 2) = true:=qgm9 (f:=qa9) (fun _=>rfl)
theorem quj9 {y0 : List Int} {y1 : List Int} {l : List (Mono)} {r : List (List PV)} : rowP qa9 l++([.d (.rd (y0.map qc9)),.d (.rd (y1.map intD))]::r) = rowP qa9 (l++[(Mono.mk y0 y1)])++r:=qgd9 (f:=qa9) (a:=(Mono.mk y0 y1)) rfl
theorem qsM9 {y0 : List Int} {y1 : List Int} {l : List (Mono)} {i : Nat} : (rowP qa9 l).set i [.d (.rd (y0.map qc9)),.d (.rd (y1.map intD))] = rowP qa9 (l.set i (Mono.mk y0 y1)):=qgP9 (f:=qa9) (a:=(Mono.mk y0 y1)) rfl
theorem qtC9 {y0 : List Int} {y1 : List Int} {k : Int} {l : List (Int × (Mono))} : putP (.int .i64 k) (.ag [.d (.rd (y0.map qc9)),.d (.rd (y1.map intD))]) (mapP keyI qa9 l) = some (mapP keyI qa9 (mset l k (Mono.mk y0 y1))):=qgA9 (f:=qa9) (v:=(Mono.mk y0 y1)) rfl
theorem qtn9 {y0 : List Int} {y1 : List Int} {k : ByteArray} {l : List (ByteArray × (Mono))} : putP (.string k) (.ag [.d (.rd (y0.map qc9)),.d (.rd (y1.map intD))]) (mapP keyS qa9 l) = some (mapP keyS qa9 (mset l k (Mono.mk y0 y1))):=qgR9 (f:=qa9) (v:=(Mono.mk y0 y1)) rfl
theorem qup9 {y0 : List Int} {y1 : List Int} {n : Nat} : List.replicate n [.d (.rd (y0.map qc9)),.d (.rd (y1.map intD))] = rowP qa9 (List.replicate n (Mono.mk y0 y1)):=qhK9 (f:=qa9) (a:=(Mono.mk y0 y1)) rfl
theorem qtc9 {h : AHeap} {l : List (Int)} {k : IntKind} {n : Int} : ixA h 1 (.d (.rd (l.map qc9))) (.d (.v (.int k n))) = (idx l n).map fun a=>.d (.bx (qc9 a)):=qiS9 (f:=qc9) (fun _=>rfl)
theorem quo9 {h : AHeap} {l : List (Int)} {i k : Int} {a b : IntKind} : cutA 1 h (.d (.rd (l.map qc9))) (some (.d (.v (.int a i)))) (some (.d (.v (.int b k)))) = (cutL l i k).map fun l=>.d (.rd (l.map qc9)):=qgF9 (f:=qc9) (fun _=>rfl)
theorem qti9 {h : AHeap} {l : List (Int)} {k : Int} {b : IntKind} : cutA 1 h (.d (.rd (l.map qc9))) none (some (.d (.v (.int b k)))) = (cutL l 0 k).map fun l=>.d (.rd (l.map qc9)):=qfL9 (f:=qc9) (fun _=>rfl)
theorem qsN9 {h : AHeap} {l : List (Int)} {i : Int} {a : IntKind} : cutA 1 h (.d (.rd (l.map qc9))) (some (.d (.v (.int a i)))) none = (cutL l i (l.length : Int)).map fun l=>.d (.rd (l.map qc9)):=qfJ9 (f:=qc9) (fun _=>rfl)
theorem qtt9 {l : List (Int)} : (rowP qc9 l).all (fun cs=>cs.length == 1) = true:=qgm9 (f:=qc9) (fun _=>rfl)
theorem qus9 {a : Int} {l : List (Int)} {r : List (List PV)} : rowP qc9 l++([.d (.v (.int .u32 a))]::r) = rowP qc9 (l++[a])++r:=qgd9 (f:=qc9) (a:=a) rfl
theorem qtI9 {a : Int} {l : List (Int)} {i : Nat} : (rowP qc9 l).set i [.d (.v (.int .u32 a))] = rowP qc9 (l.set i a):=qgP9 (f:=qc9) (a:=a) rfl
theorem quq9 {a : Int} {k : Int} {l : List (Int × (Int))} : putP (.int .i64 k) (.d (.v (.int .u32 a))) (mapP keyI qc9 l) = some (mapP keyI qc9 (mset l k a)):=qgA9 (f:=qc9) (v:=a) rfl
theorem qtO9 {a : Int} {k : ByteArray} {l : List (ByteArray × (Int))} : putP (.string k) (.d (.v (.int .u32 a))) (mapP keyS qc9 l) = some (mapP keyS qc9 (mset l k a)):=qgR9 (f:=qc9) (v:=a) rfl
theorem quh9 {a : Int} {n : Nat} : List.replicate n [.d (.v (.int .u32 a))] = rowP qc9 (List.replicate n a):=qhK9 (f:=qc9) (a:=a) rfl
theorem qvA9 {h : AHeap} {l : List (Int)} {k : IntKind} {n : Int} : ixA h 1 (.d (.rd (l.map qbT9))) (.d (.v (.int k n))) = (idx l n).map fun a=>.d (.bx (qbT9 a)):=qiS9 (f:=qbT9) (fun _=>rfl)
theorem qvP9 {h : AHeap} {l : List (Int)} {i k : Int} {a b : IntKind} : cutA 1 h (.d (.rd (l.map qbT9))) (some (.d (.v (.int a i)))) (some (.d (.v (.int b k)))) = (cutL l i k).map fun l=>.d (.rd (l.map qbT9)):=qgF9 (f:=qbT9) (fun _=>rfl)
theorem quX9 {h : AHeap} {l : List (Int)} {k : Int} {b : IntKind} : cutA 1 h (.d (.rd (l.map qbT9))) none (some (.d (.v (.int b k)))) = (cutL l 0 k).map fun l=>.d (.rd (l.map qbT9)):=qfL9 (f:=qbT9) (fun _=>rfl)
theorem quz9 {h : AHeap} {l : List (Int)} {i : Int} {a : IntKind} : cutA 1 h (.d (.rd (l.map qbT9))) (some (.d (.v (.int a i)))) none = (cutL l i (l.length : Int)).map fun l=>.d (.rd (l.map qbT9)):=qfJ9 (f:=qbT9) (fun _=>rfl)
theorem qvz9 {l : List (Int)} : (rowP qbT9 l).all (fun cs=>cs.length == 1) = true:=qgm9 (f:=qbT9) (fun _=>rfl)
theorem qvd9 {a : Int} {l : List (Int)} {r : List (List PV)} : rowP qbT9 l++([.d (.v (.int .u8 a))]::r) = rowP qbT9 (l++[a])++r:=qgd9 (f:=qbT9) (a:=a) rfl
theorem qvr9 {a : Int} {l : List (Int)} {i : Nat} : (rowP qbT9 l).set i [.d (.v (.int .u8 a))] = rowP qbT9 (l.set i a):=qgP9 (f:=qbT9) (a:=a) rfl
theorem qvq9 {a : Int} {k : Int} {l : List (Int × (Int))} : putP (.int .i64 k) (.d (.v (.int .u8 a))) (mapP keyI qbT9 l) = some (mapP keyI qbT9 (mset l k a)):=qgA9 (f:=qbT9) (v:=a) rfl
theorem qwc9 {a : Int} {k : ByteArray} {l : List (ByteArray × (Int))} : putP (.string k) (.d (.v (.int .u8 a))) (mapP keyS qbT9 l) = some (mapP keyS qbT9 (mset l k a)):=qgR9 (f:=qbT9) (v:=a) rfl
theorem quF9 {a : Int} {n : Nat} : List.replicate n [.d (.v (.int .u8 a))] = rowP qbT9 (List.replicate n a):=qhK9 (f:=qbT9) (a:=a) rfl
theorem qzO9 {h : AHeap} {c : List D} : elems h (.d (.rd [c])) = some [c.map PV.d]:=by simp [elems]
section
variable {α : Type} {f : α→List D} {h : AHeap}
theorem qAU9 {l : List (List α)} {k : IntKind} {n : Int} : ixA h 1 (.d (.rd (l.map (lsD f)))) (.d (.v (.int k n))) = (idx l n).map fun a=>.d (.bx ((lsD f) a)):=qiS9 (f:=(lsD f)) (fun _=>rfl)
theorem qAV9 {l : List (List α)} {i k : Int} {a b : IntKind} : cutA 1 h (.d (.rd (l.map (lsD f)))) (some (.d (.v (.int a i)))) (some (.d (.v (.int b k)))) = (cutL l i k).map fun l=>.d (.rd (l.map (lsD f))):=qgF9 (f:=(lsD f)) (fun _=>rfl)
theorem qBb9 {l : List (List α)} {k : Int} {b : IntKind} : cutA 1 h (.d (.rd (l.map (lsD f)))) none (some (.d (.v (.int b k)))) = (cutL l 0 k).map fun l=>.d (.rd (l.map (lsD f))):=qfL9 (f:=(lsD f)) (fun _=>rfl)
theorem qAX9 {l : List (List α)} {i : Int} {a : IntKind} : cutA 1 h (.d (.rd (l.map (lsD f)))) (some (.d (.v (.int a i)))) none = (cutL l i (l.length : Int)).map fun l=>.d (.rd (l.map (lsD f))):=qfJ9 (f:=(lsD f)) (fun _=>rfl)
theorem qBa9 {l : List (List α)} : (rowP (lsD f) l).all (fun cs=>cs.length == 1) = true:=qgm9 (f:=(lsD f)) (fun _=>rfl)
theorem qAY9 {a : List α} {l : List (List α)} {r : List (List PV)} : rowP (lsD f) l++([.d (.rd (a.map f))]::r) = rowP (lsD f) (l++[a])++r:=qgd9 (f:=(lsD f)) (a:=a) rfl
theorem qAZ9 {a : List α} {l : List (List α)} {i : Nat} : (rowP (lsD f) l).set i [.d (.rd (a.map f))] = rowP (lsD f) (l.set i a):=qgP9 (f:=(lsD f)) (a:=a) rfl
theorem qAW9 {a : List α} {k : Int} {l : List (Int × (List α))} : putP (.int .i64 k) (.d (.rd (a.map f))) (mapP keyI (lsD f) l) = some (mapP keyI (lsD f) (mset l k a)):=qgA9 (f:=(lsD f)) (v:=a) rfl
theorem ps_ls {a : List α} {k : ByteArray} {l : List (ByteArray × (List α))} : putP (.string k) (.d (.rd (a.map f))) (mapP keyS (lsD f) l) = some (mapP keyS (lsD f) (mset l k a)):=qgR9 (f:=(lsD f)) (v:=a) rfl
theorem qye9 {l : List (List (List α))} {k : IntKind} {n : Int} : ixA h 1 (.d (.rd (l.map (lsD (lsD f))))) (.d (.v (.int k n))) = (idx l n).map fun a=>.d (.bx ((lsD (lsD f)) a)):=qiS9 (f:=(lsD (lsD f))) (fun _=>rfl)
theorem qyW9 {l : List (List (List α))} {i k : Int} {a b : IntKind} : cutA 1 h (.d (.rd (l.map (lsD (lsD f))))) (some (.d (.v (.int a i)))) (some (.d (.v (.int b k)))) = (cutL l i k).map fun l=>.d (.rd (l.map (lsD (lsD f)))):=qgF9 (f:=(lsD (lsD f))) (fun _=>rfl)
theorem qzn9 {l : List (List (List α))} {k : Int} {b : IntKind} : cutA 1 h (.d (.rd (l.map (lsD (lsD f))))) none (some (.d (.v (.int b k)))) = (cutL l 0 k).map fun l=>.d (.rd (l.map (lsD (lsD f)))):=qfL9 (f:=(lsD (lsD f))) (fun _=>rfl)
theorem qzq9 {l : List (List (List α))} {i : Int} {a : IntKind} : cutA 1 h (.d (.rd (l.map (lsD (lsD f))))) (some (.d (.v (.int a i)))) none = (cutL l i (l.length : Int)).map fun l=>.d (.rd (l.map (lsD (lsD f)))):=qfJ9 (f:=(lsD (lsD f))) (fun _=>rfl)
theorem qym9 {l : List (List (List α))} : (rowP (lsD (lsD f)) l).all (fun cs=>cs.length == 1) = true:=qgm9 (f:=(lsD (lsD f))) (fun _=>rfl)
theorem qyF9 {a : List (List α)} {l : List (List (List α))} {r : List (List PV)} : rowP (lsD (lsD f)) l++([.d (.rd (a.map (lsD f)))]::r) = rowP (lsD (lsD f)) (l++[a])++r:=qgd9 (f:=(lsD (lsD f))) (a:=a) rfl
theorem qyj9 {a : List (List α)} {l : List (List (List α))} {i : Nat} : (rowP (lsD (lsD f)) l).set i [.d (.rd (a.map (lsD f)))] = rowP (lsD (lsD f)) (l.set i a):=qgP9 (f:=(lsD (lsD f))) (a:=a) rfl
theorem qyq9 {a : List (List α)} {k : Int} {l : List (Int × (List (List α)))} : putP (.int .i64 k) (.d (.rd (a.map (lsD f)))) (mapP keyI (lsD (lsD f)) l) = some (mapP keyI (lsD (lsD f)) (mset l k a)):=qgA9 (f:=(lsD (lsD f))) (v:=a) rfl
theorem qyC9 {a : List (List α)} {k : ByteArray} {l : List (ByteArray × (List (List α)))} : putP (.string k) (.d (.rd (a.map (lsD f)))) (mapP keyS (lsD (lsD f)) l) = some (mapP keyS (lsD (lsD f)) (mset l k a)):=qgR9 (f:=(lsD (lsD f))) (v:=a) rfl
end
attribute [go_sem] qyA9 qzc9 qze9 qzf9 qyM9 qyn9 qxV9 qyP9 qyz9 qyx9 qwn9 qwk9 qxs9 qxf9 qwU9 qwM9 qwA9 qxa9 qxI9 qwv9 qxW9 qyR9 qzy9 qzv9 qzb9 qyr9 qza9 qzA9 qzB9 qys9 qAo9 qAa9 qAI9 qzG9 qzM9 quc9 qtS9 qtd9 qty9 qud9 quj9 qsM9 qtC9 qtn9 qup9 qtc9 quo9 qti9 qsN9 qtt9 qus9 qtI9 quq9 qtO9 quh9 qvA9 qvP9 quX9 quz9 qvz9 qvd9 qvr9 qvq9 qwc9 quF9 qzO9 qAU9 qAV9 qBb9 qAX9 qBa9 qAY9 qAZ9 qAW9 ps_ls qye9 qyW9 qzn9 qzq9 qym9 qyF9 qyj9 qyq9 qyC9 intD boolD strD ifD lsD ar2D ar3D bxD qa9 qc9 qbT9
end Ld

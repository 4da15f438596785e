import Derived.Test.YtmkohpkfeamjiaaAbs39
set_option maxHeartbeats 400000
set_option linter.unusedVariables false
set_option linter.unusedSimpArgs false
set_option linter.unusedSectionVars false
namespace Ld
open Go Go.Abs
structure Mono where
 Coef : List Int
 Exps : List Int
 deriving DecidableEq
def qa9 (x : Mono) : List D:=[.rd (x.Coef.map qc9),.rd (x.Exps.map intD)]
def qjy9 (x : Mono) : Prop:=(okL (okI .u32)) x.Coef∧(okL (okI .i64)) x.Exps
theorem qAw9 {h : AHeap} {l : List (Int)} {k : IntKind} {n : Int} : ixA h 1 (.d (.rd (l.map intD))) (.d (.v (.int k n))) = (idx l n).map fun a=>.d (.bx (intD a)):=qji9 (f:=intD) (fun _=>rfl)
theorem qAY9 {h : AHeap} {l : List (Int)} {i k : Int} {a b : IntKind} : cutA 1 h (.d (.rd (l.map intD))) (some (.d (.v (.int a i)))) (some (.d (.v (.int b k)))) = (cutL l i k).map fun l=>.d (.rd (l.map intD)):=qgK9 (f:=intD) (fun _=>rfl)
theorem qBa9 {h : AHeap} {l : List (Int)} {k : Int} {b : IntKind} : cutA 1 h (.d (.rd (l.map intD))) none (some (.d (.v (.int b k)))) = (cutL l 0 k).map fun l=>.d (.rd (l.map intD)):=qfO9 (f:=intD) (fun _=>rfl)
theorem qBb9 {h : AHeap} {l : List (Int)} {i : Int} {a : IntKind} : cutA 1 h (.d (.rd (l.map intD))) (some (.d (.v (.int a i)))) none = (cutL l i (l.length : Int)).map fun l=>.d (.rd (l.map intD)):=qfJ9 (f:=intD) (fun _=>rfl)
theorem qAI9 {l : List (Int)} : (rowP intD l).all (fun cs=>cs.length == 1) = true:=qgs9 (f:=intD) (fun _=>rfl)
theorem qAf9 {a : Int} {l : List (Int)} {r : List (List PV)} : rowP intD l++([.d (.v (.int .i64 a))]::r) = rowP intD (l++[a])++r:=qgi9 (f:=intD) (a:=a) rfl
theorem qzJ9 {a : Int} {l : List (Int)} {i : Nat} : (rowP intD l).set i [.d (.v (.int .i64 a))] = rowP intD (l.set i a):=qgX9 (f:=intD) (a:=a) rfl
theorem qAL9 {a : Int} {k : Int} {l : List (Int × (Int))} : putP (.int .i64 k) (.d (.v (.int .i64 a))) (mapP keyI intD l) = some (mapP keyI intD (mset l k a)):=qgG9 (f:=intD) (v:=a) rfl
theorem qAv9 {a : Int} {k : ByteArray} {l : List (ByteArray × (Int))} : putP (.string k) (.d (.v (.int .i64 a))) (mapP keyS intD l) = some (mapP keyS intD (mset l k a)):=qha9 (f:=intD) (v:=a) rfl
theorem qAs9 {a : Int} {n : Nat} : List.replicate n [.d (.v (.int .i64 a))] = rowP intD (List.replicate n a):=qhT9 (f:=intD) (a:=a) rfl
theorem qxP9 {h : AHeap} {l : List (Bool)} {k : IntKind} {n : Int} : ixA h 1 (.d (.rd (l.map boolD))) (.d (.v (.int k n))) = (idx l n).map fun a=>.d (.bx (boolD a)):=qji9 (f:=boolD) (fun _=>rfl)
theorem qxM9 {h : AHeap} {l : List (Bool)} {i k : Int} {a b : IntKind} : cutA 1 h (.d (.rd (l.map boolD))) (some (.d (.v (.int a i)))) (some (.d (.v (.int b k)))) = (cutL l i k).map fun l=>.d (.rd (l.map boolD)):=qgK9 (f:=boolD) (fun _=>rfl)
theorem qzb9 {h : AHeap} {l : List (Bool)} {k : Int} {b : IntKind} : cutA 1 h (.d (.rd (l.map boolD))) none (some (.d (.v (.int b k)))) = (cutL l 0 k).map fun l=>.d (.rd (l.map boolD)):=qfO9 (f:=boolD) (fun _=>rfl)
theorem qyO9 {h : AHeap} {l : List (Bool)} {i : Int} {a : IntKind} : cutA 1 h (.d (.rd (l.map boolD))) (some (.d (.v (.int a i)))) none = (cutL l i (l.length : Int)).map fun l=>.d (.rd (l.map boolD)):=qfJ9 (f:=boolD) (fun _=>rfl)
theorem qyC9 {l : List (Bool)} : (rowP boolD l).all (fun cs=>cs.length == 1) = true:=qgs9 (f:=boolD) (fun _=>rfl)
theorem qyt9 {a : Bool} {l : List (Bool)} {r : List (List PV)} : rowP boolD l++([.d (.v (.bool a))]::r) = rowP boolD (l++[a])++r:=qgi9 (f:=boolD) (a:=a) rfl
theorem qyg9 {a : Bool} {l : List (Bool)} {i : Nat} : (rowP boolD l).set i [.d (.v (.bool a))] = rowP boolD (l.set i a):=qgX9 (f:=boolD) (a:=a) rfl
theorem qyH9 {a : Bool} {k : Int} {l : List (Int × (Bool))} : putP (.int .i64 k) (.d (.v (.bool a))) (mapP keyI boolD l) = some (mapP keyI boolD (mset l k a)):=qgG9 (f:=boolD) (v:=a) rfl
theorem qzu9 {a : Bool} {k : ByteArray} {l : List (ByteArray × (Bool))} : putP (.string k) (.d (.v (.bool a))) (mapP keyS boolD l) = some (mapP keyS boolD (mset l k a)):=qha9 (f:=boolD) (v:=a) rfl
theorem qya9 {a : Bool} {n : Nat} : List.replicate n [.d (.v (.bool a))] = rowP boolD (List.replicate n a):=qhT9 (f:=boolD) (a:=a) rfl
theorem qzK9 {h : AHeap} {l : List (ByteArray)} {k : IntKind} {n : Int} : ixA h 1 (.d (.rd (l.map strD))) (.d (.v (.int k n))) = (idx l n).map fun a=>.d (.bx (strD a)):=qji9 (f:=strD) (fun _=>rfl)
theorem qAO9 {h : AHeap} {l : List (ByteArray)} {i k : Int} {a b : IntKind} : cutA 1 h (.d (.rd (l.map strD))) (some (.d (.v (.int a i)))) (some (.d (.v (.int b k)))) = (cutL l i k).map fun l=>.d (.rd (l.map strD)):=qgK9 (f:=strD) (fun _=>rfl)
theorem qBt9 {h : AHeap} {l : List (ByteArray)} {k : Int} {b : IntKind} : cutA 1 h (.d (.rd (l.map strD))) none (some (.d (.v (.int b k)))) = (cutL l 0 k).map fun l=>.d (.rd (l.map strD)):=qfO9 (f:=strD) (fun _=>rfl)
theorem qBq9 {h : AHeap} {l : List (ByteArray)} {i : Int} {a : IntKind} : cutA 1 h (.d (.rd (l.map strD))) (some (.d (.v (.int a i)))) none = (cutL l i (l.length : Int)).map fun l=>.d (.rd (l.map strD)):=qfJ9 (f:=strD) (fun _=>rfl)
theorem qAX9 {l : List (ByteArray)} : (rowP strD l).all (fun cs=>cs.length == 1) = true:=qgs9 (f:=strD) (fun _=>rfl)
theorem qAm9 {a : ByteArray} {l : List (ByteArray)} {r : List (List PV)} : rowP strD l++([.d (.v (.string a))]::r) = rowP strD (l++[a])++r:=qgi9 (f:=strD) (a:=a) rfl
theorem qAW9 {a : ByteArray} {l : List (ByteArray)} {i : Nat} : (rowP strD l).set i [.d (.v (.string a))] = rowP strD (l.set i a):=qgX9 (f:=strD) (a:=a) rfl
theorem qBv9 {a : ByteArray} {k : Int} {l : List (Int × (ByteArray))} : putP (.int .i64 k) (.d (.v (.string a))) (mapP keyI strD l) = some (mapP keyI strD (mset l k a)):=qgG9 (f:=strD) (v:=a) rfl
theorem qBw9 {a : ByteArray} {k : ByteArray} {l : List (ByteArray × (ByteArray))} : putP (.string k) (.d (.v (.string a))) (mapP keyS strD l) = some (mapP keyS strD (mset l k a)):=qha9 (f:=strD) (v:=a) rfl
theorem qAn9 {a : ByteArray} {n : Nat} : List.replicate n [.d (.v (.string a))] = rowP strD (List.replicate n a):=qhT9 (f:=strD) (a:=a) rfl
theorem qCm9 {h : AHeap} {l : List (D)} {k : IntKind} {n : Int} : ixA h 1 (.d (.rd (l.map ifD))) (.d (.v (.int k n))) = (idx l n).map fun a=>.d (.bx (ifD a)):=qji9 (f:=ifD) (fun _=>rfl)
theorem qBX9 {h : AHeap} {l : List (D)} {i k : Int} {a b : IntKind} : cutA 1 h (.d (.rd (l.map ifD))) (some (.d (.v (.int a i)))) (some (.d (.v (.int b k)))) = (cutL l i k).map fun l=>.d (.rd (l.map ifD)):=qgK9 (f:=ifD) (fun _=>rfl)
theorem qCJ9 {h : AHeap} {l : List (D)} {k : Int} {b : IntKind} : cutA 1 h (.d (.rd (l.map ifD))) none (some (.d (.v (.int b k)))) = (cutL l 0 k).map fun l=>.d (.rd (l.map ifD)):=qfO9 (f:=ifD) (fun _=>rfl)
theorem qBB9 {h : AHeap} {l : List (D)} {i : Int} {a : IntKind} : cutA 1 h (.d (.rd (l.map ifD))) (some (.d (.v (.int a i)))) none = (cutL l i (l.length : Int)).map fun l=>.d (.rd (l.map ifD)):=qfJ9 (f:=ifD) (fun _=>rfl)
theorem qBJ9 {l : List (D)} : (rowP ifD l).all (fun cs=>cs.length == 1) = true:=qgs9 (f:=ifD) (fun _=>rfl)
theorem qvt9 {h : AHeap} {l : List (Mono)} {k : IntKind} {n : Int} : ixA h 2 (.d (.rd (l.map qa9))) (.d (.v (.int k n))) = (idx l n).map fun a=>.d (.bx (qa9 a)):=qji9 (f:=qa9) (fun _=>rfl)
theorem qvj9 {h : AHeap} {l : List (Mono)} {i k : Int} {a b : IntKind} : cutA 2 h (.d (.rd (l.map qa9))) (some (.d (.v (.int a i)))) (some (.d (.v (.int b k)))) = (cutL l i k).map fun l=>.d (.rd (l.map qa9)):=qgK9 (f:=qa9) (fun _=>rfl)
theorem qur9 {h : AHeap} {l : List (Mono)} {k : Int} {b : IntKind} : cutA 2 h (.d (.rd (l.map qa9))) none (some (.d (.v (.int b k)))) = (cutL l 0 k).map fun l=>.d (.rd (l.map qa9)):=qfO9 (f:=qa9) (fun _=>rfl)
theorem quN9 {h : AHeap} {l : List (Mono)} {i : Int} {a : IntKind} : cutA 2 h (.d (.rd (l.map qa9))) (some (.d (.v (.int a i)))) none = (cutL l i (l.length : Int)).map fun l=>.d (.rd (l.map qa9)):=qfJ9 (f:=qa9) (fun _=>rfl)
theorem qvv9 {l : List (Mono)} : (rowP qa9 l).all (fun cs=>cs.length == 2) = true:=qgs9 (f:=qa9) (fun _=>rfl)
theorem qvB9 {y0 : List Int} {y1 : List Int} {l : List (Mono)} {r : List (List PV)} : rowP qa9 l++([.d (.rd (y0.map qc9)),.d (.rd (y1.map intD))]::r) = rowP qa9 (l++[(Mono.mk y0 y1)])++r:=qgi9 (f:=qa9) (a:=(Mono.mk y0 y1)) rfl
theorem qud9 {y0 : List Int} {y1 : List Int} {l : List (Mono)} {i : Nat} : (rowP qa9 l).set i [.d (.rd (y0.map qc9)),.d (.rd (y1.map intD))] = rowP qa9 (l.set i (Mono.mk y0 y1)):=qgX9 (f:=qa9) (a:=(Mono.mk y0 y1)) rfl
theorem quR9 {y0 : List Int} {y1 : List Int} {k : Int} {l : List (Int × (Mono))} : putP (.int .i64 k) (.ag [.d (.rd (y0.map qc9)),.d (.rd (y1.map intD))]) (mapP keyI qa9 l) = some (mapP keyI qa9 (mset l k (Mono.mk y0 y1))):=qgG9 (f:=qa9) (v:=(Mono.mk y0 y1)) rfl
theorem quB9 {y0 : List Int} {y1 : List Int} {k : ByteArray} {l : List (ByteArray × (Mono))} : putP (.string k) (.ag [.d (.rd (y0.map qc9)),.d (.rd (y1.map intD))]) (mapP keyS qa9 l) = some (mapP keyS qa9 (mset l k (Mono.mk y0 y1))):=qha9 (f:=qa9) (v:=(Mono.mk y0 y1)) rfl
theorem qvH9 {y0 : List Int} {y1 : List Int} {n : Nat} : List.replicate n [.d (.rd (y0.map qc9)),.d (.rd (y1.map intD))] = rowP qa9 (List.replicate n (Mono.mk y0 y1)):=qhT9 (f:=qa9) (a:=(Mono.mk y0 y1)) rfl
theorem quq9 {h : AHeap} {l : List (Int)} {k : IntKind} {n : Int} : ixA h 1 (.d (.rd (l.map qc9))) (.d (.v (.int k n))) = (idx l n).map fun a=>.d (.bx (qc9 a)):=qji9 (f:=qc9) (fun _=>rfl)
theorem qvG9 {h : AHeap} {l : List (Int)} {i k : Int} {a b : IntKind} : cutA 1 h (.d (.rd (l.map qc9))) (some (.d (.v (.int a i)))) (some (.d (.v (.int b k)))) = (cutL l i k).map fun l=>.d (.rd (l.map qc9)):=qgK9 (f:=qc9) (fun _=>rfl)
theorem quv9 {h : AHeap} {l : List (Int)} {k : Int} {b : IntKind} : cutA 1 h (.d (.rd (l.map qc9))) none (some (.d (.v (.int b k)))) = (cutL l 0 k).map fun l=>.d (.rd (l.map qc9)):=qfO9 (f:=qc9) (fun _=>rfl)
theorem que9 {h : AHeap} {l : List (Int)} {i : Int} {a : IntKind} : cutA 1 h (.d (.rd (l.map qc9))) (some (.d (.v (.int a i)))) none = (cutL l i (l.length : Int)).map fun l=>.d (.rd (l.map qc9)):=qfJ9 (f:=qc9) (fun _=>rfl)
theorem quH9 {l : List (Int)} : (rowP qc9 l).all (fun cs=>cs.length == 1) = true:=qgs9 (f:=qc9) (fun _=>rfl)
theorem qvJ9 {a : Int} {l : List (Int)} {r : List (List PV)} : rowP qc9 l++([.d (.v (.int .u32 a))]::r) = rowP qc9 (l++[a])++r:=qgi9 (f:=qc9) (a:=a) rfl
theorem quY9 {a : Int} {l : List (Int)} {i : Nat} : (rowP qc9 l).set i [.d (.v (.int .u32 a))] = rowP qc9 (l.set i a):=qgX9 (f:=qc9) (a:=a) rfl
theorem qvI9 {a : Int} {k : Int} {l : List (Int × (Int))} : putP (.int .i64 k) (.d (.v (.int .u32 a))) (mapP keyI qc9 l) = some (mapP keyI qc9 (mset l k a)):=qgG9 (f:=qc9) (v:=a) rfl
theorem qvf9 {a : Int} {k : ByteArray} {l : List (ByteArray × (Int))} : putP (.string k) (.d (.v (.int .u32 a))) (mapP keyS qc9 l) = some (mapP keyS qc9 (mset l k a)):=qha9 (f:=qc9) (v:=a) rfl
theorem qvz9 {a : Int} {n : Nat} : List.replicate n [.d (.v (.int .u32 a))] = rowP qc9 (List.replicate n a):=qhT9 (f:=qc9) (a:=a) rfl
theorem qwZ9 {h : AHeap} {l : List (Int)} {k : IntKind} {n : Int} : ixA h 1 (.d (.rd (l.map qbP9))) (.d (.v (.int k n))) = (idx l n).map fun a=>.d (.bx (qbP9 a)):=qji9 (f:=qbP9) (fun _=>rfl)
theorem qxq9 {h : AHeap} {l : List (Int)} {i k : Int} {a b : IntKind} : cutA 1 h (.d (.rd (l.map qbP9))) (some (.d (.v (.int a i)))) (some (.d (.v (.int b k)))) = (cutL l i k).map fun l=>.d (.rd (l.map qbP9)):=qgK9 (f:=qbP9) (fun _=>rfl)
theorem qwo9 {h : AHeap} {l : List (Int)} {k : Int} {b : IntKind} : cutA 1 h (.d (.rd (l.map qbP9))) none (some (.d (.v (.int b k)))) = (cutL l 0 k).map fun l=>.d (.rd (l.map qbP9)):=qfO9 (f:=qbP9) (fun _=>rfl)
theorem qvP9 {h : AHeap} {l : List (Int)} {i : Int} {a : IntKind} : cutA 1 h (.d (.rd (l.map qbP9))) (some (.d (.v (.int a i)))) none = (cutL l i (l.length : Int)).map fun l=>.d (.rd (l.map qbP9)):=qfJ9 (f:=qbP9) (fun _=>rfl)
theorem qwY9 {l : List (Int)} : (rowP qbP9 l).all (fun cs=>cs.length == 1) = true:=qgs9 (f:=qbP9) (fun _=>rfl)
theorem qww9 {a : Int} {l : List (Int)} {r : List (List PV)} : rowP qbP9 l++([.d (.v (.int .u8 a))]::r) = rowP qbP9 (l++[a])++r:=qgi9 (f:=qbP9) (a:=a) rfl
theorem qwO9 {a : Int} {l : List (Int)} {i : Nat} : (rowP qbP9 l).set i [.d (.v (.int .u8 a))] = rowP qbP9 (l.set i a):=qgX9 (f:=qbP9) (a:=a) rfl
theorem qwN9 {a : Int} {k : Int} {l : List (Int × (Int))} : putP (.int .i64 k) (.d (.v (.int .u8 a))) (mapP keyI qbP9 l) = some (mapP keyI qbP9 (mset l k a)):=qgG9 (f:=qbP9) (v:=a) rfl
theorem qxD9 {a : Int} {k : ByteArray} {l : List (ByteArray × (Int))} : putP (.string k) (.d (.v (.int .u8 a))) (mapP keyS qbP9 l) = some (mapP keyS qbP9 (mset l k a)):=qha9 (f:=qbP9) (v:=a) rfl
theorem qvV9 {a : Int} {n : Nat} : List.replicate n [.d (.v (.int .u8 a))] = rowP qbP9 (List.replicate n a):=qhT9 (f:=qbP9) (a:=a) rfl
theorem qBL9 {h : AHeap} {c : List D} : elems h (.d (.rd [c])) = some [c.map PV.d]:=by simp [elems]
section
variable {α : Type} {f : α→List D} {h : AHeap}
theorem qCW9 {l : List (List α)} {k : IntKind} {n : Int} : ixA h 1 (.d (.rd (l.map (lsD f)))) (.d (.v (.int k n))) = (idx l n).map fun a=>.d (.bx ((lsD f) a)):=qji9 (f:=(lsD f)) (fun _=>rfl)
theorem qCX9 {l : List (List α)} {i k : Int} {a b : IntKind} : cutA 1 h (.d (.rd (l.map (lsD f)))) (some (.d (.v (.int a i)))) (some (.d (.v (.int b k)))) = (cutL l i k).map fun l=>.d (.rd (l.map (lsD f))):=qgK9 (f:=(lsD f)) (fun _=>rfl)
theorem qDd9 {l : List (List α)} {k : Int} {b : IntKind} : cutA 1 h (.d (.rd (l.map (lsD f)))) none (some (.d (.v (.int b k)))) = (cutL l 0 k).map fun l=>.d (.rd (l.map (lsD f))):=qfO9 (f:=(lsD f)) (fun _=>rfl)
theorem qCZ9 {l : List (List α)} {i : Int} {a : IntKind} : cutA 1 h (.d (.rd (l.map (lsD f)))) (some (.d (.v (.int a i)))) none = (cutL l i (l.length : Int)).map fun l=>.d (.rd (l.map (lsD f))):=qfJ9 (f:=(lsD f)) (fun _=>rfl)
theorem qDc9 {l : List (List α)} : (rowP (lsD f) l).all (fun cs=>cs.length == 1) = true:=qgs9 (f:=(lsD f)) (fun _=>rfl)
theorem qDa9 {a : List α} {l : List (List α)} {r : List (List PV)} : rowP (lsD f) l++([.d (.rd (a.map f))]::r) = rowP (lsD f) (l++[a])++r:=qgi9 (f:=(lsD f)) (a:=a) rfl
theorem qDb9 {a : List α} {l : List (List α)} {i : Nat} : (rowP (lsD f) l).set i [.d (.rd (a.map f))] = rowP (lsD f) (l.set i a):=qgX9 (f:=(lsD f)) (a:=a) rfl
theorem qCY9 {a : List α} {k : Int} {l : List (Int × (List α))} : putP (.int .i64 k) (.d (.rd (a.map f))) (mapP keyI (lsD f) l) = some (mapP keyI (lsD f) (mset l k a)):=qgG9 (f:=(lsD f)) (v:=a) rfl
theorem ps_ls {a : List α} {k : ByteArray} {l : List (ByteArray × (List α))} : putP (.string k) (.d (.rd (a.map f))) (mapP keyS (lsD f) l) = some (mapP keyS (lsD f) (mset l k a)):=qha9 (f:=(lsD f)) (v:=a) rfl
theorem qzV9 {l : List (List (List α))} {k : IntKind} {n : Int} : ixA h 1 (.d (.rd (l.map (lsD (lsD f))))) (.d (.v (.int k n))) = (idx l n).map fun a=>.d (.bx ((lsD (lsD f)) a)):=qji9 (f:=(lsD (lsD f))) (fun _=>rfl)
theorem qAS9 {l : List (List (List α))} {i k : Int} {a b : IntKind} : cutA 1 h (.d (.rd (l.map (lsD (lsD f))))) (some (.d (.v (.int a i)))) (some (.d (.v (.int b k)))) = (cutL l i k).map fun l=>.d (.rd (l.map (lsD (lsD f)))):=qgK9 (f:=(lsD (lsD f))) (fun _=>rfl)
theorem qBj9 {l : List (List (List α))} {k : Int} {b : IntKind} : cutA 1 h (.d (.rd (l.map (lsD (lsD f))))) none (some (.d (.v (.int b k)))) = (cutL l 0 k).map fun l=>.d (.rd (l.map (lsD (lsD f)))):=qfO9 (f:=(lsD (lsD f))) (fun _=>rfl)
theorem qBl9 {l : List (List (List α))} {i : Int} {a : IntKind} : cutA 1 h (.d (.rd (l.map (lsD (lsD f))))) (some (.d (.v (.int a i)))) none = (cutL l i (l.length : Int)).map fun l=>.d (.rd (l.map (lsD (lsD f)))):=qfJ9 (f:=(lsD (lsD f))) (fun _=>rfl)
theorem qAe9 {l : List (List (List α))} : (rowP (lsD (lsD f)) l).all (fun cs=>cs.length == 1) = true:=qgs9 (f:=(lsD (lsD f))) (fun _=>rfl)
theorem qAB9 {a : List (List α)} {l : List (List (List α))} {r : List (List PV)} : rowP (lsD (lsD f)) l++([.d (.rd (a.map (lsD f)))]::r) = rowP (lsD (lsD f)) (l++[a])++r:=qgi9 (f:=(lsD (lsD f))) (a:=a) rfl
theorem qAb9 {a : List (List α)} {l : List (List (List α))} {i : Nat} : (rowP (lsD (lsD f)) l).set i [.d (.rd (a.map (lsD f)))] = rowP (lsD (lsD f)) (l.set i a):=qgX9 (f:=(lsD (lsD f))) (a:=a) rfl
theorem qAj9 {a : List (List α)} {k : Int} {l : List (Int × (List (List α)))} : putP (.int .i64 k) (.d (.rd (a.map (lsD f)))) (mapP keyI (lsD (lsD f)) l) = some (mapP keyI (lsD (lsD f)) (mset l k a)):=qgG9 (f:=(lsD (lsD f))) (v:=a) rfl
theorem qAy9 {a : List (List α)} {k : ByteArray} {l : List (ByteArray × (List (List α)))} : putP (.string k) (.d (.rd (a.map (lsD f)))) (mapP keyS (lsD (lsD f)) l) = some (mapP keyS (lsD (lsD f)) (mset l k a)):=qha9 (f:=(lsD (lsD f))) (v:=a) rfl
end
attribute [go_sem] qAw9 qAY9 qBa9 qBb9 qAI9 qAf9 qzJ9 qAL9 qAv9 qAs9 qxP9 qxM9 qzb9 qyO9 qyC9 qyt9 qyg9 qyH9 qzu9 qya9 qzK9 qAO9 qBt9 qBq9 qAX9 qAm9 qAW9 qBv9 qBw9 qAn9 qCm9 qBX9 qCJ9 qBB9 qBJ9 qvt9 qvj9 qur9 quN9 qvv9 qvB9 qud9 quR9 quB9 qvH9 quq9 qvG9 quv9 que9 quH9 qvJ9 quY9 qvI9 qvf9 qvz9 qwZ9 qxq9 qwo9 qvP9 qwY9 qww9 qwO9 qwN9 qxD9 qvV9 qBL9 qCW9 qCX9 qDd9 qCZ9 qDc9 qDa9 qDb9 qCY9 ps_ls qzV9 qAS9 qBj9 qBl9 qAe9 qAB9 qAb9 qAj9 qAy9 intD boolD strD ifD lsD ar2D ar3D bxD qa9 qc9 qbP9
end Ld

import Derived.Test.YtmkohpkfeamjiaaSf1
set_option maxHeartbeats 400000
set_option linter.unusedVariables false
set_option linter.unusedSimpArgs false
set_option linter.unusedSectionVars false
namespace Ld
open Go Go.Abs
structure Mono where
 Coef : List Int
 Exps : List Int
 deriving DecidableEq
def qa9 (x : Mono) : List D:=[.rd (x.Coef.map qb9),.rd (x.Exps.map intD)]
def qcX9 (x : Mono) : Prop:=(okL (okI .u32)) x.Coef∧(okL (okI .i64)) x.Exps
theorem qyf9 {h : AHeap} {l : List (Int)} {k : IntKind} {n : Int} : ixA h 1 (.d (.rd (l.map intD))) (.d (.v (.int k n))) = (idx l n).map fun a=>.d (.bx (intD a)):=qhd9 (f:=intD) (fun _=>rfl)
theorem qyG9 {h : AHeap} {l : List (Int)} {i k : Int} {a b : IntKind} : cutA 1 h (.d (.rd (l.map intD))) (some (.d (.v (.int a i)))) (some (.d (.v (.int b k)))) = (cutL l i k).map fun l=>.d (.rd (l.map intD)):=qeB9 (f:=intD) (fun _=>rfl)
theorem qyI9 {h : AHeap} {l : List (Int)} {k : Int} {b : IntKind} : cutA 1 h (.d (.rd (l.map intD))) none (some (.d (.v (.int b k)))) = (cutL l 0 k).map fun l=>.d (.rd (l.map intD)):=qdv9 (f:=intD) (fun _=>rfl)
theorem qyJ9 {h : AHeap} {l : List (Int)} {i : Int} {a : IntKind} : cutA 1 h (.d (.rd (l.map intD))) (some (.d (.v (.int a i)))) none = (cutL l i (l.length : Int)).map fun l=>.d (.rd (l.map intD)):=qdr9 (f:=intD) (fun _=>rfl)
theorem qys9 {l : List (Int)} : (rowP intD l).all (fun cs=>cs.length == 1) = true:=qef9 (f:=intD) (fun _=>rfl)
theorem qxS9 {a : Int} {l : List (Int)} {r : List (List PV)} : rowP intD l++([.d (.v (.int .i64 a))]::r) = rowP intD (l++[a])++r:=qdU9 (f:=intD) (a:=a) rfl
theorem qxx9 {a : Int} {l : List (Int)} {i : Nat} : (rowP intD l).set i [.d (.v (.int .i64 a))] = rowP intD (l.set i a):=qeM9 (f:=intD) (a:=a) rfl
theorem qyu9 {a : Int} {k : Int} {l : List (Int × (Int))} : putP (.int .i64 k) (.d (.v (.int .i64 a))) (mapP keyI intD l) = some (mapP keyI intD (mset l k a)):=qev9 (f:=intD) (v:=a) rfl
theorem qye9 {a : Int} {k : ByteArray} {l : List (ByteArray × (Int))} : putP (.string k) (.d (.v (.int .i64 a))) (mapP keyS intD l) = some (mapP keyS intD (mset l k a)):=qeO9 (f:=intD) (v:=a) rfl
theorem qyb9 {a : Int} {n : Nat} : List.replicate n [.d (.v (.int .i64 a))] = rowP intD (List.replicate n a):=qfG9 (f:=intD) (a:=a) rfl
theorem qvD9 {h : AHeap} {l : List (Bool)} {k : IntKind} {n : Int} : ixA h 1 (.d (.rd (l.map boolD))) (.d (.v (.int k n))) = (idx l n).map fun a=>.d (.bx (boolD a)):=qhd9 (f:=boolD) (fun _=>rfl)
theorem qvA9 {h : AHeap} {l : List (Bool)} {i k : Int} {a b : IntKind} : cutA 1 h (.d (.rd (l.map boolD))) (some (.d (.v (.int a i)))) (some (.d (.v (.int b k)))) = (cutL l i k).map fun l=>.d (.rd (l.map boolD)):=qeB9 (f:=boolD) (fun _=>rfl)
theorem qwP9 {h : AHeap} {l : List (Bool)} {k : Int} {b : IntKind} : cutA 1 h (.d (.rd (l.map boolD))) none (some (.d (.v (.int b k)))) = (cutL l 0 k).map fun l=>.d (.rd (l.map boolD)):=qdv9 (f:=boolD) (fun _=>rfl)
theorem qwB9 {h : AHeap} {l : List (Bool)} {i : Int} {a : IntKind} : cutA 1 h (.d (.rd (l.map boolD))) (some (.d (.v (.int a i)))) none = (cutL l i (l.length : Int)).map fun l=>.d (.rd (l.map boolD)):=qdr9 (f:=boolD) (fun _=>rfl)
theorem qwp9 {l : List (Bool)} : (rowP boolD l).all (fun cs=>cs.length == 1) = true:=qef9 (f:=boolD) (fun _=>rfl)
theorem qwh9 {a : Bool} {l : List (Bool)} {r : List (List PV)} : rowP boolD l++([.d (.v (.bool a))]::r) = rowP boolD (l++[a])++r:=qdU9 (f:=boolD) (a:=a) rfl
theorem qvV9 {a : Bool} {l : List (Bool)} {i : Nat} : (rowP boolD l).set i [.d (.v (.bool a))] = rowP boolD (l.set i a):=qeM9 (f:=boolD) (a:=a) rfl
theorem qwv9 {a : Bool} {k : Int} {l : List (Int × (Bool))} : putP (.int .i64 k) (.d (.v (.bool a))) (mapP keyI boolD l) = some (mapP keyI boolD (mset l k a)):=qev9 (f:=boolD) (v:=a) rfl
theorem qxi9 {a : Bool} {k : ByteArray} {l : List (ByteArray × (Bool))} : putP (.string k) (.d (.v (.bool a))) (mapP keyS boolD l) = some (mapP keyS boolD (mset l k a)):=qeO9 (f:=boolD) (v:=a) rfl
theorem qvO9 {a : Bool} {n : Nat} : List.replicate n [.d (.v (.bool a))] = rowP boolD (List.replicate n a):=qfG9 (f:=boolD) (a:=a) rfl
theorem qxy9 {h : AHeap} {l : List (ByteArray)} {k : IntKind} {n : Int} : ixA h 1 (.d (.rd (l.map strD))) (.d (.v (.int k n))) = (idx l n).map fun a=>.d (.bx (strD a)):=qhd9 (f:=strD) (fun _=>rfl)
theorem qyw9 {h : AHeap} {l : List (ByteArray)} {i k : Int} {a b : IntKind} : cutA 1 h (.d (.rd (l.map strD))) (some (.d (.v (.int a i)))) (some (.d (.v (.int b k)))) = (cutL l i k).map fun l=>.d (.rd (l.map strD)):=qeB9 (f:=strD) (fun _=>rfl)
theorem qyZ9 {h : AHeap} {l : List (ByteArray)} {k : Int} {b : IntKind} : cutA 1 h (.d (.rd (l.map strD))) none (some (.d (.v (.int b k)))) = (cutL l 0 k).map fun l=>.d (.rd (l.map strD)):=qdv9 (f:=strD) (fun _=>rfl)
theorem qyW9 {h : AHeap} {l : List (ByteArray)} {i : Int} {a : IntKind} : cutA 1 h (.d (.rd (l.map strD))) (some (.d (.v (.int a i)))) none = (cutL l i (l.length : Int)).map fun l=>.d (.rd (l.map strD)):=qdr9 (f:=strD) (fun _=>rfl)
theorem qyF9 {l : List (ByteArray)} : (rowP strD l).all (fun cs=>cs.length == 1) = true:=qef9 (f:=strD) (fun _=>rfl)
theorem qxW9 {a : ByteArray} {l : List (ByteArray)} {r : List (List PV)} : rowP strD l++([.d (.v (.string a))]::r) = rowP strD (l++[a])++r:=qdU9 (f:=strD) (a:=a) rfl
theorem qyE9 {a : ByteArray} {l : List (ByteArray)} {i : Nat} : (rowP strD l).set i [.d (.v (.string a))] = rowP strD (l.set i a):=qeM9 (f:=strD) (a:=a) rfl
theorem qzb9 {a : ByteArray} {k : Int} {l : List (Int × (ByteArray))} : putP (.int .i64 k) (.d (.v (.string a))) (mapP keyI strD l) = some (mapP keyI strD (mset l k a)):=qev9 (f:=strD) (v:=a) rfl
theorem qzc9 {a : ByteArray} {k : ByteArray} {l : List (ByteArray × (ByteArray))} : putP (.string k) (.d (.v (.string a))) (mapP keyS strD l) = some (mapP keyS strD (mset l k a)):=qeO9 (f:=strD) (v:=a) rfl
theorem qxX9 {a : ByteArray} {n : Nat} : List.replicate n [.d (.v (.string a))] = rowP strD (List.replicate n a):=qfG9 (f:=strD) (a:=a) rfl
theorem qzX9 {h : AHeap} {l : List (D)} {k : IntKind} {n : Int} : ixA h 1 (.d (.rd (l.map ifD))) (.d (.v (.int k n))) = (idx l n).map fun a=>.d (.bx (ifD a)):=qhd9 (f:=ifD) (fun _=>rfl)
theorem qzI9 {h : AHeap} {l : List (D)} {i k : Int} {a b : IntKind} : cutA 1 h (.d (.rd (l.map ifD))) (some (.d (.v (.int a i)))) (some (.d (.v (.int b k)))) = (cutL l i k).map fun l=>.d (.rd (l.map ifD)):=qeB9 (f:=ifD) (fun _=>rfl)
theorem qAx9 {h : AHeap} {l : List (D)} {k : Int} {b : IntKind} : cutA 1 h (.d (.rd (l.map ifD))) none (some (.d (.v (.int b k)))) = (cutL l 0 k).map fun l=>.d (.rd (l.map ifD)):=qdv9 (f:=ifD) (fun _=>rfl)
theorem qzk9 {h : AHeap} {l : List (D)} {i : Int} {a : IntKind} : cutA 1 h (.d (.rd (l.map ifD))) (some (.d (.v (.int a i)))) none = (cutL l i (l.length : Int)).map fun l=>.d (.rd (l.map ifD)):=qdr9 (f:=ifD) (fun _=>rfl)
theorem qzt9 {l : List (D)} : (rowP ifD l).all (fun cs=>cs.length == 1) = true:=qef9 (f:=ifD) (fun _=>rfl)
theorem qtb9 {h : AHeap} {l : List (Mono)} {k : IntKind} {n : Int} : ixA h 2 (.d (.rd (l.map qa9))) (.d (.v (.int k n))) = (idx l n).map fun a=>.d (.bx (qa9 a)):=qhd9 (f:=qa9) (fun _=>rfl)
theorem qsS9 {h : AHeap} {l : List (Mono)} {i k : Int} {a b : IntKind} : cutA 2 h (.d (.rd (l.map qa9))) (some (.d (.v (.int a i)))) (some (.d (.v (.int b k)))) = (cutL l i k).map fun l=>.d (.rd (l.map qa9)):=qeB9 (f:=qa9) (fun _=>rfl)
theorem qrX9 {h : AHeap} {l : List (Mono)} {k : Int} {b : IntKind} : cutA 2 h (.d (.rd (l.map qa9))) none (some (.d (.v (.int b k)))) = (cutL l 0 k).map fun l=>.d (.rd (l.map qa9)):=qdv9 (f:=qa9) (fun _=>rfl)
theorem qst9 {h : AHeap} {l : List (Mono)} {i : Int} {a : IntKind} : cutA 2 h (.d (.rd (l.map qa9))) (some (.d (.v (.int a i)))) none = (cutL l i (l.length : Int)).map fun l=>.d (.rd (l.map qa9)):=qdr9 (f:=qa9) (fun _=>rfl)
theorem qtc9 {l : List (Mono)} : (rowP qa9 l).all (fun cs=>cs.length == 2) = true:=qef9 (f:=qa9) (fun _=>rfl)
theorem qtj9 {y0 : List Int} {y1 : List Int} {l : List (Mono)} {r : List (List PV)} : rowP qa9 l++([.d (.rd (y0.map qb9)),.d (.rd (y1.map intD))]::r) = rowP qa9 (l++[(Mono.mk y0 y1)])++r:=qdU9 (f:=qa9) (a:=(Mono.mk y0 y1)) rfl
theorem qrE9 {y0 : List Int} {y1 : List Int} {l : List (Mono)} {i : Nat} : (rowP qa9 l).set i [.d (.rd (y0.map qb9)),.d (.rd (y1.map intD))] = rowP qa9 (l.set i (Mono.mk y0 y1)):=qeM9 (f:=qa9) (a:=(Mono.mk y0 y1)) rfl
theorem qsx9 {y0 : List Int} {y1 : List Int} {k : Int} {l : List (Int × (Mono))} : putP (.int .i64 k) (.ag [.d (.rd (y0.map qb9)),.d (.rd (y1.map intD))]) (mapP keyI qa9 l) = some (mapP keyI qa9 (mset l k (Mono.mk y0 y1))):=qev9 (f:=qa9) (v:=(Mono.mk y0 y1)) rfl
theorem qsh9 {y0 : List Int} {y1 : List Int} {k : ByteArray} {l : List (ByteArray × (Mono))} : putP (.string k) (.ag [.d (.rd (y0.map qb9)),.d (.rd (y1.map intD))]) (mapP keyS qa9 l) = some (mapP keyS qa9 (mset l k (Mono.mk y0 y1))):=qeO9 (f:=qa9) (v:=(Mono.mk y0 y1)) rfl
theorem qtp9 {y0 : List Int} {y1 : List Int} {n : Nat} : List.replicate n [.d (.rd (y0.map qb9)),.d (.rd (y1.map intD))] = rowP qa9 (List.replicate n (Mono.mk y0 y1)):=qfG9 (f:=qa9) (a:=(Mono.mk y0 y1)) rfl
theorem qrW9 {h : AHeap} {l : List (Int)} {k : IntKind} {n : Int} : ixA h 1 (.d (.rd (l.map qb9))) (.d (.v (.int k n))) = (idx l n).map fun a=>.d (.bx (qb9 a)):=qhd9 (f:=qb9) (fun _=>rfl)
theorem qto9 {h : AHeap} {l : List (Int)} {i k : Int} {a b : IntKind} : cutA 1 h (.d (.rd (l.map qb9))) (some (.d (.v (.int a i)))) (some (.d (.v (.int b k)))) = (cutL l i k).map fun l=>.d (.rd (l.map qb9)):=qeB9 (f:=qb9) (fun _=>rfl)
theorem qsc9 {h : AHeap} {l : List (Int)} {k : Int} {b : IntKind} : cutA 1 h (.d (.rd (l.map qb9))) none (some (.d (.v (.int b k)))) = (cutL l 0 k).map fun l=>.d (.rd (l.map qb9)):=qdv9 (f:=qb9) (fun _=>rfl)
theorem qrG9 {h : AHeap} {l : List (Int)} {i : Int} {a : IntKind} : cutA 1 h (.d (.rd (l.map qb9))) (some (.d (.v (.int a i)))) none = (cutL l i (l.length : Int)).map fun l=>.d (.rd (l.map qb9)):=qdr9 (f:=qb9) (fun _=>rfl)
theorem qsp9 {l : List (Int)} : (rowP qb9 l).all (fun cs=>cs.length == 1) = true:=qef9 (f:=qb9) (fun _=>rfl)
theorem qtt9 {a : Int} {l : List (Int)} {r : List (List PV)} : rowP qb9 l++([.d (.v (.int .u32 a))]::r) = rowP qb9 (l++[a])++r:=qdU9 (f:=qb9) (a:=a) rfl
theorem qsF9 {a : Int} {l : List (Int)} {i : Nat} : (rowP qb9 l).set i [.d (.v (.int .u32 a))] = rowP qb9 (l.set i a):=qeM9 (f:=qb9) (a:=a) rfl
theorem qtq9 {a : Int} {k : Int} {l : List (Int × (Int))} : putP (.int .i64 k) (.d (.v (.int .u32 a))) (mapP keyI qb9 l) = some (mapP keyI qb9 (mset l k a)):=qev9 (f:=qb9) (v:=a) rfl
theorem qsO9 {a : Int} {k : ByteArray} {l : List (ByteArray × (Int))} : putP (.string k) (.d (.v (.int .u32 a))) (mapP keyS qb9 l) = some (mapP keyS qb9 (mset l k a)):=qeO9 (f:=qb9) (v:=a) rfl
theorem qth9 {a : Int} {n : Nat} : List.replicate n [.d (.v (.int .u32 a))] = rowP qb9 (List.replicate n a):=qfG9 (f:=qb9) (a:=a) rfl
theorem quJ9 {h : AHeap} {l : List (Int)} {k : IntKind} {n : Int} : ixA h 1 (.d (.rd (l.map qN9))) (.d (.v (.int k n))) = (idx l n).map fun a=>.d (.bx (qN9 a)):=qhd9 (f:=qN9) (fun _=>rfl)
theorem qvc9 {h : AHeap} {l : List (Int)} {i k : Int} {a b : IntKind} : cutA 1 h (.d (.rd (l.map qN9))) (some (.d (.v (.int a i)))) (some (.d (.v (.int b k)))) = (cutL l i k).map fun l=>.d (.rd (l.map qN9)):=qeB9 (f:=qN9) (fun _=>rfl)
theorem qtX9 {h : AHeap} {l : List (Int)} {k : Int} {b : IntKind} : cutA 1 h (.d (.rd (l.map qN9))) none (some (.d (.v (.int b k)))) = (cutL l 0 k).map fun l=>.d (.rd (l.map qN9)):=qdv9 (f:=qN9) (fun _=>rfl)
theorem qtz9 {h : AHeap} {l : List (Int)} {i : Int} {a : IntKind} : cutA 1 h (.d (.rd (l.map qN9))) (some (.d (.v (.int a i)))) none = (cutL l i (l.length : Int)).map fun l=>.d (.rd (l.map qN9)):=qdr9 (f:=qN9) (fun _=>rfl)
theorem quI9 {l : List (Int)} : (rowP qN9 l).all (fun cs=>cs.length == 1) = true:=qef9 (f:=qN9) (fun _=>rfl)
theorem quf9 {a : Int} {l : List (Int)} {r : List (List PV)} : rowP qN9 l++([.d (.v (.int .u8 a))]::r) = rowP qN9 (l++[a])++r:=qdU9 (f:=qN9) (a:=a) rfl
theorem quz9 {a : Int} {l : List (Int)} {i : Nat} : (rowP qN9 l).set i [.d (.v (.int .u8 a))] = rowP qN9 (l.set i a):=qeM9 (f:=qN9) (a:=a) rfl
theorem quy9 {a : Int} {k : Int} {l : List (Int × (Int))} : putP (.int .i64 k) (.d (.v (.int .u8 a))) (mapP keyI qN9 l) = some (mapP keyI qN9 (mset l k a)):=qev9 (f:=qN9) (v:=a) rfl
theorem qvq9 {a : Int} {k : ByteArray} {l : List (ByteArray × (Int))} : putP (.string k) (.d (.v (.int .u8 a))) (mapP keyS qN9 l) = some (mapP keyS qN9 (mset l k a)):=qeO9 (f:=qN9) (v:=a) rfl
theorem qtF9 {a : Int} {n : Nat} : List.replicate n [.d (.v (.int .u8 a))] = rowP qN9 (List.replicate n a):=qfG9 (f:=qN9) (a:=a) rfl
theorem qzv9 {h : AHeap} {c : List D} : elems h (.d (.rd [c])) = some [c.map PV.d]:=by simp [elems]
section
variable {α : Type} {f : α→List D} {h : AHeap}
theorem qAK9 {l : List (List α)} {k : IntKind} {n : Int} : ixA h 1 (.d (.rd (l.map (lsD f)))) (.d (.v (.int k n))) = (idx l n).map fun a=>.d (.bx ((lsD f) a)):=qhd9 (f:=(lsD f)) (fun _=>rfl)
theorem qAL9 {l : List (List α)} {i k : Int} {a b : IntKind} : cutA 1 h (.d (.rd (l.map (lsD f)))) (some (.d (.v (.int a i)))) (some (.d (.v (.int b k)))) = (cutL l i k).map fun l=>.d (.rd (l.map (lsD f))):=qeB9 (f:=(lsD f)) (fun _=>rfl)
theorem qAR9 {l : List (List α)} {k : Int} {b : IntKind} : cutA 1 h (.d (.rd (l.map (lsD f)))) none (some (.d (.v (.int b k)))) = (cutL l 0 k).map fun l=>.d (.rd (l.map (lsD f))):=qdv9 (f:=(lsD f)) (fun _=>rfl)
theorem qAN9 {l : List (List α)} {i : Int} {a : IntKind} : cutA 1 h (.d (.rd (l.map (lsD f)))) (some (.d (.v (.int a i)))) none = (cutL l i (l.length : Int)).map fun l=>.d (.rd (l.map (lsD f))):=qdr9 (f:=(lsD f)) (fun _=>rfl)
theorem qAQ9 {l : List (List α)} : (rowP (lsD f) l).all (fun cs=>cs.length == 1) = true:=qef9 (f:=(lsD f)) (fun _=>rfl)
theorem qAO9 {a : List α} {l : List (List α)} {r : List (List PV)} : rowP (lsD f) l++([.d (.rd (a.map f))]::r) = rowP (lsD f) (l++[a])++r:=qdU9 (f:=(lsD f)) (a:=a) rfl
theorem qAP9 {a : List α} {l : List (List α)} {i : Nat} : (rowP (lsD f) l).set i [.d (.rd (a.map f))] = rowP (lsD f) (l.set i a):=qeM9 (f:=(lsD f)) (a:=a) rfl
theorem qAM9 {a : List α} {k : Int} {l : List (Int × (List α))} : putP (.int .i64 k) (.d (.rd (a.map f))) (mapP keyI (lsD f) l) = some (mapP keyI (lsD f) (mset l k a)):=qev9 (f:=(lsD f)) (v:=a) rfl
theorem ps_ls {a : List α} {k : ByteArray} {l : List (ByteArray × (List α))} : putP (.string k) (.d (.rd (a.map f))) (mapP keyS (lsD f) l) = some (mapP keyS (lsD f) (mset l k a)):=qeO9 (f:=(lsD f)) (v:=a) rfl
theorem qxK9 {l : List (List (List α))} {k : IntKind} {n : Int} : ixA h 1 (.d (.rd (l.map (lsD (lsD f))))) (.d (.v (.int k n))) = (idx l n).map fun a=>.d (.bx ((lsD (lsD f)) a)):=qhd9 (f:=(lsD (lsD f))) (fun _=>rfl)
theorem qyA9 {l : List (List (List α))} {i k : Int} {a b : IntKind} : cutA 1 h (.d (.rd (l.map (lsD (lsD f))))) (some (.d (.v (.int a i)))) (some (.d (.v (.int b k)))) = (cutL l i k).map fun l=>.d (.rd (l.map (lsD (lsD f)))):=qeB9 (f:=(lsD (lsD f))) (fun _=>rfl)
theorem qyQ9 {l : List (List (List α))} {k : Int} {b : IntKind} : cutA 1 h (.d (.rd (l.map (lsD (lsD f))))) none (some (.d (.v (.int b k)))) = (cutL l 0 k).map fun l=>.d (.rd (l.map (lsD (lsD f)))):=qdv9 (f:=(lsD (lsD f))) (fun _=>rfl)
theorem qyS9 {l : List (List (List α))} {i : Int} {a : IntKind} : cutA 1 h (.d (.rd (l.map (lsD (lsD f))))) (some (.d (.v (.int a i)))) none = (cutL l i (l.length : Int)).map fun l=>.d (.rd (l.map (lsD (lsD f)))):=qdr9 (f:=(lsD (lsD f))) (fun _=>rfl)
theorem qxR9 {l : List (List (List α))} : (rowP (lsD (lsD f)) l).all (fun cs=>cs.length == 1) = true:=qef9 (f:=(lsD (lsD f))) (fun _=>rfl)
theorem qyl9 {a : List (List α)} {l : List (List (List α))} {r : List (List PV)} : rowP (lsD (lsD f)) l++([.d (.rd (a.map (lsD f)))]::r) = rowP (lsD (lsD f)) (l++[a])++r:=qdU9 (f:=(lsD (lsD f))) (a:=a) rfl
theorem qxO9 {a : List (List α)} {l : List (List (List α))} {i : Nat} : (rowP (lsD (lsD f)) l).set i [.d (.rd (a.map (lsD f)))] = rowP (lsD (lsD f)) (l.set i a):=qeM9 (f:=(lsD (lsD f))) (a:=a) rfl
theorem qxU9 {a : List (List α)} {k : Int} {l : List (Int × (List (List α)))} : putP (.int .i64 k) (.d (.rd (a.map (lsD f)))) (mapP keyI (lsD (lsD f)) l) = some (mapP keyI (lsD (lsD f)) (mset l k a)):=qev9 (f:=(lsD (lsD f))) (v:=a) rfl
theorem qyi9 {a : List (List α)} {k : ByteArray} {l : List (ByteArray × (List (List α)))} : putP (.string k) (.d (.rd (a.map (lsD f)))) (mapP keyS (lsD (lsD f)) l) = some (mapP keyS (lsD (lsD f)) (mset l k a)):=qeO9 (f:=(lsD (lsD f))) (v:=a) rfl
end
attribute [go_sem] qyf9 qyG9 qyI9 qyJ9 qys9 qxS9 qxx9 qyu9 qye9 qyb9 qvD9 qvA9 qwP9 qwB9 qwp9 qwh9 qvV9 qwv9 qxi9 qvO9 qxy9 qyw9 qyZ9 qyW9 qyF9 qxW9 qyE9 qzb9 qzc9 qxX9 qzX9 qzI9 qAx9 qzk9 qzt9 qtb9 qsS9 qrX9 qst9 qtc9 qtj9 qrE9 qsx9 qsh9 qtp9 qrW9 qto9 qsc9 qrG9 qsp9 qtt9 qsF9 qtq9 qsO9 qth9 quJ9 qvc9 qtX9 qtz9 quI9 quf9 quz9 quy9 qvq9 qtF9 qzv9 qAK9 qAL9 qAR9 qAN9 qAQ9 qAO9 qAP9 qAM9 ps_ls qxK9 qyA9 qyQ9 qyS9 qxR9 qyl9 qxO9 qxU9 qyi9 intD boolD strD ifD lsD ar2D ar3D bxD qa9 qb9 qN9
end Ld

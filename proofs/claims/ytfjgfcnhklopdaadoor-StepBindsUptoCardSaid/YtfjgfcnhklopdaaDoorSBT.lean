import Derived.Test.YtfjgfcnhklopdaaDoorAbs37
set_option maxHeartbeats 400000
set_option linter.unusedVariables false
set_option linter.unusedSimpArgs false
namespace Ld
open Go Go.Abs
structure Symbol where
  Name : ByteArray
  Arity : Int
  deriving DecidableEq
def qa9 (x : Symbol) : List D := [.v (.string x.Name), .v (.int .i64 x.Arity)]
def qkx9 (x : Symbol) : Prop := (okI .i64) x.Arity
structure Rule where
  L : List Int
  R : List Int
  deriving DecidableEq
def qd9 (x : Rule) : List D := [.rd (x.L.map intD), .rd (x.R.map intD)]
def qnE9 (x : Rule) : Prop := (okL (okI .i64)) x.L ∧ (okL (okI .i64)) x.R
structure System where
  Sig : List Symbol
  Rules : List Rule
  deriving DecidableEq
def qf9 (x : System) : List D := [.rd (x.Sig.map qa9), .rd (x.Rules.map qd9)]
def qmD9 (x : System) : Prop := (okL qkx9) x.Sig ∧ (okL qnE9) x.Rules
structure Redex where
  At : Int
  Rule : Int
  deriving DecidableEq
def qe9 (x : Redex) : List D := [.v (.int .i64 x.At), .v (.int .i64 x.Rule)]
def qzk9 (x : Redex) : Prop := (okI .i64) x.At ∧ (okI .i64) x.Rule
structure Bind where
  Var : Int
  T : List Int
  deriving DecidableEq
def qb9 (x : Bind) : List D := [.v (.int .i64 x.Var), .rd (x.T.map intD)]
def qlB9 (x : Bind) : Prop := (okI .i64) x.Var ∧ (okL (okI .i64)) x.T
theorem qwQ9 {h : AHeap} {l : List (Int)} {k : IntKind} {n : Int} : ixA h 1 (.d (.rd (l.map intD))) (.d (.v (.int k n))) = (idx l n).map fun a => .d (.bx (intD a)) := qgE9 (f := intD) (fun _ => rfl)
theorem qxP9 {h : AHeap} {l : List (Int)} {i k : Int} {a b : IntKind} : cutA 1 h (.d (.rd (l.map intD))) (some (.d (.v (.int a i)))) (some (.d (.v (.int b k)))) = (cutL l i k).map fun l => .d (.rd (l.map intD)) := qeS9 (f := intD) (fun _ => rfl)
theorem qxv9 {h : AHeap} {l : List (Int)} {k : Int} {b : IntKind} : cutA 1 h (.d (.rd (l.map intD))) none (some (.d (.v (.int b k)))) = (cutL l 0 k).map fun l => .d (.rd (l.map intD)) := qdv9 (f := intD) (fun _ => rfl)
theorem qyh9 {h : AHeap} {l : List (Int)} {i : Int} {a : IntKind} : cutA 1 h (.d (.rd (l.map intD))) (some (.d (.v (.int a i)))) none = (cutL l i (l.length : Int)).map fun l => .d (.rd (l.map intD)) := qdu9 (f := intD) (fun _ => rfl)
theorem qxF9 {l : List (Int)} : (rowP intD l).all (fun cs => cs.length == 1) = true := qem9 (f := intD) (fun _ => rfl)
theorem qwK9 {a : Int} {l : List (Int)} {r : List (List PV)} : rowP intD l ++ ([.d (.v (.int .i64 a))] :: r) = rowP intD (l ++ [a]) ++ r := qdT9 (f := intD) (a := a) rfl
theorem qxN9 {a : Int} {l : List (Int)} {i : Nat} : (rowP intD l).set i [.d (.v (.int .i64 a))] = rowP intD (l.set i a) := qeI9 (f := intD) (a := a) rfl
theorem qyd9 {a : Int} {k : Int} {l : List (Int × (Int))} : putP (.int .i64 k) (.d (.v (.int .i64 a))) (mapP keyI intD l) = some (mapP keyI intD (mset l k a)) := qeJ9 (f := intD) (v := a) rfl
theorem qwI9 {a : Int} {n : Nat} : List.replicate n [.d (.v (.int .i64 a))] = rowP intD (List.replicate n a) := qeP9 (f := intD) (a := a) rfl
theorem qvB9 {h : AHeap} {l : List (Bool)} {k : IntKind} {n : Int} : ixA h 1 (.d (.rd (l.map boolD))) (.d (.v (.int k n))) = (idx l n).map fun a => .d (.bx (boolD a)) := qgE9 (f := boolD) (fun _ => rfl)
theorem qvF9 {h : AHeap} {l : List (Bool)} {i k : Int} {a b : IntKind} : cutA 1 h (.d (.rd (l.map boolD))) (some (.d (.v (.int a i)))) (some (.d (.v (.int b k)))) = (cutL l i k).map fun l => .d (.rd (l.map boolD)) := qeS9 (f := boolD) (fun _ => rfl)
theorem qvT9 {h : AHeap} {l : List (Bool)} {k : Int} {b : IntKind} : cutA 1 h (.d (.rd (l.map boolD))) none (some (.d (.v (.int b k)))) = (cutL l 0 k).map fun l => .d (.rd (l.map boolD)) := qdv9 (f := boolD) (fun _ => rfl)
theorem qvY9 {h : AHeap} {l : List (Bool)} {i : Int} {a : IntKind} : cutA 1 h (.d (.rd (l.map boolD))) (some (.d (.v (.int a i)))) none = (cutL l i (l.length : Int)).map fun l => .d (.rd (l.map boolD)) := qdu9 (f := boolD) (fun _ => rfl)
theorem qwu9 {l : List (Bool)} : (rowP boolD l).all (fun cs => cs.length == 1) = true := qem9 (f := boolD) (fun _ => rfl)
theorem qvr9 {a : Bool} {l : List (Bool)} {r : List (List PV)} : rowP boolD l ++ ([.d (.v (.bool a))] :: r) = rowP boolD (l ++ [a]) ++ r := qdT9 (f := boolD) (a := a) rfl
theorem qwA9 {a : Bool} {l : List (Bool)} {i : Nat} : (rowP boolD l).set i [.d (.v (.bool a))] = rowP boolD (l.set i a) := qeI9 (f := boolD) (a := a) rfl
theorem qwd9 {a : Bool} {k : Int} {l : List (Int × (Bool))} : putP (.int .i64 k) (.d (.v (.bool a))) (mapP keyI boolD l) = some (mapP keyI boolD (mset l k a)) := qeJ9 (f := boolD) (v := a) rfl
theorem qvv9 {a : Bool} {n : Nat} : List.replicate n [.d (.v (.bool a))] = rowP boolD (List.replicate n a) := qeP9 (f := boolD) (a := a) rfl
theorem qxE9 {h : AHeap} {l : List (ByteArray)} {k : IntKind} {n : Int} : ixA h 1 (.d (.rd (l.map strD))) (.d (.v (.int k n))) = (idx l n).map fun a => .d (.bx (strD a)) := qgE9 (f := strD) (fun _ => rfl)
theorem qxD9 {h : AHeap} {l : List (ByteArray)} {i k : Int} {a b : IntKind} : cutA 1 h (.d (.rd (l.map strD))) (some (.d (.v (.int a i)))) (some (.d (.v (.int b k)))) = (cutL l i k).map fun l => .d (.rd (l.map strD)) := qeS9 (f := strD) (fun _ => rfl)
theorem qxr9 {h : AHeap} {l : List (ByteArray)} {k : Int} {b : IntKind} : cutA 1 h (.d (.rd (l.map strD))) none (some (.d (.v (.int b k)))) = (cutL l 0 k).map fun l => .d (.rd (l.map strD)) := qdv9 (f := strD) (fun _ => rfl)
theorem qxt9 {h : AHeap} {l : List (ByteArray)} {i : Int} {a : IntKind} : cutA 1 h (.d (.rd (l.map strD))) (some (.d (.v (.int a i)))) none = (cutL l i (l.length : Int)).map fun l => .d (.rd (l.map strD)) := qdu9 (f := strD) (fun _ => rfl)
theorem qxO9 {l : List (ByteArray)} : (rowP strD l).all (fun cs => cs.length == 1) = true := qem9 (f := strD) (fun _ => rfl)
theorem qwZ9 {a : ByteArray} {l : List (ByteArray)} {r : List (List PV)} : rowP strD l ++ ([.d (.v (.string a))] :: r) = rowP strD (l ++ [a]) ++ r := qdT9 (f := strD) (a := a) rfl
theorem qxB9 {a : ByteArray} {l : List (ByteArray)} {i : Nat} : (rowP strD l).set i [.d (.v (.string a))] = rowP strD (l.set i a) := qeI9 (f := strD) (a := a) rfl
theorem qwX9 {a : ByteArray} {k : Int} {l : List (Int × (ByteArray))} : putP (.int .i64 k) (.d (.v (.string a))) (mapP keyI strD l) = some (mapP keyI strD (mset l k a)) := qeJ9 (f := strD) (v := a) rfl
theorem qwH9 {a : ByteArray} {n : Nat} : List.replicate n [.d (.v (.string a))] = rowP strD (List.replicate n a) := qeP9 (f := strD) (a := a) rfl
theorem qyR9 {h : AHeap} {l : List (D)} {k : IntKind} {n : Int} : ixA h 1 (.d (.rd (l.map ifD))) (.d (.v (.int k n))) = (idx l n).map fun a => .d (.bx (ifD a)) := qgE9 (f := ifD) (fun _ => rfl)
theorem qyA9 {h : AHeap} {l : List (D)} {i k : Int} {a b : IntKind} : cutA 1 h (.d (.rd (l.map ifD))) (some (.d (.v (.int a i)))) (some (.d (.v (.int b k)))) = (cutL l i k).map fun l => .d (.rd (l.map ifD)) := qeS9 (f := ifD) (fun _ => rfl)
theorem qyI9 {h : AHeap} {l : List (D)} {k : Int} {b : IntKind} : cutA 1 h (.d (.rd (l.map ifD))) none (some (.d (.v (.int b k)))) = (cutL l 0 k).map fun l => .d (.rd (l.map ifD)) := qdv9 (f := ifD) (fun _ => rfl)
theorem qyv9 {h : AHeap} {l : List (D)} {i : Int} {a : IntKind} : cutA 1 h (.d (.rd (l.map ifD))) (some (.d (.v (.int a i)))) none = (cutL l i (l.length : Int)).map fun l => .d (.rd (l.map ifD)) := qdu9 (f := ifD) (fun _ => rfl)
theorem qyB9 {l : List (D)} : (rowP ifD l).all (fun cs => cs.length == 1) = true := qem9 (f := ifD) (fun _ => rfl)
theorem qqw9 {h : AHeap} {l : List (Symbol)} {k : IntKind} {n : Int} : ixA h 2 (.d (.rd (l.map qa9))) (.d (.v (.int k n))) = (idx l n).map fun a => .d (.bx (qa9 a)) := qgE9 (f := qa9) (fun _ => rfl)
theorem qqX9 {h : AHeap} {l : List (Symbol)} {i k : Int} {a b : IntKind} : cutA 2 h (.d (.rd (l.map qa9))) (some (.d (.v (.int a i)))) (some (.d (.v (.int b k)))) = (cutL l i k).map fun l => .d (.rd (l.map qa9)) := qeS9 (f := qa9) (fun _ => rfl)
theorem qqk9 {h : AHeap} {l : List (Symbol)} {k : Int} {b : IntKind} : cutA 2 h (.d (.rd (l.map qa9))) none (some (.d (.v (.int b k)))) = (cutL l 0 k).map fun l => .d (.rd (l.map qa9)) := qdv9 (f := qa9) (fun _ => rfl)
theorem qpS9 {h : AHeap} {l : List (Symbol)} {i : Int} {a : IntKind} : cutA 2 h (.d (.rd (l.map qa9))) (some (.d (.v (.int a i)))) none = (cutL l i (l.length : Int)).map fun l => .d (.rd (l.map qa9)) := qdu9 (f := qa9) (fun _ => rfl)
theorem qqi9 {l : List (Symbol)} : (rowP qa9 l).all (fun cs => cs.length == 2) = true := qem9 (f := qa9) (fun _ => rfl)
theorem qqF9 {y0 : ByteArray} {y1 : Int} {l : List (Symbol)} {r : List (List PV)} : rowP qa9 l ++ ([.d (.v (.string y0)), .d (.v (.int .i64 y1))] :: r) = rowP qa9 (l ++ [(Symbol.mk y0 y1)]) ++ r := qdT9 (f := qa9) (a := (Symbol.mk y0 y1)) rfl
theorem qqr9 {y0 : ByteArray} {y1 : Int} {l : List (Symbol)} {i : Nat} : (rowP qa9 l).set i [.d (.v (.string y0)), .d (.v (.int .i64 y1))] = rowP qa9 (l.set i (Symbol.mk y0 y1)) := qeI9 (f := qa9) (a := (Symbol.mk y0 y1)) rfl
theorem qqj9 {y0 : ByteArray} {y1 : Int} {k : Int} {l : List (Int × (Symbol))} : putP (.int .i64 k) (.ag [.d (.v (.string y0)), .d (.v (.int .i64 y1))]) (mapP keyI qa9 l) = some (mapP keyI qa9 (mset l k (Symbol.mk y0 y1))) := qeJ9 (f := qa9) (v := (Symbol.mk y0 y1)) rfl
theorem qpy9 {y0 : ByteArray} {y1 : Int} {n : Nat} : List.replicate n [.d (.v (.string y0)), .d (.v (.int .i64 y1))] = rowP qa9 (List.replicate n (Symbol.mk y0 y1)) := qeP9 (f := qa9) (a := (Symbol.mk y0 y1)) rfl
theorem qtb9 {h : AHeap} {l : List (Rule)} {k : IntKind} {n : Int} : ixA h 2 (.d (.rd (l.map qd9))) (.d (.v (.int k n))) = (idx l n).map fun a => .d (.bx (qd9 a)) := qgE9 (f := qd9) (fun _ => rfl)
theorem qtg9 {h : AHeap} {l : List (Rule)} {i k : Int} {a b : IntKind} : cutA 2 h (.d (.rd (l.map qd9))) (some (.d (.v (.int a i)))) (some (.d (.v (.int b k)))) = (cutL l i k).map fun l => .d (.rd (l.map qd9)) := qeS9 (f := qd9) (fun _ => rfl)
theorem qtr9 {h : AHeap} {l : List (Rule)} {k : Int} {b : IntKind} : cutA 2 h (.d (.rd (l.map qd9))) none (some (.d (.v (.int b k)))) = (cutL l 0 k).map fun l => .d (.rd (l.map qd9)) := qdv9 (f := qd9) (fun _ => rfl)
theorem qsy9 {h : AHeap} {l : List (Rule)} {i : Int} {a : IntKind} : cutA 2 h (.d (.rd (l.map qd9))) (some (.d (.v (.int a i)))) none = (cutL l i (l.length : Int)).map fun l => .d (.rd (l.map qd9)) := qdu9 (f := qd9) (fun _ => rfl)
theorem qtM9 {l : List (Rule)} : (rowP qd9 l).all (fun cs => cs.length == 2) = true := qem9 (f := qd9) (fun _ => rfl)
theorem qsG9 {y0 : List Int} {y1 : List Int} {l : List (Rule)} {r : List (List PV)} : rowP qd9 l ++ ([.d (.rd (y0.map intD)), .d (.rd (y1.map intD))] :: r) = rowP qd9 (l ++ [(Rule.mk y0 y1)]) ++ r := qdT9 (f := qd9) (a := (Rule.mk y0 y1)) rfl
theorem qtl9 {y0 : List Int} {y1 : List Int} {l : List (Rule)} {i : Nat} : (rowP qd9 l).set i [.d (.rd (y0.map intD)), .d (.rd (y1.map intD))] = rowP qd9 (l.set i (Rule.mk y0 y1)) := qeI9 (f := qd9) (a := (Rule.mk y0 y1)) rfl
theorem qsM9 {y0 : List Int} {y1 : List Int} {k : Int} {l : List (Int × (Rule))} : putP (.int .i64 k) (.ag [.d (.rd (y0.map intD)), .d (.rd (y1.map intD))]) (mapP keyI qd9 l) = some (mapP keyI qd9 (mset l k (Rule.mk y0 y1))) := qeJ9 (f := qd9) (v := (Rule.mk y0 y1)) rfl
theorem qsr9 {y0 : List Int} {y1 : List Int} {n : Nat} : List.replicate n [.d (.rd (y0.map intD)), .d (.rd (y1.map intD))] = rowP qd9 (List.replicate n (Rule.mk y0 y1)) := qeP9 (f := qd9) (a := (Rule.mk y0 y1)) rfl
theorem qqq9 {h : AHeap} {l : List (System)} {k : IntKind} {n : Int} : ixA h 2 (.d (.rd (l.map qf9))) (.d (.v (.int k n))) = (idx l n).map fun a => .d (.bx (qf9 a)) := qgE9 (f := qf9) (fun _ => rfl)
theorem qqp9 {h : AHeap} {l : List (System)} {i k : Int} {a b : IntKind} : cutA 2 h (.d (.rd (l.map qf9))) (some (.d (.v (.int a i)))) (some (.d (.v (.int b k)))) = (cutL l i k).map fun l => .d (.rd (l.map qf9)) := qeS9 (f := qf9) (fun _ => rfl)
theorem qpK9 {h : AHeap} {l : List (System)} {k : Int} {b : IntKind} : cutA 2 h (.d (.rd (l.map qf9))) none (some (.d (.v (.int b k)))) = (cutL l 0 k).map fun l => .d (.rd (l.map qf9)) := qdv9 (f := qf9) (fun _ => rfl)
theorem qpO9 {h : AHeap} {l : List (System)} {i : Int} {a : IntKind} : cutA 2 h (.d (.rd (l.map qf9))) (some (.d (.v (.int a i)))) none = (cutL l i (l.length : Int)).map fun l => .d (.rd (l.map qf9)) := qdu9 (f := qf9) (fun _ => rfl)
theorem qqI9 {l : List (System)} : (rowP qf9 l).all (fun cs => cs.length == 2) = true := qem9 (f := qf9) (fun _ => rfl)
theorem qqu9 {y0 : List Symbol} {y1 : List Rule} {l : List (System)} {r : List (List PV)} : rowP qf9 l ++ ([.d (.rd (y0.map qa9)), .d (.rd (y1.map qd9))] :: r) = rowP qf9 (l ++ [(System.mk y0 y1)]) ++ r := qdT9 (f := qf9) (a := (System.mk y0 y1)) rfl
theorem qqg9 {y0 : List Symbol} {y1 : List Rule} {l : List (System)} {i : Nat} : (rowP qf9 l).set i [.d (.rd (y0.map qa9)), .d (.rd (y1.map qd9))] = rowP qf9 (l.set i (System.mk y0 y1)) := qeI9 (f := qf9) (a := (System.mk y0 y1)) rfl
theorem qqK9 {y0 : List Symbol} {y1 : List Rule} {k : Int} {l : List (Int × (System))} : putP (.int .i64 k) (.ag [.d (.rd (y0.map qa9)), .d (.rd (y1.map qd9))]) (mapP keyI qf9 l) = some (mapP keyI qf9 (mset l k (System.mk y0 y1))) := qeJ9 (f := qf9) (v := (System.mk y0 y1)) rfl
theorem qpQ9 {y0 : List Symbol} {y1 : List Rule} {n : Nat} : List.replicate n [.d (.rd (y0.map qa9)), .d (.rd (y1.map qd9))] = rowP qf9 (List.replicate n (System.mk y0 y1)) := qeP9 (f := qf9) (a := (System.mk y0 y1)) rfl
theorem qrh9 {h : AHeap} {l : List (Redex)} {k : IntKind} {n : Int} : ixA h 2 (.d (.rd (l.map qe9))) (.d (.v (.int k n))) = (idx l n).map fun a => .d (.bx (qe9 a)) := qgE9 (f := qe9) (fun _ => rfl)
theorem qrt9 {h : AHeap} {l : List (Redex)} {i k : Int} {a b : IntKind} : cutA 2 h (.d (.rd (l.map qe9))) (some (.d (.v (.int a i)))) (some (.d (.v (.int b k)))) = (cutL l i k).map fun l => .d (.rd (l.map qe9)) := qeS9 (f := qe9) (fun _ => rfl)
theorem qrR9 {h : AHeap} {l : List (Redex)} {k : Int} {b : IntKind} : cutA 2 h (.d (.rd (l.map qe9))) none (some (.d (.v (.int b k)))) = (cutL l 0 k).map fun l => .d (.rd (l.map qe9)) := qdv9 (f := qe9) (fun _ => rfl)
theorem qrQ9 {h : AHeap} {l : List (Redex)} {i : Int} {a : IntKind} : cutA 2 h (.d (.rd (l.map qe9))) (some (.d (.v (.int a i)))) none = (cutL l i (l.length : Int)).map fun l => .d (.rd (l.map qe9)) := qdu9 (f := qe9) (fun _ => rfl)
theorem qrU9 {l : List (Redex)} : (rowP qe9 l).all (fun cs => cs.length == 2) = true := qem9 (f := qe9) (fun _ => rfl)
theorem qrV9 {y0 : Int} {y1 : Int} {l : List (Redex)} {r : List (List PV)} : rowP qe9 l ++ ([.d (.v (.int .i64 y0)), .d (.v (.int .i64 y1))] :: r) = rowP qe9 (l ++ [(Redex.mk y0 y1)]) ++ r := qdT9 (f := qe9) (a := (Redex.mk y0 y1)) rfl
theorem qrs9 {y0 : Int} {y1 : Int} {l : List (Redex)} {i : Nat} : (rowP qe9 l).set i [.d (.v (.int .i64 y0)), .d (.v (.int .i64 y1))] = rowP qe9 (l.set i (Redex.mk y0 y1)) := qeI9 (f := qe9) (a := (Redex.mk y0 y1)) rfl
theorem qrg9 {y0 : Int} {y1 : Int} {k : Int} {l : List (Int × (Redex))} : putP (.int .i64 k) (.ag [.d (.v (.int .i64 y0)), .d (.v (.int .i64 y1))]) (mapP keyI qe9 l) = some (mapP keyI qe9 (mset l k (Redex.mk y0 y1))) := qeJ9 (f := qe9) (v := (Redex.mk y0 y1)) rfl
theorem qri9 {y0 : Int} {y1 : Int} {n : Nat} : List.replicate n [.d (.v (.int .i64 y0)), .d (.v (.int .i64 y1))] = rowP qe9 (List.replicate n (Redex.mk y0 y1)) := qeP9 (f := qe9) (a := (Redex.mk y0 y1)) rfl
theorem qtR9 {h : AHeap} {l : List (Bind)} {k : IntKind} {n : Int} : ixA h 2 (.d (.rd (l.map qb9))) (.d (.v (.int k n))) = (idx l n).map fun a => .d (.bx (qb9 a)) := qgE9 (f := qb9) (fun _ => rfl)
theorem qtu9 {h : AHeap} {l : List (Bind)} {i k : Int} {a b : IntKind} : cutA 2 h (.d (.rd (l.map qb9))) (some (.d (.v (.int a i)))) (some (.d (.v (.int b k)))) = (cutL l i k).map fun l => .d (.rd (l.map qb9)) := qeS9 (f := qb9) (fun _ => rfl)
theorem qtH9 {h : AHeap} {l : List (Bind)} {k : Int} {b : IntKind} : cutA 2 h (.d (.rd (l.map qb9))) none (some (.d (.v (.int b k)))) = (cutL l 0 k).map fun l => .d (.rd (l.map qb9)) := qdv9 (f := qb9) (fun _ => rfl)
theorem qsw9 {h : AHeap} {l : List (Bind)} {i : Int} {a : IntKind} : cutA 2 h (.d (.rd (l.map qb9))) (some (.d (.v (.int a i)))) none = (cutL l i (l.length : Int)).map fun l => .d (.rd (l.map qb9)) := qdu9 (f := qb9) (fun _ => rfl)
theorem qsZ9 {l : List (Bind)} : (rowP qb9 l).all (fun cs => cs.length == 2) = true := qem9 (f := qb9) (fun _ => rfl)
theorem qtL9 {y0 : Int} {y1 : List Int} {l : List (Bind)} {r : List (List PV)} : rowP qb9 l ++ ([.d (.v (.int .i64 y0)), .d (.rd (y1.map intD))] :: r) = rowP qb9 (l ++ [(Bind.mk y0 y1)]) ++ r := qdT9 (f := qb9) (a := (Bind.mk y0 y1)) rfl
theorem qsW9 {y0 : Int} {y1 : List Int} {l : List (Bind)} {i : Nat} : (rowP qb9 l).set i [.d (.v (.int .i64 y0)), .d (.rd (y1.map intD))] = rowP qb9 (l.set i (Bind.mk y0 y1)) := qeI9 (f := qb9) (a := (Bind.mk y0 y1)) rfl
theorem qtS9 {y0 : Int} {y1 : List Int} {k : Int} {l : List (Int × (Bind))} : putP (.int .i64 k) (.ag [.d (.v (.int .i64 y0)), .d (.rd (y1.map intD))]) (mapP keyI qb9 l) = some (mapP keyI qb9 (mset l k (Bind.mk y0 y1))) := qeJ9 (f := qb9) (v := (Bind.mk y0 y1)) rfl
theorem qsS9 {y0 : Int} {y1 : List Int} {n : Nat} : List.replicate n [.d (.v (.int .i64 y0)), .d (.rd (y1.map intD))] = rowP qb9 (List.replicate n (Bind.mk y0 y1)) := qeP9 (f := qb9) (a := (Bind.mk y0 y1)) rfl
theorem qsu9 {h : AHeap} {l : List (Int)} {k : IntKind} {n : Int} : ixA h 1 (.d (.rd (l.map qbB9))) (.d (.v (.int k n))) = (idx l n).map fun a => .d (.bx (qbB9 a)) := qgE9 (f := qbB9) (fun _ => rfl)
theorem qtk9 {h : AHeap} {l : List (Int)} {i k : Int} {a b : IntKind} : cutA 1 h (.d (.rd (l.map qbB9))) (some (.d (.v (.int a i)))) (some (.d (.v (.int b k)))) = (cutL l i k).map fun l => .d (.rd (l.map qbB9)) := qeS9 (f := qbB9) (fun _ => rfl)
theorem qsL9 {h : AHeap} {l : List (Int)} {k : Int} {b : IntKind} : cutA 1 h (.d (.rd (l.map qbB9))) none (some (.d (.v (.int b k)))) = (cutL l 0 k).map fun l => .d (.rd (l.map qbB9)) := qdv9 (f := qbB9) (fun _ => rfl)
theorem qsQ9 {h : AHeap} {l : List (Int)} {i : Int} {a : IntKind} : cutA 1 h (.d (.rd (l.map qbB9))) (some (.d (.v (.int a i)))) none = (cutL l i (l.length : Int)).map fun l => .d (.rd (l.map qbB9)) := qdu9 (f := qbB9) (fun _ => rfl)
theorem qsD9 {l : List (Int)} : (rowP qbB9 l).all (fun cs => cs.length == 1) = true := qem9 (f := qbB9) (fun _ => rfl)
theorem qsv9 {a : Int} {l : List (Int)} {r : List (List PV)} : rowP qbB9 l ++ ([.d (.v (.int .u32 a))] :: r) = rowP qbB9 (l ++ [a]) ++ r := qdT9 (f := qbB9) (a := a) rfl
theorem qsY9 {a : Int} {l : List (Int)} {i : Nat} : (rowP qbB9 l).set i [.d (.v (.int .u32 a))] = rowP qbB9 (l.set i a) := qeI9 (f := qbB9) (a := a) rfl
theorem qsB9 {a : Int} {k : Int} {l : List (Int × (Int))} : putP (.int .i64 k) (.d (.v (.int .u32 a))) (mapP keyI qbB9 l) = some (mapP keyI qbB9 (mset l k a)) := qeJ9 (f := qbB9) (v := a) rfl
theorem qsF9 {a : Int} {n : Nat} : List.replicate n [.d (.v (.int .u32 a))] = rowP qbB9 (List.replicate n a) := qeP9 (f := qbB9) (a := a) rfl
theorem qyo9 {h : AHeap} {c : List D} : elems h (.d (.rd [c])) = some [c.map PV.d] := by simp [elems]
section
variable {α : Type} {f : α → List D} {h : AHeap}
theorem qzd9 {l : List (List α)} {k : IntKind} {n : Int} : ixA h 1 (.d (.rd (l.map (lsD f)))) (.d (.v (.int k n))) = (idx l n).map fun a => .d (.bx ((lsD f) a)) := qgE9 (f := (lsD f)) (fun _ => rfl)
theorem qzg9 {l : List (List α)} {i k : Int} {a b : IntKind} : cutA 1 h (.d (.rd (l.map (lsD f)))) (some (.d (.v (.int a i)))) (some (.d (.v (.int b k)))) = (cutL l i k).map fun l => .d (.rd (l.map (lsD f))) := qeS9 (f := (lsD f)) (fun _ => rfl)
theorem qzf9 {l : List (List α)} {k : Int} {b : IntKind} : cutA 1 h (.d (.rd (l.map (lsD f)))) none (some (.d (.v (.int b k)))) = (cutL l 0 k).map fun l => .d (.rd (l.map (lsD f))) := qdv9 (f := (lsD f)) (fun _ => rfl)
theorem qza9 {l : List (List α)} {i : Int} {a : IntKind} : cutA 1 h (.d (.rd (l.map (lsD f)))) (some (.d (.v (.int a i)))) none = (cutL l i (l.length : Int)).map fun l => .d (.rd (l.map (lsD f))) := qdu9 (f := (lsD f)) (fun _ => rfl)
theorem qzh9 {l : List (List α)} : (rowP (lsD f) l).all (fun cs => cs.length == 1) = true := qem9 (f := (lsD f)) (fun _ => rfl)
theorem qzc9 {a : List α} {l : List (List α)} {r : List (List PV)} : rowP (lsD f) l ++ ([.d (.rd (a.map f))] :: r) = rowP (lsD f) (l ++ [a]) ++ r := qdT9 (f := (lsD f)) (a := a) rfl
theorem qzb9 {a : List α} {l : List (List α)} {i : Nat} : (rowP (lsD f) l).set i [.d (.rd (a.map f))] = rowP (lsD f) (l.set i a) := qeI9 (f := (lsD f)) (a := a) rfl
theorem qzi9 {a : List α} {k : Int} {l : List (Int × (List α))} : putP (.int .i64 k) (.d (.rd (a.map f))) (mapP keyI (lsD f) l) = some (mapP keyI (lsD f) (mset l k a)) := qeJ9 (f := (lsD f)) (v := a) rfl
theorem qxq9 {l : List (List (List α))} {k : IntKind} {n : Int} : ixA h 1 (.d (.rd (l.map (lsD (lsD f))))) (.d (.v (.int k n))) = (idx l n).map fun a => .d (.bx ((lsD (lsD f)) a)) := qgE9 (f := (lsD (lsD f))) (fun _ => rfl)
theorem qxS9 {l : List (List (List α))} {i k : Int} {a b : IntKind} : cutA 1 h (.d (.rd (l.map (lsD (lsD f))))) (some (.d (.v (.int a i)))) (some (.d (.v (.int b k)))) = (cutL l i k).map fun l => .d (.rd (l.map (lsD (lsD f)))) := qeS9 (f := (lsD (lsD f))) (fun _ => rfl)
theorem qxj9 {l : List (List (List α))} {k : Int} {b : IntKind} : cutA 1 h (.d (.rd (l.map (lsD (lsD f))))) none (some (.d (.v (.int b k)))) = (cutL l 0 k).map fun l => .d (.rd (l.map (lsD (lsD f)))) := qdv9 (f := (lsD (lsD f))) (fun _ => rfl)
theorem qxf9 {l : List (List (List α))} {i : Int} {a : IntKind} : cutA 1 h (.d (.rd (l.map (lsD (lsD f))))) (some (.d (.v (.int a i)))) none = (cutL l i (l.length : Int)).map fun l => .d (.rd (l.map (lsD (lsD f)))) := qdu9 (f := (lsD (lsD f))) (fun _ => rfl)
theorem qxz9 {l : List (List (List α))} : (rowP (lsD (lsD f)) l).all (fun cs => cs.length == 1) = true := qem9 (f := (lsD (lsD f))) (fun _ => rfl)
theorem qxU9 {a : List (List α)} {l : List (List (List α))} {r : List (List PV)} : rowP (lsD (lsD f)) l ++ ([.d (.rd (a.map (lsD f)))] :: r) = rowP (lsD (lsD f)) (l ++ [a]) ++ r := qdT9 (f := (lsD (lsD f))) (a := a) rfl
theorem qxo9 {a : List (List α)} {l : List (List (List α))} {i : Nat} : (rowP (lsD (lsD f)) l).set i [.d (.rd (a.map (lsD f)))] = rowP (lsD (lsD f)) (l.set i a) := qeI9 (f := (lsD (lsD f))) (a := a) rfl
theorem qyf9 {a : List (List α)} {k : Int} {l : List (Int × (List (List α)))} : putP (.int .i64 k) (.d (.rd (a.map (lsD f)))) (mapP keyI (lsD (lsD f)) l) = some (mapP keyI (lsD (lsD f)) (mset l k a)) := qeJ9 (f := (lsD (lsD f))) (v := a) rfl
end
attribute [go_sem] qwQ9 qxP9 qxv9 qyh9 qxF9 qwK9 qxN9 qyd9 qwI9 qvB9 qvF9 qvT9 qvY9 qwu9 qvr9 qwA9 qwd9 qvv9 qxE9 qxD9 qxr9 qxt9 qxO9 qwZ9 qxB9 qwX9 qwH9 qyR9 qyA9 qyI9 qyv9 qyB9 qqw9 qqX9 qqk9 qpS9 qqi9 qqF9 qqr9 qqj9 qpy9 qtb9 qtg9 qtr9 qsy9 qtM9 qsG9 qtl9 qsM9 qsr9 qqq9 qqp9 qpK9 qpO9 qqI9 qqu9 qqg9 qqK9 qpQ9 qrh9 qrt9 qrR9 qrQ9 qrU9 qrV9 qrs9 qrg9 qri9 qtR9 qtu9 qtH9 qsw9 qsZ9 qtL9 qsW9 qtS9 qsS9 qsu9 qtk9 qsL9 qsQ9 qsD9 qsv9 qsY9 qsB9 qsF9 qyo9 qzd9 qzg9 qzf9 qza9 qzh9 qzc9 qzb9 qzi9 qxq9 qxS9 qxj9 qxf9 qxz9 qxU9 qxo9 qyf9 intD boolD strD ifD lsD ar2D ar3D bxD qa9 qd9 qf9 qe9 qb9 qbB9
end Ld

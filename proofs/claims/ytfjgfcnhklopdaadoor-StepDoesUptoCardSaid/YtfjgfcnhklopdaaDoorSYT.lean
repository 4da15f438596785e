import Derived.Test.YtfjgfcnhklopdaaDoorAbs38
set_option maxHeartbeats 400000
set_option linter.unusedVariables false
set_option linter.unusedSimpArgs false
namespace Ld
open Go Go.Abs
structure Symbol where
  Name : ByteArray
  Arity : Int
  deriving DecidableEq
def qb9 (x : Symbol) : List D := [.v (.string x.Name), .v (.int .i64 x.Arity)]
def qjT9 (x : Symbol) : Prop := (okI .i64) x.Arity
structure Rule where
  L : List Int
  R : List Int
  deriving DecidableEq
def qd9 (x : Rule) : List D := [.rd (x.L.map intD), .rd (x.R.map intD)]
def qly9 (x : Rule) : Prop := (okL (okI .i64)) x.L ∧ (okL (okI .i64)) x.R
structure System where
  Sig : List Symbol
  Rules : List Rule
  deriving DecidableEq
def qf9 (x : System) : List D := [.rd (x.Sig.map qb9), .rd (x.Rules.map qd9)]
def qlk9 (x : System) : Prop := (okL qjT9) x.Sig ∧ (okL qly9) x.Rules
structure Redex where
  At : Int
  Rule : Int
  deriving DecidableEq
def qm9 (x : Redex) : List D := [.v (.int .i64 x.At), .v (.int .i64 x.Rule)]
def qmu9 (x : Redex) : Prop := (okI .i64) x.At ∧ (okI .i64) x.Rule
structure Bind where
  Var : Int
  T : List Int
  deriving DecidableEq
def qc9 (x : Bind) : List D := [.v (.int .i64 x.Var), .rd (x.T.map intD)]
def qzD9 (x : Bind) : Prop := (okI .i64) x.Var ∧ (okL (okI .i64)) x.T
theorem qxn9 {h : AHeap} {l : List (Int)} {k : IntKind} {n : Int} : ixA h 1 (.d (.rd (l.map intD))) (.d (.v (.int k n))) = (idx l n).map fun a => .d (.bx (intD a)) := qfQ9 (f := intD) (fun _ => rfl)
theorem qxT9 {h : AHeap} {l : List (Int)} {i k : Int} {a b : IntKind} : cutA 1 h (.d (.rd (l.map intD))) (some (.d (.v (.int a i)))) (some (.d (.v (.int b k)))) = (cutL l i k).map fun l => .d (.rd (l.map intD)) := qdJ9 (f := intD) (fun _ => rfl)
theorem qwQ9 {h : AHeap} {l : List (Int)} {k : Int} {b : IntKind} : cutA 1 h (.d (.rd (l.map intD))) none (some (.d (.v (.int b k)))) = (cutL l 0 k).map fun l => .d (.rd (l.map intD)) := qcC9 (f := intD) (fun _ => rfl)
theorem qxV9 {h : AHeap} {l : List (Int)} {i : Int} {a : IntKind} : cutA 1 h (.d (.rd (l.map intD))) (some (.d (.v (.int a i)))) none = (cutL l i (l.length : Int)).map fun l => .d (.rd (l.map intD)) := qcD9 (f := intD) (fun _ => rfl)
theorem qxA9 {l : List (Int)} : (rowP intD l).all (fun cs => cs.length == 1) = true := qdb9 (f := intD) (fun _ => rfl)
theorem qye9 {a : Int} {l : List (Int)} {r : List (List PV)} : rowP intD l ++ ([.d (.v (.int .i64 a))] :: r) = rowP intD (l ++ [a]) ++ r := qcW9 (f := intD) (a := a) rfl
theorem qwD9 {a : Int} {l : List (Int)} {i : Nat} : (rowP intD l).set i [.d (.v (.int .i64 a))] = rowP intD (l.set i a) := qdz9 (f := intD) (a := a) rfl
theorem qwE9 {a : Int} {k : Int} {l : List (Int × (Int))} : putP (.int .i64 k) (.d (.v (.int .i64 a))) (mapP keyI intD l) = some (mapP keyI intD (mset l k a)) := qdA9 (f := intD) (v := a) rfl
theorem qxy9 {a : Int} {n : Nat} : List.replicate n [.d (.v (.int .i64 a))] = rowP intD (List.replicate n a) := qdI9 (f := intD) (a := a) rfl
theorem qvX9 {h : AHeap} {l : List (Bool)} {k : IntKind} {n : Int} : ixA h 1 (.d (.rd (l.map boolD))) (.d (.v (.int k n))) = (idx l n).map fun a => .d (.bx (boolD a)) := qfQ9 (f := boolD) (fun _ => rfl)
theorem qvM9 {h : AHeap} {l : List (Bool)} {i k : Int} {a b : IntKind} : cutA 1 h (.d (.rd (l.map boolD))) (some (.d (.v (.int a i)))) (some (.d (.v (.int b k)))) = (cutL l i k).map fun l => .d (.rd (l.map boolD)) := qdJ9 (f := boolD) (fun _ => rfl)
theorem qvj9 {h : AHeap} {l : List (Bool)} {k : Int} {b : IntKind} : cutA 1 h (.d (.rd (l.map boolD))) none (some (.d (.v (.int b k)))) = (cutL l 0 k).map fun l => .d (.rd (l.map boolD)) := qcC9 (f := boolD) (fun _ => rfl)
theorem qvp9 {h : AHeap} {l : List (Bool)} {i : Int} {a : IntKind} : cutA 1 h (.d (.rd (l.map boolD))) (some (.d (.v (.int a i)))) none = (cutL l i (l.length : Int)).map fun l => .d (.rd (l.map boolD)) := qcD9 (f := boolD) (fun _ => rfl)
theorem qvY9 {l : List (Bool)} : (rowP boolD l).all (fun cs => cs.length == 1) = true := qdb9 (f := boolD) (fun _ => rfl)
theorem qvE9 {a : Bool} {l : List (Bool)} {r : List (List PV)} : rowP boolD l ++ ([.d (.v (.bool a))] :: r) = rowP boolD (l ++ [a]) ++ r := qcW9 (f := boolD) (a := a) rfl
theorem qvk9 {a : Bool} {l : List (Bool)} {i : Nat} : (rowP boolD l).set i [.d (.v (.bool a))] = rowP boolD (l.set i a) := qdz9 (f := boolD) (a := a) rfl
theorem qwl9 {a : Bool} {k : Int} {l : List (Int × (Bool))} : putP (.int .i64 k) (.d (.v (.bool a))) (mapP keyI boolD l) = some (mapP keyI boolD (mset l k a)) := qdA9 (f := boolD) (v := a) rfl
theorem qwk9 {a : Bool} {n : Nat} : List.replicate n [.d (.v (.bool a))] = rowP boolD (List.replicate n a) := qdI9 (f := boolD) (a := a) rfl
theorem qxk9 {h : AHeap} {l : List (ByteArray)} {k : IntKind} {n : Int} : ixA h 1 (.d (.rd (l.map strD))) (.d (.v (.int k n))) = (idx l n).map fun a => .d (.bx (strD a)) := qfQ9 (f := strD) (fun _ => rfl)
theorem qwZ9 {h : AHeap} {l : List (ByteArray)} {i k : Int} {a b : IntKind} : cutA 1 h (.d (.rd (l.map strD))) (some (.d (.v (.int a i)))) (some (.d (.v (.int b k)))) = (cutL l i k).map fun l => .d (.rd (l.map strD)) := qdJ9 (f := strD) (fun _ => rfl)
theorem qxd9 {h : AHeap} {l : List (ByteArray)} {k : Int} {b : IntKind} : cutA 1 h (.d (.rd (l.map strD))) none (some (.d (.v (.int b k)))) = (cutL l 0 k).map fun l => .d (.rd (l.map strD)) := qcC9 (f := strD) (fun _ => rfl)
theorem qxG9 {h : AHeap} {l : List (ByteArray)} {i : Int} {a : IntKind} : cutA 1 h (.d (.rd (l.map strD))) (some (.d (.v (.int a i)))) none = (cutL l i (l.length : Int)).map fun l => .d (.rd (l.map strD)) := qcD9 (f := strD) (fun _ => rfl)
theorem qya9 {l : List (ByteArray)} : (rowP strD l).all (fun cs => cs.length == 1) = true := qdb9 (f := strD) (fun _ => rfl)
theorem qxq9 {a : ByteArray} {l : List (ByteArray)} {r : List (List PV)} : rowP strD l ++ ([.d (.v (.string a))] :: r) = rowP strD (l ++ [a]) ++ r := qcW9 (f := strD) (a := a) rfl
theorem qwP9 {a : ByteArray} {l : List (ByteArray)} {i : Nat} : (rowP strD l).set i [.d (.v (.string a))] = rowP strD (l.set i a) := qdz9 (f := strD) (a := a) rfl
theorem qxW9 {a : ByteArray} {k : Int} {l : List (Int × (ByteArray))} : putP (.int .i64 k) (.d (.v (.string a))) (mapP keyI strD l) = some (mapP keyI strD (mset l k a)) := qdA9 (f := strD) (v := a) rfl
theorem qxO9 {a : ByteArray} {n : Nat} : List.replicate n [.d (.v (.string a))] = rowP strD (List.replicate n a) := qdI9 (f := strD) (a := a) rfl
theorem qyU9 {h : AHeap} {l : List (D)} {k : IntKind} {n : Int} : ixA h 1 (.d (.rd (l.map ifD))) (.d (.v (.int k n))) = (idx l n).map fun a => .d (.bx (ifD a)) := qfQ9 (f := ifD) (fun _ => rfl)
theorem qym9 {h : AHeap} {l : List (D)} {i k : Int} {a b : IntKind} : cutA 1 h (.d (.rd (l.map ifD))) (some (.d (.v (.int a i)))) (some (.d (.v (.int b k)))) = (cutL l i k).map fun l => .d (.rd (l.map ifD)) := qdJ9 (f := ifD) (fun _ => rfl)
theorem qzp9 {h : AHeap} {l : List (D)} {k : Int} {b : IntKind} : cutA 1 h (.d (.rd (l.map ifD))) none (some (.d (.v (.int b k)))) = (cutL l 0 k).map fun l => .d (.rd (l.map ifD)) := qcC9 (f := ifD) (fun _ => rfl)
theorem qyt9 {h : AHeap} {l : List (D)} {i : Int} {a : IntKind} : cutA 1 h (.d (.rd (l.map ifD))) (some (.d (.v (.int a i)))) none = (cutL l i (l.length : Int)).map fun l => .d (.rd (l.map ifD)) := qcD9 (f := ifD) (fun _ => rfl)
theorem qzc9 {l : List (D)} : (rowP ifD l).all (fun cs => cs.length == 1) = true := qdb9 (f := ifD) (fun _ => rfl)
theorem qqh9 {h : AHeap} {l : List (Symbol)} {k : IntKind} {n : Int} : ixA h 2 (.d (.rd (l.map qb9))) (.d (.v (.int k n))) = (idx l n).map fun a => .d (.bx (qb9 a)) := qfQ9 (f := qb9) (fun _ => rfl)
theorem qpi9 {h : AHeap} {l : List (Symbol)} {i k : Int} {a b : IntKind} : cutA 2 h (.d (.rd (l.map qb9))) (some (.d (.v (.int a i)))) (some (.d (.v (.int b k)))) = (cutL l i k).map fun l => .d (.rd (l.map qb9)) := qdJ9 (f := qb9) (fun _ => rfl)
theorem qqk9 {h : AHeap} {l : List (Symbol)} {k : Int} {b : IntKind} : cutA 2 h (.d (.rd (l.map qb9))) none (some (.d (.v (.int b k)))) = (cutL l 0 k).map fun l => .d (.rd (l.map qb9)) := qcC9 (f := qb9) (fun _ => rfl)
theorem qpC9 {h : AHeap} {l : List (Symbol)} {i : Int} {a : IntKind} : cutA 2 h (.d (.rd (l.map qb9))) (some (.d (.v (.int a i)))) none = (cutL l i (l.length : Int)).map fun l => .d (.rd (l.map qb9)) := qcD9 (f := qb9) (fun _ => rfl)
theorem qpP9 {l : List (Symbol)} : (rowP qb9 l).all (fun cs => cs.length == 2) = true := qdb9 (f := qb9) (fun _ => rfl)
theorem qod9 {y0 : ByteArray} {y1 : Int} {l : List (Symbol)} {r : List (List PV)} : rowP qb9 l ++ ([.d (.v (.string y0)), .d (.v (.int .i64 y1))] :: r) = rowP qb9 (l ++ [(Symbol.mk y0 y1)]) ++ r := qcW9 (f := qb9) (a := (Symbol.mk y0 y1)) rfl
theorem qpv9 {y0 : ByteArray} {y1 : Int} {l : List (Symbol)} {i : Nat} : (rowP qb9 l).set i [.d (.v (.string y0)), .d (.v (.int .i64 y1))] = rowP qb9 (l.set i (Symbol.mk y0 y1)) := qdz9 (f := qb9) (a := (Symbol.mk y0 y1)) rfl
theorem qot9 {y0 : ByteArray} {y1 : Int} {k : Int} {l : List (Int × (Symbol))} : putP (.int .i64 k) (.ag [.d (.v (.string y0)), .d (.v (.int .i64 y1))]) (mapP keyI qb9 l) = some (mapP keyI qb9 (mset l k (Symbol.mk y0 y1))) := qdA9 (f := qb9) (v := (Symbol.mk y0 y1)) rfl
theorem qoV9 {y0 : ByteArray} {y1 : Int} {n : Nat} : List.replicate n [.d (.v (.string y0)), .d (.v (.int .i64 y1))] = rowP qb9 (List.replicate n (Symbol.mk y0 y1)) := qdI9 (f := qb9) (a := (Symbol.mk y0 y1)) rfl
theorem qtu9 {h : AHeap} {l : List (Rule)} {k : IntKind} {n : Int} : ixA h 2 (.d (.rd (l.map qd9))) (.d (.v (.int k n))) = (idx l n).map fun a => .d (.bx (qd9 a)) := qfQ9 (f := qd9) (fun _ => rfl)
theorem qtz9 {h : AHeap} {l : List (Rule)} {i k : Int} {a b : IntKind} : cutA 2 h (.d (.rd (l.map qd9))) (some (.d (.v (.int a i)))) (some (.d (.v (.int b k)))) = (cutL l i k).map fun l => .d (.rd (l.map qd9)) := qdJ9 (f := qd9) (fun _ => rfl)
theorem qsO9 {h : AHeap} {l : List (Rule)} {k : Int} {b : IntKind} : cutA 2 h (.d (.rd (l.map qd9))) none (some (.d (.v (.int b k)))) = (cutL l 0 k).map fun l => .d (.rd (l.map qd9)) := qcC9 (f := qd9) (fun _ => rfl)
theorem qsW9 {h : AHeap} {l : List (Rule)} {i : Int} {a : IntKind} : cutA 2 h (.d (.rd (l.map qd9))) (some (.d (.v (.int a i)))) none = (cutL l i (l.length : Int)).map fun l => .d (.rd (l.map qd9)) := qcD9 (f := qd9) (fun _ => rfl)
theorem qtA9 {l : List (Rule)} : (rowP qd9 l).all (fun cs => cs.length == 2) = true := qdb9 (f := qd9) (fun _ => rfl)
theorem qtx9 {y0 : List Int} {y1 : List Int} {l : List (Rule)} {r : List (List PV)} : rowP qd9 l ++ ([.d (.rd (y0.map intD)), .d (.rd (y1.map intD))] :: r) = rowP qd9 (l ++ [(Rule.mk y0 y1)]) ++ r := qcW9 (f := qd9) (a := (Rule.mk y0 y1)) rfl
theorem qsi9 {y0 : List Int} {y1 : List Int} {l : List (Rule)} {i : Nat} : (rowP qd9 l).set i [.d (.rd (y0.map intD)), .d (.rd (y1.map intD))] = rowP qd9 (l.set i (Rule.mk y0 y1)) := qdz9 (f := qd9) (a := (Rule.mk y0 y1)) rfl
theorem qsz9 {y0 : List Int} {y1 : List Int} {k : Int} {l : List (Int × (Rule))} : putP (.int .i64 k) (.ag [.d (.rd (y0.map intD)), .d (.rd (y1.map intD))]) (mapP keyI qd9 l) = some (mapP keyI qd9 (mset l k (Rule.mk y0 y1))) := qdA9 (f := qd9) (v := (Rule.mk y0 y1)) rfl
theorem qtn9 {y0 : List Int} {y1 : List Int} {n : Nat} : List.replicate n [.d (.rd (y0.map intD)), .d (.rd (y1.map intD))] = rowP qd9 (List.replicate n (Rule.mk y0 y1)) := qdI9 (f := qd9) (a := (Rule.mk y0 y1)) rfl
theorem qpy9 {h : AHeap} {l : List (System)} {k : IntKind} {n : Int} : ixA h 2 (.d (.rd (l.map qf9))) (.d (.v (.int k n))) = (idx l n).map fun a => .d (.bx (qf9 a)) := qfQ9 (f := qf9) (fun _ => rfl)
theorem qoz9 {h : AHeap} {l : List (System)} {i k : Int} {a b : IntKind} : cutA 2 h (.d (.rd (l.map qf9))) (some (.d (.v (.int a i)))) (some (.d (.v (.int b k)))) = (cutL l i k).map fun l => .d (.rd (l.map qf9)) := qdJ9 (f := qf9) (fun _ => rfl)
theorem qpY9 {h : AHeap} {l : List (System)} {k : Int} {b : IntKind} : cutA 2 h (.d (.rd (l.map qf9))) none (some (.d (.v (.int b k)))) = (cutL l 0 k).map fun l => .d (.rd (l.map qf9)) := qcC9 (f := qf9) (fun _ => rfl)
theorem qoK9 {h : AHeap} {l : List (System)} {i : Int} {a : IntKind} : cutA 2 h (.d (.rd (l.map qf9))) (some (.d (.v (.int a i)))) none = (cutL l i (l.length : Int)).map fun l => .d (.rd (l.map qf9)) := qcD9 (f := qf9) (fun _ => rfl)
theorem qpT9 {l : List (System)} : (rowP qf9 l).all (fun cs => cs.length == 2) = true := qdb9 (f := qf9) (fun _ => rfl)
theorem qoZ9 {y0 : List Symbol} {y1 : List Rule} {l : List (System)} {r : List (List PV)} : rowP qf9 l ++ ([.d (.rd (y0.map qb9)), .d (.rd (y1.map qd9))] :: r) = rowP qf9 (l ++ [(System.mk y0 y1)]) ++ r := qcW9 (f := qf9) (a := (System.mk y0 y1)) rfl
theorem qpd9 {y0 : List Symbol} {y1 : List Rule} {l : List (System)} {i : Nat} : (rowP qf9 l).set i [.d (.rd (y0.map qb9)), .d (.rd (y1.map qd9))] = rowP qf9 (l.set i (System.mk y0 y1)) := qdz9 (f := qf9) (a := (System.mk y0 y1)) rfl
theorem qpD9 {y0 : List Symbol} {y1 : List Rule} {k : Int} {l : List (Int × (System))} : putP (.int .i64 k) (.ag [.d (.rd (y0.map qb9)), .d (.rd (y1.map qd9))]) (mapP keyI qf9 l) = some (mapP keyI qf9 (mset l k (System.mk y0 y1))) := qdA9 (f := qf9) (v := (System.mk y0 y1)) rfl
theorem qpV9 {y0 : List Symbol} {y1 : List Rule} {n : Nat} : List.replicate n [.d (.rd (y0.map qb9)), .d (.rd (y1.map qd9))] = rowP qf9 (List.replicate n (System.mk y0 y1)) := qdI9 (f := qf9) (a := (System.mk y0 y1)) rfl
theorem qqR9 {h : AHeap} {l : List (Redex)} {k : IntKind} {n : Int} : ixA h 2 (.d (.rd (l.map qm9))) (.d (.v (.int k n))) = (idx l n).map fun a => .d (.bx (qm9 a)) := qfQ9 (f := qm9) (fun _ => rfl)
theorem qqZ9 {h : AHeap} {l : List (Redex)} {i k : Int} {a b : IntKind} : cutA 2 h (.d (.rd (l.map qm9))) (some (.d (.v (.int a i)))) (some (.d (.v (.int b k)))) = (cutL l i k).map fun l => .d (.rd (l.map qm9)) := qdJ9 (f := qm9) (fun _ => rfl)
theorem qqt9 {h : AHeap} {l : List (Redex)} {k : Int} {b : IntKind} : cutA 2 h (.d (.rd (l.map qm9))) none (some (.d (.v (.int b k)))) = (cutL l 0 k).map fun l => .d (.rd (l.map qm9)) := qcC9 (f := qm9) (fun _ => rfl)
theorem qrD9 {h : AHeap} {l : List (Redex)} {i : Int} {a : IntKind} : cutA 2 h (.d (.rd (l.map qm9))) (some (.d (.v (.int a i)))) none = (cutL l i (l.length : Int)).map fun l => .d (.rd (l.map qm9)) := qcD9 (f := qm9) (fun _ => rfl)
theorem qrx9 {l : List (Redex)} : (rowP qm9 l).all (fun cs => cs.length == 2) = true := qdb9 (f := qm9) (fun _ => rfl)
theorem qrC9 {y0 : Int} {y1 : Int} {l : List (Redex)} {r : List (List PV)} : rowP qm9 l ++ ([.d (.v (.int .i64 y0)), .d (.v (.int .i64 y1))] :: r) = rowP qm9 (l ++ [(Redex.mk y0 y1)]) ++ r := qcW9 (f := qm9) (a := (Redex.mk y0 y1)) rfl
theorem qrp9 {y0 : Int} {y1 : Int} {l : List (Redex)} {i : Nat} : (rowP qm9 l).set i [.d (.v (.int .i64 y0)), .d (.v (.int .i64 y1))] = rowP qm9 (l.set i (Redex.mk y0 y1)) := qdz9 (f := qm9) (a := (Redex.mk y0 y1)) rfl
theorem qqw9 {y0 : Int} {y1 : Int} {k : Int} {l : List (Int × (Redex))} : putP (.int .i64 k) (.ag [.d (.v (.int .i64 y0)), .d (.v (.int .i64 y1))]) (mapP keyI qm9 l) = some (mapP keyI qm9 (mset l k (Redex.mk y0 y1))) := qdA9 (f := qm9) (v := (Redex.mk y0 y1)) rfl
theorem qrm9 {y0 : Int} {y1 : Int} {n : Nat} : List.replicate n [.d (.v (.int .i64 y0)), .d (.v (.int .i64 y1))] = rowP qm9 (List.replicate n (Redex.mk y0 y1)) := qdI9 (f := qm9) (a := (Redex.mk y0 y1)) rfl
theorem qrW9 {h : AHeap} {l : List (Bind)} {k : IntKind} {n : Int} : ixA h 2 (.d (.rd (l.map qc9))) (.d (.v (.int k n))) = (idx l n).map fun a => .d (.bx (qc9 a)) := qfQ9 (f := qc9) (fun _ => rfl)
theorem qsq9 {h : AHeap} {l : List (Bind)} {i k : Int} {a b : IntKind} : cutA 2 h (.d (.rd (l.map qc9))) (some (.d (.v (.int a i)))) (some (.d (.v (.int b k)))) = (cutL l i k).map fun l => .d (.rd (l.map qc9)) := qdJ9 (f := qc9) (fun _ => rfl)
theorem qtg9 {h : AHeap} {l : List (Bind)} {k : Int} {b : IntKind} : cutA 2 h (.d (.rd (l.map qc9))) none (some (.d (.v (.int b k)))) = (cutL l 0 k).map fun l => .d (.rd (l.map qc9)) := qcC9 (f := qc9) (fun _ => rfl)
theorem qsp9 {h : AHeap} {l : List (Bind)} {i : Int} {a : IntKind} : cutA 2 h (.d (.rd (l.map qc9))) (some (.d (.v (.int a i)))) none = (cutL l i (l.length : Int)).map fun l => .d (.rd (l.map qc9)) := qcD9 (f := qc9) (fun _ => rfl)
theorem qsv9 {l : List (Bind)} : (rowP qc9 l).all (fun cs => cs.length == 2) = true := qdb9 (f := qc9) (fun _ => rfl)
theorem qsm9 {y0 : Int} {y1 : List Int} {l : List (Bind)} {r : List (List PV)} : rowP qc9 l ++ ([.d (.v (.int .i64 y0)), .d (.rd (y1.map intD))] :: r) = rowP qc9 (l ++ [(Bind.mk y0 y1)]) ++ r := qcW9 (f := qc9) (a := (Bind.mk y0 y1)) rfl
theorem qsQ9 {y0 : Int} {y1 : List Int} {l : List (Bind)} {i : Nat} : (rowP qc9 l).set i [.d (.v (.int .i64 y0)), .d (.rd (y1.map intD))] = rowP qc9 (l.set i (Bind.mk y0 y1)) := qdz9 (f := qc9) (a := (Bind.mk y0 y1)) rfl
theorem qty9 {y0 : Int} {y1 : List Int} {k : Int} {l : List (Int × (Bind))} : putP (.int .i64 k) (.ag [.d (.v (.int .i64 y0)), .d (.rd (y1.map intD))]) (mapP keyI qc9 l) = some (mapP keyI qc9 (mset l k (Bind.mk y0 y1))) := qdA9 (f := qc9) (v := (Bind.mk y0 y1)) rfl
theorem qsy9 {y0 : Int} {y1 : List Int} {n : Nat} : List.replicate n [.d (.v (.int .i64 y0)), .d (.rd (y1.map intD))] = rowP qc9 (List.replicate n (Bind.mk y0 y1)) := qdI9 (f := qc9) (a := (Bind.mk y0 y1)) rfl
theorem qsn9 {h : AHeap} {l : List (Int)} {k : IntKind} {n : Int} : ixA h 1 (.d (.rd (l.map qbg9))) (.d (.v (.int k n))) = (idx l n).map fun a => .d (.bx (qbg9 a)) := qfQ9 (f := qbg9) (fun _ => rfl)
theorem qsA9 {h : AHeap} {l : List (Int)} {i k : Int} {a b : IntKind} : cutA 1 h (.d (.rd (l.map qbg9))) (some (.d (.v (.int a i)))) (some (.d (.v (.int b k)))) = (cutL l i k).map fun l => .d (.rd (l.map qbg9)) := qdJ9 (f := qbg9) (fun _ => rfl)
theorem qsu9 {h : AHeap} {l : List (Int)} {k : Int} {b : IntKind} : cutA 1 h (.d (.rd (l.map qbg9))) none (some (.d (.v (.int b k)))) = (cutL l 0 k).map fun l => .d (.rd (l.map qbg9)) := qcC9 (f := qbg9) (fun _ => rfl)
theorem qtv9 {h : AHeap} {l : List (Int)} {i : Int} {a : IntKind} : cutA 1 h (.d (.rd (l.map qbg9))) (some (.d (.v (.int a i)))) none = (cutL l i (l.length : Int)).map fun l => .d (.rd (l.map qbg9)) := qcD9 (f := qbg9) (fun _ => rfl)
theorem qsK9 {l : List (Int)} : (rowP qbg9 l).all (fun cs => cs.length == 1) = true := qdb9 (f := qbg9) (fun _ => rfl)
theorem qtq9 {a : Int} {l : List (Int)} {r : List (List PV)} : rowP qbg9 l ++ ([.d (.v (.int .u32 a))] :: r) = rowP qbg9 (l ++ [a]) ++ r := qcW9 (f := qbg9) (a := a) rfl
theorem qsG9 {a : Int} {l : List (Int)} {i : Nat} : (rowP qbg9 l).set i [.d (.v (.int .u32 a))] = rowP qbg9 (l.set i a) := qdz9 (f := qbg9) (a := a) rfl
theorem qsT9 {a : Int} {k : Int} {l : List (Int × (Int))} : putP (.int .i64 k) (.d (.v (.int .u32 a))) (mapP keyI qbg9 l) = some (mapP keyI qbg9 (mset l k a)) := qdA9 (f := qbg9) (v := a) rfl
theorem qsX9 {a : Int} {n : Nat} : List.replicate n [.d (.v (.int .u32 a))] = rowP qbg9 (List.replicate n a) := qdI9 (f := qbg9) (a := a) rfl
theorem qzm9 {h : AHeap} {c : List D} : elems h (.d (.rd [c])) = some [c.map PV.d] := by simp [elems]
section
variable {α : Type} {f : α → List D} {h : AHeap}
theorem qzr9 {l : List (List α)} {k : IntKind} {n : Int} : ixA h 1 (.d (.rd (l.map (lsD f)))) (.d (.v (.int k n))) = (idx l n).map fun a => .d (.bx ((lsD f) a)) := qfQ9 (f := (lsD f)) (fun _ => rfl)
theorem qzu9 {l : List (List α)} {i k : Int} {a b : IntKind} : cutA 1 h (.d (.rd (l.map (lsD f)))) (some (.d (.v (.int a i)))) (some (.d (.v (.int b k)))) = (cutL l i k).map fun l => .d (.rd (l.map (lsD f))) := qdJ9 (f := (lsD f)) (fun _ => rfl)
theorem qzy9 {l : List (List α)} {k : Int} {b : IntKind} : cutA 1 h (.d (.rd (l.map (lsD f)))) none (some (.d (.v (.int b k)))) = (cutL l 0 k).map fun l => .d (.rd (l.map (lsD f))) := qcC9 (f := (lsD f)) (fun _ => rfl)
theorem qzs9 {l : List (List α)} {i : Int} {a : IntKind} : cutA 1 h (.d (.rd (l.map (lsD f)))) (some (.d (.v (.int a i)))) none = (cutL l i (l.length : Int)).map fun l => .d (.rd (l.map (lsD f))) := qcD9 (f := (lsD f)) (fun _ => rfl)
theorem qzw9 {l : List (List α)} : (rowP (lsD f) l).all (fun cs => cs.length == 1) = true := qdb9 (f := (lsD f)) (fun _ => rfl)
theorem qzx9 {a : List α} {l : List (List α)} {r : List (List PV)} : rowP (lsD f) l ++ ([.d (.rd (a.map f))] :: r) = rowP (lsD f) (l ++ [a]) ++ r := qcW9 (f := (lsD f)) (a := a) rfl
theorem qzv9 {a : List α} {l : List (List α)} {i : Nat} : (rowP (lsD f) l).set i [.d (.rd (a.map f))] = rowP (lsD f) (l.set i a) := qdz9 (f := (lsD f)) (a := a) rfl
theorem qzt9 {a : List α} {k : Int} {l : List (Int × (List α))} : putP (.int .i64 k) (.d (.rd (a.map f))) (mapP keyI (lsD f) l) = some (mapP keyI (lsD f) (mset l k a)) := qdA9 (f := (lsD f)) (v := a) rfl
theorem qwN9 {l : List (List (List α))} {k : IntKind} {n : Int} : ixA h 1 (.d (.rd (l.map (lsD (lsD f))))) (.d (.v (.int k n))) = (idx l n).map fun a => .d (.bx ((lsD (lsD f)) a)) := qfQ9 (f := (lsD (lsD f))) (fun _ => rfl)
theorem qxM9 {l : List (List (List α))} {i k : Int} {a b : IntKind} : cutA 1 h (.d (.rd (l.map (lsD (lsD f))))) (some (.d (.v (.int a i)))) (some (.d (.v (.int b k)))) = (cutL l i k).map fun l => .d (.rd (l.map (lsD (lsD f)))) := qdJ9 (f := (lsD (lsD f))) (fun _ => rfl)
theorem qxN9 {l : List (List (List α))} {k : Int} {b : IntKind} : cutA 1 h (.d (.rd (l.map (lsD (lsD f))))) none (some (.d (.v (.int b k)))) = (cutL l 0 k).map fun l => .d (.rd (l.map (lsD (lsD f)))) := qcC9 (f := (lsD (lsD f))) (fun _ => rfl)
theorem qxv9 {l : List (List (List α))} {i : Int} {a : IntKind} : cutA 1 h (.d (.rd (l.map (lsD (lsD f))))) (some (.d (.v (.int a i)))) none = (cutL l i (l.length : Int)).map fun l => .d (.rd (l.map (lsD (lsD f)))) := qcD9 (f := (lsD (lsD f))) (fun _ => rfl)
theorem qwM9 {l : List (List (List α))} : (rowP (lsD (lsD f)) l).all (fun cs => cs.length == 1) = true := qdb9 (f := (lsD (lsD f))) (fun _ => rfl)
theorem qwX9 {a : List (List α)} {l : List (List (List α))} {r : List (List PV)} : rowP (lsD (lsD f)) l ++ ([.d (.rd (a.map (lsD f)))] :: r) = rowP (lsD (lsD f)) (l ++ [a]) ++ r := qcW9 (f := (lsD (lsD f))) (a := a) rfl
theorem qxZ9 {a : List (List α)} {l : List (List (List α))} {i : Nat} : (rowP (lsD (lsD f)) l).set i [.d (.rd (a.map (lsD f)))] = rowP (lsD (lsD f)) (l.set i a) := qdz9 (f := (lsD (lsD f))) (a := a) rfl
theorem qxJ9 {a : List (List α)} {k : Int} {l : List (Int × (List (List α)))} : putP (.int .i64 k) (.d (.rd (a.map (lsD f)))) (mapP keyI (lsD (lsD f)) l) = some (mapP keyI (lsD (lsD f)) (mset l k a)) := qdA9 (f := (lsD (lsD f))) (v := a) rfl
end
attribute [go_sem] qxn9 qxT9 qwQ9 qxV9 qxA9 qye9 qwD9 qwE9 qxy9 qvX9 qvM9 qvj9 qvp9 qvY9 qvE9 qvk9 qwl9 qwk9 qxk9 qwZ9 qxd9 qxG9 qya9 qxq9 qwP9 qxW9 qxO9 qyU9 qym9 qzp9 qyt9 qzc9 qqh9 qpi9 qqk9 qpC9 qpP9 qod9 qpv9 qot9 qoV9 qtu9 qtz9 qsO9 qsW9 qtA9 qtx9 qsi9 qsz9 qtn9 qpy9 qoz9 qpY9 qoK9 qpT9 qoZ9 qpd9 qpD9 qpV9 qqR9 qqZ9 qqt9 qrD9 qrx9 qrC9 qrp9 qqw9 qrm9 qrW9 qsq9 qtg9 qsp9 qsv9 qsm9 qsQ9 qty9 qsy9 qsn9 qsA9 qsu9 qtv9 qsK9 qtq9 qsG9 qsT9 qsX9 qzm9 qzr9 qzu9 qzy9 qzs9 qzw9 qzx9 qzv9 qzt9 qwN9 qxM9 qxN9 qxv9 qwM9 qwX9 qxZ9 qxJ9 intD boolD strD ifD lsD ar2D ar3D bxD qb9 qd9 qf9 qm9 qc9 qbg9
end Ld

import Derived.Test.YtfjgfcnhklopdaaDoorAbs39
set_option maxHeartbeats 400000
set_option linter.unusedVariables false
set_option linter.unusedSimpArgs false
namespace Ld
open Go Go.Abs
structure Symbol where
  Name : ByteArray
  Arity : Int
  deriving DecidableEq
def qb9 (x : Symbol) : List D := [.v (.string x.Name), .v (.int .i64 x.Arity)]
def qjB9 (x : Symbol) : Prop := (okI .i64) x.Arity
structure Rule where
  L : List Int
  R : List Int
  deriving DecidableEq
def qd9 (x : Rule) : List D := [.rd (x.L.map intD), .rd (x.R.map intD)]
def qlq9 (x : Rule) : Prop := (okL (okI .i64)) x.L ∧ (okL (okI .i64)) x.R
structure System where
  Sig : List Symbol
  Rules : List Rule
  deriving DecidableEq
def qg9 (x : System) : List D := [.rd (x.Sig.map qb9), .rd (x.Rules.map qd9)]
def qli9 (x : System) : Prop := (okL qjB9) x.Sig ∧ (okL qlq9) x.Rules
structure Redex where
  At : Int
  Rule : Int
  deriving DecidableEq
def qm9 (x : Redex) : List D := [.v (.int .i64 x.At), .v (.int .i64 x.Rule)]
def qxv9 (x : Redex) : Prop := (okI .i64) x.At ∧ (okI .i64) x.Rule
structure Walk where
  Steps : List Redex
  End : List Int
  Normal : Bool
  deriving DecidableEq
def qQ9 (x : Walk) : List D := [.rd (x.Steps.map qm9), .rd (x.End.map intD), .v (.bool x.Normal)]
def qzS9 (x : Walk) : Prop := (okL qxv9) x.Steps ∧ (okL (okI .i64)) x.End
structure Bind where
  Var : Int
  T : List Int
  deriving DecidableEq
def qc9 (x : Bind) : List D := [.v (.int .i64 x.Var), .rd (x.T.map intD)]
def qzQ9 (x : Bind) : Prop := (okI .i64) x.Var ∧ (okL (okI .i64)) x.T
theorem qxt9 {h : AHeap} {l : List (Int)} {k : IntKind} {n : Int} : ixA h 1 (.d (.rd (l.map intD))) (.d (.v (.int k n))) = (idx l n).map fun a => .d (.bx (intD a)) := qfg9 (f := intD) (fun _ => rfl)
theorem qxU9 {h : AHeap} {l : List (Int)} {i k : Int} {a b : IntKind} : cutA 1 h (.d (.rd (l.map intD))) (some (.d (.v (.int a i)))) (some (.d (.v (.int b k)))) = (cutL l i k).map fun l => .d (.rd (l.map intD)) := qdB9 (f := intD) (fun _ => rfl)
theorem qxV9 {h : AHeap} {l : List (Int)} {k : Int} {b : IntKind} : cutA 1 h (.d (.rd (l.map intD))) none (some (.d (.v (.int b k)))) = (cutL l 0 k).map fun l => .d (.rd (l.map intD)) := qcx9 (f := intD) (fun _ => rfl)
theorem qxW9 {h : AHeap} {l : List (Int)} {i : Int} {a : IntKind} : cutA 1 h (.d (.rd (l.map intD))) (some (.d (.v (.int a i)))) none = (cutL l i (l.length : Int)).map fun l => .d (.rd (l.map intD)) := qcu9 (f := intD) (fun _ => rfl)
theorem qxE9 {l : List (Int)} : (rowP intD l).all (fun cs => cs.length == 1) = true := qcJ9 (f := intD) (fun _ => rfl)
theorem qxj9 {a : Int} {l : List (Int)} {r : List (List PV)} : rowP intD l ++ ([.d (.v (.int .i64 a))] :: r) = rowP intD (l ++ [a]) ++ r := qcI9 (f := intD) (a := a) rfl
theorem qwO9 {a : Int} {l : List (Int)} {i : Nat} : (rowP intD l).set i [.d (.v (.int .i64 a))] = rowP intD (l.set i a) := qdi9 (f := intD) (a := a) rfl
theorem qxH9 {a : Int} {k : Int} {l : List (Int × (Int))} : putP (.int .i64 k) (.d (.v (.int .i64 a))) (mapP keyI intD l) = some (mapP keyI intD (mset l k a)) := qdd9 (f := intD) (v := a) rfl
theorem qxq9 {a : Int} {n : Nat} : List.replicate n [.d (.v (.int .i64 a))] = rowP intD (List.replicate n a) := qdw9 (f := intD) (a := a) rfl
theorem qvo9 {h : AHeap} {l : List (Bool)} {k : IntKind} {n : Int} : ixA h 1 (.d (.rd (l.map boolD))) (.d (.v (.int k n))) = (idx l n).map fun a => .d (.bx (boolD a)) := qfg9 (f := boolD) (fun _ => rfl)
theorem qvl9 {h : AHeap} {l : List (Bool)} {i k : Int} {a b : IntKind} : cutA 1 h (.d (.rd (l.map boolD))) (some (.d (.v (.int a i)))) (some (.d (.v (.int b k)))) = (cutL l i k).map fun l => .d (.rd (l.map boolD)) := qdB9 (f := boolD) (fun _ => rfl)
theorem qwn9 {h : AHeap} {l : List (Bool)} {k : Int} {b : IntKind} : cutA 1 h (.d (.rd (l.map boolD))) none (some (.d (.v (.int b k)))) = (cutL l 0 k).map fun l => .d (.rd (l.map boolD)) := qcx9 (f := boolD) (fun _ => rfl)
theorem qwe9 {h : AHeap} {l : List (Bool)} {i : Int} {a : IntKind} : cutA 1 h (.d (.rd (l.map boolD))) (some (.d (.v (.int a i)))) none = (cutL l i (l.length : Int)).map fun l => .d (.rd (l.map boolD)) := qcu9 (f := boolD) (fun _ => rfl)
theorem qvT9 {l : List (Bool)} : (rowP boolD l).all (fun cs => cs.length == 1) = true := qcJ9 (f := boolD) (fun _ => rfl)
theorem qvK9 {a : Bool} {l : List (Bool)} {r : List (List PV)} : rowP boolD l ++ ([.d (.v (.bool a))] :: r) = rowP boolD (l ++ [a]) ++ r := qcI9 (f := boolD) (a := a) rfl
theorem qvx9 {a : Bool} {l : List (Bool)} {i : Nat} : (rowP boolD l).set i [.d (.v (.bool a))] = rowP boolD (l.set i a) := qdi9 (f := boolD) (a := a) rfl
theorem qvX9 {a : Bool} {k : Int} {l : List (Int × (Bool))} : putP (.int .i64 k) (.d (.v (.bool a))) (mapP keyI boolD l) = some (mapP keyI boolD (mset l k a)) := qdd9 (f := boolD) (v := a) rfl
theorem qvt9 {a : Bool} {n : Nat} : List.replicate n [.d (.v (.bool a))] = rowP boolD (List.replicate n a) := qdw9 (f := boolD) (a := a) rfl
theorem qwP9 {h : AHeap} {l : List (ByteArray)} {k : IntKind} {n : Int} : ixA h 1 (.d (.rd (l.map strD))) (.d (.v (.int k n))) = (idx l n).map fun a => .d (.bx (strD a)) := qfg9 (f := strD) (fun _ => rfl)
theorem qxI9 {h : AHeap} {l : List (ByteArray)} {i k : Int} {a b : IntKind} : cutA 1 h (.d (.rd (l.map strD))) (some (.d (.v (.int a i)))) (some (.d (.v (.int b k)))) = (cutL l i k).map fun l => .d (.rd (l.map strD)) := qdB9 (f := strD) (fun _ => rfl)
theorem qym9 {h : AHeap} {l : List (ByteArray)} {k : Int} {b : IntKind} : cutA 1 h (.d (.rd (l.map strD))) none (some (.d (.v (.int b k)))) = (cutL l 0 k).map fun l => .d (.rd (l.map strD)) := qcx9 (f := strD) (fun _ => rfl)
theorem qyj9 {h : AHeap} {l : List (ByteArray)} {i : Int} {a : IntKind} : cutA 1 h (.d (.rd (l.map strD))) (some (.d (.v (.int a i)))) none = (cutL l i (l.length : Int)).map fun l => .d (.rd (l.map strD)) := qcu9 (f := strD) (fun _ => rfl)
theorem qxT9 {l : List (ByteArray)} : (rowP strD l).all (fun cs => cs.length == 1) = true := qcJ9 (f := strD) (fun _ => rfl)
theorem qxm9 {a : ByteArray} {l : List (ByteArray)} {r : List (List PV)} : rowP strD l ++ ([.d (.v (.string a))] :: r) = rowP strD (l ++ [a]) ++ r := qcI9 (f := strD) (a := a) rfl
theorem qxS9 {a : ByteArray} {l : List (ByteArray)} {i : Nat} : (rowP strD l).set i [.d (.v (.string a))] = rowP strD (l.set i a) := qdi9 (f := strD) (a := a) rfl
theorem qyp9 {a : ByteArray} {k : Int} {l : List (Int × (ByteArray))} : putP (.int .i64 k) (.d (.v (.string a))) (mapP keyI strD l) = some (mapP keyI strD (mset l k a)) := qdd9 (f := strD) (v := a) rfl
theorem qxn9 {a : ByteArray} {n : Nat} : List.replicate n [.d (.v (.string a))] = rowP strD (List.replicate n a) := qdw9 (f := strD) (a := a) rfl
theorem qza9 {h : AHeap} {l : List (D)} {k : IntKind} {n : Int} : ixA h 1 (.d (.rd (l.map ifD))) (.d (.v (.int k n))) = (idx l n).map fun a => .d (.bx (ifD a)) := qfg9 (f := ifD) (fun _ => rfl)
theorem qyP9 {h : AHeap} {l : List (D)} {i k : Int} {a b : IntKind} : cutA 1 h (.d (.rd (l.map ifD))) (some (.d (.v (.int a i)))) (some (.d (.v (.int b k)))) = (cutL l i k).map fun l => .d (.rd (l.map ifD)) := qdB9 (f := ifD) (fun _ => rfl)
theorem qzr9 {h : AHeap} {l : List (D)} {k : Int} {b : IntKind} : cutA 1 h (.d (.rd (l.map ifD))) none (some (.d (.v (.int b k)))) = (cutL l 0 k).map fun l => .d (.rd (l.map ifD)) := qcx9 (f := ifD) (fun _ => rfl)
theorem qyt9 {h : AHeap} {l : List (D)} {i : Int} {a : IntKind} : cutA 1 h (.d (.rd (l.map ifD))) (some (.d (.v (.int a i)))) none = (cutL l i (l.length : Int)).map fun l => .d (.rd (l.map ifD)) := qcu9 (f := ifD) (fun _ => rfl)
theorem qyD9 {l : List (D)} : (rowP ifD l).all (fun cs => cs.length == 1) = true := qcJ9 (f := ifD) (fun _ => rfl)
theorem qqf9 {h : AHeap} {l : List (Symbol)} {k : IntKind} {n : Int} : ixA h 2 (.d (.rd (l.map qb9))) (.d (.v (.int k n))) = (idx l n).map fun a => .d (.bx (qb9 a)) := qfg9 (f := qb9) (fun _ => rfl)
theorem qow9 {h : AHeap} {l : List (Symbol)} {i k : Int} {a b : IntKind} : cutA 2 h (.d (.rd (l.map qb9))) (some (.d (.v (.int a i)))) (some (.d (.v (.int b k)))) = (cutL l i k).map fun l => .d (.rd (l.map qb9)) := qdB9 (f := qb9) (fun _ => rfl)
theorem qoz9 {h : AHeap} {l : List (Symbol)} {k : Int} {b : IntKind} : cutA 2 h (.d (.rd (l.map qb9))) none (some (.d (.v (.int b k)))) = (cutL l 0 k).map fun l => .d (.rd (l.map qb9)) := qcx9 (f := qb9) (fun _ => rfl)
theorem qoT9 {h : AHeap} {l : List (Symbol)} {i : Int} {a : IntKind} : cutA 2 h (.d (.rd (l.map qb9))) (some (.d (.v (.int a i)))) none = (cutL l i (l.length : Int)).map fun l => .d (.rd (l.map qb9)) := qcu9 (f := qb9) (fun _ => rfl)
theorem qpM9 {l : List (Symbol)} : (rowP qb9 l).all (fun cs => cs.length == 2) = true := qcJ9 (f := qb9) (fun _ => rfl)
theorem qqa9 {y0 : ByteArray} {y1 : Int} {l : List (Symbol)} {r : List (List PV)} : rowP qb9 l ++ ([.d (.v (.string y0)), .d (.v (.int .i64 y1))] :: r) = rowP qb9 (l ++ [(Symbol.mk y0 y1)]) ++ r := qcI9 (f := qb9) (a := (Symbol.mk y0 y1)) rfl
theorem qoi9 {y0 : ByteArray} {y1 : Int} {l : List (Symbol)} {i : Nat} : (rowP qb9 l).set i [.d (.v (.string y0)), .d (.v (.int .i64 y1))] = rowP qb9 (l.set i (Symbol.mk y0 y1)) := qdi9 (f := qb9) (a := (Symbol.mk y0 y1)) rfl
theorem qpQ9 {y0 : ByteArray} {y1 : Int} {k : Int} {l : List (Int × (Symbol))} : putP (.int .i64 k) (.ag [.d (.v (.string y0)), .d (.v (.int .i64 y1))]) (mapP keyI qb9 l) = some (mapP keyI qb9 (mset l k (Symbol.mk y0 y1))) := qdd9 (f := qb9) (v := (Symbol.mk y0 y1)) rfl
theorem qpj9 {y0 : ByteArray} {y1 : Int} {n : Nat} : List.replicate n [.d (.v (.string y0)), .d (.v (.int .i64 y1))] = rowP qb9 (List.replicate n (Symbol.mk y0 y1)) := qdw9 (f := qb9) (a := (Symbol.mk y0 y1)) rfl
theorem qtm9 {h : AHeap} {l : List (Rule)} {k : IntKind} {n : Int} : ixA h 2 (.d (.rd (l.map qd9))) (.d (.v (.int k n))) = (idx l n).map fun a => .d (.bx (qd9 a)) := qfg9 (f := qd9) (fun _ => rfl)
theorem qsv9 {h : AHeap} {l : List (Rule)} {i k : Int} {a b : IntKind} : cutA 2 h (.d (.rd (l.map qd9))) (some (.d (.v (.int a i)))) (some (.d (.v (.int b k)))) = (cutL l i k).map fun l => .d (.rd (l.map qd9)) := qdB9 (f := qd9) (fun _ => rfl)
theorem qsX9 {h : AHeap} {l : List (Rule)} {k : Int} {b : IntKind} : cutA 2 h (.d (.rd (l.map qd9))) none (some (.d (.v (.int b k)))) = (cutL l 0 k).map fun l => .d (.rd (l.map qd9)) := qcx9 (f := qd9) (fun _ => rfl)
theorem qsf9 {h : AHeap} {l : List (Rule)} {i : Int} {a : IntKind} : cutA 2 h (.d (.rd (l.map qd9))) (some (.d (.v (.int a i)))) none = (cutL l i (l.length : Int)).map fun l => .d (.rd (l.map qd9)) := qcu9 (f := qd9) (fun _ => rfl)
theorem qsZ9 {l : List (Rule)} : (rowP qd9 l).all (fun cs => cs.length == 2) = true := qcJ9 (f := qd9) (fun _ => rfl)
theorem qth9 {y0 : List Int} {y1 : List Int} {l : List (Rule)} {r : List (List PV)} : rowP qd9 l ++ ([.d (.rd (y0.map intD)), .d (.rd (y1.map intD))] :: r) = rowP qd9 (l ++ [(Rule.mk y0 y1)]) ++ r := qcI9 (f := qd9) (a := (Rule.mk y0 y1)) rfl
theorem qtl9 {y0 : List Int} {y1 : List Int} {l : List (Rule)} {i : Nat} : (rowP qd9 l).set i [.d (.rd (y0.map intD)), .d (.rd (y1.map intD))] = rowP qd9 (l.set i (Rule.mk y0 y1)) := qdi9 (f := qd9) (a := (Rule.mk y0 y1)) rfl
theorem qte9 {y0 : List Int} {y1 : List Int} {k : Int} {l : List (Int × (Rule))} : putP (.int .i64 k) (.ag [.d (.rd (y0.map intD)), .d (.rd (y1.map intD))]) (mapP keyI qd9 l) = some (mapP keyI qd9 (mset l k (Rule.mk y0 y1))) := qdd9 (f := qd9) (v := (Rule.mk y0 y1)) rfl
theorem qsC9 {y0 : List Int} {y1 : List Int} {n : Nat} : List.replicate n [.d (.rd (y0.map intD)), .d (.rd (y1.map intD))] = rowP qd9 (List.replicate n (Rule.mk y0 y1)) := qdw9 (f := qd9) (a := (Rule.mk y0 y1)) rfl
theorem qoN9 {h : AHeap} {l : List (System)} {k : IntKind} {n : Int} : ixA h 2 (.d (.rd (l.map qg9))) (.d (.v (.int k n))) = (idx l n).map fun a => .d (.bx (qg9 a)) := qfg9 (f := qg9) (fun _ => rfl)
theorem qon9 {h : AHeap} {l : List (System)} {i k : Int} {a b : IntKind} : cutA 2 h (.d (.rd (l.map qg9))) (some (.d (.v (.int a i)))) (some (.d (.v (.int b k)))) = (cutL l i k).map fun l => .d (.rd (l.map qg9)) := qdB9 (f := qg9) (fun _ => rfl)
theorem qoA9 {h : AHeap} {l : List (System)} {k : Int} {b : IntKind} : cutA 2 h (.d (.rd (l.map qg9))) none (some (.d (.v (.int b k)))) = (cutL l 0 k).map fun l => .d (.rd (l.map qg9)) := qcx9 (f := qg9) (fun _ => rfl)
theorem qoH9 {h : AHeap} {l : List (System)} {i : Int} {a : IntKind} : cutA 2 h (.d (.rd (l.map qg9))) (some (.d (.v (.int a i)))) none = (cutL l i (l.length : Int)).map fun l => .d (.rd (l.map qg9)) := qcu9 (f := qg9) (fun _ => rfl)
theorem qoO9 {l : List (System)} : (rowP qg9 l).all (fun cs => cs.length == 2) = true := qcJ9 (f := qg9) (fun _ => rfl)
theorem qox9 {y0 : List Symbol} {y1 : List Rule} {l : List (System)} {r : List (List PV)} : rowP qg9 l ++ ([.d (.rd (y0.map qb9)), .d (.rd (y1.map qd9))] :: r) = rowP qg9 (l ++ [(System.mk y0 y1)]) ++ r := qcI9 (f := qg9) (a := (System.mk y0 y1)) rfl
theorem qpR9 {y0 : List Symbol} {y1 : List Rule} {l : List (System)} {i : Nat} : (rowP qg9 l).set i [.d (.rd (y0.map qb9)), .d (.rd (y1.map qd9))] = rowP qg9 (l.set i (System.mk y0 y1)) := qdi9 (f := qg9) (a := (System.mk y0 y1)) rfl
theorem qqd9 {y0 : List Symbol} {y1 : List Rule} {k : Int} {l : List (Int × (System))} : putP (.int .i64 k) (.ag [.d (.rd (y0.map qb9)), .d (.rd (y1.map qd9))]) (mapP keyI qg9 l) = some (mapP keyI qg9 (mset l k (System.mk y0 y1))) := qdd9 (f := qg9) (v := (System.mk y0 y1)) rfl
theorem qpL9 {y0 : List Symbol} {y1 : List Rule} {n : Nat} : List.replicate n [.d (.rd (y0.map qb9)), .d (.rd (y1.map qd9))] = rowP qg9 (List.replicate n (System.mk y0 y1)) := qdw9 (f := qg9) (a := (System.mk y0 y1)) rfl
theorem qqQ9 {h : AHeap} {l : List (Redex)} {k : IntKind} {n : Int} : ixA h 2 (.d (.rd (l.map qm9))) (.d (.v (.int k n))) = (idx l n).map fun a => .d (.bx (qm9 a)) := qfg9 (f := qm9) (fun _ => rfl)
theorem qrn9 {h : AHeap} {l : List (Redex)} {i k : Int} {a b : IntKind} : cutA 2 h (.d (.rd (l.map qm9))) (some (.d (.v (.int a i)))) (some (.d (.v (.int b k)))) = (cutL l i k).map fun l => .d (.rd (l.map qm9)) := qdB9 (f := qm9) (fun _ => rfl)
theorem qrw9 {h : AHeap} {l : List (Redex)} {k : Int} {b : IntKind} : cutA 2 h (.d (.rd (l.map qm9))) none (some (.d (.v (.int b k)))) = (cutL l 0 k).map fun l => .d (.rd (l.map qm9)) := qcx9 (f := qm9) (fun _ => rfl)
theorem qqu9 {h : AHeap} {l : List (Redex)} {i : Int} {a : IntKind} : cutA 2 h (.d (.rd (l.map qm9))) (some (.d (.v (.int a i)))) none = (cutL l i (l.length : Int)).map fun l => .d (.rd (l.map qm9)) := qcu9 (f := qm9) (fun _ => rfl)
theorem qqt9 {l : List (Redex)} : (rowP qm9 l).all (fun cs => cs.length == 2) = true := qcJ9 (f := qm9) (fun _ => rfl)
theorem qro9 {y0 : Int} {y1 : Int} {l : List (Redex)} {r : List (List PV)} : rowP qm9 l ++ ([.d (.v (.int .i64 y0)), .d (.v (.int .i64 y1))] :: r) = rowP qm9 (l ++ [(Redex.mk y0 y1)]) ++ r := qcI9 (f := qm9) (a := (Redex.mk y0 y1)) rfl
theorem qqG9 {y0 : Int} {y1 : Int} {l : List (Redex)} {i : Nat} : (rowP qm9 l).set i [.d (.v (.int .i64 y0)), .d (.v (.int .i64 y1))] = rowP qm9 (l.set i (Redex.mk y0 y1)) := qdi9 (f := qm9) (a := (Redex.mk y0 y1)) rfl
theorem qrh9 {y0 : Int} {y1 : Int} {k : Int} {l : List (Int × (Redex))} : putP (.int .i64 k) (.ag [.d (.v (.int .i64 y0)), .d (.v (.int .i64 y1))]) (mapP keyI qm9 l) = some (mapP keyI qm9 (mset l k (Redex.mk y0 y1))) := qdd9 (f := qm9) (v := (Redex.mk y0 y1)) rfl
theorem qqY9 {y0 : Int} {y1 : Int} {n : Nat} : List.replicate n [.d (.v (.int .i64 y0)), .d (.v (.int .i64 y1))] = rowP qm9 (List.replicate n (Redex.mk y0 y1)) := qdw9 (f := qm9) (a := (Redex.mk y0 y1)) rfl
theorem qtk9 {h : AHeap} {l : List (Walk)} {k : IntKind} {n : Int} : ixA h 3 (.d (.rd (l.map qQ9))) (.d (.v (.int k n))) = (idx l n).map fun a => .d (.bx (qQ9 a)) := qfg9 (f := qQ9) (fun _ => rfl)
theorem qsq9 {h : AHeap} {l : List (Walk)} {i k : Int} {a b : IntKind} : cutA 3 h (.d (.rd (l.map qQ9))) (some (.d (.v (.int a i)))) (some (.d (.v (.int b k)))) = (cutL l i k).map fun l => .d (.rd (l.map qQ9)) := qdB9 (f := qQ9) (fun _ => rfl)
theorem qtB9 {h : AHeap} {l : List (Walk)} {k : Int} {b : IntKind} : cutA 3 h (.d (.rd (l.map qQ9))) none (some (.d (.v (.int b k)))) = (cutL l 0 k).map fun l => .d (.rd (l.map qQ9)) := qcx9 (f := qQ9) (fun _ => rfl)
theorem qsL9 {h : AHeap} {l : List (Walk)} {i : Int} {a : IntKind} : cutA 3 h (.d (.rd (l.map qQ9))) (some (.d (.v (.int a i)))) none = (cutL l i (l.length : Int)).map fun l => .d (.rd (l.map qQ9)) := qcu9 (f := qQ9) (fun _ => rfl)
theorem qsk9 {l : List (Walk)} : (rowP qQ9 l).all (fun cs => cs.length == 3) = true := qcJ9 (f := qQ9) (fun _ => rfl)
theorem qtr9 {y0 : List Redex} {y1 : List Int} {y2 : Bool} {l : List (Walk)} {r : List (List PV)} : rowP qQ9 l ++ ([.d (.rd (y0.map qm9)), .d (.rd (y1.map intD)), .d (.v (.bool y2))] :: r) = rowP qQ9 (l ++ [(Walk.mk y0 y1 y2)]) ++ r := qcI9 (f := qQ9) (a := (Walk.mk y0 y1 y2)) rfl
theorem qsJ9 {y0 : List Redex} {y1 : List Int} {y2 : Bool} {l : List (Walk)} {i : Nat} : (rowP qQ9 l).set i [.d (.rd (y0.map qm9)), .d (.rd (y1.map intD)), .d (.v (.bool y2))] = rowP qQ9 (l.set i (Walk.mk y0 y1 y2)) := qdi9 (f := qQ9) (a := (Walk.mk y0 y1 y2)) rfl
theorem qtD9 {y0 : List Redex} {y1 : List Int} {y2 : Bool} {k : Int} {l : List (Int × (Walk))} : putP (.int .i64 k) (.ag [.d (.rd (y0.map qm9)), .d (.rd (y1.map intD)), .d (.v (.bool y2))]) (mapP keyI qQ9 l) = some (mapP keyI qQ9 (mset l k (Walk.mk y0 y1 y2))) := qdd9 (f := qQ9) (v := (Walk.mk y0 y1 y2)) rfl
theorem qsR9 {y0 : List Redex} {y1 : List Int} {y2 : Bool} {n : Nat} : List.replicate n [.d (.rd (y0.map qm9)), .d (.rd (y1.map intD)), .d (.v (.bool y2))] = rowP qQ9 (List.replicate n (Walk.mk y0 y1 y2)) := qdw9 (f := qQ9) (a := (Walk.mk y0 y1 y2)) rfl
theorem qtA9 {h : AHeap} {l : List (Bind)} {k : IntKind} {n : Int} : ixA h 2 (.d (.rd (l.map qc9))) (.d (.v (.int k n))) = (idx l n).map fun a => .d (.bx (qc9 a)) := qfg9 (f := qc9) (fun _ => rfl)
theorem qsP9 {h : AHeap} {l : List (Bind)} {i k : Int} {a b : IntKind} : cutA 2 h (.d (.rd (l.map qc9))) (some (.d (.v (.int a i)))) (some (.d (.v (.int b k)))) = (cutL l i k).map fun l => .d (.rd (l.map qc9)) := qdB9 (f := qc9) (fun _ => rfl)
theorem qsH9 {h : AHeap} {l : List (Bind)} {k : Int} {b : IntKind} : cutA 2 h (.d (.rd (l.map qc9))) none (some (.d (.v (.int b k)))) = (cutL l 0 k).map fun l => .d (.rd (l.map qc9)) := qcx9 (f := qc9) (fun _ => rfl)
theorem qsg9 {h : AHeap} {l : List (Bind)} {i : Int} {a : IntKind} : cutA 2 h (.d (.rd (l.map qc9))) (some (.d (.v (.int a i)))) none = (cutL l i (l.length : Int)).map fun l => .d (.rd (l.map qc9)) := qcu9 (f := qc9) (fun _ => rfl)
theorem qsp9 {l : List (Bind)} : (rowP qc9 l).all (fun cs => cs.length == 2) = true := qcJ9 (f := qc9) (fun _ => rfl)
theorem qsl9 {y0 : Int} {y1 : List Int} {l : List (Bind)} {r : List (List PV)} : rowP qc9 l ++ ([.d (.v (.int .i64 y0)), .d (.rd (y1.map intD))] :: r) = rowP qc9 (l ++ [(Bind.mk y0 y1)]) ++ r := qcI9 (f := qc9) (a := (Bind.mk y0 y1)) rfl
theorem qsc9 {y0 : Int} {y1 : List Int} {l : List (Bind)} {i : Nat} : (rowP qc9 l).set i [.d (.v (.int .i64 y0)), .d (.rd (y1.map intD))] = rowP qc9 (l.set i (Bind.mk y0 y1)) := qdi9 (f := qc9) (a := (Bind.mk y0 y1)) rfl
theorem qrT9 {y0 : Int} {y1 : List Int} {k : Int} {l : List (Int × (Bind))} : putP (.int .i64 k) (.ag [.d (.v (.int .i64 y0)), .d (.rd (y1.map intD))]) (mapP keyI qc9 l) = some (mapP keyI qc9 (mset l k (Bind.mk y0 y1))) := qdd9 (f := qc9) (v := (Bind.mk y0 y1)) rfl
theorem qsx9 {y0 : Int} {y1 : List Int} {n : Nat} : List.replicate n [.d (.v (.int .i64 y0)), .d (.rd (y1.map intD))] = rowP qc9 (List.replicate n (Bind.mk y0 y1)) := qdw9 (f := qc9) (a := (Bind.mk y0 y1)) rfl
theorem qsm9 {h : AHeap} {l : List (Int)} {k : IntKind} {n : Int} : ixA h 1 (.d (.rd (l.map qbk9))) (.d (.v (.int k n))) = (idx l n).map fun a => .d (.bx (qbk9 a)) := qfg9 (f := qbk9) (fun _ => rfl)
theorem qtv9 {h : AHeap} {l : List (Int)} {i k : Int} {a b : IntKind} : cutA 1 h (.d (.rd (l.map qbk9))) (some (.d (.v (.int a i)))) (some (.d (.v (.int b k)))) = (cutL l i k).map fun l => .d (.rd (l.map qbk9)) := qdB9 (f := qbk9) (fun _ => rfl)
theorem qst9 {h : AHeap} {l : List (Int)} {k : Int} {b : IntKind} : cutA 1 h (.d (.rd (l.map qbk9))) none (some (.d (.v (.int b k)))) = (cutL l 0 k).map fun l => .d (.rd (l.map qbk9)) := qcx9 (f := qbk9) (fun _ => rfl)
theorem qrW9 {h : AHeap} {l : List (Int)} {i : Int} {a : IntKind} : cutA 1 h (.d (.rd (l.map qbk9))) (some (.d (.v (.int a i)))) none = (cutL l i (l.length : Int)).map fun l => .d (.rd (l.map qbk9)) := qcu9 (f := qbk9) (fun _ => rfl)
theorem qsG9 {l : List (Int)} : (rowP qbk9 l).all (fun cs => cs.length == 1) = true := qcJ9 (f := qbk9) (fun _ => rfl)
theorem qty9 {a : Int} {l : List (Int)} {r : List (List PV)} : rowP qbk9 l ++ ([.d (.v (.int .u32 a))] :: r) = rowP qbk9 (l ++ [a]) ++ r := qcI9 (f := qbk9) (a := a) rfl
theorem qsV9 {a : Int} {l : List (Int)} {i : Nat} : (rowP qbk9 l).set i [.d (.v (.int .u32 a))] = rowP qbk9 (l.set i a) := qdi9 (f := qbk9) (a := a) rfl
theorem qtw9 {a : Int} {k : Int} {l : List (Int × (Int))} : putP (.int .i64 k) (.d (.v (.int .u32 a))) (mapP keyI qbk9 l) = some (mapP keyI qbk9 (mset l k a)) := qdd9 (f := qbk9) (v := a) rfl
theorem qtp9 {a : Int} {n : Nat} : List.replicate n [.d (.v (.int .u32 a))] = rowP qbk9 (List.replicate n a) := qdw9 (f := qbk9) (a := a) rfl
theorem qyE9 {h : AHeap} {c : List D} : elems h (.d (.rd [c])) = some [c.map PV.d] := by simp [elems]
section
variable {α : Type} {f : α → List D} {h : AHeap}
theorem qzF9 {l : List (List α)} {k : IntKind} {n : Int} : ixA h 1 (.d (.rd (l.map (lsD f)))) (.d (.v (.int k n))) = (idx l n).map fun a => .d (.bx ((lsD f) a)) := qfg9 (f := (lsD f)) (fun _ => rfl)
theorem qzG9 {l : List (List α)} {i k : Int} {a b : IntKind} : cutA 1 h (.d (.rd (l.map (lsD f)))) (some (.d (.v (.int a i)))) (some (.d (.v (.int b k)))) = (cutL l i k).map fun l => .d (.rd (l.map (lsD f))) := qdB9 (f := (lsD f)) (fun _ => rfl)
theorem qzN9 {l : List (List α)} {k : Int} {b : IntKind} : cutA 1 h (.d (.rd (l.map (lsD f)))) none (some (.d (.v (.int b k)))) = (cutL l 0 k).map fun l => .d (.rd (l.map (lsD f))) := qcx9 (f := (lsD f)) (fun _ => rfl)
theorem qzI9 {l : List (List α)} {i : Int} {a : IntKind} : cutA 1 h (.d (.rd (l.map (lsD f)))) (some (.d (.v (.int a i)))) none = (cutL l i (l.length : Int)).map fun l => .d (.rd (l.map (lsD f))) := qcu9 (f := (lsD f)) (fun _ => rfl)
theorem qzL9 {l : List (List α)} : (rowP (lsD f) l).all (fun cs => cs.length == 1) = true := qcJ9 (f := (lsD f)) (fun _ => rfl)
theorem qzJ9 {a : List α} {l : List (List α)} {r : List (List PV)} : rowP (lsD f) l ++ ([.d (.rd (a.map f))] :: r) = rowP (lsD f) (l ++ [a]) ++ r := qcI9 (f := (lsD f)) (a := a) rfl
theorem qzK9 {a : List α} {l : List (List α)} {i : Nat} : (rowP (lsD f) l).set i [.d (.rd (a.map f))] = rowP (lsD f) (l.set i a) := qdi9 (f := (lsD f)) (a := a) rfl
theorem qzH9 {a : List α} {k : Int} {l : List (Int × (List α))} : putP (.int .i64 k) (.d (.rd (a.map f))) (mapP keyI (lsD f) l) = some (mapP keyI (lsD f) (mset l k a)) := qdd9 (f := (lsD f)) (v := a) rfl
theorem qxa9 {l : List (List (List α))} {k : IntKind} {n : Int} : ixA h 1 (.d (.rd (l.map (lsD (lsD f))))) (.d (.v (.int k n))) = (idx l n).map fun a => .d (.bx ((lsD (lsD f)) a)) := qfg9 (f := (lsD (lsD f))) (fun _ => rfl)
theorem qxN9 {l : List (List (List α))} {i k : Int} {a b : IntKind} : cutA 1 h (.d (.rd (l.map (lsD (lsD f))))) (some (.d (.v (.int a i)))) (some (.d (.v (.int b k)))) = (cutL l i k).map fun l => .d (.rd (l.map (lsD (lsD f)))) := qdB9 (f := (lsD (lsD f))) (fun _ => rfl)
theorem qyd9 {l : List (List (List α))} {k : Int} {b : IntKind} : cutA 1 h (.d (.rd (l.map (lsD (lsD f))))) none (some (.d (.v (.int b k)))) = (cutL l 0 k).map fun l => .d (.rd (l.map (lsD (lsD f)))) := qcx9 (f := (lsD (lsD f))) (fun _ => rfl)
theorem qye9 {l : List (List (List α))} {i : Int} {a : IntKind} : cutA 1 h (.d (.rd (l.map (lsD (lsD f))))) (some (.d (.v (.int a i)))) none = (cutL l i (l.length : Int)).map fun l => .d (.rd (l.map (lsD (lsD f)))) := qcu9 (f := (lsD (lsD f))) (fun _ => rfl)
theorem qxi9 {l : List (List (List α))} : (rowP (lsD (lsD f)) l).all (fun cs => cs.length == 1) = true := qcJ9 (f := (lsD (lsD f))) (fun _ => rfl)
theorem qxy9 {a : List (List α)} {l : List (List (List α))} {r : List (List PV)} : rowP (lsD (lsD f)) l ++ ([.d (.rd (a.map (lsD f)))] :: r) = rowP (lsD (lsD f)) (l ++ [a]) ++ r := qcI9 (f := (lsD (lsD f))) (a := a) rfl
theorem qxf9 {a : List (List α)} {l : List (List (List α))} {i : Nat} : (rowP (lsD (lsD f)) l).set i [.d (.rd (a.map (lsD f)))] = rowP (lsD (lsD f)) (l.set i a) := qdi9 (f := (lsD (lsD f))) (a := a) rfl
theorem qxl9 {a : List (List α)} {k : Int} {l : List (Int × (List (List α)))} : putP (.int .i64 k) (.d (.rd (a.map (lsD f)))) (mapP keyI (lsD (lsD f)) l) = some (mapP keyI (lsD (lsD f)) (mset l k a)) := qdd9 (f := (lsD (lsD f))) (v := a) rfl
end
attribute [go_sem] qxt9 qxU9 qxV9 qxW9 qxE9 qxj9 qwO9 qxH9 qxq9 qvo9 qvl9 qwn9 qwe9 qvT9 qvK9 qvx9 qvX9 qvt9 qwP9 qxI9 qym9 qyj9 qxT9 qxm9 qxS9 qyp9 qxn9 qza9 qyP9 qzr9 qyt9 qyD9 qqf9 qow9 qoz9 qoT9 qpM9 qqa9 qoi9 qpQ9 qpj9 qtm9 qsv9 qsX9 qsf9 qsZ9 qth9 qtl9 qte9 qsC9 qoN9 qon9 qoA9 qoH9 qoO9 qox9 qpR9 qqd9 qpL9 qqQ9 qrn9 qrw9 qqu9 qqt9 qro9 qqG9 qrh9 qqY9 qtk9 qsq9 qtB9 qsL9 qsk9 qtr9 qsJ9 qtD9 qsR9 qtA9 qsP9 qsH9 qsg9 qsp9 qsl9 qsc9 qrT9 qsx9 qsm9 qtv9 qst9 qrW9 qsG9 qty9 qsV9 qtw9 qtp9 qyE9 qzF9 qzG9 qzN9 qzI9 qzL9 qzJ9 qzK9 qzH9 qxa9 qxN9 qyd9 qye9 qxi9 qxy9 qxf9 qxl9 intD boolD strD ifD lsD ar2D ar3D bxD qb9 qd9 qg9 qm9 qQ9 qc9 qbk9
end Ld

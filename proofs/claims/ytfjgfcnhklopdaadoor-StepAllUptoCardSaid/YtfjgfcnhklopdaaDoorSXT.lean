import Derived.Test.YtfjgfcnhklopdaaDoorAbs38
set_option maxHeartbeats 400000
set_option linter.unusedVariables false
set_option linter.unusedSimpArgs false
namespace Ld
open Go Go.Abs
structure Symbol where
  Name : ByteArray
  Arity : Int
  deriving DecidableEq
def qb9 (x : Symbol) : List D := [.v (.string x.Name), .v (.int .i64 x.Arity)]
def qjH9 (x : Symbol) : Prop := (okI .i64) x.Arity
structure Rule where
  L : List Int
  R : List Int
  deriving DecidableEq
def qd9 (x : Rule) : List D := [.rd (x.L.map intD), .rd (x.R.map intD)]
def qlB9 (x : Rule) : Prop := (okL (okI .i64)) x.L ∧ (okL (okI .i64)) x.R
structure System where
  Sig : List Symbol
  Rules : List Rule
  deriving DecidableEq
def qe9 (x : System) : List D := [.rd (x.Sig.map qb9), .rd (x.Rules.map qd9)]
def qln9 (x : System) : Prop := (okL qjH9) x.Sig ∧ (okL qlB9) x.Rules
structure Redex where
  At : Int
  Rule : Int
  deriving DecidableEq
def qj9 (x : Redex) : List D := [.v (.int .i64 x.At), .v (.int .i64 x.Rule)]
def qzu9 (x : Redex) : Prop := (okI .i64) x.At ∧ (okI .i64) x.Rule
structure Bind where
  Var : Int
  T : List Int
  deriving DecidableEq
def qc9 (x : Bind) : List D := [.v (.int .i64 x.Var), .rd (x.T.map intD)]
def qzw9 (x : Bind) : Prop := (okI .i64) x.Var ∧ (okL (okI .i64)) x.T
theorem qxD9 {h : AHeap} {l : List (Int)} {k : IntKind} {n : Int} : ixA h 1 (.d (.rd (l.map intD))) (.d (.v (.int k n))) = (idx l n).map fun a => .d (.bx (intD a)) := qfS9 (f := intD) (fun _ => rfl)
theorem qww9 {h : AHeap} {l : List (Int)} {i k : Int} {a b : IntKind} : cutA 1 h (.d (.rd (l.map intD))) (some (.d (.v (.int a i)))) (some (.d (.v (.int b k)))) = (cutL l i k).map fun l => .d (.rd (l.map intD)) := qdF9 (f := intD) (fun _ => rfl)
theorem qxQ9 {h : AHeap} {l : List (Int)} {k : Int} {b : IntKind} : cutA 1 h (.d (.rd (l.map intD))) none (some (.d (.v (.int b k)))) = (cutL l 0 k).map fun l => .d (.rd (l.map intD)) := qcC9 (f := intD) (fun _ => rfl)
theorem qwI9 {h : AHeap} {l : List (Int)} {i : Int} {a : IntKind} : cutA 1 h (.d (.rd (l.map intD))) (some (.d (.v (.int a i)))) none = (cutL l i (l.length : Int)).map fun l => .d (.rd (l.map intD)) := qcB9 (f := intD) (fun _ => rfl)
theorem qxR9 {l : List (Int)} : (rowP intD l).all (fun cs => cs.length == 1) = true := qdd9 (f := intD) (fun _ => rfl)
theorem qwA9 {a : Int} {l : List (Int)} {r : List (List PV)} : rowP intD l ++ ([.d (.v (.int .i64 a))] :: r) = rowP intD (l ++ [a]) ++ r := qcS9 (f := intD) (a := a) rfl
theorem qxg9 {a : Int} {l : List (Int)} {i : Nat} : (rowP intD l).set i [.d (.v (.int .i64 a))] = rowP intD (l.set i a) := qdr9 (f := intD) (a := a) rfl
theorem qwV9 {a : Int} {k : Int} {l : List (Int × (Int))} : putP (.int .i64 k) (.d (.v (.int .i64 a))) (mapP keyI intD l) = some (mapP keyI intD (mset l k a)) := qdw9 (f := intD) (v := a) rfl
theorem qwY9 {a : Int} {n : Nat} : List.replicate n [.d (.v (.int .i64 a))] = rowP intD (List.replicate n a) := qdJ9 (f := intD) (a := a) rfl
theorem qvH9 {h : AHeap} {l : List (Bool)} {k : IntKind} {n : Int} : ixA h 1 (.d (.rd (l.map boolD))) (.d (.v (.int k n))) = (idx l n).map fun a => .d (.bx (boolD a)) := qfS9 (f := boolD) (fun _ => rfl)
theorem qvI9 {h : AHeap} {l : List (Bool)} {i k : Int} {a b : IntKind} : cutA 1 h (.d (.rd (l.map boolD))) (some (.d (.v (.int a i)))) (some (.d (.v (.int b k)))) = (cutL l i k).map fun l => .d (.rd (l.map boolD)) := qdF9 (f := boolD) (fun _ => rfl)
theorem qvo9 {h : AHeap} {l : List (Bool)} {k : Int} {b : IntKind} : cutA 1 h (.d (.rd (l.map boolD))) none (some (.d (.v (.int b k)))) = (cutL l 0 k).map fun l => .d (.rd (l.map boolD)) := qcC9 (f := boolD) (fun _ => rfl)
theorem qvc9 {h : AHeap} {l : List (Bool)} {i : Int} {a : IntKind} : cutA 1 h (.d (.rd (l.map boolD))) (some (.d (.v (.int a i)))) none = (cutL l i (l.length : Int)).map fun l => .d (.rd (l.map boolD)) := qcB9 (f := boolD) (fun _ => rfl)
theorem qvv9 {l : List (Bool)} : (rowP boolD l).all (fun cs => cs.length == 1) = true := qdd9 (f := boolD) (fun _ => rfl)
theorem qwo9 {a : Bool} {l : List (Bool)} {r : List (List PV)} : rowP boolD l ++ ([.d (.v (.bool a))] :: r) = rowP boolD (l ++ [a]) ++ r := qcS9 (f := boolD) (a := a) rfl
theorem qvF9 {a : Bool} {l : List (Bool)} {i : Nat} : (rowP boolD l).set i [.d (.v (.bool a))] = rowP boolD (l.set i a) := qdr9 (f := boolD) (a := a) rfl
theorem qvM9 {a : Bool} {k : Int} {l : List (Int × (Bool))} : putP (.int .i64 k) (.d (.v (.bool a))) (mapP keyI boolD l) = some (mapP keyI boolD (mset l k a)) := qdw9 (f := boolD) (v := a) rfl
theorem qwf9 {a : Bool} {n : Nat} : List.replicate n [.d (.v (.bool a))] = rowP boolD (List.replicate n a) := qdJ9 (f := boolD) (a := a) rfl
theorem qwy9 {h : AHeap} {l : List (ByteArray)} {k : IntKind} {n : Int} : ixA h 1 (.d (.rd (l.map strD))) (.d (.v (.int k n))) = (idx l n).map fun a => .d (.bx (strD a)) := qfS9 (f := strD) (fun _ => rfl)
theorem qxW9 {h : AHeap} {l : List (ByteArray)} {i k : Int} {a b : IntKind} : cutA 1 h (.d (.rd (l.map strD))) (some (.d (.v (.int a i)))) (some (.d (.v (.int b k)))) = (cutL l i k).map fun l => .d (.rd (l.map strD)) := qdF9 (f := strD) (fun _ => rfl)
theorem qxa9 {h : AHeap} {l : List (ByteArray)} {k : Int} {b : IntKind} : cutA 1 h (.d (.rd (l.map strD))) none (some (.d (.v (.int b k)))) = (cutL l 0 k).map fun l => .d (.rd (l.map strD)) := qcC9 (f := strD) (fun _ => rfl)
theorem qwC9 {h : AHeap} {l : List (ByteArray)} {i : Int} {a : IntKind} : cutA 1 h (.d (.rd (l.map strD))) (some (.d (.v (.int a i)))) none = (cutL l i (l.length : Int)).map fun l => .d (.rd (l.map strD)) := qcB9 (f := strD) (fun _ => rfl)
theorem qxC9 {l : List (ByteArray)} : (rowP strD l).all (fun cs => cs.length == 1) = true := qdd9 (f := strD) (fun _ => rfl)
theorem qwS9 {a : ByteArray} {l : List (ByteArray)} {r : List (List PV)} : rowP strD l ++ ([.d (.v (.string a))] :: r) = rowP strD (l ++ [a]) ++ r := qcS9 (f := strD) (a := a) rfl
theorem qxS9 {a : ByteArray} {l : List (ByteArray)} {i : Nat} : (rowP strD l).set i [.d (.v (.string a))] = rowP strD (l.set i a) := qdr9 (f := strD) (a := a) rfl
theorem qxj9 {a : ByteArray} {k : Int} {l : List (Int × (ByteArray))} : putP (.int .i64 k) (.d (.v (.string a))) (mapP keyI strD l) = some (mapP keyI strD (mset l k a)) := qdw9 (f := strD) (v := a) rfl
theorem qxp9 {a : ByteArray} {n : Nat} : List.replicate n [.d (.v (.string a))] = rowP strD (List.replicate n a) := qdJ9 (f := strD) (a := a) rfl
theorem qyw9 {h : AHeap} {l : List (D)} {k : IntKind} {n : Int} : ixA h 1 (.d (.rd (l.map ifD))) (.d (.v (.int k n))) = (idx l n).map fun a => .d (.bx (ifD a)) := qfS9 (f := ifD) (fun _ => rfl)
theorem qyp9 {h : AHeap} {l : List (D)} {i k : Int} {a b : IntKind} : cutA 1 h (.d (.rd (l.map ifD))) (some (.d (.v (.int a i)))) (some (.d (.v (.int b k)))) = (cutL l i k).map fun l => .d (.rd (l.map ifD)) := qdF9 (f := ifD) (fun _ => rfl)
theorem qyt9 {h : AHeap} {l : List (D)} {k : Int} {b : IntKind} : cutA 1 h (.d (.rd (l.map ifD))) none (some (.d (.v (.int b k)))) = (cutL l 0 k).map fun l => .d (.rd (l.map ifD)) := qcC9 (f := ifD) (fun _ => rfl)
theorem qyR9 {h : AHeap} {l : List (D)} {i : Int} {a : IntKind} : cutA 1 h (.d (.rd (l.map ifD))) (some (.d (.v (.int a i)))) none = (cutL l i (l.length : Int)).map fun l => .d (.rd (l.map ifD)) := qcB9 (f := ifD) (fun _ => rfl)
theorem qzj9 {l : List (D)} : (rowP ifD l).all (fun cs => cs.length == 1) = true := qdd9 (f := ifD) (fun _ => rfl)
theorem qor9 {h : AHeap} {l : List (Symbol)} {k : IntKind} {n : Int} : ixA h 2 (.d (.rd (l.map qb9))) (.d (.v (.int k n))) = (idx l n).map fun a => .d (.bx (qb9 a)) := qfS9 (f := qb9) (fun _ => rfl)
theorem qok9 {h : AHeap} {l : List (Symbol)} {i k : Int} {a b : IntKind} : cutA 2 h (.d (.rd (l.map qb9))) (some (.d (.v (.int a i)))) (some (.d (.v (.int b k)))) = (cutL l i k).map fun l => .d (.rd (l.map qb9)) := qdF9 (f := qb9) (fun _ => rfl)
theorem qoR9 {h : AHeap} {l : List (Symbol)} {k : Int} {b : IntKind} : cutA 2 h (.d (.rd (l.map qb9))) none (some (.d (.v (.int b k)))) = (cutL l 0 k).map fun l => .d (.rd (l.map qb9)) := qcC9 (f := qb9) (fun _ => rfl)
theorem qpk9 {h : AHeap} {l : List (Symbol)} {i : Int} {a : IntKind} : cutA 2 h (.d (.rd (l.map qb9))) (some (.d (.v (.int a i)))) none = (cutL l i (l.length : Int)).map fun l => .d (.rd (l.map qb9)) := qcB9 (f := qb9) (fun _ => rfl)
theorem qpp9 {l : List (Symbol)} : (rowP qb9 l).all (fun cs => cs.length == 2) = true := qdd9 (f := qb9) (fun _ => rfl)
theorem qqh9 {y0 : ByteArray} {y1 : Int} {l : List (Symbol)} {r : List (List PV)} : rowP qb9 l ++ ([.d (.v (.string y0)), .d (.v (.int .i64 y1))] :: r) = rowP qb9 (l ++ [(Symbol.mk y0 y1)]) ++ r := qcS9 (f := qb9) (a := (Symbol.mk y0 y1)) rfl
theorem qoq9 {y0 : ByteArray} {y1 : Int} {l : List (Symbol)} {i : Nat} : (rowP qb9 l).set i [.d (.v (.string y0)), .d (.v (.int .i64 y1))] = rowP qb9 (l.set i (Symbol.mk y0 y1)) := qdr9 (f := qb9) (a := (Symbol.mk y0 y1)) rfl
theorem qpH9 {y0 : ByteArray} {y1 : Int} {k : Int} {l : List (Int × (Symbol))} : putP (.int .i64 k) (.ag [.d (.v (.string y0)), .d (.v (.int .i64 y1))]) (mapP keyI qb9 l) = some (mapP keyI qb9 (mset l k (Symbol.mk y0 y1))) := qdw9 (f := qb9) (v := (Symbol.mk y0 y1)) rfl
theorem qot9 {y0 : ByteArray} {y1 : Int} {n : Nat} : List.replicate n [.d (.v (.string y0)), .d (.v (.int .i64 y1))] = rowP qb9 (List.replicate n (Symbol.mk y0 y1)) := qdJ9 (f := qb9) (a := (Symbol.mk y0 y1)) rfl
theorem qrU9 {h : AHeap} {l : List (Rule)} {k : IntKind} {n : Int} : ixA h 2 (.d (.rd (l.map qd9))) (.d (.v (.int k n))) = (idx l n).map fun a => .d (.bx (qd9 a)) := qfS9 (f := qd9) (fun _ => rfl)
theorem qsF9 {h : AHeap} {l : List (Rule)} {i k : Int} {a b : IntKind} : cutA 2 h (.d (.rd (l.map qd9))) (some (.d (.v (.int a i)))) (some (.d (.v (.int b k)))) = (cutL l i k).map fun l => .d (.rd (l.map qd9)) := qdF9 (f := qd9) (fun _ => rfl)
theorem qsN9 {h : AHeap} {l : List (Rule)} {k : Int} {b : IntKind} : cutA 2 h (.d (.rd (l.map qd9))) none (some (.d (.v (.int b k)))) = (cutL l 0 k).map fun l => .d (.rd (l.map qd9)) := qcC9 (f := qd9) (fun _ => rfl)
theorem qtt9 {h : AHeap} {l : List (Rule)} {i : Int} {a : IntKind} : cutA 2 h (.d (.rd (l.map qd9))) (some (.d (.v (.int a i)))) none = (cutL l i (l.length : Int)).map fun l => .d (.rd (l.map qd9)) := qcB9 (f := qd9) (fun _ => rfl)
theorem qsS9 {l : List (Rule)} : (rowP qd9 l).all (fun cs => cs.length == 2) = true := qdd9 (f := qd9) (fun _ => rfl)
theorem qsm9 {y0 : List Int} {y1 : List Int} {l : List (Rule)} {r : List (List PV)} : rowP qd9 l ++ ([.d (.rd (y0.map intD)), .d (.rd (y1.map intD))] :: r) = rowP qd9 (l ++ [(Rule.mk y0 y1)]) ++ r := qcS9 (f := qd9) (a := (Rule.mk y0 y1)) rfl
theorem qte9 {y0 : List Int} {y1 : List Int} {l : List (Rule)} {i : Nat} : (rowP qd9 l).set i [.d (.rd (y0.map intD)), .d (.rd (y1.map intD))] = rowP qd9 (l.set i (Rule.mk y0 y1)) := qdr9 (f := qd9) (a := (Rule.mk y0 y1)) rfl
theorem qsn9 {y0 : List Int} {y1 : List Int} {k : Int} {l : List (Int × (Rule))} : putP (.int .i64 k) (.ag [.d (.rd (y0.map intD)), .d (.rd (y1.map intD))]) (mapP keyI qd9 l) = some (mapP keyI qd9 (mset l k (Rule.mk y0 y1))) := qdw9 (f := qd9) (v := (Rule.mk y0 y1)) rfl
theorem qtl9 {y0 : List Int} {y1 : List Int} {n : Nat} : List.replicate n [.d (.rd (y0.map intD)), .d (.rd (y1.map intD))] = rowP qd9 (List.replicate n (Rule.mk y0 y1)) := qdJ9 (f := qd9) (a := (Rule.mk y0 y1)) rfl
theorem qqd9 {h : AHeap} {l : List (System)} {k : IntKind} {n : Int} : ixA h 2 (.d (.rd (l.map qe9))) (.d (.v (.int k n))) = (idx l n).map fun a => .d (.bx (qe9 a)) := qfS9 (f := qe9) (fun _ => rfl)
theorem qoo9 {h : AHeap} {l : List (System)} {i k : Int} {a b : IntKind} : cutA 2 h (.d (.rd (l.map qe9))) (some (.d (.v (.int a i)))) (some (.d (.v (.int b k)))) = (cutL l i k).map fun l => .d (.rd (l.map qe9)) := qdF9 (f := qe9) (fun _ => rfl)
theorem qpN9 {h : AHeap} {l : List (System)} {k : Int} {b : IntKind} : cutA 2 h (.d (.rd (l.map qe9))) none (some (.d (.v (.int b k)))) = (cutL l 0 k).map fun l => .d (.rd (l.map qe9)) := qcC9 (f := qe9) (fun _ => rfl)
theorem qpe9 {h : AHeap} {l : List (System)} {i : Int} {a : IntKind} : cutA 2 h (.d (.rd (l.map qe9))) (some (.d (.v (.int a i)))) none = (cutL l i (l.length : Int)).map fun l => .d (.rd (l.map qe9)) := qcB9 (f := qe9) (fun _ => rfl)
theorem qpA9 {l : List (System)} : (rowP qe9 l).all (fun cs => cs.length == 2) = true := qdd9 (f := qe9) (fun _ => rfl)
theorem qpz9 {y0 : List Symbol} {y1 : List Rule} {l : List (System)} {r : List (List PV)} : rowP qe9 l ++ ([.d (.rd (y0.map qb9)), .d (.rd (y1.map qd9))] :: r) = rowP qe9 (l ++ [(System.mk y0 y1)]) ++ r := qcS9 (f := qe9) (a := (System.mk y0 y1)) rfl
theorem qpW9 {y0 : List Symbol} {y1 : List Rule} {l : List (System)} {i : Nat} : (rowP qe9 l).set i [.d (.rd (y0.map qb9)), .d (.rd (y1.map qd9))] = rowP qe9 (l.set i (System.mk y0 y1)) := qdr9 (f := qe9) (a := (System.mk y0 y1)) rfl
theorem qoC9 {y0 : List Symbol} {y1 : List Rule} {k : Int} {l : List (Int × (System))} : putP (.int .i64 k) (.ag [.d (.rd (y0.map qb9)), .d (.rd (y1.map qd9))]) (mapP keyI qe9 l) = some (mapP keyI qe9 (mset l k (System.mk y0 y1))) := qdw9 (f := qe9) (v := (System.mk y0 y1)) rfl
theorem qpO9 {y0 : List Symbol} {y1 : List Rule} {n : Nat} : List.replicate n [.d (.rd (y0.map qb9)), .d (.rd (y1.map qd9))] = rowP qe9 (List.replicate n (System.mk y0 y1)) := qdJ9 (f := qe9) (a := (System.mk y0 y1)) rfl
theorem qrn9 {h : AHeap} {l : List (Redex)} {k : IntKind} {n : Int} : ixA h 2 (.d (.rd (l.map qj9))) (.d (.v (.int k n))) = (idx l n).map fun a => .d (.bx (qj9 a)) := qfS9 (f := qj9) (fun _ => rfl)
theorem qqZ9 {h : AHeap} {l : List (Redex)} {i k : Int} {a b : IntKind} : cutA 2 h (.d (.rd (l.map qj9))) (some (.d (.v (.int a i)))) (some (.d (.v (.int b k)))) = (cutL l i k).map fun l => .d (.rd (l.map qj9)) := qdF9 (f := qj9) (fun _ => rfl)
theorem qqG9 {h : AHeap} {l : List (Redex)} {k : Int} {b : IntKind} : cutA 2 h (.d (.rd (l.map qj9))) none (some (.d (.v (.int b k)))) = (cutL l 0 k).map fun l => .d (.rd (l.map qj9)) := qcC9 (f := qj9) (fun _ => rfl)
theorem qqU9 {h : AHeap} {l : List (Redex)} {i : Int} {a : IntKind} : cutA 2 h (.d (.rd (l.map qj9))) (some (.d (.v (.int a i)))) none = (cutL l i (l.length : Int)).map fun l => .d (.rd (l.map qj9)) := qcB9 (f := qj9) (fun _ => rfl)
theorem qqQ9 {l : List (Redex)} : (rowP qj9 l).all (fun cs => cs.length == 2) = true := qdd9 (f := qj9) (fun _ => rfl)
theorem qqJ9 {y0 : Int} {y1 : Int} {l : List (Redex)} {r : List (List PV)} : rowP qj9 l ++ ([.d (.v (.int .i64 y0)), .d (.v (.int .i64 y1))] :: r) = rowP qj9 (l ++ [(Redex.mk y0 y1)]) ++ r := qcS9 (f := qj9) (a := (Redex.mk y0 y1)) rfl
theorem qrg9 {y0 : Int} {y1 : Int} {l : List (Redex)} {i : Nat} : (rowP qj9 l).set i [.d (.v (.int .i64 y0)), .d (.v (.int .i64 y1))] = rowP qj9 (l.set i (Redex.mk y0 y1)) := qdr9 (f := qj9) (a := (Redex.mk y0 y1)) rfl
theorem qrc9 {y0 : Int} {y1 : Int} {k : Int} {l : List (Int × (Redex))} : putP (.int .i64 k) (.ag [.d (.v (.int .i64 y0)), .d (.v (.int .i64 y1))]) (mapP keyI qj9 l) = some (mapP keyI qj9 (mset l k (Redex.mk y0 y1))) := qdw9 (f := qj9) (v := (Redex.mk y0 y1)) rfl
theorem qqD9 {y0 : Int} {y1 : Int} {n : Nat} : List.replicate n [.d (.v (.int .i64 y0)), .d (.v (.int .i64 y1))] = rowP qj9 (List.replicate n (Redex.mk y0 y1)) := qdJ9 (f := qj9) (a := (Redex.mk y0 y1)) rfl
theorem qtm9 {h : AHeap} {l : List (Bind)} {k : IntKind} {n : Int} : ixA h 2 (.d (.rd (l.map qc9))) (.d (.v (.int k n))) = (idx l n).map fun a => .d (.bx (qc9 a)) := qfS9 (f := qc9) (fun _ => rfl)
theorem qtf9 {h : AHeap} {l : List (Bind)} {i k : Int} {a b : IntKind} : cutA 2 h (.d (.rd (l.map qc9))) (some (.d (.v (.int a i)))) (some (.d (.v (.int b k)))) = (cutL l i k).map fun l => .d (.rd (l.map qc9)) := qdF9 (f := qc9) (fun _ => rfl)
theorem qsY9 {h : AHeap} {l : List (Bind)} {k : Int} {b : IntKind} : cutA 2 h (.d (.rd (l.map qc9))) none (some (.d (.v (.int b k)))) = (cutL l 0 k).map fun l => .d (.rd (l.map qc9)) := qcC9 (f := qc9) (fun _ => rfl)
theorem qsw9 {h : AHeap} {l : List (Bind)} {i : Int} {a : IntKind} : cutA 2 h (.d (.rd (l.map qc9))) (some (.d (.v (.int a i)))) none = (cutL l i (l.length : Int)).map fun l => .d (.rd (l.map qc9)) := qcB9 (f := qc9) (fun _ => rfl)
theorem qrS9 {l : List (Bind)} : (rowP qc9 l).all (fun cs => cs.length == 2) = true := qdd9 (f := qc9) (fun _ => rfl)
theorem qrW9 {y0 : Int} {y1 : List Int} {l : List (Bind)} {r : List (List PV)} : rowP qc9 l ++ ([.d (.v (.int .i64 y0)), .d (.rd (y1.map intD))] :: r) = rowP qc9 (l ++ [(Bind.mk y0 y1)]) ++ r := qcS9 (f := qc9) (a := (Bind.mk y0 y1)) rfl
theorem qsU9 {y0 : Int} {y1 : List Int} {l : List (Bind)} {i : Nat} : (rowP qc9 l).set i [.d (.v (.int .i64 y0)), .d (.rd (y1.map intD))] = rowP qc9 (l.set i (Bind.mk y0 y1)) := qdr9 (f := qc9) (a := (Bind.mk y0 y1)) rfl
theorem qsR9 {y0 : Int} {y1 : List Int} {k : Int} {l : List (Int × (Bind))} : putP (.int .i64 k) (.ag [.d (.v (.int .i64 y0)), .d (.rd (y1.map intD))]) (mapP keyI qc9 l) = some (mapP keyI qc9 (mset l k (Bind.mk y0 y1))) := qdw9 (f := qc9) (v := (Bind.mk y0 y1)) rfl
theorem qta9 {y0 : Int} {y1 : List Int} {n : Nat} : List.replicate n [.d (.v (.int .i64 y0)), .d (.rd (y1.map intD))] = rowP qc9 (List.replicate n (Bind.mk y0 y1)) := qdJ9 (f := qc9) (a := (Bind.mk y0 y1)) rfl
theorem qtr9 {h : AHeap} {l : List (Int)} {k : IntKind} {n : Int} : ixA h 1 (.d (.rd (l.map qbh9))) (.d (.v (.int k n))) = (idx l n).map fun a => .d (.bx (qbh9 a)) := qfS9 (f := qbh9) (fun _ => rfl)
theorem qtd9 {h : AHeap} {l : List (Int)} {i k : Int} {a b : IntKind} : cutA 1 h (.d (.rd (l.map qbh9))) (some (.d (.v (.int a i)))) (some (.d (.v (.int b k)))) = (cutL l i k).map fun l => .d (.rd (l.map qbh9)) := qdF9 (f := qbh9) (fun _ => rfl)
theorem qsf9 {h : AHeap} {l : List (Int)} {k : Int} {b : IntKind} : cutA 1 h (.d (.rd (l.map qbh9))) none (some (.d (.v (.int b k)))) = (cutL l 0 k).map fun l => .d (.rd (l.map qbh9)) := qcC9 (f := qbh9) (fun _ => rfl)
theorem qtw9 {h : AHeap} {l : List (Int)} {i : Int} {a : IntKind} : cutA 1 h (.d (.rd (l.map qbh9))) (some (.d (.v (.int a i)))) none = (cutL l i (l.length : Int)).map fun l => .d (.rd (l.map qbh9)) := qcB9 (f := qbh9) (fun _ => rfl)
theorem qsa9 {l : List (Int)} : (rowP qbh9 l).all (fun cs => cs.length == 1) = true := qdd9 (f := qbh9) (fun _ => rfl)
theorem qsb9 {a : Int} {l : List (Int)} {r : List (List PV)} : rowP qbh9 l ++ ([.d (.v (.int .u32 a))] :: r) = rowP qbh9 (l ++ [a]) ++ r := qcS9 (f := qbh9) (a := a) rfl
theorem qsq9 {a : Int} {l : List (Int)} {i : Nat} : (rowP qbh9 l).set i [.d (.v (.int .u32 a))] = rowP qbh9 (l.set i a) := qdr9 (f := qbh9) (a := a) rfl
theorem qtc9 {a : Int} {k : Int} {l : List (Int × (Int))} : putP (.int .i64 k) (.d (.v (.int .u32 a))) (mapP keyI qbh9 l) = some (mapP keyI qbh9 (mset l k a)) := qdw9 (f := qbh9) (v := a) rfl
theorem qsP9 {a : Int} {n : Nat} : List.replicate n [.d (.v (.int .u32 a))] = rowP qbh9 (List.replicate n a) := qdJ9 (f := qbh9) (a := a) rfl
theorem qyN9 {h : AHeap} {c : List D} : elems h (.d (.rd [c])) = some [c.map PV.d] := by simp [elems]
section
variable {α : Type} {f : α → List D} {h : AHeap}
theorem qzr9 {l : List (List α)} {k : IntKind} {n : Int} : ixA h 1 (.d (.rd (l.map (lsD f)))) (.d (.v (.int k n))) = (idx l n).map fun a => .d (.bx ((lsD f) a)) := qfS9 (f := (lsD f)) (fun _ => rfl)
theorem qzl9 {l : List (List α)} {i k : Int} {a b : IntKind} : cutA 1 h (.d (.rd (l.map (lsD f)))) (some (.d (.v (.int a i)))) (some (.d (.v (.int b k)))) = (cutL l i k).map fun l => .d (.rd (l.map (lsD f))) := qdF9 (f := (lsD f)) (fun _ => rfl)
theorem qzn9 {l : List (List α)} {k : Int} {b : IntKind} : cutA 1 h (.d (.rd (l.map (lsD f)))) none (some (.d (.v (.int b k)))) = (cutL l 0 k).map fun l => .d (.rd (l.map (lsD f))) := qcC9 (f := (lsD f)) (fun _ => rfl)
theorem qzq9 {l : List (List α)} {i : Int} {a : IntKind} : cutA 1 h (.d (.rd (l.map (lsD f)))) (some (.d (.v (.int a i)))) none = (cutL l i (l.length : Int)).map fun l => .d (.rd (l.map (lsD f))) := qcB9 (f := (lsD f)) (fun _ => rfl)
theorem qzm9 {l : List (List α)} : (rowP (lsD f) l).all (fun cs => cs.length == 1) = true := qdd9 (f := (lsD f)) (fun _ => rfl)
theorem qzt9 {a : List α} {l : List (List α)} {r : List (List PV)} : rowP (lsD f) l ++ ([.d (.rd (a.map f))] :: r) = rowP (lsD f) (l ++ [a]) ++ r := qcS9 (f := (lsD f)) (a := a) rfl
theorem qzo9 {a : List α} {l : List (List α)} {i : Nat} : (rowP (lsD f) l).set i [.d (.rd (a.map f))] = rowP (lsD f) (l.set i a) := qdr9 (f := (lsD f)) (a := a) rfl
theorem qzp9 {a : List α} {k : Int} {l : List (Int × (List α))} : putP (.int .i64 k) (.d (.rd (a.map f))) (mapP keyI (lsD f) l) = some (mapP keyI (lsD f) (mset l k a)) := qdw9 (f := (lsD f)) (v := a) rfl
theorem qxX9 {l : List (List (List α))} {k : IntKind} {n : Int} : ixA h 1 (.d (.rd (l.map (lsD (lsD f))))) (.d (.v (.int k n))) = (idx l n).map fun a => .d (.bx ((lsD (lsD f)) a)) := qfS9 (f := (lsD (lsD f))) (fun _ => rfl)
theorem qwT9 {l : List (List (List α))} {i k : Int} {a b : IntKind} : cutA 1 h (.d (.rd (l.map (lsD (lsD f))))) (some (.d (.v (.int a i)))) (some (.d (.v (.int b k)))) = (cutL l i k).map fun l => .d (.rd (l.map (lsD (lsD f)))) := qdF9 (f := (lsD (lsD f))) (fun _ => rfl)
theorem qxq9 {l : List (List (List α))} {k : Int} {b : IntKind} : cutA 1 h (.d (.rd (l.map (lsD (lsD f))))) none (some (.d (.v (.int b k)))) = (cutL l 0 k).map fun l => .d (.rd (l.map (lsD (lsD f)))) := qcC9 (f := (lsD (lsD f))) (fun _ => rfl)
theorem qwG9 {l : List (List (List α))} {i : Int} {a : IntKind} : cutA 1 h (.d (.rd (l.map (lsD (lsD f))))) (some (.d (.v (.int a i)))) none = (cutL l i (l.length : Int)).map fun l => .d (.rd (l.map (lsD (lsD f)))) := qcB9 (f := (lsD (lsD f))) (fun _ => rfl)
theorem qxF9 {l : List (List (List α))} : (rowP (lsD (lsD f)) l).all (fun cs => cs.length == 1) = true := qdd9 (f := (lsD (lsD f))) (fun _ => rfl)
theorem qxU9 {a : List (List α)} {l : List (List (List α))} {r : List (List PV)} : rowP (lsD (lsD f)) l ++ ([.d (.rd (a.map (lsD f)))] :: r) = rowP (lsD (lsD f)) (l ++ [a]) ++ r := qcS9 (f := (lsD (lsD f))) (a := a) rfl
theorem qwM9 {a : List (List α)} {l : List (List (List α))} {i : Nat} : (rowP (lsD (lsD f)) l).set i [.d (.rd (a.map (lsD f)))] = rowP (lsD (lsD f)) (l.set i a) := qdr9 (f := (lsD (lsD f))) (a := a) rfl
theorem qwP9 {a : List (List α)} {k : Int} {l : List (Int × (List (List α)))} : putP (.int .i64 k) (.d (.rd (a.map (lsD f)))) (mapP keyI (lsD (lsD f)) l) = some (mapP keyI (lsD (lsD f)) (mset l k a)) := qdw9 (f := (lsD (lsD f))) (v := a) rfl
end
attribute [go_sem] qxD9 qww9 qxQ9 qwI9 qxR9 qwA9 qxg9 qwV9 qwY9 qvH9 qvI9 qvo9 qvc9 qvv9 qwo9 qvF9 qvM9 qwf9 qwy9 qxW9 qxa9 qwC9 qxC9 qwS9 qxS9 qxj9 qxp9 qyw9 qyp9 qyt9 qyR9 qzj9 qor9 qok9 qoR9 qpk9 qpp9 qqh9 qoq9 qpH9 qot9 qrU9 qsF9 qsN9 qtt9 qsS9 qsm9 qte9 qsn9 qtl9 qqd9 qoo9 qpN9 qpe9 qpA9 qpz9 qpW9 qoC9 qpO9 qrn9 qqZ9 qqG9 qqU9 qqQ9 qqJ9 qrg9 qrc9 qqD9 qtm9 qtf9 qsY9 qsw9 qrS9 qrW9 qsU9 qsR9 qta9 qtr9 qtd9 qsf9 qtw9 qsa9 qsb9 qsq9 qtc9 qsP9 qyN9 qzr9 qzl9 qzn9 qzq9 qzm9 qzt9 qzo9 qzp9 qxX9 qwT9 qxq9 qwG9 qxF9 qxU9 qwM9 qwP9 intD boolD strD ifD lsD ar2D ar3D bxD qb9 qd9 qe9 qj9 qc9 qbh9
end Ld

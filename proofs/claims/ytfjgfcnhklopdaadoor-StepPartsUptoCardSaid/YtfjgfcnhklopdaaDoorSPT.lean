import Derived.Test.YtfjgfcnhklopdaaDoorAbt39
set_option maxHeartbeats 400000
set_option linter.unusedVariables false
set_option linter.unusedSimpArgs false
namespace Ld
open Go Go.Abs
structure Symbol where
  Name : ByteArray
  Arity : Int
  deriving DecidableEq
def qb9 (x : Symbol) : List D := [.v (.string x.Name), .v (.int .i64 x.Arity)]
def qkU9 (x : Symbol) : Prop := (okI .i64) x.Arity
structure Rule where
  L : List Int
  R : List Int
  deriving DecidableEq
def qd9 (x : Rule) : List D := [.rd (x.L.map intD), .rd (x.R.map intD)]
def qnI9 (x : Rule) : Prop := (okL (okI .i64)) x.L ∧ (okL (okI .i64)) x.R
structure System where
  Sig : List Symbol
  Rules : List Rule
  deriving DecidableEq
def qf9 (x : System) : List D := [.rd (x.Sig.map qb9), .rd (x.Rules.map qd9)]
def qmH9 (x : System) : Prop := (okL qkU9) x.Sig ∧ (okL qnI9) x.Rules
structure Redex where
  At : Int
  Rule : Int
  deriving DecidableEq
def qp9 (x : Redex) : List D := [.v (.int .i64 x.At), .v (.int .i64 x.Rule)]
def qBI9 (x : Redex) : Prop := (okI .i64) x.At ∧ (okI .i64) x.Rule
structure Bind where
  Var : Int
  T : List Int
  deriving DecidableEq
def qc9 (x : Bind) : List D := [.v (.int .i64 x.Var), .rd (x.T.map intD)]
def qBK9 (x : Bind) : Prop := (okI .i64) x.Var ∧ (okL (okI .i64)) x.T
theorem qzH9 {h : AHeap} {l : List (Int)} {k : IntKind} {n : Int} : ixA h 1 (.d (.rd (l.map intD))) (.d (.v (.int k n))) = (idx l n).map fun a => .d (.bx (intD a)) := qgt9 (f := intD) (fun _ => rfl)
theorem qyI9 {h : AHeap} {l : List (Int)} {i k : Int} {a b : IntKind} : cutA 1 h (.d (.rd (l.map intD))) (some (.d (.v (.int a i)))) (some (.d (.v (.int b k)))) = (cutL l i k).map fun l => .d (.rd (l.map intD)) := qdX9 (f := intD) (fun _ => rfl)
theorem qyx9 {h : AHeap} {l : List (Int)} {k : Int} {b : IntKind} : cutA 1 h (.d (.rd (l.map intD))) none (some (.d (.v (.int b k)))) = (cutL l 0 k).map fun l => .d (.rd (l.map intD)) := qcI9 (f := intD) (fun _ => rfl)
theorem qyP9 {h : AHeap} {l : List (Int)} {i : Int} {a : IntKind} : cutA 1 h (.d (.rd (l.map intD))) (some (.d (.v (.int a i)))) none = (cutL l i (l.length : Int)).map fun l => .d (.rd (l.map intD)) := qcH9 (f := intD) (fun _ => rfl)
theorem qyw9 {l : List (Int)} : (rowP intD l).all (fun cs => cs.length == 1) = true := qde9 (f := intD) (fun _ => rfl)
theorem qAc9 {a : Int} {l : List (Int)} {r : List (List PV)} : rowP intD l ++ ([.d (.v (.int .i64 a))] :: r) = rowP intD (l ++ [a]) ++ r := qcV9 (f := intD) (a := a) rfl
theorem qyM9 {a : Int} {l : List (Int)} {i : Nat} : (rowP intD l).set i [.d (.v (.int .i64 a))] = rowP intD (l.set i a) := qdE9 (f := intD) (a := a) rfl
theorem qzF9 {a : Int} {k : Int} {l : List (Int × (Int))} : putP (.int .i64 k) (.d (.v (.int .i64 a))) (mapP keyI intD l) = some (mapP keyI intD (mset l k a)) := qdy9 (f := intD) (v := a) rfl
theorem qzU9 {a : Int} {n : Nat} : List.replicate n [.d (.v (.int .i64 a))] = rowP intD (List.replicate n a) := qdY9 (f := intD) (a := a) rfl
theorem qxt9 {h : AHeap} {l : List (Bool)} {k : IntKind} {n : Int} : ixA h 1 (.d (.rd (l.map boolD))) (.d (.v (.int k n))) = (idx l n).map fun a => .d (.bx (boolD a)) := qgt9 (f := boolD) (fun _ => rfl)
theorem qwN9 {h : AHeap} {l : List (Bool)} {i k : Int} {a b : IntKind} : cutA 1 h (.d (.rd (l.map boolD))) (some (.d (.v (.int a i)))) (some (.d (.v (.int b k)))) = (cutL l i k).map fun l => .d (.rd (l.map boolD)) := qdX9 (f := boolD) (fun _ => rfl)
theorem qwQ9 {h : AHeap} {l : List (Bool)} {k : Int} {b : IntKind} : cutA 1 h (.d (.rd (l.map boolD))) none (some (.d (.v (.int b k)))) = (cutL l 0 k).map fun l => .d (.rd (l.map boolD)) := qcI9 (f := boolD) (fun _ => rfl)
theorem qxD9 {h : AHeap} {l : List (Bool)} {i : Int} {a : IntKind} : cutA 1 h (.d (.rd (l.map boolD))) (some (.d (.v (.int a i)))) none = (cutL l i (l.length : Int)).map fun l => .d (.rd (l.map boolD)) := qcH9 (f := boolD) (fun _ => rfl)
theorem qwT9 {l : List (Bool)} : (rowP boolD l).all (fun cs => cs.length == 1) = true := qde9 (f := boolD) (fun _ => rfl)
theorem qwZ9 {a : Bool} {l : List (Bool)} {r : List (List PV)} : rowP boolD l ++ ([.d (.v (.bool a))] :: r) = rowP boolD (l ++ [a]) ++ r := qcV9 (f := boolD) (a := a) rfl
theorem qxU9 {a : Bool} {l : List (Bool)} {i : Nat} : (rowP boolD l).set i [.d (.v (.bool a))] = rowP boolD (l.set i a) := qdE9 (f := boolD) (a := a) rfl
theorem qxC9 {a : Bool} {k : Int} {l : List (Int × (Bool))} : putP (.int .i64 k) (.d (.v (.bool a))) (mapP keyI boolD l) = some (mapP keyI boolD (mset l k a)) := qdy9 (f := boolD) (v := a) rfl
theorem qxx9 {a : Bool} {n : Nat} : List.replicate n [.d (.v (.bool a))] = rowP boolD (List.replicate n a) := qdY9 (f := boolD) (a := a) rfl
theorem qzn9 {h : AHeap} {l : List (ByteArray)} {k : IntKind} {n : Int} : ixA h 1 (.d (.rd (l.map strD))) (.d (.v (.int k n))) = (idx l n).map fun a => .d (.bx (strD a)) := qgt9 (f := strD) (fun _ => rfl)
theorem qzp9 {h : AHeap} {l : List (ByteArray)} {i k : Int} {a b : IntKind} : cutA 1 h (.d (.rd (l.map strD))) (some (.d (.v (.int a i)))) (some (.d (.v (.int b k)))) = (cutL l i k).map fun l => .d (.rd (l.map strD)) := qdX9 (f := strD) (fun _ => rfl)
theorem qyW9 {h : AHeap} {l : List (ByteArray)} {k : Int} {b : IntKind} : cutA 1 h (.d (.rd (l.map strD))) none (some (.d (.v (.int b k)))) = (cutL l 0 k).map fun l => .d (.rd (l.map strD)) := qcI9 (f := strD) (fun _ => rfl)
theorem qzx9 {h : AHeap} {l : List (ByteArray)} {i : Int} {a : IntKind} : cutA 1 h (.d (.rd (l.map strD))) (some (.d (.v (.int a i)))) none = (cutL l i (l.length : Int)).map fun l => .d (.rd (l.map strD)) := qcH9 (f := strD) (fun _ => rfl)
theorem qyz9 {l : List (ByteArray)} : (rowP strD l).all (fun cs => cs.length == 1) = true := qde9 (f := strD) (fun _ => rfl)
theorem qyE9 {a : ByteArray} {l : List (ByteArray)} {r : List (List PV)} : rowP strD l ++ ([.d (.v (.string a))] :: r) = rowP strD (l ++ [a]) ++ r := qcV9 (f := strD) (a := a) rfl
theorem qyD9 {a : ByteArray} {l : List (ByteArray)} {i : Nat} : (rowP strD l).set i [.d (.v (.string a))] = rowP strD (l.set i a) := qdE9 (f := strD) (a := a) rfl
theorem qyF9 {a : ByteArray} {k : Int} {l : List (Int × (ByteArray))} : putP (.int .i64 k) (.d (.v (.string a))) (mapP keyI strD l) = some (mapP keyI strD (mset l k a)) := qdy9 (f := strD) (v := a) rfl
theorem qzv9 {a : ByteArray} {n : Nat} : List.replicate n [.d (.v (.string a))] = rowP strD (List.replicate n a) := qdY9 (f := strD) (a := a) rfl
theorem qAv9 {h : AHeap} {l : List (D)} {k : IntKind} {n : Int} : ixA h 1 (.d (.rd (l.map ifD))) (.d (.v (.int k n))) = (idx l n).map fun a => .d (.bx (ifD a)) := qgt9 (f := ifD) (fun _ => rfl)
theorem qAu9 {h : AHeap} {l : List (D)} {i k : Int} {a b : IntKind} : cutA 1 h (.d (.rd (l.map ifD))) (some (.d (.v (.int a i)))) (some (.d (.v (.int b k)))) = (cutL l i k).map fun l => .d (.rd (l.map ifD)) := qdX9 (f := ifD) (fun _ => rfl)
theorem qBr9 {h : AHeap} {l : List (D)} {k : Int} {b : IntKind} : cutA 1 h (.d (.rd (l.map ifD))) none (some (.d (.v (.int b k)))) = (cutL l 0 k).map fun l => .d (.rd (l.map ifD)) := qcI9 (f := ifD) (fun _ => rfl)
theorem qBw9 {h : AHeap} {l : List (D)} {i : Int} {a : IntKind} : cutA 1 h (.d (.rd (l.map ifD))) (some (.d (.v (.int a i)))) none = (cutL l i (l.length : Int)).map fun l => .d (.rd (l.map ifD)) := qcH9 (f := ifD) (fun _ => rfl)
theorem qAT9 {l : List (D)} : (rowP ifD l).all (fun cs => cs.length == 1) = true := qde9 (f := ifD) (fun _ => rfl)
theorem qrY9 {h : AHeap} {l : List (Symbol)} {k : IntKind} {n : Int} : ixA h 2 (.d (.rd (l.map qb9))) (.d (.v (.int k n))) = (idx l n).map fun a => .d (.bx (qb9 a)) := qgt9 (f := qb9) (fun _ => rfl)
theorem qqd9 {h : AHeap} {l : List (Symbol)} {i k : Int} {a b : IntKind} : cutA 2 h (.d (.rd (l.map qb9))) (some (.d (.v (.int a i)))) (some (.d (.v (.int b k)))) = (cutL l i k).map fun l => .d (.rd (l.map qb9)) := qdX9 (f := qb9) (fun _ => rfl)
theorem qrw9 {h : AHeap} {l : List (Symbol)} {k : Int} {b : IntKind} : cutA 2 h (.d (.rd (l.map qb9))) none (some (.d (.v (.int b k)))) = (cutL l 0 k).map fun l => .d (.rd (l.map qb9)) := qcI9 (f := qb9) (fun _ => rfl)
theorem qry9 {h : AHeap} {l : List (Symbol)} {i : Int} {a : IntKind} : cutA 2 h (.d (.rd (l.map qb9))) (some (.d (.v (.int a i)))) none = (cutL l i (l.length : Int)).map fun l => .d (.rd (l.map qb9)) := qcH9 (f := qb9) (fun _ => rfl)
theorem qqA9 {l : List (Symbol)} : (rowP qb9 l).all (fun cs => cs.length == 2) = true := qde9 (f := qb9) (fun _ => rfl)
theorem qrz9 {y0 : ByteArray} {y1 : Int} {l : List (Symbol)} {r : List (List PV)} : rowP qb9 l ++ ([.d (.v (.string y0)), .d (.v (.int .i64 y1))] :: r) = rowP qb9 (l ++ [(Symbol.mk y0 y1)]) ++ r := qcV9 (f := qb9) (a := (Symbol.mk y0 y1)) rfl
theorem qqt9 {y0 : ByteArray} {y1 : Int} {l : List (Symbol)} {i : Nat} : (rowP qb9 l).set i [.d (.v (.string y0)), .d (.v (.int .i64 y1))] = rowP qb9 (l.set i (Symbol.mk y0 y1)) := qdE9 (f := qb9) (a := (Symbol.mk y0 y1)) rfl
theorem qrm9 {y0 : ByteArray} {y1 : Int} {k : Int} {l : List (Int × (Symbol))} : putP (.int .i64 k) (.ag [.d (.v (.string y0)), .d (.v (.int .i64 y1))]) (mapP keyI qb9 l) = some (mapP keyI qb9 (mset l k (Symbol.mk y0 y1))) := qdy9 (f := qb9) (v := (Symbol.mk y0 y1)) rfl
theorem qrH9 {y0 : ByteArray} {y1 : Int} {n : Nat} : List.replicate n [.d (.v (.string y0)), .d (.v (.int .i64 y1))] = rowP qb9 (List.replicate n (Symbol.mk y0 y1)) := qdY9 (f := qb9) (a := (Symbol.mk y0 y1)) rfl
theorem quq9 {h : AHeap} {l : List (Rule)} {k : IntKind} {n : Int} : ixA h 2 (.d (.rd (l.map qd9))) (.d (.v (.int k n))) = (idx l n).map fun a => .d (.bx (qd9 a)) := qgt9 (f := qd9) (fun _ => rfl)
theorem qut9 {h : AHeap} {l : List (Rule)} {i k : Int} {a b : IntKind} : cutA 2 h (.d (.rd (l.map qd9))) (some (.d (.v (.int a i)))) (some (.d (.v (.int b k)))) = (cutL l i k).map fun l => .d (.rd (l.map qd9)) := qdX9 (f := qd9) (fun _ => rfl)
theorem quS9 {h : AHeap} {l : List (Rule)} {k : Int} {b : IntKind} : cutA 2 h (.d (.rd (l.map qd9))) none (some (.d (.v (.int b k)))) = (cutL l 0 k).map fun l => .d (.rd (l.map qd9)) := qcI9 (f := qd9) (fun _ => rfl)
theorem qve9 {h : AHeap} {l : List (Rule)} {i : Int} {a : IntKind} : cutA 2 h (.d (.rd (l.map qd9))) (some (.d (.v (.int a i)))) none = (cutL l i (l.length : Int)).map fun l => .d (.rd (l.map qd9)) := qcH9 (f := qd9) (fun _ => rfl)
theorem quu9 {l : List (Rule)} : (rowP qd9 l).all (fun cs => cs.length == 2) = true := qde9 (f := qd9) (fun _ => rfl)
theorem quW9 {y0 : List Int} {y1 : List Int} {l : List (Rule)} {r : List (List PV)} : rowP qd9 l ++ ([.d (.rd (y0.map intD)), .d (.rd (y1.map intD))] :: r) = rowP qd9 (l ++ [(Rule.mk y0 y1)]) ++ r := qcV9 (f := qd9) (a := (Rule.mk y0 y1)) rfl
theorem quZ9 {y0 : List Int} {y1 : List Int} {l : List (Rule)} {i : Nat} : (rowP qd9 l).set i [.d (.rd (y0.map intD)), .d (.rd (y1.map intD))] = rowP qd9 (l.set i (Rule.mk y0 y1)) := qdE9 (f := qd9) (a := (Rule.mk y0 y1)) rfl
theorem quG9 {y0 : List Int} {y1 : List Int} {k : Int} {l : List (Int × (Rule))} : putP (.int .i64 k) (.ag [.d (.rd (y0.map intD)), .d (.rd (y1.map intD))]) (mapP keyI qd9 l) = some (mapP keyI qd9 (mset l k (Rule.mk y0 y1))) := qdy9 (f := qd9) (v := (Rule.mk y0 y1)) rfl
theorem qtX9 {y0 : List Int} {y1 : List Int} {n : Nat} : List.replicate n [.d (.rd (y0.map intD)), .d (.rd (y1.map intD))] = rowP qd9 (List.replicate n (Rule.mk y0 y1)) := qdY9 (f := qd9) (a := (Rule.mk y0 y1)) rfl
theorem qqL9 {h : AHeap} {l : List (System)} {k : IntKind} {n : Int} : ixA h 2 (.d (.rd (l.map qf9))) (.d (.v (.int k n))) = (idx l n).map fun a => .d (.bx (qf9 a)) := qgt9 (f := qf9) (fun _ => rfl)
theorem qqh9 {h : AHeap} {l : List (System)} {i k : Int} {a b : IntKind} : cutA 2 h (.d (.rd (l.map qf9))) (some (.d (.v (.int a i)))) (some (.d (.v (.int b k)))) = (cutL l i k).map fun l => .d (.rd (l.map qf9)) := qdX9 (f := qf9) (fun _ => rfl)
theorem qrO9 {h : AHeap} {l : List (System)} {k : Int} {b : IntKind} : cutA 2 h (.d (.rd (l.map qf9))) none (some (.d (.v (.int b k)))) = (cutL l 0 k).map fun l => .d (.rd (l.map qf9)) := qcI9 (f := qf9) (fun _ => rfl)
theorem qqO9 {h : AHeap} {l : List (System)} {i : Int} {a : IntKind} : cutA 2 h (.d (.rd (l.map qf9))) (some (.d (.v (.int a i)))) none = (cutL l i (l.length : Int)).map fun l => .d (.rd (l.map qf9)) := qcH9 (f := qf9) (fun _ => rfl)
theorem qqK9 {l : List (System)} : (rowP qf9 l).all (fun cs => cs.length == 2) = true := qde9 (f := qf9) (fun _ => rfl)
theorem qrr9 {y0 : List Symbol} {y1 : List Rule} {l : List (System)} {r : List (List PV)} : rowP qf9 l ++ ([.d (.rd (y0.map qb9)), .d (.rd (y1.map qd9))] :: r) = rowP qf9 (l ++ [(System.mk y0 y1)]) ++ r := qcV9 (f := qf9) (a := (System.mk y0 y1)) rfl
theorem qpU9 {y0 : List Symbol} {y1 : List Rule} {l : List (System)} {i : Nat} : (rowP qf9 l).set i [.d (.rd (y0.map qb9)), .d (.rd (y1.map qd9))] = rowP qf9 (l.set i (System.mk y0 y1)) := qdE9 (f := qf9) (a := (System.mk y0 y1)) rfl
theorem qrW9 {y0 : List Symbol} {y1 : List Rule} {k : Int} {l : List (Int × (System))} : putP (.int .i64 k) (.ag [.d (.rd (y0.map qb9)), .d (.rd (y1.map qd9))]) (mapP keyI qf9 l) = some (mapP keyI qf9 (mset l k (System.mk y0 y1))) := qdy9 (f := qf9) (v := (System.mk y0 y1)) rfl
theorem qqC9 {y0 : List Symbol} {y1 : List Rule} {n : Nat} : List.replicate n [.d (.rd (y0.map qb9)), .d (.rd (y1.map qd9))] = rowP qf9 (List.replicate n (System.mk y0 y1)) := qdY9 (f := qf9) (a := (System.mk y0 y1)) rfl
theorem qsq9 {h : AHeap} {l : List (Redex)} {k : IntKind} {n : Int} : ixA h 2 (.d (.rd (l.map qp9))) (.d (.v (.int k n))) = (idx l n).map fun a => .d (.bx (qp9 a)) := qgt9 (f := qp9) (fun _ => rfl)
theorem qsG9 {h : AHeap} {l : List (Redex)} {i k : Int} {a b : IntKind} : cutA 2 h (.d (.rd (l.map qp9))) (some (.d (.v (.int a i)))) (some (.d (.v (.int b k)))) = (cutL l i k).map fun l => .d (.rd (l.map qp9)) := qdX9 (f := qp9) (fun _ => rfl)
theorem qsw9 {h : AHeap} {l : List (Redex)} {k : Int} {b : IntKind} : cutA 2 h (.d (.rd (l.map qp9))) none (some (.d (.v (.int b k)))) = (cutL l 0 k).map fun l => .d (.rd (l.map qp9)) := qcI9 (f := qp9) (fun _ => rfl)
theorem qsK9 {h : AHeap} {l : List (Redex)} {i : Int} {a : IntKind} : cutA 2 h (.d (.rd (l.map qp9))) (some (.d (.v (.int a i)))) none = (cutL l i (l.length : Int)).map fun l => .d (.rd (l.map qp9)) := qcH9 (f := qp9) (fun _ => rfl)
theorem qsT9 {l : List (Redex)} : (rowP qp9 l).all (fun cs => cs.length == 2) = true := qde9 (f := qp9) (fun _ => rfl)
theorem qsb9 {y0 : Int} {y1 : Int} {l : List (Redex)} {r : List (List PV)} : rowP qp9 l ++ ([.d (.v (.int .i64 y0)), .d (.v (.int .i64 y1))] :: r) = rowP qp9 (l ++ [(Redex.mk y0 y1)]) ++ r := qcV9 (f := qp9) (a := (Redex.mk y0 y1)) rfl
theorem qsC9 {y0 : Int} {y1 : Int} {l : List (Redex)} {i : Nat} : (rowP qp9 l).set i [.d (.v (.int .i64 y0)), .d (.v (.int .i64 y1))] = rowP qp9 (l.set i (Redex.mk y0 y1)) := qdE9 (f := qp9) (a := (Redex.mk y0 y1)) rfl
theorem qsg9 {y0 : Int} {y1 : Int} {k : Int} {l : List (Int × (Redex))} : putP (.int .i64 k) (.ag [.d (.v (.int .i64 y0)), .d (.v (.int .i64 y1))]) (mapP keyI qp9 l) = some (mapP keyI qp9 (mset l k (Redex.mk y0 y1))) := qdy9 (f := qp9) (v := (Redex.mk y0 y1)) rfl
theorem qsX9 {y0 : Int} {y1 : Int} {n : Nat} : List.replicate n [.d (.v (.int .i64 y0)), .d (.v (.int .i64 y1))] = rowP qp9 (List.replicate n (Redex.mk y0 y1)) := qdY9 (f := qp9) (a := (Redex.mk y0 y1)) rfl
theorem qvd9 {h : AHeap} {l : List (Bind)} {k : IntKind} {n : Int} : ixA h 2 (.d (.rd (l.map qc9))) (.d (.v (.int k n))) = (idx l n).map fun a => .d (.bx (qc9 a)) := qgt9 (f := qc9) (fun _ => rfl)
theorem quY9 {h : AHeap} {l : List (Bind)} {i k : Int} {a b : IntKind} : cutA 2 h (.d (.rd (l.map qc9))) (some (.d (.v (.int a i)))) (some (.d (.v (.int b k)))) = (cutL l i k).map fun l => .d (.rd (l.map qc9)) := qdX9 (f := qc9) (fun _ => rfl)
theorem qum9 {h : AHeap} {l : List (Bind)} {k : Int} {b : IntKind} : cutA 2 h (.d (.rd (l.map qc9))) none (some (.d (.v (.int b k)))) = (cutL l 0 k).map fun l => .d (.rd (l.map qc9)) := qcI9 (f := qc9) (fun _ => rfl)
theorem qui9 {h : AHeap} {l : List (Bind)} {i : Int} {a : IntKind} : cutA 2 h (.d (.rd (l.map qc9))) (some (.d (.v (.int a i)))) none = (cutL l i (l.length : Int)).map fun l => .d (.rd (l.map qc9)) := qcH9 (f := qc9) (fun _ => rfl)
theorem qun9 {l : List (Bind)} : (rowP qc9 l).all (fun cs => cs.length == 2) = true := qde9 (f := qc9) (fun _ => rfl)
theorem qvk9 {y0 : Int} {y1 : List Int} {l : List (Bind)} {r : List (List PV)} : rowP qc9 l ++ ([.d (.v (.int .i64 y0)), .d (.rd (y1.map intD))] :: r) = rowP qc9 (l ++ [(Bind.mk y0 y1)]) ++ r := qcV9 (f := qc9) (a := (Bind.mk y0 y1)) rfl
theorem quX9 {y0 : Int} {y1 : List Int} {l : List (Bind)} {i : Nat} : (rowP qc9 l).set i [.d (.v (.int .i64 y0)), .d (.rd (y1.map intD))] = rowP qc9 (l.set i (Bind.mk y0 y1)) := qdE9 (f := qc9) (a := (Bind.mk y0 y1)) rfl
theorem qtJ9 {y0 : Int} {y1 : List Int} {k : Int} {l : List (Int × (Bind))} : putP (.int .i64 k) (.ag [.d (.v (.int .i64 y0)), .d (.rd (y1.map intD))]) (mapP keyI qc9 l) = some (mapP keyI qc9 (mset l k (Bind.mk y0 y1))) := qdy9 (f := qc9) (v := (Bind.mk y0 y1)) rfl
theorem quz9 {y0 : Int} {y1 : List Int} {n : Nat} : List.replicate n [.d (.v (.int .i64 y0)), .d (.rd (y1.map intD))] = rowP qc9 (List.replicate n (Bind.mk y0 y1)) := qdY9 (f := qc9) (a := (Bind.mk y0 y1)) rfl
theorem quU9 {h : AHeap} {l : List (Int)} {k : IntKind} {n : Int} : ixA h 1 (.d (.rd (l.map qbj9))) (.d (.v (.int k n))) = (idx l n).map fun a => .d (.bx (qbj9 a)) := qgt9 (f := qbj9) (fun _ => rfl)
theorem qtM9 {h : AHeap} {l : List (Int)} {i k : Int} {a b : IntKind} : cutA 1 h (.d (.rd (l.map qbj9))) (some (.d (.v (.int a i)))) (some (.d (.v (.int b k)))) = (cutL l i k).map fun l => .d (.rd (l.map qbj9)) := qdX9 (f := qbj9) (fun _ => rfl)
theorem qul9 {h : AHeap} {l : List (Int)} {k : Int} {b : IntKind} : cutA 1 h (.d (.rd (l.map qbj9))) none (some (.d (.v (.int b k)))) = (cutL l 0 k).map fun l => .d (.rd (l.map qbj9)) := qcI9 (f := qbj9) (fun _ => rfl)
theorem qub9 {h : AHeap} {l : List (Int)} {i : Int} {a : IntKind} : cutA 1 h (.d (.rd (l.map qbj9))) (some (.d (.v (.int a i)))) none = (cutL l i (l.length : Int)).map fun l => .d (.rd (l.map qbj9)) := qcH9 (f := qbj9) (fun _ => rfl)
theorem quH9 {l : List (Int)} : (rowP qbj9 l).all (fun cs => cs.length == 1) = true := qde9 (f := qbj9) (fun _ => rfl)
theorem quP9 {a : Int} {l : List (Int)} {r : List (List PV)} : rowP qbj9 l ++ ([.d (.v (.int .u32 a))] :: r) = rowP qbj9 (l ++ [a]) ++ r := qcV9 (f := qbj9) (a := a) rfl
theorem quD9 {a : Int} {l : List (Int)} {i : Nat} : (rowP qbj9 l).set i [.d (.v (.int .u32 a))] = rowP qbj9 (l.set i a) := qdE9 (f := qbj9) (a := a) rfl
theorem qtU9 {a : Int} {k : Int} {l : List (Int × (Int))} : putP (.int .i64 k) (.d (.v (.int .u32 a))) (mapP keyI qbj9 l) = some (mapP keyI qbj9 (mset l k a)) := qdy9 (f := qbj9) (v := a) rfl
theorem qtT9 {a : Int} {n : Nat} : List.replicate n [.d (.v (.int .u32 a))] = rowP qbj9 (List.replicate n a) := qdY9 (f := qbj9) (a := a) rfl
theorem qAj9 {h : AHeap} {c : List D} : elems h (.d (.rd [c])) = some [c.map PV.d] := by simp [elems]
section
variable {α : Type} {f : α → List D} {h : AHeap}
theorem qBH9 {l : List (List α)} {k : IntKind} {n : Int} : ixA h 1 (.d (.rd (l.map (lsD f)))) (.d (.v (.int k n))) = (idx l n).map fun a => .d (.bx ((lsD f) a)) := qgt9 (f := (lsD f)) (fun _ => rfl)
theorem qBC9 {l : List (List α)} {i k : Int} {a b : IntKind} : cutA 1 h (.d (.rd (l.map (lsD f)))) (some (.d (.v (.int a i)))) (some (.d (.v (.int b k)))) = (cutL l i k).map fun l => .d (.rd (l.map (lsD f))) := qdX9 (f := (lsD f)) (fun _ => rfl)
theorem qBG9 {l : List (List α)} {k : Int} {b : IntKind} : cutA 1 h (.d (.rd (l.map (lsD f)))) none (some (.d (.v (.int b k)))) = (cutL l 0 k).map fun l => .d (.rd (l.map (lsD f))) := qcI9 (f := (lsD f)) (fun _ => rfl)
theorem qBE9 {l : List (List α)} {i : Int} {a : IntKind} : cutA 1 h (.d (.rd (l.map (lsD f)))) (some (.d (.v (.int a i)))) none = (cutL l i (l.length : Int)).map fun l => .d (.rd (l.map (lsD f))) := qcH9 (f := (lsD f)) (fun _ => rfl)
theorem qBD9 {l : List (List α)} : (rowP (lsD f) l).all (fun cs => cs.length == 1) = true := qde9 (f := (lsD f)) (fun _ => rfl)
theorem qBz9 {a : List α} {l : List (List α)} {r : List (List PV)} : rowP (lsD f) l ++ ([.d (.rd (a.map f))] :: r) = rowP (lsD f) (l ++ [a]) ++ r := qcV9 (f := (lsD f)) (a := a) rfl
theorem qBB9 {a : List α} {l : List (List α)} {i : Nat} : (rowP (lsD f) l).set i [.d (.rd (a.map f))] = rowP (lsD f) (l.set i a) := qdE9 (f := (lsD f)) (a := a) rfl
theorem qBA9 {a : List α} {k : Int} {l : List (Int × (List α))} : putP (.int .i64 k) (.d (.rd (a.map f))) (mapP keyI (lsD f) l) = some (mapP keyI (lsD f) (mset l k a)) := qdy9 (f := (lsD f)) (v := a) rfl
theorem qzL9 {l : List (List (List α))} {k : IntKind} {n : Int} : ixA h 1 (.d (.rd (l.map (lsD (lsD f))))) (.d (.v (.int k n))) = (idx l n).map fun a => .d (.bx ((lsD (lsD f)) a)) := qgt9 (f := (lsD (lsD f))) (fun _ => rfl)
theorem qyB9 {l : List (List (List α))} {i k : Int} {a b : IntKind} : cutA 1 h (.d (.rd (l.map (lsD (lsD f))))) (some (.d (.v (.int a i)))) (some (.d (.v (.int b k)))) = (cutL l i k).map fun l => .d (.rd (l.map (lsD (lsD f)))) := qdX9 (f := (lsD (lsD f))) (fun _ => rfl)
theorem qyJ9 {l : List (List (List α))} {k : Int} {b : IntKind} : cutA 1 h (.d (.rd (l.map (lsD (lsD f))))) none (some (.d (.v (.int b k)))) = (cutL l 0 k).map fun l => .d (.rd (l.map (lsD (lsD f)))) := qcI9 (f := (lsD (lsD f))) (fun _ => rfl)
theorem qzD9 {l : List (List (List α))} {i : Int} {a : IntKind} : cutA 1 h (.d (.rd (l.map (lsD (lsD f))))) (some (.d (.v (.int a i)))) none = (cutL l i (l.length : Int)).map fun l => .d (.rd (l.map (lsD (lsD f)))) := qcH9 (f := (lsD (lsD f))) (fun _ => rfl)
theorem qyy9 {l : List (List (List α))} : (rowP (lsD (lsD f)) l).all (fun cs => cs.length == 1) = true := qde9 (f := (lsD (lsD f))) (fun _ => rfl)
theorem qzr9 {a : List (List α)} {l : List (List (List α))} {r : List (List PV)} : rowP (lsD (lsD f)) l ++ ([.d (.rd (a.map (lsD f)))] :: r) = rowP (lsD (lsD f)) (l ++ [a]) ++ r := qcV9 (f := (lsD (lsD f))) (a := a) rfl
theorem qzj9 {a : List (List α)} {l : List (List (List α))} {i : Nat} : (rowP (lsD (lsD f)) l).set i [.d (.rd (a.map (lsD f)))] = rowP (lsD (lsD f)) (l.set i a) := qdE9 (f := (lsD (lsD f))) (a := a) rfl
theorem qyO9 {a : List (List α)} {k : Int} {l : List (Int × (List (List α)))} : putP (.int .i64 k) (.d (.rd (a.map (lsD f)))) (mapP keyI (lsD (lsD f)) l) = some (mapP keyI (lsD (lsD f)) (mset l k a)) := qdy9 (f := (lsD (lsD f))) (v := a) rfl
end
attribute [go_sem] qzH9 qyI9 qyx9 qyP9 qyw9 qAc9 qyM9 qzF9 qzU9 qxt9 qwN9 qwQ9 qxD9 qwT9 qwZ9 qxU9 qxC9 qxx9 qzn9 qzp9 qyW9 qzx9 qyz9 qyE9 qyD9 qyF9 qzv9 qAv9 qAu9 qBr9 qBw9 qAT9 qrY9 qqd9 qrw9 qry9 qqA9 qrz9 qqt9 qrm9 qrH9 quq9 qut9 quS9 qve9 quu9 quW9 quZ9 quG9 qtX9 qqL9 qqh9 qrO9 qqO9 qqK9 qrr9 qpU9 qrW9 qqC9 qsq9 qsG9 qsw9 qsK9 qsT9 qsb9 qsC9 qsg9 qsX9 qvd9 quY9 qum9 qui9 qun9 qvk9 quX9 qtJ9 quz9 quU9 qtM9 qul9 qub9 quH9 quP9 quD9 qtU9 qtT9 qAj9 qBH9 qBC9 qBG9 qBE9 qBD9 qBz9 qBB9 qBA9 qzL9 qyB9 qyJ9 qzD9 qyy9 qzr9 qzj9 qyO9 intD boolD strD ifD lsD ar2D ar3D bxD qb9 qd9 qf9 qp9 qc9 qbj9
end Ld

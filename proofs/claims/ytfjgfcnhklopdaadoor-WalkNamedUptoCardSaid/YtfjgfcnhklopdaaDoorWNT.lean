import Derived.Test.YtfjgfcnhklopdaaDoorAbs38
set_option maxHeartbeats 400000
set_option linter.unusedVariables false
set_option linter.unusedSimpArgs false
namespace Ld
open Go Go.Abs
structure Symbol where
  Name : ByteArray
  Arity : Int
  deriving DecidableEq
def qb9 (x : Symbol) : List D := [.v (.string x.Name), .v (.int .i64 x.Arity)]
def qjn9 (x : Symbol) : Prop := (okI .i64) x.Arity
structure Rule where
  L : List Int
  R : List Int
  deriving DecidableEq
def qd9 (x : Rule) : List D := [.rd (x.L.map intD), .rd (x.R.map intD)]
def qly9 (x : Rule) : Prop := (okL (okI .i64)) x.L ∧ (okL (okI .i64)) x.R
structure System where
  Sig : List Symbol
  Rules : List Rule
  deriving DecidableEq
def qg9 (x : System) : List D := [.rd (x.Sig.map qb9), .rd (x.Rules.map qd9)]
def qkV9 (x : System) : Prop := (okL qjn9) x.Sig ∧ (okL qly9) x.Rules
structure Redex where
  At : Int
  Rule : Int
  deriving DecidableEq
def qo9 (x : Redex) : List D := [.v (.int .i64 x.At), .v (.int .i64 x.Rule)]
def qwW9 (x : Redex) : Prop := (okI .i64) x.At ∧ (okI .i64) x.Rule
structure Walk where
  Steps : List Redex
  End : List Int
  Normal : Bool
  deriving DecidableEq
def qP9 (x : Walk) : List D := [.rd (x.Steps.map qo9), .rd (x.End.map intD), .v (.bool x.Normal)]
def qAc9 (x : Walk) : Prop := (okL qwW9) x.Steps ∧ (okL (okI .i64)) x.End
structure Bind where
  Var : Int
  T : List Int
  deriving DecidableEq
def qc9 (x : Bind) : List D := [.v (.int .i64 x.Var), .rd (x.T.map intD)]
def qAd9 (x : Bind) : Prop := (okI .i64) x.Var ∧ (okL (okI .i64)) x.T
theorem qxL9 {h : AHeap} {l : List (Int)} {k : IntKind} {n : Int} : ixA h 1 (.d (.rd (l.map intD))) (.d (.v (.int k n))) = (idx l n).map fun a => .d (.bx (intD a)) := qfc9 (f := intD) (fun _ => rfl)
theorem qxk9 {h : AHeap} {l : List (Int)} {i k : Int} {a b : IntKind} : cutA 1 h (.d (.rd (l.map intD))) (some (.d (.v (.int a i)))) (some (.d (.v (.int b k)))) = (cutL l i k).map fun l => .d (.rd (l.map intD)) := qdA9 (f := intD) (fun _ => rfl)
theorem qya9 {h : AHeap} {l : List (Int)} {k : Int} {b : IntKind} : cutA 1 h (.d (.rd (l.map intD))) none (some (.d (.v (.int b k)))) = (cutL l 0 k).map fun l => .d (.rd (l.map intD)) := qcs9 (f := intD) (fun _ => rfl)
theorem qxX9 {h : AHeap} {l : List (Int)} {i : Int} {a : IntKind} : cutA 1 h (.d (.rd (l.map intD))) (some (.d (.v (.int a i)))) none = (cutL l i (l.length : Int)).map fun l => .d (.rd (l.map intD)) := qcl9 (f := intD) (fun _ => rfl)
theorem qxn9 {l : List (Int)} : (rowP intD l).all (fun cs => cs.length == 1) = true := qcC9 (f := intD) (fun _ => rfl)
theorem qxm9 {a : Int} {l : List (Int)} {r : List (List PV)} : rowP intD l ++ ([.d (.v (.int .i64 a))] :: r) = rowP intD (l ++ [a]) ++ r := qcB9 (f := intD) (a := a) rfl
theorem qyr9 {a : Int} {l : List (Int)} {i : Nat} : (rowP intD l).set i [.d (.v (.int .i64 a))] = rowP intD (l.set i a) := qdc9 (f := intD) (a := a) rfl
theorem qyq9 {a : Int} {k : Int} {l : List (Int × (Int))} : putP (.int .i64 k) (.d (.v (.int .i64 a))) (mapP keyI intD l) = some (mapP keyI intD (mset l k a)) := qcZ9 (f := intD) (v := a) rfl
theorem qxB9 {a : Int} {n : Nat} : List.replicate n [.d (.v (.int .i64 a))] = rowP intD (List.replicate n a) := qdm9 (f := intD) (a := a) rfl
theorem qwp9 {h : AHeap} {l : List (Bool)} {k : IntKind} {n : Int} : ixA h 1 (.d (.rd (l.map boolD))) (.d (.v (.int k n))) = (idx l n).map fun a => .d (.bx (boolD a)) := qfc9 (f := boolD) (fun _ => rfl)
theorem qvF9 {h : AHeap} {l : List (Bool)} {i k : Int} {a b : IntKind} : cutA 1 h (.d (.rd (l.map boolD))) (some (.d (.v (.int a i)))) (some (.d (.v (.int b k)))) = (cutL l i k).map fun l => .d (.rd (l.map boolD)) := qdA9 (f := boolD) (fun _ => rfl)
theorem qvy9 {h : AHeap} {l : List (Bool)} {k : Int} {b : IntKind} : cutA 1 h (.d (.rd (l.map boolD))) none (some (.d (.v (.int b k)))) = (cutL l 0 k).map fun l => .d (.rd (l.map boolD)) := qcs9 (f := boolD) (fun _ => rfl)
theorem qwK9 {h : AHeap} {l : List (Bool)} {i : Int} {a : IntKind} : cutA 1 h (.d (.rd (l.map boolD))) (some (.d (.v (.int a i)))) none = (cutL l i (l.length : Int)).map fun l => .d (.rd (l.map boolD)) := qcl9 (f := boolD) (fun _ => rfl)
theorem qvV9 {l : List (Bool)} : (rowP boolD l).all (fun cs => cs.length == 1) = true := qcC9 (f := boolD) (fun _ => rfl)
theorem qvW9 {a : Bool} {l : List (Bool)} {r : List (List PV)} : rowP boolD l ++ ([.d (.v (.bool a))] :: r) = rowP boolD (l ++ [a]) ++ r := qcB9 (f := boolD) (a := a) rfl
theorem qwm9 {a : Bool} {l : List (Bool)} {i : Nat} : (rowP boolD l).set i [.d (.v (.bool a))] = rowP boolD (l.set i a) := qdc9 (f := boolD) (a := a) rfl
theorem qvS9 {a : Bool} {k : Int} {l : List (Int × (Bool))} : putP (.int .i64 k) (.d (.v (.bool a))) (mapP keyI boolD l) = some (mapP keyI boolD (mset l k a)) := qcZ9 (f := boolD) (v := a) rfl
theorem qvq9 {a : Bool} {n : Nat} : List.replicate n [.d (.v (.bool a))] = rowP boolD (List.replicate n a) := qdm9 (f := boolD) (a := a) rfl
theorem qyz9 {h : AHeap} {l : List (ByteArray)} {k : IntKind} {n : Int} : ixA h 1 (.d (.rd (l.map strD))) (.d (.v (.int k n))) = (idx l n).map fun a => .d (.bx (strD a)) := qfc9 (f := strD) (fun _ => rfl)
theorem qyh9 {h : AHeap} {l : List (ByteArray)} {i k : Int} {a b : IntKind} : cutA 1 h (.d (.rd (l.map strD))) (some (.d (.v (.int a i)))) (some (.d (.v (.int b k)))) = (cutL l i k).map fun l => .d (.rd (l.map strD)) := qdA9 (f := strD) (fun _ => rfl)
theorem qxF9 {h : AHeap} {l : List (ByteArray)} {k : Int} {b : IntKind} : cutA 1 h (.d (.rd (l.map strD))) none (some (.d (.v (.int b k)))) = (cutL l 0 k).map fun l => .d (.rd (l.map strD)) := qcs9 (f := strD) (fun _ => rfl)
theorem qwT9 {h : AHeap} {l : List (ByteArray)} {i : Int} {a : IntKind} : cutA 1 h (.d (.rd (l.map strD))) (some (.d (.v (.int a i)))) none = (cutL l i (l.length : Int)).map fun l => .d (.rd (l.map strD)) := qcl9 (f := strD) (fun _ => rfl)
theorem qyp9 {l : List (ByteArray)} : (rowP strD l).all (fun cs => cs.length == 1) = true := qcC9 (f := strD) (fun _ => rfl)
theorem qwS9 {a : ByteArray} {l : List (ByteArray)} {r : List (List PV)} : rowP strD l ++ ([.d (.v (.string a))] :: r) = rowP strD (l ++ [a]) ++ r := qcB9 (f := strD) (a := a) rfl
theorem qyd9 {a : ByteArray} {l : List (ByteArray)} {i : Nat} : (rowP strD l).set i [.d (.v (.string a))] = rowP strD (l.set i a) := qdc9 (f := strD) (a := a) rfl
theorem qxM9 {a : ByteArray} {k : Int} {l : List (Int × (ByteArray))} : putP (.int .i64 k) (.d (.v (.string a))) (mapP keyI strD l) = some (mapP keyI strD (mset l k a)) := qcZ9 (f := strD) (v := a) rfl
theorem qxH9 {a : ByteArray} {n : Nat} : List.replicate n [.d (.v (.string a))] = rowP strD (List.replicate n a) := qdm9 (f := strD) (a := a) rfl
theorem qzs9 {h : AHeap} {l : List (D)} {k : IntKind} {n : Int} : ixA h 1 (.d (.rd (l.map ifD))) (.d (.v (.int k n))) = (idx l n).map fun a => .d (.bx (ifD a)) := qfc9 (f := ifD) (fun _ => rfl)
theorem qyF9 {h : AHeap} {l : List (D)} {i k : Int} {a b : IntKind} : cutA 1 h (.d (.rd (l.map ifD))) (some (.d (.v (.int a i)))) (some (.d (.v (.int b k)))) = (cutL l i k).map fun l => .d (.rd (l.map ifD)) := qdA9 (f := ifD) (fun _ => rfl)
theorem qyM9 {h : AHeap} {l : List (D)} {k : Int} {b : IntKind} : cutA 1 h (.d (.rd (l.map ifD))) none (some (.d (.v (.int b k)))) = (cutL l 0 k).map fun l => .d (.rd (l.map ifD)) := qcs9 (f := ifD) (fun _ => rfl)
theorem qza9 {h : AHeap} {l : List (D)} {i : Int} {a : IntKind} : cutA 1 h (.d (.rd (l.map ifD))) (some (.d (.v (.int a i)))) none = (cutL l i (l.length : Int)).map fun l => .d (.rd (l.map ifD)) := qcl9 (f := ifD) (fun _ => rfl)
theorem qzx9 {l : List (D)} : (rowP ifD l).all (fun cs => cs.length == 1) = true := qcC9 (f := ifD) (fun _ => rfl)
theorem qqh9 {h : AHeap} {l : List (Symbol)} {k : IntKind} {n : Int} : ixA h 2 (.d (.rd (l.map qb9))) (.d (.v (.int k n))) = (idx l n).map fun a => .d (.bx (qb9 a)) := qfc9 (f := qb9) (fun _ => rfl)
theorem qqi9 {h : AHeap} {l : List (Symbol)} {i k : Int} {a b : IntKind} : cutA 2 h (.d (.rd (l.map qb9))) (some (.d (.v (.int a i)))) (some (.d (.v (.int b k)))) = (cutL l i k).map fun l => .d (.rd (l.map qb9)) := qdA9 (f := qb9) (fun _ => rfl)
theorem qqp9 {h : AHeap} {l : List (Symbol)} {k : Int} {b : IntKind} : cutA 2 h (.d (.rd (l.map qb9))) none (some (.d (.v (.int b k)))) = (cutL l 0 k).map fun l => .d (.rd (l.map qb9)) := qcs9 (f := qb9) (fun _ => rfl)
theorem qoM9 {h : AHeap} {l : List (Symbol)} {i : Int} {a : IntKind} : cutA 2 h (.d (.rd (l.map qb9))) (some (.d (.v (.int a i)))) none = (cutL l i (l.length : Int)).map fun l => .d (.rd (l.map qb9)) := qcl9 (f := qb9) (fun _ => rfl)
theorem qoG9 {l : List (Symbol)} : (rowP qb9 l).all (fun cs => cs.length == 2) = true := qcC9 (f := qb9) (fun _ => rfl)
theorem qpM9 {y0 : ByteArray} {y1 : Int} {l : List (Symbol)} {r : List (List PV)} : rowP qb9 l ++ ([.d (.v (.string y0)), .d (.v (.int .i64 y1))] :: r) = rowP qb9 (l ++ [(Symbol.mk y0 y1)]) ++ r := qcB9 (f := qb9) (a := (Symbol.mk y0 y1)) rfl
theorem qoe9 {y0 : ByteArray} {y1 : Int} {l : List (Symbol)} {i : Nat} : (rowP qb9 l).set i [.d (.v (.string y0)), .d (.v (.int .i64 y1))] = rowP qb9 (l.set i (Symbol.mk y0 y1)) := qdc9 (f := qb9) (a := (Symbol.mk y0 y1)) rfl
theorem qok9 {y0 : ByteArray} {y1 : Int} {k : Int} {l : List (Int × (Symbol))} : putP (.int .i64 k) (.ag [.d (.v (.string y0)), .d (.v (.int .i64 y1))]) (mapP keyI qb9 l) = some (mapP keyI qb9 (mset l k (Symbol.mk y0 y1))) := qcZ9 (f := qb9) (v := (Symbol.mk y0 y1)) rfl
theorem qpz9 {y0 : ByteArray} {y1 : Int} {n : Nat} : List.replicate n [.d (.v (.string y0)), .d (.v (.int .i64 y1))] = rowP qb9 (List.replicate n (Symbol.mk y0 y1)) := qdm9 (f := qb9) (a := (Symbol.mk y0 y1)) rfl
theorem qsj9 {h : AHeap} {l : List (Rule)} {k : IntKind} {n : Int} : ixA h 2 (.d (.rd (l.map qd9))) (.d (.v (.int k n))) = (idx l n).map fun a => .d (.bx (qd9 a)) := qfc9 (f := qd9) (fun _ => rfl)
theorem qsV9 {h : AHeap} {l : List (Rule)} {i k : Int} {a b : IntKind} : cutA 2 h (.d (.rd (l.map qd9))) (some (.d (.v (.int a i)))) (some (.d (.v (.int b k)))) = (cutL l i k).map fun l => .d (.rd (l.map qd9)) := qdA9 (f := qd9) (fun _ => rfl)
theorem qtk9 {h : AHeap} {l : List (Rule)} {k : Int} {b : IntKind} : cutA 2 h (.d (.rd (l.map qd9))) none (some (.d (.v (.int b k)))) = (cutL l 0 k).map fun l => .d (.rd (l.map qd9)) := qcs9 (f := qd9) (fun _ => rfl)
theorem qsA9 {h : AHeap} {l : List (Rule)} {i : Int} {a : IntKind} : cutA 2 h (.d (.rd (l.map qd9))) (some (.d (.v (.int a i)))) none = (cutL l i (l.length : Int)).map fun l => .d (.rd (l.map qd9)) := qcl9 (f := qd9) (fun _ => rfl)
theorem qsO9 {l : List (Rule)} : (rowP qd9 l).all (fun cs => cs.length == 2) = true := qcC9 (f := qd9) (fun _ => rfl)
theorem qts9 {y0 : List Int} {y1 : List Int} {l : List (Rule)} {r : List (List PV)} : rowP qd9 l ++ ([.d (.rd (y0.map intD)), .d (.rd (y1.map intD))] :: r) = rowP qd9 (l ++ [(Rule.mk y0 y1)]) ++ r := qcB9 (f := qd9) (a := (Rule.mk y0 y1)) rfl
theorem qse9 {y0 : List Int} {y1 : List Int} {l : List (Rule)} {i : Nat} : (rowP qd9 l).set i [.d (.rd (y0.map intD)), .d (.rd (y1.map intD))] = rowP qd9 (l.set i (Rule.mk y0 y1)) := qdc9 (f := qd9) (a := (Rule.mk y0 y1)) rfl
theorem qto9 {y0 : List Int} {y1 : List Int} {k : Int} {l : List (Int × (Rule))} : putP (.int .i64 k) (.ag [.d (.rd (y0.map intD)), .d (.rd (y1.map intD))]) (mapP keyI qd9 l) = some (mapP keyI qd9 (mset l k (Rule.mk y0 y1))) := qcZ9 (f := qd9) (v := (Rule.mk y0 y1)) rfl
theorem qtl9 {y0 : List Int} {y1 : List Int} {n : Nat} : List.replicate n [.d (.rd (y0.map intD)), .d (.rd (y1.map intD))] = rowP qd9 (List.replicate n (Rule.mk y0 y1)) := qdm9 (f := qd9) (a := (Rule.mk y0 y1)) rfl
theorem qpV9 {h : AHeap} {l : List (System)} {k : IntKind} {n : Int} : ixA h 2 (.d (.rd (l.map qg9))) (.d (.v (.int k n))) = (idx l n).map fun a => .d (.bx (qg9 a)) := qfc9 (f := qg9) (fun _ => rfl)
theorem qpL9 {h : AHeap} {l : List (System)} {i k : Int} {a b : IntKind} : cutA 2 h (.d (.rd (l.map qg9))) (some (.d (.v (.int a i)))) (some (.d (.v (.int b k)))) = (cutL l i k).map fun l => .d (.rd (l.map qg9)) := qdA9 (f := qg9) (fun _ => rfl)
theorem qqq9 {h : AHeap} {l : List (System)} {k : Int} {b : IntKind} : cutA 2 h (.d (.rd (l.map qg9))) none (some (.d (.v (.int b k)))) = (cutL l 0 k).map fun l => .d (.rd (l.map qg9)) := qcs9 (f := qg9) (fun _ => rfl)
theorem qow9 {h : AHeap} {l : List (System)} {i : Int} {a : IntKind} : cutA 2 h (.d (.rd (l.map qg9))) (some (.d (.v (.int a i)))) none = (cutL l i (l.length : Int)).map fun l => .d (.rd (l.map qg9)) := qcl9 (f := qg9) (fun _ => rfl)
theorem qoA9 {l : List (System)} : (rowP qg9 l).all (fun cs => cs.length == 2) = true := qcC9 (f := qg9) (fun _ => rfl)
theorem qpx9 {y0 : List Symbol} {y1 : List Rule} {l : List (System)} {r : List (List PV)} : rowP qg9 l ++ ([.d (.rd (y0.map qb9)), .d (.rd (y1.map qd9))] :: r) = rowP qg9 (l ++ [(System.mk y0 y1)]) ++ r := qcB9 (f := qg9) (a := (System.mk y0 y1)) rfl
theorem qpv9 {y0 : List Symbol} {y1 : List Rule} {l : List (System)} {i : Nat} : (rowP qg9 l).set i [.d (.rd (y0.map qb9)), .d (.rd (y1.map qd9))] = rowP qg9 (l.set i (System.mk y0 y1)) := qdc9 (f := qg9) (a := (System.mk y0 y1)) rfl
theorem qoT9 {y0 : List Symbol} {y1 : List Rule} {k : Int} {l : List (Int × (System))} : putP (.int .i64 k) (.ag [.d (.rd (y0.map qb9)), .d (.rd (y1.map qd9))]) (mapP keyI qg9 l) = some (mapP keyI qg9 (mset l k (System.mk y0 y1))) := qcZ9 (f := qg9) (v := (System.mk y0 y1)) rfl
theorem qpX9 {y0 : List Symbol} {y1 : List Rule} {n : Nat} : List.replicate n [.d (.rd (y0.map qb9)), .d (.rd (y1.map qd9))] = rowP qg9 (List.replicate n (System.mk y0 y1)) := qdm9 (f := qg9) (a := (System.mk y0 y1)) rfl
theorem qqH9 {h : AHeap} {l : List (Redex)} {k : IntKind} {n : Int} : ixA h 2 (.d (.rd (l.map qo9))) (.d (.v (.int k n))) = (idx l n).map fun a => .d (.bx (qo9 a)) := qfc9 (f := qo9) (fun _ => rfl)
theorem qrq9 {h : AHeap} {l : List (Redex)} {i k : Int} {a b : IntKind} : cutA 2 h (.d (.rd (l.map qo9))) (some (.d (.v (.int a i)))) (some (.d (.v (.int b k)))) = (cutL l i k).map fun l => .d (.rd (l.map qo9)) := qdA9 (f := qo9) (fun _ => rfl)
theorem qqF9 {h : AHeap} {l : List (Redex)} {k : Int} {b : IntKind} : cutA 2 h (.d (.rd (l.map qo9))) none (some (.d (.v (.int b k)))) = (cutL l 0 k).map fun l => .d (.rd (l.map qo9)) := qcs9 (f := qo9) (fun _ => rfl)
theorem qqt9 {h : AHeap} {l : List (Redex)} {i : Int} {a : IntKind} : cutA 2 h (.d (.rd (l.map qo9))) (some (.d (.v (.int a i)))) none = (cutL l i (l.length : Int)).map fun l => .d (.rd (l.map qo9)) := qcl9 (f := qo9) (fun _ => rfl)
theorem qrv9 {l : List (Redex)} : (rowP qo9 l).all (fun cs => cs.length == 2) = true := qcC9 (f := qo9) (fun _ => rfl)
theorem qqL9 {y0 : Int} {y1 : Int} {l : List (Redex)} {r : List (List PV)} : rowP qo9 l ++ ([.d (.v (.int .i64 y0)), .d (.v (.int .i64 y1))] :: r) = rowP qo9 (l ++ [(Redex.mk y0 y1)]) ++ r := qcB9 (f := qo9) (a := (Redex.mk y0 y1)) rfl
theorem qqN9 {y0 : Int} {y1 : Int} {l : List (Redex)} {i : Nat} : (rowP qo9 l).set i [.d (.v (.int .i64 y0)), .d (.v (.int .i64 y1))] = rowP qo9 (l.set i (Redex.mk y0 y1)) := qdc9 (f := qo9) (a := (Redex.mk y0 y1)) rfl
theorem qqI9 {y0 : Int} {y1 : Int} {k : Int} {l : List (Int × (Redex))} : putP (.int .i64 k) (.ag [.d (.v (.int .i64 y0)), .d (.v (.int .i64 y1))]) (mapP keyI qo9 l) = some (mapP keyI qo9 (mset l k (Redex.mk y0 y1))) := qcZ9 (f := qo9) (v := (Redex.mk y0 y1)) rfl
theorem qqQ9 {y0 : Int} {y1 : Int} {n : Nat} : List.replicate n [.d (.v (.int .i64 y0)), .d (.v (.int .i64 y1))] = rowP qo9 (List.replicate n (Redex.mk y0 y1)) := qdm9 (f := qo9) (a := (Redex.mk y0 y1)) rfl
theorem qsu9 {h : AHeap} {l : List (Walk)} {k : IntKind} {n : Int} : ixA h 3 (.d (.rd (l.map qP9))) (.d (.v (.int k n))) = (idx l n).map fun a => .d (.bx (qP9 a)) := qfc9 (f := qP9) (fun _ => rfl)
theorem qsH9 {h : AHeap} {l : List (Walk)} {i k : Int} {a b : IntKind} : cutA 3 h (.d (.rd (l.map qP9))) (some (.d (.v (.int a i)))) (some (.d (.v (.int b k)))) = (cutL l i k).map fun l => .d (.rd (l.map qP9)) := qdA9 (f := qP9) (fun _ => rfl)
theorem qtz9 {h : AHeap} {l : List (Walk)} {k : Int} {b : IntKind} : cutA 3 h (.d (.rd (l.map qP9))) none (some (.d (.v (.int b k)))) = (cutL l 0 k).map fun l => .d (.rd (l.map qP9)) := qcs9 (f := qP9) (fun _ => rfl)
theorem qtC9 {h : AHeap} {l : List (Walk)} {i : Int} {a : IntKind} : cutA 3 h (.d (.rd (l.map qP9))) (some (.d (.v (.int a i)))) none = (cutL l i (l.length : Int)).map fun l => .d (.rd (l.map qP9)) := qcl9 (f := qP9) (fun _ => rfl)
theorem qsX9 {l : List (Walk)} : (rowP qP9 l).all (fun cs => cs.length == 3) = true := qcC9 (f := qP9) (fun _ => rfl)
theorem qsY9 {y0 : List Redex} {y1 : List Int} {y2 : Bool} {l : List (Walk)} {r : List (List PV)} : rowP qP9 l ++ ([.d (.rd (y0.map qo9)), .d (.rd (y1.map intD)), .d (.v (.bool y2))] :: r) = rowP qP9 (l ++ [(Walk.mk y0 y1 y2)]) ++ r := qcB9 (f := qP9) (a := (Walk.mk y0 y1 y2)) rfl
theorem qtg9 {y0 : List Redex} {y1 : List Int} {y2 : Bool} {l : List (Walk)} {i : Nat} : (rowP qP9 l).set i [.d (.rd (y0.map qo9)), .d (.rd (y1.map intD)), .d (.v (.bool y2))] = rowP qP9 (l.set i (Walk.mk y0 y1 y2)) := qdc9 (f := qP9) (a := (Walk.mk y0 y1 y2)) rfl
theorem qtB9 {y0 : List Redex} {y1 : List Int} {y2 : Bool} {k : Int} {l : List (Int × (Walk))} : putP (.int .i64 k) (.ag [.d (.rd (y0.map qo9)), .d (.rd (y1.map intD)), .d (.v (.bool y2))]) (mapP keyI qP9 l) = some (mapP keyI qP9 (mset l k (Walk.mk y0 y1 y2))) := qcZ9 (f := qP9) (v := (Walk.mk y0 y1 y2)) rfl
theorem qsy9 {y0 : List Redex} {y1 : List Int} {y2 : Bool} {n : Nat} : List.replicate n [.d (.rd (y0.map qo9)), .d (.rd (y1.map intD)), .d (.v (.bool y2))] = rowP qP9 (List.replicate n (Walk.mk y0 y1 y2)) := qdm9 (f := qP9) (a := (Walk.mk y0 y1 y2)) rfl
theorem qtF9 {h : AHeap} {l : List (Bind)} {k : IntKind} {n : Int} : ixA h 2 (.d (.rd (l.map qc9))) (.d (.v (.int k n))) = (idx l n).map fun a => .d (.bx (qc9 a)) := qfc9 (f := qc9) (fun _ => rfl)
theorem qtc9 {h : AHeap} {l : List (Bind)} {i k : Int} {a b : IntKind} : cutA 2 h (.d (.rd (l.map qc9))) (some (.d (.v (.int a i)))) (some (.d (.v (.int b k)))) = (cutL l i k).map fun l => .d (.rd (l.map qc9)) := qdA9 (f := qc9) (fun _ => rfl)
theorem qsJ9 {h : AHeap} {l : List (Bind)} {k : Int} {b : IntKind} : cutA 2 h (.d (.rd (l.map qc9))) none (some (.d (.v (.int b k)))) = (cutL l 0 k).map fun l => .d (.rd (l.map qc9)) := qcs9 (f := qc9) (fun _ => rfl)
theorem qte9 {h : AHeap} {l : List (Bind)} {i : Int} {a : IntKind} : cutA 2 h (.d (.rd (l.map qc9))) (some (.d (.v (.int a i)))) none = (cutL l i (l.length : Int)).map fun l => .d (.rd (l.map qc9)) := qcl9 (f := qc9) (fun _ => rfl)
theorem qtv9 {l : List (Bind)} : (rowP qc9 l).all (fun cs => cs.length == 2) = true := qcC9 (f := qc9) (fun _ => rfl)
theorem qtD9 {y0 : Int} {y1 : List Int} {l : List (Bind)} {r : List (List PV)} : rowP qc9 l ++ ([.d (.v (.int .i64 y0)), .d (.rd (y1.map intD))] :: r) = rowP qc9 (l ++ [(Bind.mk y0 y1)]) ++ r := qcB9 (f := qc9) (a := (Bind.mk y0 y1)) rfl
theorem qsQ9 {y0 : Int} {y1 : List Int} {l : List (Bind)} {i : Nat} : (rowP qc9 l).set i [.d (.v (.int .i64 y0)), .d (.rd (y1.map intD))] = rowP qc9 (l.set i (Bind.mk y0 y1)) := qdc9 (f := qc9) (a := (Bind.mk y0 y1)) rfl
theorem qsl9 {y0 : Int} {y1 : List Int} {k : Int} {l : List (Int × (Bind))} : putP (.int .i64 k) (.ag [.d (.v (.int .i64 y0)), .d (.rd (y1.map intD))]) (mapP keyI qc9 l) = some (mapP keyI qc9 (mset l k (Bind.mk y0 y1))) := qcZ9 (f := qc9) (v := (Bind.mk y0 y1)) rfl
theorem qsF9 {y0 : Int} {y1 : List Int} {n : Nat} : List.replicate n [.d (.v (.int .i64 y0)), .d (.rd (y1.map intD))] = rowP qc9 (List.replicate n (Bind.mk y0 y1)) := qdm9 (f := qc9) (a := (Bind.mk y0 y1)) rfl
theorem qtf9 {h : AHeap} {l : List (Int)} {k : IntKind} {n : Int} : ixA h 1 (.d (.rd (l.map qbf9))) (.d (.v (.int k n))) = (idx l n).map fun a => .d (.bx (qbf9 a)) := qfc9 (f := qbf9) (fun _ => rfl)
theorem qsh9 {h : AHeap} {l : List (Int)} {i k : Int} {a b : IntKind} : cutA 1 h (.d (.rd (l.map qbf9))) (some (.d (.v (.int a i)))) (some (.d (.v (.int b k)))) = (cutL l i k).map fun l => .d (.rd (l.map qbf9)) := qdA9 (f := qbf9) (fun _ => rfl)
theorem qss9 {h : AHeap} {l : List (Int)} {k : Int} {b : IntKind} : cutA 1 h (.d (.rd (l.map qbf9))) none (some (.d (.v (.int b k)))) = (cutL l 0 k).map fun l => .d (.rd (l.map qbf9)) := qcs9 (f := qbf9) (fun _ => rfl)
theorem qtx9 {h : AHeap} {l : List (Int)} {i : Int} {a : IntKind} : cutA 1 h (.d (.rd (l.map qbf9))) (some (.d (.v (.int a i)))) none = (cutL l i (l.length : Int)).map fun l => .d (.rd (l.map qbf9)) := qcl9 (f := qbf9) (fun _ => rfl)
theorem qsM9 {l : List (Int)} : (rowP qbf9 l).all (fun cs => cs.length == 1) = true := qcC9 (f := qbf9) (fun _ => rfl)
theorem qtj9 {a : Int} {l : List (Int)} {r : List (List PV)} : rowP qbf9 l ++ ([.d (.v (.int .u32 a))] :: r) = rowP qbf9 (l ++ [a]) ++ r := qcB9 (f := qbf9) (a := a) rfl
theorem qsC9 {a : Int} {l : List (Int)} {i : Nat} : (rowP qbf9 l).set i [.d (.v (.int .u32 a))] = rowP qbf9 (l.set i a) := qdc9 (f := qbf9) (a := a) rfl
theorem qsn9 {a : Int} {k : Int} {l : List (Int × (Int))} : putP (.int .i64 k) (.d (.v (.int .u32 a))) (mapP keyI qbf9 l) = some (mapP keyI qbf9 (mset l k a)) := qcZ9 (f := qbf9) (v := a) rfl
theorem qtm9 {a : Int} {n : Nat} : List.replicate n [.d (.v (.int .u32 a))] = rowP qbf9 (List.replicate n a) := qdm9 (f := qbf9) (a := a) rfl
theorem qzo9 {h : AHeap} {c : List D} : elems h (.d (.rd [c])) = some [c.map PV.d] := by simp [elems]
section
variable {α : Type} {f : α → List D} {h : AHeap}
theorem qzW9 {l : List (List α)} {k : IntKind} {n : Int} : ixA h 1 (.d (.rd (l.map (lsD f)))) (.d (.v (.int k n))) = (idx l n).map fun a => .d (.bx ((lsD f) a)) := qfc9 (f := (lsD f)) (fun _ => rfl)
theorem qzR9 {l : List (List α)} {i k : Int} {a b : IntKind} : cutA 1 h (.d (.rd (l.map (lsD f)))) (some (.d (.v (.int a i)))) (some (.d (.v (.int b k)))) = (cutL l i k).map fun l => .d (.rd (l.map (lsD f))) := qdA9 (f := (lsD f)) (fun _ => rfl)
theorem qzX9 {l : List (List α)} {k : Int} {b : IntKind} : cutA 1 h (.d (.rd (l.map (lsD f)))) none (some (.d (.v (.int b k)))) = (cutL l 0 k).map fun l => .d (.rd (l.map (lsD f))) := qcs9 (f := (lsD f)) (fun _ => rfl)
theorem qzU9 {l : List (List α)} {i : Int} {a : IntKind} : cutA 1 h (.d (.rd (l.map (lsD f)))) (some (.d (.v (.int a i)))) none = (cutL l i (l.length : Int)).map fun l => .d (.rd (l.map (lsD f))) := qcl9 (f := (lsD f)) (fun _ => rfl)
theorem qzQ9 {l : List (List α)} : (rowP (lsD f) l).all (fun cs => cs.length == 1) = true := qcC9 (f := (lsD f)) (fun _ => rfl)
theorem qzT9 {a : List α} {l : List (List α)} {r : List (List PV)} : rowP (lsD f) l ++ ([.d (.rd (a.map f))] :: r) = rowP (lsD f) (l ++ [a]) ++ r := qcB9 (f := (lsD f)) (a := a) rfl
theorem qzV9 {a : List α} {l : List (List α)} {i : Nat} : (rowP (lsD f) l).set i [.d (.rd (a.map f))] = rowP (lsD f) (l.set i a) := qdc9 (f := (lsD f)) (a := a) rfl
theorem qzY9 {a : List α} {k : Int} {l : List (Int × (List α))} : putP (.int .i64 k) (.d (.rd (a.map f))) (mapP keyI (lsD f) l) = some (mapP keyI (lsD f) (mset l k a)) := qcZ9 (f := (lsD f)) (v := a) rfl
theorem qxl9 {l : List (List (List α))} {k : IntKind} {n : Int} : ixA h 1 (.d (.rd (l.map (lsD (lsD f))))) (.d (.v (.int k n))) = (idx l n).map fun a => .d (.bx ((lsD (lsD f)) a)) := qfc9 (f := (lsD (lsD f))) (fun _ => rfl)
theorem qxK9 {l : List (List (List α))} {i k : Int} {a b : IntKind} : cutA 1 h (.d (.rd (l.map (lsD (lsD f))))) (some (.d (.v (.int a i)))) (some (.d (.v (.int b k)))) = (cutL l i k).map fun l => .d (.rd (l.map (lsD (lsD f)))) := qdA9 (f := (lsD (lsD f))) (fun _ => rfl)
theorem qxc9 {l : List (List (List α))} {k : Int} {b : IntKind} : cutA 1 h (.d (.rd (l.map (lsD (lsD f))))) none (some (.d (.v (.int b k)))) = (cutL l 0 k).map fun l => .d (.rd (l.map (lsD (lsD f)))) := qcs9 (f := (lsD (lsD f))) (fun _ => rfl)
theorem qxD9 {l : List (List (List α))} {i : Int} {a : IntKind} : cutA 1 h (.d (.rd (l.map (lsD (lsD f))))) (some (.d (.v (.int a i)))) none = (cutL l i (l.length : Int)).map fun l => .d (.rd (l.map (lsD (lsD f)))) := qcl9 (f := (lsD (lsD f))) (fun _ => rfl)
theorem qyj9 {l : List (List (List α))} : (rowP (lsD (lsD f)) l).all (fun cs => cs.length == 1) = true := qcC9 (f := (lsD (lsD f))) (fun _ => rfl)
theorem qxj9 {a : List (List α)} {l : List (List (List α))} {r : List (List PV)} : rowP (lsD (lsD f)) l ++ ([.d (.rd (a.map (lsD f)))] :: r) = rowP (lsD (lsD f)) (l ++ [a]) ++ r := qcB9 (f := (lsD (lsD f))) (a := a) rfl
theorem qxd9 {a : List (List α)} {l : List (List (List α))} {i : Nat} : (rowP (lsD (lsD f)) l).set i [.d (.rd (a.map (lsD f)))] = rowP (lsD (lsD f)) (l.set i a) := qdc9 (f := (lsD (lsD f))) (a := a) rfl
theorem qyw9 {a : List (List α)} {k : Int} {l : List (Int × (List (List α)))} : putP (.int .i64 k) (.d (.rd (a.map (lsD f)))) (mapP keyI (lsD (lsD f)) l) = some (mapP keyI (lsD (lsD f)) (mset l k a)) := qcZ9 (f := (lsD (lsD f))) (v := a) rfl
end
attribute [go_sem] qxL9 qxk9 qya9 qxX9 qxn9 qxm9 qyr9 qyq9 qxB9 qwp9 qvF9 qvy9 qwK9 qvV9 qvW9 qwm9 qvS9 qvq9 qyz9 qyh9 qxF9 qwT9 qyp9 qwS9 qyd9 qxM9 qxH9 qzs9 qyF9 qyM9 qza9 qzx9 qqh9 qqi9 qqp9 qoM9 qoG9 qpM9 qoe9 qok9 qpz9 qsj9 qsV9 qtk9 qsA9 qsO9 qts9 qse9 qto9 qtl9 qpV9 qpL9 qqq9 qow9 qoA9 qpx9 qpv9 qoT9 qpX9 qqH9 qrq9 qqF9 qqt9 qrv9 qqL9 qqN9 qqI9 qqQ9 qsu9 qsH9 qtz9 qtC9 qsX9 qsY9 qtg9 qtB9 qsy9 qtF9 qtc9 qsJ9 qte9 qtv9 qtD9 qsQ9 qsl9 qsF9 qtf9 qsh9 qss9 qtx9 qsM9 qtj9 qsC9 qsn9 qtm9 qzo9 qzW9 qzR9 qzX9 qzU9 qzQ9 qzT9 qzV9 qzY9 qxl9 qxK9 qxc9 qxD9 qyj9 qxj9 qxd9 qyw9 intD boolD strD ifD lsD ar2D ar3D bxD qb9 qd9 qg9 qo9 qP9 qc9 qbf9
end Ld

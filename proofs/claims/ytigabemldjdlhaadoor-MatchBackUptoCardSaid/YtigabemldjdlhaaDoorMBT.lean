import Derived.Test.YtigabemldjdlhaaDoorAbs35
set_option maxHeartbeats 400000
set_option linter.unusedVariables false
set_option linter.unusedSimpArgs false
namespace Ld
open Go Go.Abs
structure Symbol where
  Name : ByteArray
  Arity : Int
  deriving DecidableEq
def encSymbol (x : Symbol) : List D := [.v (.string x.Name), .v (.int .i64 x.Arity)]
def okSymbol (x : Symbol) : Prop := (okI .i64) x.Arity
structure Bind where
  Var : Int
  T : List Int
  deriving DecidableEq
def encBind (x : Bind) : List D := [.v (.int .i64 x.Var), .rd (x.T.map intD)]
def okBind (x : Bind) : Prop := (okI .i64) x.Var ∧ (okL (okI .i64)) x.T
structure Rule where
  L : List Int
  R : List Int
  deriving DecidableEq
def encRule (x : Rule) : List D := [.rd (x.L.map intD), .rd (x.R.map intD)]
def okRule (x : Rule) : Prop := (okL (okI .i64)) x.L ∧ (okL (okI .i64)) x.R
theorem ix_intD {h : AHeap} {l : List (Int)} {k : IntKind} {n : Int} : ixA h 1 (.d (.rd (l.map intD))) (.d (.v (.int k n))) = (idx l n).map fun a => .d (.bx (intD a)) := ix_rd (f := intD) (fun _ => rfl)
theorem cu_intD {h : AHeap} {l : List (Int)} {i k : Int} {a b : IntKind} : cutA 1 h (.d (.rd (l.map intD))) (some (.d (.v (.int a i)))) (some (.d (.v (.int b k)))) = (cutL l i k).map fun l => .d (.rd (l.map intD)) := cut_rd (f := intD) (fun _ => rfl)
theorem cl_intD {h : AHeap} {l : List (Int)} {k : Int} {b : IntKind} : cutA 1 h (.d (.rd (l.map intD))) none (some (.d (.v (.int b k)))) = (cutL l 0 k).map fun l => .d (.rd (l.map intD)) := cut_rd_lo (f := intD) (fun _ => rfl)
theorem ch_intD {h : AHeap} {l : List (Int)} {i : Int} {a : IntKind} : cutA 1 h (.d (.rd (l.map intD))) (some (.d (.v (.int a i)))) none = (cutL l i (l.length : Int)).map fun l => .d (.rd (l.map intD)) := cut_rd_hi (f := intD) (fun _ => rfl)
theorem al_intD {l : List (Int)} : (rowP intD l).all (fun cs => cs.length == 1) = true := all_rowP (f := intD) (fun _ => rfl)
theorem sn_intD {a : Int} {l : List (Int)} {r : List (List PV)} : rowP intD l ++ ([.d (.v (.int .i64 a))] :: r) = rowP intD (l ++ [a]) ++ r := rowP_snoc (f := intD) (a := a) rfl
theorem pu_intD {a : Int} {l : List (Int)} {i : Nat} : (rowP intD l).set i [.d (.v (.int .i64 a))] = rowP intD (l.set i a) := rowP_put (f := intD) (a := a) rfl
theorem pp_intD {a : Int} {k : Int} {l : List (Int × (Int))} : putP (.int .i64 k) (.d (.v (.int .i64 a))) (mapP keyI intD l) = some (mapP keyI intD (mset l k a)) := putP_int (f := intD) (v := a) rfl
theorem mn_intD {a : Int} {n : Nat} : List.replicate n [.d (.v (.int .i64 a))] = rowP intD (List.replicate n a) := rowP_many (f := intD) (a := a) rfl
theorem ix_boolD {h : AHeap} {l : List (Bool)} {k : IntKind} {n : Int} : ixA h 1 (.d (.rd (l.map boolD))) (.d (.v (.int k n))) = (idx l n).map fun a => .d (.bx (boolD a)) := ix_rd (f := boolD) (fun _ => rfl)
theorem cu_boolD {h : AHeap} {l : List (Bool)} {i k : Int} {a b : IntKind} : cutA 1 h (.d (.rd (l.map boolD))) (some (.d (.v (.int a i)))) (some (.d (.v (.int b k)))) = (cutL l i k).map fun l => .d (.rd (l.map boolD)) := cut_rd (f := boolD) (fun _ => rfl)
theorem cl_boolD {h : AHeap} {l : List (Bool)} {k : Int} {b : IntKind} : cutA 1 h (.d (.rd (l.map boolD))) none (some (.d (.v (.int b k)))) = (cutL l 0 k).map fun l => .d (.rd (l.map boolD)) := cut_rd_lo (f := boolD) (fun _ => rfl)
theorem ch_boolD {h : AHeap} {l : List (Bool)} {i : Int} {a : IntKind} : cutA 1 h (.d (.rd (l.map boolD))) (some (.d (.v (.int a i)))) none = (cutL l i (l.length : Int)).map fun l => .d (.rd (l.map boolD)) := cut_rd_hi (f := boolD) (fun _ => rfl)
theorem al_boolD {l : List (Bool)} : (rowP boolD l).all (fun cs => cs.length == 1) = true := all_rowP (f := boolD) (fun _ => rfl)
theorem sn_boolD {a : Bool} {l : List (Bool)} {r : List (List PV)} : rowP boolD l ++ ([.d (.v (.bool a))] :: r) = rowP boolD (l ++ [a]) ++ r := rowP_snoc (f := boolD) (a := a) rfl
theorem pu_boolD {a : Bool} {l : List (Bool)} {i : Nat} : (rowP boolD l).set i [.d (.v (.bool a))] = rowP boolD (l.set i a) := rowP_put (f := boolD) (a := a) rfl
theorem pp_boolD {a : Bool} {k : Int} {l : List (Int × (Bool))} : putP (.int .i64 k) (.d (.v (.bool a))) (mapP keyI boolD l) = some (mapP keyI boolD (mset l k a)) := putP_int (f := boolD) (v := a) rfl
theorem mn_boolD {a : Bool} {n : Nat} : List.replicate n [.d (.v (.bool a))] = rowP boolD (List.replicate n a) := rowP_many (f := boolD) (a := a) rfl
theorem ix_strD {h : AHeap} {l : List (ByteArray)} {k : IntKind} {n : Int} : ixA h 1 (.d (.rd (l.map strD))) (.d (.v (.int k n))) = (idx l n).map fun a => .d (.bx (strD a)) := ix_rd (f := strD) (fun _ => rfl)
theorem cu_strD {h : AHeap} {l : List (ByteArray)} {i k : Int} {a b : IntKind} : cutA 1 h (.d (.rd (l.map strD))) (some (.d (.v (.int a i)))) (some (.d (.v (.int b k)))) = (cutL l i k).map fun l => .d (.rd (l.map strD)) := cut_rd (f := strD) (fun _ => rfl)
theorem cl_strD {h : AHeap} {l : List (ByteArray)} {k : Int} {b : IntKind} : cutA 1 h (.d (.rd (l.map strD))) none (some (.d (.v (.int b k)))) = (cutL l 0 k).map fun l => .d (.rd (l.map strD)) := cut_rd_lo (f := strD) (fun _ => rfl)
theorem ch_strD {h : AHeap} {l : List (ByteArray)} {i : Int} {a : IntKind} : cutA 1 h (.d (.rd (l.map strD))) (some (.d (.v (.int a i)))) none = (cutL l i (l.length : Int)).map fun l => .d (.rd (l.map strD)) := cut_rd_hi (f := strD) (fun _ => rfl)
theorem al_strD {l : List (ByteArray)} : (rowP strD l).all (fun cs => cs.length == 1) = true := all_rowP (f := strD) (fun _ => rfl)
theorem sn_strD {a : ByteArray} {l : List (ByteArray)} {r : List (List PV)} : rowP strD l ++ ([.d (.v (.string a))] :: r) = rowP strD (l ++ [a]) ++ r := rowP_snoc (f := strD) (a := a) rfl
theorem pu_strD {a : ByteArray} {l : List (ByteArray)} {i : Nat} : (rowP strD l).set i [.d (.v (.string a))] = rowP strD (l.set i a) := rowP_put (f := strD) (a := a) rfl
theorem pp_strD {a : ByteArray} {k : Int} {l : List (Int × (ByteArray))} : putP (.int .i64 k) (.d (.v (.string a))) (mapP keyI strD l) = some (mapP keyI strD (mset l k a)) := putP_int (f := strD) (v := a) rfl
theorem mn_strD {a : ByteArray} {n : Nat} : List.replicate n [.d (.v (.string a))] = rowP strD (List.replicate n a) := rowP_many (f := strD) (a := a) rfl
theorem ix_ifD {h : AHeap} {l : List (D)} {k : IntKind} {n : Int} : ixA h 1 (.d (.rd (l.map ifD))) (.d (.v (.int k n))) = (idx l n).map fun a => .d (.bx (ifD a)) := ix_rd (f := ifD) (fun _ => rfl)
theorem cu_ifD {h : AHeap} {l : List (D)} {i k : Int} {a b : IntKind} : cutA 1 h (.d (.rd (l.map ifD))) (some (.d (.v (.int a i)))) (some (.d (.v (.int b k)))) = (cutL l i k).map fun l => .d (.rd (l.map ifD)) := cut_rd (f := ifD) (fun _ => rfl)
theorem cl_ifD {h : AHeap} {l : List (D)} {k : Int} {b : IntKind} : cutA 1 h (.d (.rd (l.map ifD))) none (some (.d (.v (.int b k)))) = (cutL l 0 k).map fun l => .d (.rd (l.map ifD)) := cut_rd_lo (f := ifD) (fun _ => rfl)
theorem ch_ifD {h : AHeap} {l : List (D)} {i : Int} {a : IntKind} : cutA 1 h (.d (.rd (l.map ifD))) (some (.d (.v (.int a i)))) none = (cutL l i (l.length : Int)).map fun l => .d (.rd (l.map ifD)) := cut_rd_hi (f := ifD) (fun _ => rfl)
theorem al_ifD {l : List (D)} : (rowP ifD l).all (fun cs => cs.length == 1) = true := all_rowP (f := ifD) (fun _ => rfl)
theorem ix_encSymbol {h : AHeap} {l : List (Symbol)} {k : IntKind} {n : Int} : ixA h 2 (.d (.rd (l.map encSymbol))) (.d (.v (.int k n))) = (idx l n).map fun a => .d (.bx (encSymbol a)) := ix_rd (f := encSymbol) (fun _ => rfl)
theorem cu_encSymbol {h : AHeap} {l : List (Symbol)} {i k : Int} {a b : IntKind} : cutA 2 h (.d (.rd (l.map encSymbol))) (some (.d (.v (.int a i)))) (some (.d (.v (.int b k)))) = (cutL l i k).map fun l => .d (.rd (l.map encSymbol)) := cut_rd (f := encSymbol) (fun _ => rfl)
theorem cl_encSymbol {h : AHeap} {l : List (Symbol)} {k : Int} {b : IntKind} : cutA 2 h (.d (.rd (l.map encSymbol))) none (some (.d (.v (.int b k)))) = (cutL l 0 k).map fun l => .d (.rd (l.map encSymbol)) := cut_rd_lo (f := encSymbol) (fun _ => rfl)
theorem ch_encSymbol {h : AHeap} {l : List (Symbol)} {i : Int} {a : IntKind} : cutA 2 h (.d (.rd (l.map encSymbol))) (some (.d (.v (.int a i)))) none = (cutL l i (l.length : Int)).map fun l => .d (.rd (l.map encSymbol)) := cut_rd_hi (f := encSymbol) (fun _ => rfl)
theorem al_encSymbol {l : List (Symbol)} : (rowP encSymbol l).all (fun cs => cs.length == 2) = true := all_rowP (f := encSymbol) (fun _ => rfl)
theorem sn_encSymbol {y0 : ByteArray} {y1 : Int} {l : List (Symbol)} {r : List (List PV)} : rowP encSymbol l ++ ([.d (.v (.string y0)), .d (.v (.int .i64 y1))] :: r) = rowP encSymbol (l ++ [(Symbol.mk y0 y1)]) ++ r := rowP_snoc (f := encSymbol) (a := (Symbol.mk y0 y1)) rfl
theorem pu_encSymbol {y0 : ByteArray} {y1 : Int} {l : List (Symbol)} {i : Nat} : (rowP encSymbol l).set i [.d (.v (.string y0)), .d (.v (.int .i64 y1))] = rowP encSymbol (l.set i (Symbol.mk y0 y1)) := rowP_put (f := encSymbol) (a := (Symbol.mk y0 y1)) rfl
theorem pp_encSymbol {y0 : ByteArray} {y1 : Int} {k : Int} {l : List (Int × (Symbol))} : putP (.int .i64 k) (.ag [.d (.v (.string y0)), .d (.v (.int .i64 y1))]) (mapP keyI encSymbol l) = some (mapP keyI encSymbol (mset l k (Symbol.mk y0 y1))) := putP_int (f := encSymbol) (v := (Symbol.mk y0 y1)) rfl
theorem mn_encSymbol {y0 : ByteArray} {y1 : Int} {n : Nat} : List.replicate n [.d (.v (.string y0)), .d (.v (.int .i64 y1))] = rowP encSymbol (List.replicate n (Symbol.mk y0 y1)) := rowP_many (f := encSymbol) (a := (Symbol.mk y0 y1)) rfl
theorem ix_encBind {h : AHeap} {l : List (Bind)} {k : IntKind} {n : Int} : ixA h 2 (.d (.rd (l.map encBind))) (.d (.v (.int k n))) = (idx l n).map fun a => .d (.bx (encBind a)) := ix_rd (f := encBind) (fun _ => rfl)
theorem cu_encBind {h : AHeap} {l : List (Bind)} {i k : Int} {a b : IntKind} : cutA 2 h (.d (.rd (l.map encBind))) (some (.d (.v (.int a i)))) (some (.d (.v (.int b k)))) = (cutL l i k).map fun l => .d (.rd (l.map encBind)) := cut_rd (f := encBind) (fun _ => rfl)
theorem cl_encBind {h : AHeap} {l : List (Bind)} {k : Int} {b : IntKind} : cutA 2 h (.d (.rd (l.map encBind))) none (some (.d (.v (.int b k)))) = (cutL l 0 k).map fun l => .d (.rd (l.map encBind)) := cut_rd_lo (f := encBind) (fun _ => rfl)
theorem ch_encBind {h : AHeap} {l : List (Bind)} {i : Int} {a : IntKind} : cutA 2 h (.d (.rd (l.map encBind))) (some (.d (.v (.int a i)))) none = (cutL l i (l.length : Int)).map fun l => .d (.rd (l.map encBind)) := cut_rd_hi (f := encBind) (fun _ => rfl)
theorem al_encBind {l : List (Bind)} : (rowP encBind l).all (fun cs => cs.length == 2) = true := all_rowP (f := encBind) (fun _ => rfl)
theorem sn_encBind {y0 : Int} {y1 : List Int} {l : List (Bind)} {r : List (List PV)} : rowP encBind l ++ ([.d (.v (.int .i64 y0)), .d (.rd (y1.map intD))] :: r) = rowP encBind (l ++ [(Bind.mk y0 y1)]) ++ r := rowP_snoc (f := encBind) (a := (Bind.mk y0 y1)) rfl
theorem pu_encBind {y0 : Int} {y1 : List Int} {l : List (Bind)} {i : Nat} : (rowP encBind l).set i [.d (.v (.int .i64 y0)), .d (.rd (y1.map intD))] = rowP encBind (l.set i (Bind.mk y0 y1)) := rowP_put (f := encBind) (a := (Bind.mk y0 y1)) rfl
theorem pp_encBind {y0 : Int} {y1 : List Int} {k : Int} {l : List (Int × (Bind))} : putP (.int .i64 k) (.ag [.d (.v (.int .i64 y0)), .d (.rd (y1.map intD))]) (mapP keyI encBind l) = some (mapP keyI encBind (mset l k (Bind.mk y0 y1))) := putP_int (f := encBind) (v := (Bind.mk y0 y1)) rfl
theorem mn_encBind {y0 : Int} {y1 : List Int} {n : Nat} : List.replicate n [.d (.v (.int .i64 y0)), .d (.rd (y1.map intD))] = rowP encBind (List.replicate n (Bind.mk y0 y1)) := rowP_many (f := encBind) (a := (Bind.mk y0 y1)) rfl
theorem ix_encRule {h : AHeap} {l : List (Rule)} {k : IntKind} {n : Int} : ixA h 2 (.d (.rd (l.map encRule))) (.d (.v (.int k n))) = (idx l n).map fun a => .d (.bx (encRule a)) := ix_rd (f := encRule) (fun _ => rfl)
theorem cu_encRule {h : AHeap} {l : List (Rule)} {i k : Int} {a b : IntKind} : cutA 2 h (.d (.rd (l.map encRule))) (some (.d (.v (.int a i)))) (some (.d (.v (.int b k)))) = (cutL l i k).map fun l => .d (.rd (l.map encRule)) := cut_rd (f := encRule) (fun _ => rfl)
theorem cl_encRule {h : AHeap} {l : List (Rule)} {k : Int} {b : IntKind} : cutA 2 h (.d (.rd (l.map encRule))) none (some (.d (.v (.int b k)))) = (cutL l 0 k).map fun l => .d (.rd (l.map encRule)) := cut_rd_lo (f := encRule) (fun _ => rfl)
theorem ch_encRule {h : AHeap} {l : List (Rule)} {i : Int} {a : IntKind} : cutA 2 h (.d (.rd (l.map encRule))) (some (.d (.v (.int a i)))) none = (cutL l i (l.length : Int)).map fun l => .d (.rd (l.map encRule)) := cut_rd_hi (f := encRule) (fun _ => rfl)
theorem al_encRule {l : List (Rule)} : (rowP encRule l).all (fun cs => cs.length == 2) = true := all_rowP (f := encRule) (fun _ => rfl)
theorem sn_encRule {y0 : List Int} {y1 : List Int} {l : List (Rule)} {r : List (List PV)} : rowP encRule l ++ ([.d (.rd (y0.map intD)), .d (.rd (y1.map intD))] :: r) = rowP encRule (l ++ [(Rule.mk y0 y1)]) ++ r := rowP_snoc (f := encRule) (a := (Rule.mk y0 y1)) rfl
theorem pu_encRule {y0 : List Int} {y1 : List Int} {l : List (Rule)} {i : Nat} : (rowP encRule l).set i [.d (.rd (y0.map intD)), .d (.rd (y1.map intD))] = rowP encRule (l.set i (Rule.mk y0 y1)) := rowP_put (f := encRule) (a := (Rule.mk y0 y1)) rfl
theorem pp_encRule {y0 : List Int} {y1 : List Int} {k : Int} {l : List (Int × (Rule))} : putP (.int .i64 k) (.ag [.d (.rd (y0.map intD)), .d (.rd (y1.map intD))]) (mapP keyI encRule l) = some (mapP keyI encRule (mset l k (Rule.mk y0 y1))) := putP_int (f := encRule) (v := (Rule.mk y0 y1)) rfl
theorem mn_encRule {y0 : List Int} {y1 : List Int} {n : Nat} : List.replicate n [.d (.rd (y0.map intD)), .d (.rd (y1.map intD))] = rowP encRule (List.replicate n (Rule.mk y0 y1)) := rowP_many (f := encRule) (a := (Rule.mk y0 y1)) rfl
theorem ix_intu32D {h : AHeap} {l : List (Int)} {k : IntKind} {n : Int} : ixA h 1 (.d (.rd (l.map intu32D))) (.d (.v (.int k n))) = (idx l n).map fun a => .d (.bx (intu32D a)) := ix_rd (f := intu32D) (fun _ => rfl)
theorem cu_intu32D {h : AHeap} {l : List (Int)} {i k : Int} {a b : IntKind} : cutA 1 h (.d (.rd (l.map intu32D))) (some (.d (.v (.int a i)))) (some (.d (.v (.int b k)))) = (cutL l i k).map fun l => .d (.rd (l.map intu32D)) := cut_rd (f := intu32D) (fun _ => rfl)
theorem cl_intu32D {h : AHeap} {l : List (Int)} {k : Int} {b : IntKind} : cutA 1 h (.d (.rd (l.map intu32D))) none (some (.d (.v (.int b k)))) = (cutL l 0 k).map fun l => .d (.rd (l.map intu32D)) := cut_rd_lo (f := intu32D) (fun _ => rfl)
theorem ch_intu32D {h : AHeap} {l : List (Int)} {i : Int} {a : IntKind} : cutA 1 h (.d (.rd (l.map intu32D))) (some (.d (.v (.int a i)))) none = (cutL l i (l.length : Int)).map fun l => .d (.rd (l.map intu32D)) := cut_rd_hi (f := intu32D) (fun _ => rfl)
theorem al_intu32D {l : List (Int)} : (rowP intu32D l).all (fun cs => cs.length == 1) = true := all_rowP (f := intu32D) (fun _ => rfl)
theorem sn_intu32D {a : Int} {l : List (Int)} {r : List (List PV)} : rowP intu32D l ++ ([.d (.v (.int .u32 a))] :: r) = rowP intu32D (l ++ [a]) ++ r := rowP_snoc (f := intu32D) (a := a) rfl
theorem pu_intu32D {a : Int} {l : List (Int)} {i : Nat} : (rowP intu32D l).set i [.d (.v (.int .u32 a))] = rowP intu32D (l.set i a) := rowP_put (f := intu32D) (a := a) rfl
theorem pp_intu32D {a : Int} {k : Int} {l : List (Int × (Int))} : putP (.int .i64 k) (.d (.v (.int .u32 a))) (mapP keyI intu32D l) = some (mapP keyI intu32D (mset l k a)) := putP_int (f := intu32D) (v := a) rfl
theorem mn_intu32D {a : Int} {n : Nat} : List.replicate n [.d (.v (.int .u32 a))] = rowP intu32D (List.replicate n a) := rowP_many (f := intu32D) (a := a) rfl
theorem el_rd1 {h : AHeap} {c : List D} : elems h (.d (.rd [c])) = some [c.map PV.d] := by simp [elems]
section
variable {α : Type} {f : α → List D} {h : AHeap}
theorem ix_ls {l : List (List α)} {k : IntKind} {n : Int} : ixA h 1 (.d (.rd (l.map (lsD f)))) (.d (.v (.int k n))) = (idx l n).map fun a => .d (.bx ((lsD f) a)) := ix_rd (f := (lsD f)) (fun _ => rfl)
theorem cu_ls {l : List (List α)} {i k : Int} {a b : IntKind} : cutA 1 h (.d (.rd (l.map (lsD f)))) (some (.d (.v (.int a i)))) (some (.d (.v (.int b k)))) = (cutL l i k).map fun l => .d (.rd (l.map (lsD f))) := cut_rd (f := (lsD f)) (fun _ => rfl)
theorem cl_ls {l : List (List α)} {k : Int} {b : IntKind} : cutA 1 h (.d (.rd (l.map (lsD f)))) none (some (.d (.v (.int b k)))) = (cutL l 0 k).map fun l => .d (.rd (l.map (lsD f))) := cut_rd_lo (f := (lsD f)) (fun _ => rfl)
theorem ch_ls {l : List (List α)} {i : Int} {a : IntKind} : cutA 1 h (.d (.rd (l.map (lsD f)))) (some (.d (.v (.int a i)))) none = (cutL l i (l.length : Int)).map fun l => .d (.rd (l.map (lsD f))) := cut_rd_hi (f := (lsD f)) (fun _ => rfl)
theorem al_ls {l : List (List α)} : (rowP (lsD f) l).all (fun cs => cs.length == 1) = true := all_rowP (f := (lsD f)) (fun _ => rfl)
theorem sn_ls {a : List α} {l : List (List α)} {r : List (List PV)} : rowP (lsD f) l ++ ([.d (.rd (a.map f))] :: r) = rowP (lsD f) (l ++ [a]) ++ r := rowP_snoc (f := (lsD f)) (a := a) rfl
theorem pu_ls {a : List α} {l : List (List α)} {i : Nat} : (rowP (lsD f) l).set i [.d (.rd (a.map f))] = rowP (lsD f) (l.set i a) := rowP_put (f := (lsD f)) (a := a) rfl
theorem pp_ls {a : List α} {k : Int} {l : List (Int × (List α))} : putP (.int .i64 k) (.d (.rd (a.map f))) (mapP keyI (lsD f) l) = some (mapP keyI (lsD f) (mset l k a)) := putP_int (f := (lsD f)) (v := a) rfl
theorem ix_lsls {l : List (List (List α))} {k : IntKind} {n : Int} : ixA h 1 (.d (.rd (l.map (lsD (lsD f))))) (.d (.v (.int k n))) = (idx l n).map fun a => .d (.bx ((lsD (lsD f)) a)) := ix_rd (f := (lsD (lsD f))) (fun _ => rfl)
theorem cu_lsls {l : List (List (List α))} {i k : Int} {a b : IntKind} : cutA 1 h (.d (.rd (l.map (lsD (lsD f))))) (some (.d (.v (.int a i)))) (some (.d (.v (.int b k)))) = (cutL l i k).map fun l => .d (.rd (l.map (lsD (lsD f)))) := cut_rd (f := (lsD (lsD f))) (fun _ => rfl)
theorem cl_lsls {l : List (List (List α))} {k : Int} {b : IntKind} : cutA 1 h (.d (.rd (l.map (lsD (lsD f))))) none (some (.d (.v (.int b k)))) = (cutL l 0 k).map fun l => .d (.rd (l.map (lsD (lsD f)))) := cut_rd_lo (f := (lsD (lsD f))) (fun _ => rfl)
theorem ch_lsls {l : List (List (List α))} {i : Int} {a : IntKind} : cutA 1 h (.d (.rd (l.map (lsD (lsD f))))) (some (.d (.v (.int a i)))) none = (cutL l i (l.length : Int)).map fun l => .d (.rd (l.map (lsD (lsD f)))) := cut_rd_hi (f := (lsD (lsD f))) (fun _ => rfl)
theorem al_lsls {l : List (List (List α))} : (rowP (lsD (lsD f)) l).all (fun cs => cs.length == 1) = true := all_rowP (f := (lsD (lsD f))) (fun _ => rfl)
theorem sn_lsls {a : List (List α)} {l : List (List (List α))} {r : List (List PV)} : rowP (lsD (lsD f)) l ++ ([.d (.rd (a.map (lsD f)))] :: r) = rowP (lsD (lsD f)) (l ++ [a]) ++ r := rowP_snoc (f := (lsD (lsD f))) (a := a) rfl
theorem pu_lsls {a : List (List α)} {l : List (List (List α))} {i : Nat} : (rowP (lsD (lsD f)) l).set i [.d (.rd (a.map (lsD f)))] = rowP (lsD (lsD f)) (l.set i a) := rowP_put (f := (lsD (lsD f))) (a := a) rfl
theorem pp_lsls {a : List (List α)} {k : Int} {l : List (Int × (List (List α)))} : putP (.int .i64 k) (.d (.rd (a.map (lsD f)))) (mapP keyI (lsD (lsD f)) l) = some (mapP keyI (lsD (lsD f)) (mset l k a)) := putP_int (f := (lsD (lsD f))) (v := a) rfl
end
attribute [go_sem] ix_intD cu_intD cl_intD ch_intD al_intD sn_intD pu_intD pp_intD mn_intD ix_boolD cu_boolD cl_boolD ch_boolD al_boolD sn_boolD pu_boolD pp_boolD mn_boolD ix_strD cu_strD cl_strD ch_strD al_strD sn_strD pu_strD pp_strD mn_strD ix_ifD cu_ifD cl_ifD ch_ifD al_ifD ix_encSymbol cu_encSymbol cl_encSymbol ch_encSymbol al_encSymbol sn_encSymbol pu_encSymbol pp_encSymbol mn_encSymbol ix_encBind cu_encBind cl_encBind ch_encBind al_encBind sn_encBind pu_encBind pp_encBind mn_encBind ix_encRule cu_encRule cl_encRule ch_encRule al_encRule sn_encRule pu_encRule pp_encRule mn_encRule ix_intu32D cu_intu32D cl_intu32D ch_intu32D al_intu32D sn_intu32D pu_intu32D pp_intu32D mn_intu32D el_rd1 ix_ls cu_ls cl_ls ch_ls al_ls sn_ls pu_ls pp_ls ix_lsls cu_lsls cl_lsls ch_lsls al_lsls sn_lsls pu_lsls pp_lsls intD boolD strD ifD lsD ar2D ar3D bxD encSymbol encBind encRule intu32D
end Ld

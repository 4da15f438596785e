import Derived.Test.YtmkohpkfeamjiaaAbs1
set_option maxHeartbeats 400000
set_option linter.unusedVariables false
set_option linter.unusedSimpArgs false
set_option linter.unusedSectionVars false
namespace Go.Abs
open Go

abbrev Env:=List (Nat × PV)
def Env.get : Env→Nat→PV
 | [],_=>.junk
 | (j,v)::r,i=>if i = j then v else Env.get r i
def Env.set : Env→Nat→PV→Env
 | [],i,v=>[(i,v)]
 | (j,u)::r,i,v=>if i = j then (i,v)::r else if i < j then (i,v)::(j,u)::r else (j,u)::Env.set r i v
def Env.del (l : Nat) : Env→Env
 | []=>[]
 | (j,u)::r=>if l.testBit j = true then Env.del l r else (j,u)::Env.del l r
def Env.commit (keep : Nat) : Env→Env→Env
 | [],e=>e
 | p::te,e=>if keep.testBit p.1 = true then (Env.commit keep te e).set p.1 p.2 else Env.commit keep te e
def get2 (te e : Env) (i : Nat) : PV:=match te with
 | []=>e.get i
 | (j,v)::r=>if i = j then v else get2 r e i

structure St where
 env : Env
 h : AHeap

structure Hint where
 keep : Nat
 loc : Nat
 blk : List (Nat × Nat)
 wr : List (Nat × List Nat)
 pre : List (Nat × List (Nat × Nat))
 post : List (Nat × List (Nat × Nat))
def lookC : List (Nat × List (Nat × Nat))→Nat→List (Nat × Nat)
 | [],_=>[]
 | (j,k)::r,i=>if j = i then k else lookC r i
def Hint.wrs (t : Hint) (id : Nat) : List Nat:=match t.wr.find? (·.1 == id) with
 | some p=>p.2
 | none=>[]
def lookM : List (Nat × Nat)→Nat→Nat
 | [],_=>0
 | (j,k)::r,i=>if j = i then k else lookM r i
def Hint.drop (t : Hint) (id : Nat) : Nat:=lookM t.blk id

abbrev Oracle:=FuncId→List PV→AHeap→Option (PV × AHeap)

structure Cfg where
 P : Program
 mode : FuncId→Nat
 prim : FuncId→Option (List PV→AHeap→Option (PV × AHeap))
 hint : FuncId→Hint
 use : FuncId→Bool
 settle : Oper→Bool:=fun _=>false

def mapO {α β : Type} (f : α→Option β) : List α→Option (List β)
 | []=>some []
 | x::r=>match f x with
  | none=>none
  | some y=>match mapO f r with
   | none=>none
   | some ys=>some (y::ys)

def qfh9 : Value→PV
 | .slice none 0 0=>.im true []
 | v=>.d (.v v)
def qeX9 : Value→PV
 | .agg cs=>if cs.toList.all (·.oneCell') then .ag (cs.toList.map qfh9) else .junk
 | v=>qfh9 v
def qU9 : PV→List PV
 | .d (.ag cs)=>cs.map .d
 | .ag cs=>cs
 | x=>[x]
def isOne : PV→Bool
 | .d (.v x)=>x.oneCell'
 | .d (.ag _) | .ag _ | .tp _ | .junk=>false
 | _=>true
def qcP9 : PV→Bool
 | .d (.ag _) | .ag _=>true
 | x=>isOne x
def cellV : PV→Option Value
 | .d (.v x)=>some x
 | _=>none
def toV : PV→Option Value
 | .d (.v x)=>some x
 | .d (.ag cs)=>(mapO cellV (cs.map PV.d)).map fun l=>.agg l.toArray
 | .ag cs=>(mapO cellV cs).map fun l=>.agg l.toArray
 | _=>none
def qbj9 : PV→Option Int
 | .d (.v (.int _ n))=>some n
 | _=>none
def evO (get : Nat→PV) : Operand→PV
 | .tmp t=>get t
 | .const v=>qeX9 v
 | .global _=>.junk
 | .func f=>.fn f []

def pev {α : Type} (P : Program) : Sem α→Option α
 | .pure a=>some a
 | .program k=>pev P (k P)
 | _=>none

def rowAt (h : AHeap) (id ver : Nat) : Option (Bool × Nat × List (List PV)):=match h[id]? with
 | some (.row fz ver' sz es)=>if ver = ver' then some (fz,sz,es) else none
 | _=>none
def elems (h : AHeap) : PV→Option (List (List PV))
 | .d (.rd xs)=>some (xs.map (·.map PV.d))
 | .im _ es=>some es
 | .ref id ver off len=>(rowAt h id ver).map fun p=>(p.2.2.drop off).take len
 | _=>none
def lenP : PV→Option Nat
 | .d (.rd xs)=>some xs.length
 | .im _ es=>some es.length
 | .ref _ _ _ len=>some len
 | _=>none

def qfp9 : TypeDesc→Bool
 | .struct _ | .array _ _=>true
 | _=>false
def partP (P : Program) (t : TypeId) (cells : List PV) (off : Nat) : Option PV:=match P.underlying t,P.info? t with
 | some d,some i=>if qfp9 d then (if off + i.size≤cells.length then some (.ag ((cells.drop off).take i.size)) else none) else cells[off]?
 | _,_=>none
def qdb9 (P : Program) (t : TypeId) : Option (Array Field):=match P.underlying t with
 | some (.struct fs)=>some fs
 | _=>none
def sizeT (P : Program) (t : TypeId) : Option Nat:=(P.info? t).map (·.size)
def splice (cs : List PV) (off : Nat) (ys : List PV) : List PV:=cs.take off++ys++cs.drop (off + ys.length)

def rs (h : AHeap) : Nat→PV→Option D
 | 0,_=>none
 | n + 1,x=>match x with
  | .d x=>some x
  | .im _ es=>(mapO (mapO (rs h n)) es).map .rd
  | .bx cs=>(mapO (rs h n) cs).map .bx
  | .ref id ver off len=>match rowAt h id ver with
   | some (_,_,es)=>(mapO (mapO (rs h n)) ((es.drop off).take len)).map .rd
   | none=>none
  | .ptr id ver idx off=>match rowAt h id ver with
   | some (_,_,es)=>(es[idx]?).bind fun cs=>(mapO (rs h n) (cs.drop off)).map .bx
   | none=>none
  | .ag cs=>(mapO (rs h n) cs).map .ag
  | .ifc t x=>(rs h n x).map (.ifc t)
  | .fn f cs=>(mapO (rs h n) cs).map (.fn f)
  | _=>none
def depth : Nat:=40
def rsT (h : AHeap) : PV→Option PV
 | .tp vs=>(mapO (rs h depth) vs).map fun ds=>.tp (ds.map .d)
 | x=>(rs h depth x).map .d
def reach (h : AHeap) : Nat→PV→List Nat
 | 0,_=>[]
 | n + 1,x=>match x with
  | .im _ es=>es.flatMap fun cs=>cs.flatMap (reach h n)
  | .bx cs=>cs.flatMap (reach h n)
  | .ref id ver _ _=>id::(match rowAt h id ver with
   | some (_,_,es)=>es.flatMap fun cs=>cs.flatMap (reach h n)
   | none=>[])
  | .ptr id ver _ _=>id::(match rowAt h id ver with
   | some (_,_,es)=>es.flatMap fun cs=>cs.flatMap (reach h n)
   | none=>[])
  | .ag cs=>cs.flatMap (reach h n)
  | .ifc _ x=>reach h n x
  | .fn _ cs=>cs.flatMap (reach h n)
  | _=>[]
def AObj.freeze : AObj→AObj
 | .row _ ver sz es=>.row true ver sz es
 | o=>o
def freezeAll (ids : List Nat) (h : AHeap) : AHeap:=ids.foldl (fun h i=>h.modify i AObj.freeze) h
def scalar : PV→Bool
 | .d (.v _)=>true
 | .tp vs=>vs.all fun | .d (.v _)=>true | _=>false
 | _=>false

def qbs9 (h : AHeap) : PV→Option (List PV)
 | .bx cs=>some cs
 | .d (.bx cs)=>some (cs.map PV.d)
 | .ptr id ver idx off=>match rowAt h id ver with
  | some (_,_,es)=>(es[idx]?).bind fun cs=>if off≤cs.length then some (cs.drop off) else none
  | none=>none
 | _=>none
def loadP (P : Program) (h : AHeap) (t : TypeId) (a : PV) : Option PV:=(qbs9 h a).bind fun cs=>partP P t cs 0
def qcU9 (x : PV) (off : Nat) : Option PV:=match x with
 | .bx cs=>some (.bx (cs.drop off))
 | .d (.bx cs)=>some (.d (.bx (cs.drop off)))
 | .ptr id ver idx o=>some (.ptr id ver idx (o + off))
 | _=>none
def qeS9 (x : PV) (i : Nat) : Option PV:=match x with
 | .d (.rd xs)=>(xs[i]?).map fun cs=>.d (.bx cs)
 | .im _ es=>(es[i]?).map .bx
 | .ref id ver off len=>if i < len then some (.ptr id ver (off + i) 0) else none
 | _=>none
def cutP (x : PV) (l hi : Nat) (full : Bool) : Option PV:=match x with
 | .d (.rd xs)=>if l≤hi∧hi≤xs.length then some (.d (.rd ((xs.drop l).take (hi - l)))) else none
 | .im tight es=>if l≤hi∧hi≤es.length then some (.im (tight && (full || hi == es.length)) ((es.drop l).take (hi - l))) else none
 | .ref id ver off len=>if l≤hi∧hi≤len then some (.ref id ver (off + l) (hi - l)) else none
 | _=>none
def qls9 (P : Program) (h : AHeap) (t : TypeId) (a x : PV) : Option AHeap:=match a with
 | .ptr id ver idx off=>match h[id]?,sizeT P t with
  | some (.row fz ver' sz es),some n =>
   match es[idx]? with
   | some cs=>if fz = false∧ver = ver'∧qcP9 x = true∧(qU9 x).length = n∧off + n≤cs.length then some (h.set id (.row fz ver' sz (es.set idx (splice cs off (qU9 x))))) else none
   | none=>none
  | _,_=>none
 | _=>none
def qAS9 (P : Program) (t : TypeId) : Nat:=((P.info? t).map (·.bytes)).getD 0
def qt9 (P : Program) (t : TypeId) : Option TypeId:=match P.underlying t with
 | some (.slice e)=>some e
 | _=>none
def qhz9 (i : TypeInfo) : Bool:=match i.zero with
 | some z=>z.cells.size == i.size
 | none=>false
def qgt9 (P : Program) (h : AHeap) (t : TypeId) (s : PV) (ys : List (List PV)) : Option (PV × AHeap):=match qt9 P t with
 | none=>none
 | some e=>match P.info? e with
  | none=>none
  | some i=>if i.size = 0∨i.bytes = 0∨qhz9 i = false then none else match s with
   | .im true es=>if (es.length + ys.length) * i.bytes≤140737488355328∧(es = []∨ys ≠ [])∧ys.all (fun cs=>cs.length == i.size) = true∧es.all (fun cs=>cs.length == i.size) = true then
     some (.ref h.length 0 0 (es.length + ys.length),h++[.row false 0 i.size (es++ys)]) else none
   | .ref id ver off len=>match h[id]? with
    | some (.row fz ver' sz es)=>if fz = false∧ver = ver'∧sz = i.size∧(len + ys.length) * i.bytes≤140737488355328∧ys.all (fun cs=>cs.length == i.size) = true then
      some (.ref id (ver + 1) 0 (len + ys.length),h.set id (.row fz (ver + 1) sz ((es.drop off).take len++ys))) else none
    | _=>none
   | _=>none
def zeroCells (P : Program) (t : TypeId) : Option (List PV):=match P.info? t with
 | some i=>match i.zero with
  | some z=>if z.cells.size = i.size∧z.cells.toList.all (·.oneCell') = true then some (z.cells.toList.map qfh9) else none
  | none=>none
 | none=>none
def setl : PV→PV
 | .im true []=>.d (.rd [])
 | x=>x
def qgg9 (P : Program) (h : AHeap) (t t' : TypeId) (n : Int) : Option (PV × AHeap):=match qt9 P t,P.underlying t' with
 | some e,some (.int _)=>(match P.info? e,zeroCells P e with
  | some i,some zs=>if 0 < n∧n * i.bytes≤140737488355328∧0 < i.size∧0 < i.bytes then some (.ref h.length 0 0 n.toNat,h++[.row false 0 i.size (List.replicate n.toNat (zs.map setl))]) else none
  | _,_=>none)
 | _,_=>none
def zeroP (P : Program) (t : TypeId) : Option PV:=match P.info? t with
 | some i=>i.zero.map qeX9
 | none=>none
def qfK9 (h : AHeap) (es : List (List PV)) (sz : Nat) : AHeap:=h++[.row false 0 sz es]

def qgG9 (fs : Array Field) (P : Program) : List PV→List (Nat × PV)→Option (List PV)
 | cs,[]=>some cs
 | cs,(i,x)::r=>match fs[i]? with
  | none=>none
  | some f=>match sizeT P f.type with
   | none=>none
   | some n=>if qcP9 x = true∧(qU9 x).length = n∧f.offset + n≤cs.length then qgG9 fs P (splice cs f.offset (qU9 x)) r else none
def qfN9 (n : Nat) : List PV→List (Nat × PV)→Option (List PV)
 | cs,[]=>some cs
 | cs,(i,x)::r=>if qcP9 x = true∧(qU9 x).length = n∧i * n + n≤cs.length then qfN9 n (splice cs (i * n) (qU9 x)) r else none
def qcG9 (n : Nat) : Nat→List (Nat × PV)→Option (List (List PV))
 | _,[]=>some []
 | k,(i,x)::r=>if i = k∧qcP9 x = true∧(qU9 x).length = n then (qcG9 n (k + 1) r).map (qU9 x::·) else none

def keyEq : Value→Value→Option Bool
 | .int k a,.int k' b=>if k = k' then some (a == b) else none
 | .string a,.string b=>some (a == b)
 | _,_=>none
def lookP (k : Value) : List (Value × PV)→Option (Option (Nat × PV))
 | []=>some none
 | (k',x)::r=>match keyEq k k' with
  | some true=>some (some (0,x))
  | some false=>(lookP k r).map fun o=>o.map fun p=>(p.1 + 1,p.2)
  | none=>none
def keyD : TypeDesc→Value→Bool
 | .int _,.int _ _=>true
 | .string,.string _=>true
 | _,_=>false
def qfk9 (P : Program) (t : TypeId) (k : Value) : Bool:=match P.underlying t with
 | some d=>keyD d k
 | none=>false

def qfC9 (P : Program) (t : TypeId) (name : String) : Option FuncId:=match P.info? t with
 | none=>none
 | some i=>match i.methods.find? (·.name == name) with
  | none=>none
  | some md=>if md.path.isEmpty then match md.func,P.underlying t with
    | some (f,true),some (.pointer _)=>some f
    | some (f,false),some d=>(match d with | .pointer _=>none | _=>some f)
    | _,_=>none
   else none

def callP (C : Cfg) (L : Oracle) (g : FuncId) (args : List PV) (h : AHeap) : Option (PV × AHeap) :=
 match C.prim g with
 | some p=>p args h
 | none=>if C.use g = true then (if C.mode g = 1 then L g args h else
   match mapO (rs h depth) args with
   | none=>none
   | some ds=>if C.mode g = 2 then L g (ds.map .d) (freezeAll (args.flatMap (reach h depth)) h) else match L g (ds.map .d) [] with
    | none=>none
    | some (r,h1)=>match rsT h1 r with
     | none=>none
     | some r'=>some (r',if scalar r' = true then h else freezeAll (args.flatMap (reach h depth)) h)) else none

def qhY9 (P : Program) (t : TypeId) (x : PV) : Bool:=match x,P.underlying t with
 | .bx _,some (.pointer _) | .ptr _ _ _ _,some (.pointer _) | .d (.bx _),some (.pointer _)=>true
 | .ifc _ _,some (.interface _) | .d (.ifc _ _),some (.interface _)=>true
 | _,_=>false
def qkZ9 (P : Program) (t : TypeId) (x : PV) : Bool:=match x,P.underlying t with
 | .d (.v .nilIface),some (.interface _) | .d (.v (.pointer none)),some (.pointer _)=>true
 | _,_=>false
def qio9 (P : Program) (op : BinOp) (t : TypeId) (a b : PV) : Option PV :=
 if (qkZ9 P t a = true∧qhY9 P t b = true)∨(qkZ9 P t b = true∧qhY9 P t a = true) then (match op with
  | .eql=>some (.d (.v (.bool false)))
  | .neq=>some (.d (.v (.bool true)))
  | _=>none) else none

def qbh9 (C : Cfg) (h : AHeap) (b : Builtin) (ts : Array TypeId) (ty : TypeId) (args : List PV) : Option (PV × AHeap) :=
 match b,args with
 | .len,[x]=>match lenP x with
  | some n=>(match (ts[0]?).bind C.P.underlying with | some (.slice _)=>some (.d (.v (.int .i64 n)),h) | _=>none)
  | none=>match x with
   | .mp id=>(match h[id]?,(ts[0]?).bind C.P.underlying with | some (.map es),some (.map _ _)=>some (.d (.v (.int .i64 es.length)),h) | _,_=>none)
   | _=>(toV x).bind fun a=>(pev C.P (Builtin.len_ ts ty #[a])).map fun v=>(.d (.v v),h)
 | .append,[s,x]=>match ts[0]?,ts[1]? with
  | some t,some t'=>(match qt9 C.P t',elems h x with
   | some _,some ys=>qgt9 C.P h t s ys
   | _,_=>match s,x with
    | .im true [],.d (.v (.int _ n))=>qgg9 C.P h t t' n
    | _,_=>none)
  | _,_=>none
 | .cap,[.im true es]=>match (ts[0]?).bind C.P.underlying with
  | some (.slice _)=>some (.d (.v (.int .i64 es.length)),h)
  | _=>none
 | .min,_=>(mapO toV args).bind fun vs=>(pev C.P (Builtin.min_ ts ty vs.toArray)).map fun v=>(.d (.v v),h)
 | .max,_=>(mapO toV args).bind fun vs=>(pev C.P (Builtin.max_ ts ty vs.toArray)).map fun v=>(.d (.v v),h)
 | _,_=>none

def qjz9 (c a b : PV) (h : AHeap) : Option (PV × AHeap):=match c with
 | .d (.v (.bool t))=>some (if t = true then a else b,h)
 | _=>none
def qjS9 (P : Program) (h : AHeap) (e : TypeId) : Option (PV × AHeap):=match zeroCells P e,sizeT P e with
 | some cs,some n=>if 0 < n then some (.ptr h.length 0 0 0,qfK9 h [cs] n) else none
 | _,_=>none
def opBox (h : AHeap) (x : PV) : Option (PV × AHeap) :=
 if qcP9 x = true∧0 < (qU9 x).length then some (.ptr h.length 0 0 0,qfK9 h [qU9 x] (qU9 x).length) else none
def qhj9 (P : Program) (h : AHeap) (t : TypeId) (parts : List (Nat × PV)) : Option (PV × AHeap):=match zeroCells P t,P.underlying t with
 | some cs,some (.struct fs)=>if fs.toList.all (fun f=>(P.info? f.type).isSome) = true then (qgG9 fs P cs parts).map fun cs=>(.ag cs,h) else none
 | some cs,some (.array _ e)=>(sizeT P e).bind fun n=>(qfN9 n cs parts).map fun cs=>(.ag cs,h)
 | _,_=>none
def qcD9 (P : Program) (h : AHeap) (t : TypeId) (len : Nat) (parts : List (Nat × PV)) : Option (PV × AHeap):=match qt9 P t with
 | none=>none
 | some e=>match zeroCells P e,sizeT P e with
  | some _,some n=>if len = parts.length∧0 < n∧len * n≤16777216 then (qcG9 n 0 parts).map fun es=>(.im true es,h) else none
  | _,_=>none
def opNil (x : PV) (h : AHeap) : Option (PV × AHeap):=match x with
 | .bx cs=>some (.bx cs,h)
 | .ptr a b c d=>some (.ptr a b c d,h)
 | .d (.bx cs)=>some (.d (.bx cs),h)
 | .ifc t x=>some (.ifc t x,h)
 | .d (.ifc t x)=>some (.d (.ifc t x),h)
 | _=>none
def opBin (P : Program) (h : AHeap) (op : BinOp) (t : TypeId) (x y : Operand) (X Y : PV) : Option (PV × AHeap):=match qio9 P op t X Y with
 | some r=>some (r,h)
 | none=>match toV X,toV Y with
  | some a,some b=>(pev P (do eqGuard op t x y a b; binOp op t a b)).map fun v=>(.d (.v v),h)
  | _,_=>none
def opUn (P : Program) (h : AHeap) (op : UnOp) (X : PV) : Option (PV × AHeap):=match toV X with
 | some a=>(pev P (Op.unary op a)).map fun v=>(.d (.v v),h)
 | none=>none
def qbx9 (ns : List Int) : ByteArray:=⟨(ns.map fun n=>UInt8.ofNat n.toNat).toArray⟩
def byteD : List D→Option Int
 | [.v (.int .u8 n)]=>some n
 | _=>none
def convB (P : Program) (s d : TypeId) : PV→Option PV
 | .d (.rd xs)=>(match P.underlying s,P.underlying d with
  | some (.slice e),some .string=>(match P.underlying e with
   | some (.int .u8)=>(mapO byteD xs).map fun ns=>.d (.v (.string (qbx9 ns)))
   | _=>none)
  | _,_=>none)
 | _=>none
def qel9 (P : Program) (h : AHeap) (s d : TypeId) (X : PV) : Option (PV × AHeap):=match toV X with
 | some a=>(pev P (convert s d a)).map fun v=>(.d (.v v),h)
 | none=>(convB P s d X).map fun x=>(x,h)
def qhp9 (P : Program) (h : AHeap) (t : TypeId) (X : PV) : Option (PV × AHeap):=match P.underlying t with
 | some (.interface _)=>none
 | some _=>some (.ifc t X,h)
 | none=>none
def qif9 (h : AHeap) (fn : Fn) (first caps : List PV) : Option (PV × AHeap):=match fn,first with
 | .func f,[]=>some (.fn f caps,h)
 | _,_=>none
def qgO9 (P : Program) (h : AHeap) (t : TypeId) (r : Option PV) : Option (PV × AHeap):=match P.underlying t with
 | some (.map _ _)=>(match r with
  | none=>some (.mp h.length,h++[.map []])
  | some (.d (.v (.int _ _)))=>some (.mp h.length,h++[.map []])
  | _=>none)
 | _=>none
def qgD9 (P : Program) (h : AHeap) (t : TypeId) (l c : PV) : Option (PV × AHeap):=match qt9 P t,qbj9 l,qbj9 c with
 | some e,some n,some k=>(match P.info? e,zeroCells P e with
  | some i,some z=>if n = k∧0≤n∧i.bytes * n≤140737488355328∧0 < i.size∧0 < i.bytes then some (.ref h.length 0 0 n.toNat,qfK9 h (List.replicate n.toNat (z.map setl)) i.size) else none
  | _,_=>none)
 | _,_,_=>none
def optV : Option PV→Option (Option Value)
 | none=>some none
 | some x=>(toV x).map some
def qlk9 (P : Program) (h : AHeap) (t : TypeId) (s : ByteArray) (lo hi : Option PV) : Option (PV × AHeap):=match optV lo,optV hi with
 | some a,some b=>(pev P (Instr.sliceAt t (.string s) a b none)).map fun v=>(.d (.v v),h)
 | _,_=>none
def bnd (n : Int) : Option PV→Option Int
 | none=>some n
 | some x=>qbj9 x
def szOk (h : AHeap) (sz : Nat) : PV→Bool
 | .d (.rd xs)=>xs.all fun cs=>cs.length == sz
 | .im _ es=>es.all fun cs=>cs.length == sz
 | .ref id _ _ _=>(match h[id]? with | some (.row _ _ sz' _)=>sz' == sz | _=>false)
 | _=>false
def cutF (sz : Nat) (h : AHeap) (X : PV) (hi : Option PV) (m : PV) : Option PV:=match X with
 | .d (.rd xs)=>match hi.bind qbj9,qbj9 m with
  | some k,some c=>if szOk h sz (.d (.rd xs)) = true∧k = xs.length∧c = xs.length then some (.im true (xs.map (·.map PV.d))) else none
  | _,_=>none
 | _=>none
def cutR (sz : Nat) (h : AHeap) (X : PV) (lo : PV) (hi : Option PV) (m : PV) : Option PV:=match X with
 | .ref id ver off len=>match qbj9 lo,hi.bind qbj9,qbj9 m with
  | some l,some k,some c=>if szOk h sz (.ref id ver off len) = true∧0≤l∧l≤k∧k≤c∧c≤len then some (.ref id ver (off + l.toNat) (k - l).toNat) else none
  | _,_,_=>none
 | _=>none
def opCut (P : Program) (h : AHeap) (t : TypeId) (X : PV) (lo hi mx : Option PV) : Option (PV × AHeap):=match mx with
 | some m=>match lo,qt9 P t with
  | none,some e=>(match sizeT P e with | some sz=>(cutF sz h X hi m).map fun x=>(x,h) | none=>none)
  | some l,some e=>(match sizeT P e with | some sz=>(cutR sz h X l hi m).map fun x=>(x,h) | none=>none)
  | _,_=>none
 | none=>match X with
  | .d (.v (.string s))=>qlk9 P h t s lo hi
  | X=>match qt9 P t,lenP X with
   | some e,some n=>(match sizeT P e,bnd 0 lo,bnd n hi with
    | some sz,some l,some k=>if szOk h sz X = true∧0≤l∧l≤k∧k≤n then (cutP X l.toNat k.toNat hi.isNone).map fun x=>(x,h) else none
    | _,_,_=>none)
   | _,_=>none
def qfj9 (P : Program) (h : AHeap) (s : TypeId) (X : PV) (f : Nat) : Option (PV × AHeap):=match qdb9 P s with
 | none=>none
 | some fs=>match fs[f]? with
  | none=>none
  | some fd=>match sizeT P fd.type with
   | some n=>if n = 0 then none else (qcU9 X fd.offset).map fun x=>(x,h)
   | none=>none
def qdR9 : PV→Option (List PV)
 | .ag cs=>some cs
 | .d (.ag cs)=>some (cs.map PV.d)
 | _=>none
def qig9 (P : Program) (h : AHeap) (t : TypeId) (X : PV) (f : Nat) : Option (PV × AHeap):=match qdb9 P t,qdR9 X with
 | some fs,some cs=>(match fs[f]? with
  | some fd=>(partP P fd.type cs fd.offset).map fun x=>(x,h)
  | none=>none)
 | _,_=>none
def qeK9 (h : AHeap) (sz : Nat) : PV→Bool
 | .bx cs=>cs.length == sz
 | .d (.bx cs)=>cs.length == sz
 | .ptr id _ _ _=>(match h[id]? with | some (.row _ _ sz' _)=>sz' == sz | _=>false)
 | _=>false
def qeo9 (P : Program) (h : AHeap) (t : TypeId) (X I : PV) : Option (PV × AHeap):=match qbj9 I with
 | none=>none
 | some n=>match P.underlying t with
  | some (.slice e)=>(match sizeT P e,lenP X with
   | some sz,some k=>if 0≤n∧n < k∧0 < sz then (match qeS9 X n.toNat with
    | some x=>if qeK9 h sz x = true then some (x,h) else none
    | none=>none) else none
   | _,_=>none)
  | some (.array len e)=>(match sizeT P e with
   | some sz=>if 0≤n∧n < len∧0 < sz then (qcU9 X (n.toNat * sz)).map fun x=>(x,h) else none
   | none=>none)
  | _=>none
def qhs9 (P : Program) (h : AHeap) (t : TypeId) (X I : PV) : Option (PV × AHeap):=match X with
 | .d (.v (.string s))=>(match toV I with
  | some b=>(pev P (Instr.index t (.string s) b)).map fun v=>(.d (.v v),h)
  | none=>none)
 | X=>match P.underlying t,qbj9 I,qdR9 X with
  | some (.array len e),some n,some cs=>(match sizeT P e with
   | some sz=>if 0≤n∧n < len then (partP P e cs (n.toNat * sz)).map fun x=>(x,h) else none
   | none=>none)
  | _,_,_=>none
def okTup (ok : Bool) (v : PV) (b : Bool) : PV:=if ok = true then .tp [v,.d (.v (.bool b))] else v
def qip9 (P : Program) (h : AHeap) (t : TypeId) (X K : PV) (ok : Bool) : Option (PV × AHeap):=match P.underlying t,X,toV K with
 | some (.map kt et),.mp id,some kv=>(match h[id]?,zeroP P et with
  | some (.map es),some z=>if qfk9 P kt kv = true then (match lookP kv es with
    | none=>none
    | some none=>some (okTup ok z false,h)
    | some (some (_,v))=>some (okTup ok v true,h)) else none
  | _,_=>none)
 | _,_,_=>none
def qgC9 (P : Program) (h : AHeap) (t : TypeId) (X K V : PV) : Option (PV × AHeap):=match P.underlying t,X,toV K with
 | some (.map kt _),.mp id,some kv=>(match h[id]? with
  | some (.map es)=>if qfk9 P kt kv = true then (match lookP kv es with
    | none=>none
    | some none=>some (.junk,h.set id (.map (es++[(kv,V)])))
    | some (some (i,_))=>some (.junk,h.set id (.map (es.set i (kv,V))))) else none
  | _=>none)
 | _,_,_=>none
def dynOf : PV→Option (Option (TypeId × PV))
 | .ifc t v=>some (some (t,v))
 | .d (.ifc t v)=>some (some (t,.d v))
 | .d (.v .nilIface)=>some none
 | _=>none
def qfA9 (P : Program) (h : AHeap) (X : PV) (asserted : TypeId) (ok : Bool) : Option (PV × AHeap):=match dynOf X with
 | none=>none
 | some none=>if ok = true then (zeroP P asserted).map fun zv=>(.tp [zv,.d (.v (.bool false))],h) else none
 | some (some (t,v))=>if t = asserted then some (okTup ok v true,h)
   else if ok = true then (zeroP P asserted).map fun zv=>(.tp [zv,.d (.v (.bool false))],h) else none
def qeV9 (P : Program) (h : AHeap) (X : PV) (asserted : TypeId) (ok : Bool) : Option (PV × AHeap):=match P.underlying asserted with
 | some (.interface _)=>none
 | none=>none
 | some _=>qfA9 P h X asserted ok
def qfI9 (h : AHeap) (X : PV) (i : Nat) : Option (PV × AHeap):=match X with
 | .tp vs=>(vs[i]?).map fun v=>(v,h)
 | _=>none
def qcA9 (C : Cfg) (L : Oracle) (h : AHeap) (callee : Callee) (fv : PV) (ts : Array TypeId) (ty : TypeId) (args : List PV) : Option (PV × AHeap):=match callee with
 | .builtin b=>qbh9 C h b ts ty args
 | .value _=>(match fv with
  | .fn g caps=>callP C L g (args++caps) h
  | .d (.fn g caps)=>callP C L g (args++caps.map PV.d) h
  | _=>none)
 | .invoke _ name=>(match fv with
  | .ifc t x=>(match qfC9 C.P t name with | some g=>callP C L g (x::args) h | none=>none)
  | .d (.ifc t x)=>(match qfC9 C.P t name with | some g=>callP C L g (PV.d x::args) h | none=>none)
  | _=>none)
def qia9 (P : Program) (h : AHeap) (t : TypeId) (X : PV) : Option (PV × AHeap):=match X,P.underlying t with
 | .d (.v (.string s)),some .string=>some (.it h.length,h++[.siter s 0])
 | _,_=>none
def qjw9 (h : AHeap) (X : PV) (isString : Bool) : Option (PV × AHeap):=match X with
 | .it id=>if isString = true then (match h[id]? with
  | some (.siter s pos)=>if pos < s.size then some (.tp [.d (.v (.bool true)),.d (.v (.int .i64 pos)),.d (.v (.int .i32 (Utf8.decode s pos).1))],h.set id (.siter s (pos + (Utf8.decode s pos).2)))
    else some (.tp [.d (.v (.bool false))],h)
  | _=>none) else none
 | _=>none
def qdf9 (get : Nat→PV) : Callee→PV
 | .value f=>evO get f
 | .invoke r _=>evO get r
 | .builtin _=>.junk

def aop (C : Cfg) (L : Oracle) (get : Nat→PV) (h : AHeap) (o : Oper) : Option (PV × AHeap):=match o.op with
 | .move x=>some (evO get x,h)
 | .assign x=>some (evO get x,h)
 | .pick c a b=>qjz9 (evO get c) (evO get a) (evO get b) h
 | .alloc e=>qjS9 C.P h e
 | .box _ x=>opBox h (evO get x)
 | .build t parts=>qhj9 C.P h t (parts.toList.map fun p=>(p.1,evO get p.2))
 | .buildSlice t len parts=>qcD9 C.P h t len (parts.toList.map fun p=>(p.1,evO get p.2))
 | .load t a=>(loadP C.P h t (evO get a)).map fun x=>(x,h)
 | .store t a x=>(qls9 C.P h t (evO get a) (evO get x)).map fun h=>(.junk,h)
 | .nilCheck x=>opNil (evO get x) h
 | .binOp op t x y _=>opBin C.P h op t x y (evO get x) (evO get y)
 | .unOp op _ x=>opUn C.P h op (evO get x)
 | .convert s d x=>qel9 C.P h s d (evO get x)
 | .makeInterface t x=>qhp9 C.P h t (evO get x)
 | .makeFunc fn first caps=>qif9 h fn (first.toList.map (evO get)) (caps.toList.map (evO get))
 | .makeMap t r=>qgO9 C.P h t (r.map (evO get))
 | .makeSlice t l c=>qgD9 C.P h t (evO get l) (evO get c)
 | .slice t x lo hi mx=>opCut C.P h t (evO get x) (lo.map (evO get)) (hi.map (evO get)) (mx.map (evO get))
 | .fieldAddr s x f=>qfj9 C.P h s (evO get x) f
 | .field t x f=>qig9 C.P h t (evO get x) f
 | .indexAddr t x i=>qeo9 C.P h t (evO get x) (evO get i)
 | .index t x i=>qhs9 C.P h t (evO get x) (evO get i)
 | .lookup t x k ok=>qip9 C.P h t (evO get x) (evO get k) ok
 | .mapUpdate t x k v=>qgC9 C.P h t (evO get x) (evO get k) (evO get v)
 | .typeAssert x _ asserted ok=>qeV9 C.P h (evO get x) asserted ok
 | .extract x i=>qfI9 h (evO get x) i
 | .range t x=>qia9 C.P h t (evO get x)
 | .next x isString=>qjw9 h (evO get x) isString
 | .call c=>qcA9 C L h c.callee (qdf9 get c.callee) c.argTypes o.type (c.args.toList.map (evO get))
 | _=>none

def qjK9 (h : AHeap) (k : Nat) (x : PV) : Option (PV × AHeap):=match x with
 | .ptr id ver 0 0=>match h[id]? with
  | some (.row false ver' sz [cs])=>if k = 4095 then (if ver = ver' then some (.ptr id ver 0 0,h.set id (AObj.row false ver sz [cs.map setl])) else none) else (match cs[k / 4096]? with
   | some (.im true [])=>if ver = ver' then some (.ptr id ver 0 0,(h++[AObj.row false 0 (k % 4096) []]).set id (AObj.row false ver sz [cs.set (k / 4096) (.ref h.length 0 0 0)])) else none
   | _=>none)
  | _=>none
 | _=>none
def coV (h : AHeap) (k : Nat) (x : PV) : Option (PV × AHeap) :=
 if k = 0 then (match rs h depth x with
  | some d=>some (.d d,freezeAll (reach h depth x) h)
  | none=>none)
 else (match x with
  | .im true []=>some (.ref h.length 0 0 0,h++[.row false 0 k []])
  | .ptr id ver idx off=>qjK9 h k (.ptr id ver idx off)
  | x=>some (x,h))
def putT (nt : Nat) (dst : Option Tmp) (r : PV) (te : Env) : Option Env:=match dst with
 | none=>some te
 | some d=>if d < nt then some ((d,r)::te) else none
def qjt9 : PV:=.d (.v undef)
def opV (C : Cfg) (L : Oracle) (nt : Nat) (ops : Array Oper) (get : Nat→PV) (h : AHeap) (o : Oper) : Option (PV × AHeap) :=
 match o.guard with
 | none=>aop C L get h o
 | some (j,b)=>match (ops[j]?).bind (·.dst) with
  | none=>none
  | some d=>if d < nt then (match get d with
   | .d (.v (.bool b'))=>if b' = b then aop C L get h o else some (qjt9,h)
   | .d (.v (.tuple _))=>some (qjt9,h)
   | _=>none) else none
def opS (C : Cfg) (L : Oracle) (nt : Nat) (ops : Array Oper) (o : Oper) (env te : Env) (h : AHeap) : Option (Env × AHeap) :=
 (opV C L nt ops (get2 te env) h o).bind fun p=>(putT nt o.dst p.1 te).map fun te=>(te,p.2)
def opT (C : Cfg) (L : Oracle) (nt : Nat) (ops : Array Oper) (o : Oper) (env te : Env) (h : AHeap) : Option (Env × AHeap) :=
 (opV C L nt ops (get2 te env) h o).bind fun p=>(if (C.settle o && o.dst.isSome) = true then coV p.2 0 p.1 else some p).bind fun p=>(putT nt o.dst p.1 te).map fun te=>(te,p.2)
def opsS (C : Cfg) (L : Oracle) (nt : Nat) (ops : Array Oper) (env : Env) : List Oper→Env→AHeap→Option (Env × AHeap)
 | [],te,h=>some (te,h)
 | o::r,te,h=>(opT C L nt ops o env te h).bind fun p=>opsS C L nt ops env r p.1 p.2

def calm (C : Cfg) (g : FuncId) : Bool:=(C.prim g).isNone && C.use g && decide (C.mode g = 0)
def isD : PV→Bool
 | .d _=>true
 | _=>false
def isC : PV→Bool
 | .d _=>true
 | .ag cs=>cs.all isD
 | _=>false
def qcS9 (C : Cfg) (get : Nat→PV) (o : Oper) : Bool:=match o.op with
 | .call c=>(match c.callee with
  | .value (.func g)=>calm C g && c.args.toList.all fun a=>isC (evO get a)
  | _=>false)
 | .load _ a=>(match evO get a with | .bx _=>true | .d (.bx _)=>true | _=>false)
 | .indexAddr _ x _=>(match evO get x with | .d (.rd _)=>true | _=>false)
 | _=>false
open Classical in
noncomputable def opsD (C : Cfg) (L : Oracle) (nt : Nat) (W : List Nat) (ops : Array Oper) (env : Env) : Nat→List Oper→Env→AHeap→Option (Env × AHeap)
 | _,[],te,h=>some (te,h)
 | k,o::r,te,h=>(opS C L nt ops o env te h).bind fun p=>if (W.contains k = true∨p.2 = h)∧(W.contains (k + 1000) = true→qcS9 C (get2 te env) o = true) then opsD C L nt W ops env (k + 1) r p.1 p.2 else none

inductive AExit where
 | normal
 | exit (id : Nat)
 | ret
 | goto (l : Nat)
 deriving DecidableEq,Inhabited

def iterN (step : St→Option (AExit × St)) : Nat→St→Option (AExit × St)
 | 0,_=>none
 | n + 1,s=>match step s with
  | some (.normal,s')=>iterN step n s'
  | r=>r
open Classical in
noncomputable def qM9 (step : St→Option (AExit × St)) (s : St) : Option (AExit × St) :=
 if h : ∃ n r,iterN step n s = some r then some (Classical.choose (Classical.choose_spec h)) else none

def condSt (t : Hint) (c : Operand) (s : St) : St:=match c with
 | .tmp i=>if i < t.loc then s else ⟨Env.del (2 ^ i) s.env,s.h⟩
 | _=>s

def coE (t : Hint) : List (Nat × Nat)→St→Option St
 | [],s=>some s
 | (i,k)::r,s=>if t.keep.testBit i = true then (match coV s.h k (s.env.get i) with
  | some p=>coE t r ⟨s.env.set i p.1,p.2⟩
  | none=>none) else none

noncomputable def sem (C : Cfg) (L : Oracle) (t : Hint) (nt : Nat) : Code→St→Option (AExit × St)
 | .skip,s=>some (.normal,s)
 | .region id ops false,s=>(coE t (lookC t.pre id) s).bind fun s=>(opsS C L nt ops s.env ops.toList [] s.h).bind fun p=>(coE t (lookC t.post id) ⟨Env.commit t.keep p.1 s.env,p.2⟩).map fun s=>(.normal,s)
 | .region id ops true,s=>(coE t (lookC t.pre id) s).bind fun s=>(opsD C L nt (t.wrs id) ops s.env 0 ops.toList [] s.h).bind fun p=>(coE t (lookC t.post id) ⟨Env.commit t.keep p.1 s.env,p.2⟩).map fun s=>(.normal,s)
 | .seq a b,s=>match sem C L t nt a s with
  | some (.normal,s')=>sem C L t nt b s'
  | r=>r
 | .cond c a b,s=>match evO s.env.get c with
  | .d (.v (.bool true))=>sem C L t nt a (condSt t c s)
  | .d (.v (.bool false))=>sem C L t nt b (condSt t c s)
  | _=>none
 | .block id c,s=>match sem C L t nt c s with
  | some (.normal,s')=>some (.normal,⟨Env.del (t.drop id) s'.env,s'.h⟩)
  | some (.exit j,s')=>if j = id then some (.normal,⟨Env.del (t.drop id) s'.env,s'.h⟩) else some (.exit j,s')
  | r=>r
 | .loop c,s=>qM9 (sem C L t nt c) s
 | .exit id,s=>some (.exit id,s)
 | .ret,s=>some (.ret,s)
 | .goto l,s=>some (.goto l,s)
 | _,_=>none
def gmap (l d : Nat) : Option (AExit × St)→Option (AExit × St)
 | some (.goto l',s)=>if l' = l then some (.normal,⟨Env.del d s.env,s.h⟩) else none
 | some (.ret,s)=>some (.ret,s)
 | some (.exit j,s)=>some (.exit j,s)
 | _=>none
def qdT9 : Code→Option Nat
 | .label l=>some l
 | _=>none
noncomputable def semS (C : Cfg) (L : Oracle) (t : Hint) (nt : Nat) : Code→St→Option (AExit × St)
 | .seq a b,s=>match qdT9 a with
  | some l=>qM9 (fun s=>gmap l (t.drop (l + 4096)) (sem C L t nt b s)) s
  | none=>match sem C L t nt a s with
   | some (.normal,s')=>semS C L t nt b s'
   | some (.ret,s')=>some (.ret,s')
   | _=>none
 | _,_=>none
def qhE9 : Code→Bool
 | .scope _=>true
 | .seq _ b=>qhE9 b
 | _=>false
noncomputable def semT (C : Cfg) (L : Oracle) (t : Hint) (nt : Nat) : Code→St→Option (AExit × St)
 | .seq a b,s=>if qhE9 b = true then (match sem C L t nt a s with
   | some (.normal,s')=>semT C L t nt b s'
   | some (.ret,s')=>some (.ret,s')
   | _=>none) else sem C L t nt (.seq a b) s
 | .scope c,s=>semS C L t nt c s
 | c,s=>sem C L t nt c s

def qbt9 (keep : Nat) : Nat→List PV→Env
 | _,[]=>[]
 | i,x::r=>if keep.testBit i = true then (i,x)::qbt9 keep (i + 1) r else qbt9 keep (i + 1) r
def resP (P : Program) (s : St) : ResultVar→Option PV
 | .tmp t=>some (s.env.get t)
 | .cell a t=>loadP P s.h t (s.env.get a)
def resOf (vs : List PV) : PV:=match vs with
 | [x]=>x
 | l=>.tp l
noncomputable def runF (C : Cfg) (L : Oracle) : Oracle:=fun f args h=>match C.P.funcs[f]? with
 | none=>none
 | some fn=>match fn.body with
  | none=>none
  | some code=>match semT C L (C.hint f) (args.length + (fn.ntmps - args.length)) code ⟨qbt9 (C.hint f).keep 0 args,h⟩ with
   | some (.normal,s)=>(mapO (resP C.P s) fn.results.toList).map fun vs=>(resOf vs,s.h)
   | some (.ret,s)=>(mapO (resP C.P s) fn.results.toList).map fun vs=>(resOf vs,s.h)
   | _=>none
noncomputable def pcall (C : Cfg) : Nat→Oracle
 | 0=>fun _ _ _=>none
 | d + 1=>runF C (pcall C d)
open Classical in
noncomputable def Lim (C : Cfg) : Oracle:=fun f args h =>
 if k : ∃ d r,pcall C d f args h = some r then some (Classical.choose (Classical.choose_spec k)) else none

end Go.Abs

import Derived.Test.YtmkohpkfeamjiaaAbs28
set_option maxHeartbeats 400000
set_option linter.unusedVariables false
set_option linter.unusedSimpArgs false
set_option linter.unusedSectionVars false
namespace Go.Abs
open Go

inductive AOp where
 | mv (x : Operand)
 | pick (c a b : Operand)
 | alloc (zs : List PV) (n : Nat)
 | box (x : Operand)
 | build (tab : List (Nat × Nat)) (zs : List PV) (ps : List (Nat × Operand))
 | lit (n : Nat) (ps : List (Nat × Operand))
 | load (ag : Option Nat) (a : Operand)
 | loadB (ag : Option Nat) (a : Operand)
 | ixB (sz : Nat) (x i : Operand)
 | callF (g : FuncId) (args : List Operand)
 | store (n : Nat) (a x : Operand)
 | nilC (x : Operand)
 | bin (op : BinOp) (x y : Operand)
 | binB (op : BinOp) (x y : Operand)
 | binM (op : BinOp) (x y : Operand)
 | sh (op : BinOp) (x y : Operand)
 | not (x : Operand)
 | wrap (k : IntKind) (x : Operand)
 | toStr (x : Operand)
 | mkI (t : TypeId) (x : Operand)
 | mkF (f : FuncId) (caps : List Operand)
 | mkMap
 | mkMapN (x : Operand)
 | ixArr (len sz : Nat) (x i : Operand)
 | cut (sz : Nat) (x : Operand) (lo hi : Option Operand)
 | cutF (sz : Nat) (x : Operand) (hi : Option Operand) (m : Operand)
 | cutR (sz : Nat) (x lo : Operand) (hi : Option Operand) (m : Operand)
 | fa (off : Nat) (x : Operand)
 | fld (ag : Option Nat) (off : Nat) (x : Operand)
 | ix (sz : Nat) (x i : Operand)
 | look (kd : TypeDesc) (z : PV) (x k : Operand) (ok : Bool)
 | mput (kd : TypeDesc) (x k v : Operand)
 | asr (t : TypeId) (z : Option PV) (x : Operand) (ok : Bool)
 | ext (x : Operand) (i : Nat)
 | len (x : Operand)
 | slen (x : Operand)
 | mlen (x : Operand)
 | app (n b : Nat) (s x : Operand)
 | call (g : FuncId) (args : List Operand)
 | callV (f : Operand) (args : List Operand)
 | inv (r : Operand) (name : String) (args : List Operand)
 | rng (x : Operand)
 | nxt (x : Operand) (b : Bool)
 | cutS (x : Operand) (lo hi : Option Operand)
 | ixS (x i : Operand)
 | mkSl (z : List PV) (n b : Nat) (l c : Operand)
 | raw (o : Oper)

def qgK9 : PV→Option (List PV)
 | .bx cs=>some cs
 | .d (.bx cs)=>some (cs.map PV.d)
 | _=>none
def partA (ag : Option Nat) (cs : List PV) (off : Nat) : Option PV:=match ag with
 | none=>cs[off]?
 | some n=>if off + n≤cs.length then some (.ag ((cs.drop off).take n)) else none
abbrev bool' (b : Bool) : PV:=.d (.v (.bool b))
def arith (op : BinOp) (k : IntKind) (a b : Int) : Option Value:=match op with
 | .add=>some (.int k (k.wrap (a + b)))
 | .sub=>some (.int k (k.wrap (a - b)))
 | .mul=>some (.int k (k.wrap (a * b)))
 | .lss=>some (.bool (decide (a < b)))
 | .leq=>some (.bool (decide (a≤b)))
 | .gtr=>some (.bool (decide (b < a)))
 | .geq=>some (.bool (decide (b≤a)))
 | .eql=>some (.bool (decide (a = b)))
 | .neq=>some (.bool (decide (a ≠ b)))
 | _=>none
def qii9 (op : BinOp) (a b : ByteArray) : Option Value:=match op with
 | .add=>if ((a.size + b.size : Nat) : Int)≤9223372036854775807 then some (.string (a++b)) else none
 | .eql=>some (.bool (decide (a = b)))
 | .neq=>some (.bool (decide (a ≠ b)))
 | _=>none
def qpz9 (op : BinOp) (a b : Bool) : Option Value:=match op with
 | .eql=>some (.bool (a == b))
 | .neq=>some (.bool (a != b))
 | _=>none
def binA (op : BinOp) : PV→PV→Option PV
 | .d (.v (.int k a)),.d (.v (.int k' b))=>if k = k' then (match arith op k a b with | some v=>some (.d (.v v)) | none=>none) else none
 | .d (.v (.string a)),.d (.v (.string b))=>(match qii9 op a b with | some v=>some (.d (.v v)) | none=>none)
 | _,_=>none
def binB (op : BinOp) : PV→PV→Option PV
 | .d (.v (.bool a)),.d (.v (.bool b))=>(match qpz9 op a b with | some v=>some (.d (.v v)) | none=>none)
 | _,_=>none
def shlV (k : IntKind) (a b : Int) : Option Int:=if 0≤b then some (k.wrap (a * 2 ^ (min b.toNat k.bits))) else none
def shrV (k : IntKind) (a b : Int) : Option Int:=if 0≤b then some (a.fdiv (2 ^ (min b.toNat k.bits))) else none
def quoV (k : IntKind) (a b : Int) : Option Int:=if b = 0 then none else some (k.wrap (a.tdiv b))
def remV (a b : Int) : Option Int:=if b = 0 then none else some (a.tmod b)
def andV (k : IntKind) (a b : Int) : Int:=k.wrap ((BitVec.ofInt k.bits a &&& BitVec.ofInt k.bits b).toNat : Nat)
def orV (k : IntKind) (a b : Int) : Int:=k.wrap ((BitVec.ofInt k.bits a ||| BitVec.ofInt k.bits b).toNat : Nat)
def xorV (k : IntKind) (a b : Int) : Int:=k.wrap ((BitVec.ofInt k.bits a ^^^ BitVec.ofInt k.bits b).toNat : Nat)
def qgQ9 (op : BinOp) (k : IntKind) (a b : Int) : Option Int:=match op with
 | .quo=>quoV k a b
 | .rem=>remV a b
 | .and=>some (andV k a b)
 | .or=>some (orV k a b)
 | .xor=>some (xorV k a b)
 | _=>none
def qim9 (op : BinOp) (k : IntKind) (a b : Int) : Option Int:=match op with
 | .shl=>shlV k a b
 | .shr=>shrV k a b
 | _=>none
def binMA (op : BinOp) : PV→PV→Option PV
 | .d (.v (.int k a)),.d (.v (.int k' b))=>if k = k' then (match qgQ9 op k a b with | some v=>some (.d (.v (.int k v))) | none=>none) else none
 | _,_=>none
def qlo9 (op : BinOp) : PV→PV→Option PV
 | .d (.v (.int k a)),.d (.v (.int _ b))=>(match qim9 op k a b with | some v=>some (.d (.v (.int k v))) | none=>none)
 | _,_=>none
def isM : BinOp→Bool
 | .quo | .rem | .and | .or | .xor=>true
 | _=>false
def isSh : BinOp→Bool
 | .shl | .shr=>true
 | _=>false
def notA : PV→Option PV
 | .d (.v (.bool b))=>some (.d (.v (.bool (!b))))
 | _=>none
def wrapA (k : IntKind) : PV→Option PV
 | .d (.v (.int _ n))=>some (.d (.v (.int k (k.wrap n))))
 | _=>none
def qpU9 : PV→Option PV
 | .d (.v (.int _ n))=>some (.d (.v (.string (Utf8.encode n))))
 | _=>none
def bndA (n : Int) : Option PV→Option Int
 | none=>some n
 | some x=>qbj9 x
def cutA (sz : Nat) (h : AHeap) (X : PV) (lo hi : Option PV) : Option PV:=match lenP X,bnd 0 lo,bnd ((lenP X).getD 0) hi with
 | some n,some l,some k=>if szOk h sz X = true∧0≤l∧l≤k∧k≤n then cutP X l.toNat k.toNat hi.isNone else none
 | _,_,_=>none
def fldA (ag : Option Nat) (off : Nat) (X : PV) : Option PV:=match qdR9 X with
 | some cs=>partA ag cs off
 | none=>none
def ixA (h : AHeap) (sz : Nat) (X I : PV) : Option PV:=match lenP X,qbj9 I with
 | some k,some n=>if 0≤n∧n < k then (match qeS9 X n.toNat with
  | some x=>if qeK9 h sz x = true then some x else none
  | none=>none) else none
 | _,_=>none
def lookA (kd : TypeDesc) (z : PV) (h : AHeap) (X K : PV) (ok : Bool) : Option PV:=match X,toV K with
 | .mp id,some kv=>(match h[id]? with
  | some (.map es)=>if keyD kd kv = true then (match lookP kv es with
    | none=>none
    | some none=>some (okTup ok z false)
    | some (some (_,v))=>some (okTup ok v true)) else none
  | _=>none)
 | _,_=>none
def putP (kv : Value) (V : PV) (es : List (Value × PV)) : Option (List (Value × PV)):=match lookP kv es with
 | none=>none
 | some none=>some (es++[(kv,V)])
 | some (some (i,_))=>some (es.set i (kv,V))
def mputA (kd : TypeDesc) (h : AHeap) (X K V : PV) : Option AHeap:=match X,toV K with
 | .mp id,some kv=>(match h[id]? with
  | some (.map es)=>if keyD kd kv = true then (match putP kv V es with
    | none=>none
    | some es'=>some (h.set id (.map es'))) else none
  | _=>none)
 | _,_=>none
def asrA (t : TypeId) (z : Option PV) (X : PV) (ok : Bool) : Option PV:=match dynOf X with
 | none=>none
 | some none=>if ok = true then (match z with | some zv=>some (.tp [zv,.d (.v (.bool false))]) | none=>none) else none
 | some (some (t',v))=>if t' = t then some (okTup ok v true)
   else if ok = true then (match z with | some zv=>some (.tp [zv,.d (.v (.bool false))]) | none=>none) else none
def lenA : PV→Option PV
 | x=>match lenP x with
  | some n=>some (.d (.v (.int .i64 n)))
  | none=>none
def slenA : PV→Option PV
 | .d (.v (.string s))=>some (.d (.v (.int .i64 s.size)))
 | _=>none
def mlenA (h : AHeap) : PV→Option PV
 | .mp id=>(match h[id]? with | some (.map es)=>some (.d (.v (.int .i64 es.length))) | _=>none)
 | _=>none
def qpq9 (zs : List PV) (n : Nat) (h : AHeap) : PV × AHeap:=(.ptr h.length 0 0 0,qfK9 h [zs] n)
def qnS9 (n : Nat) (h : AHeap) (a x : PV) : Option AHeap:=match a with
 | .ptr id ver idx off=>(match h[id]? with
  | some (.row fz ver' sz es)=>(match es[idx]? with
   | some cs=>if fz = false∧ver = ver'∧qcP9 x = true∧(qU9 x).length = n∧off + n≤cs.length then some (h.set id (.row fz ver' sz (es.set idx (splice cs off (qU9 x))))) else none
   | none=>none)
  | _=>none)
 | _=>none
def rngA (h : AHeap) : PV→Option (PV × AHeap)
 | .d (.v (.string s))=>some (.it h.length,h++[.siter s 0])
 | _=>none
def cutSA (X : PV) (lo hi : Option PV) : Option PV:=match X with
 | .d (.v (.string s))=>(match bnd 0 lo,bnd s.size hi with
  | some l,some k=>if 0≤l∧l≤k∧k≤s.size then some (.d (.v (.string (s.extract l.toNat k.toNat)))) else none
  | _,_=>none)
 | _=>none
def ixSA (X I : PV) : Option PV:=match X,I with
 | .d (.v (.string s)),.d (.v (.int _ i))=>if 0≤i then (match s[i.toNat]? with | some b=>some (.d (.v (.int .u8 ((b.toNat : Nat) : Int)))) | none=>none) else none
 | _,_=>none
def mkSlA (z : List PV) (n b : Nat) (h : AHeap) (L K : PV) : Option (PV × AHeap):=match qbj9 L,qbj9 K with
 | some l,some k=>if l = k∧0≤l∧(b : Int) * l≤140737488355328 then some (.ref h.length 0 0 l.toNat,h++[.row false 0 n (List.replicate l.toNat z)]) else none
 | _,_=>none
def qmi9 (h : AHeap) : PV→Option (PV × AHeap)
 | .d (.v (.int _ _))=>some (.mp h.length,h++[.map []])
 | _=>none
def qpW9 (len sz : Nat) (X I : PV) : Option PV:=match qbj9 I with
 | some n=>if 0≤n∧n < len then qcU9 X (n.toNat * sz) else none
 | none=>none
def same (h : AHeap) : Option PV→Option (PV × AHeap)
 | some x=>some (x,h)
 | none=>none
def aopA (C : Cfg) (L : Oracle) (get : Nat→PV) (h : AHeap) : AOp→Option (PV × AHeap)
 | .mv x=>some (evO get x,h)
 | .pick c a b=>qjz9 (evO get c) (evO get a) (evO get b) h
 | .alloc zs n=>some (qpq9 zs n h)
 | .box x=>opBox h (evO get x)
 | .build tab zs ps=>(match qhC9 tab zs (ps.map fun p=>(p.1,evO get p.2)) with | some cs=>some (.ag cs,h) | none=>none)
 | .lit n ps=>(match qcG9 n 0 (ps.map fun p=>(p.1,evO get p.2)) with | some es=>some (.im true es,h) | none=>none)
 | .load ag a=>(match qbs9 h (evO get a) with | some cs=>same h (partA ag cs 0) | none=>none)
 | .loadB ag a=>(match qgK9 (evO get a) with | some cs=>same h (partA ag cs 0) | none=>none)
 | .callF g args=>if (calm C g && (args.map (evO get)).all isC) = true then callP C L g (args.map (evO get)) h else none
 | .ixB sz x i=>(match evO get x with | .d (.rd xs)=>same h (ixA h sz (.d (.rd xs)) (evO get i)) | _=>none)
 | .store n a x=>(match qnS9 n h (evO get a) (evO get x) with | some h'=>some (.junk,h') | none=>none)
 | .nilC x=>opNil (evO get x) h
 | .bin op x y=>same h (binA op (evO get x) (evO get y))
 | .binB op x y=>same h (binB op (evO get x) (evO get y))
 | .binM op x y=>same h (binMA op (evO get x) (evO get y))
 | .sh op x y=>same h (qlo9 op (evO get x) (evO get y))
 | .not x=>same h (notA (evO get x))
 | .wrap k x=>same h (wrapA k (evO get x))
 | .toStr x=>same h (qpU9 (evO get x))
 | .mkI t x=>some (.ifc t (evO get x),h)
 | .mkF f caps=>some (.fn f (caps.map (evO get)),h)
 | .mkMap=>some (.mp h.length,h++[.map []])
 | .mkMapN x=>qmi9 h (evO get x)
 | .ixArr len sz x i=>same h (qpW9 len sz (evO get x) (evO get i))
 | .cut sz x lo hi=>same h (cutA sz h (evO get x) (lo.map (evO get)) (hi.map (evO get)))
 | .cutF sz x hi m=>same h (cutF sz h (evO get x) (hi.map (evO get)) (evO get m))
 | .cutR sz x lo hi m=>same h (cutR sz h (evO get x) (evO get lo) (hi.map (evO get)) (evO get m))
 | .fa off x=>same h (qcU9 (evO get x) off)
 | .fld ag off x=>same h (fldA ag off (evO get x))
 | .ix sz x i=>same h (ixA h sz (evO get x) (evO get i))
 | .look kd z x k ok=>same h (lookA kd z h (evO get x) (evO get k) ok)
 | .mput kd x k v=>(match mputA kd h (evO get x) (evO get k) (evO get v) with | some h'=>some (.junk,h') | none=>none)
 | .asr t z x ok=>same h (asrA t z (evO get x) ok)
 | .ext x i=>qfI9 h (evO get x) i
 | .len x=>same h (lenA (evO get x))
 | .slen x=>same h (slenA (evO get x))
 | .mlen x=>same h (mlenA h (evO get x))
 | .app n b s x=>(match elems h (evO get x) with | some ys=>qjG9 n b h (evO get s) ys | none=>none)
 | .call g args=>callP C L g (args.map (evO get)) h
 | .callV f args=>(match evO get f with
  | .fn g caps=>callP C L g (args.map (evO get)++caps) h
  | .d (.fn g caps)=>callP C L g (args.map (evO get)++caps.map PV.d) h
  | _=>none)
 | .inv r name args=>(match evO get r with
  | .ifc t x=>(match qfC9 C.P t name with | some g=>callP C L g (x::args.map (evO get)) h | none=>none)
  | .d (.ifc t x)=>(match qfC9 C.P t name with | some g=>callP C L g (PV.d x::args.map (evO get)) h | none=>none)
  | _=>none)
 | .rng x=>rngA h (evO get x)
 | .nxt x b=>qjw9 h (evO get x) b
 | .cutS x lo hi=>same h (cutSA (evO get x) (lo.map (evO get)) (hi.map (evO get)))
 | .ixS x i=>same h (ixSA (evO get x) (evO get i))
 | .mkSl z n b l c=>mkSlA z n b h (evO get l) (evO get c)
 | .raw o=>aop C L get h o

def agOf (P : Program) (t : TypeId) : Option (Option Nat):=match P.underlying t,P.info? t with
 | some d,some i=>some (if qfp9 d = true then some i.size else none)
 | _,_=>none
def tabOf (P : Program) (t : TypeId) : Option (List (Nat × Nat) × List PV):=match zeroCells P t,P.underlying t with
 | some zs,some (.struct fs)=>if fs.toList.all (fun f=>(P.info? f.type).isSome) = true then (mapO (fun f : Field=>(sizeT P f.type).map fun n=>(f.offset,n)) fs.toList).map fun tab=>(tab,zs) else none
 | _,_=>none
def litOf (P : Program) (t : TypeId) (len k : Nat) : Option Nat:=match qt9 P t with
 | none=>none
 | some e=>match zeroCells P e,sizeT P e with
  | some _,some n=>if len = k∧0 < n∧len * n≤16777216 then some n else none
  | _,_=>none
def fdOf (P : Program) (s : TypeId) (f : Nat) : Option (TypeId × Nat):=((qdb9 P s).bind (fun fs=>fs[f]?)).map (fun fd=>(fd.type,fd.offset))
def qkF9 : TypeDesc→Bool
 | .interface _=>true
 | _=>false
def qco9 (P : Program) (o : Oper) : AOp:=match o.op with
 | .move x=>.mv x
 | .assign x=>.mv x
 | .pick c a b=>.pick c a b
 | .alloc e=>(match zeroCells P e,sizeT P e with | some zs,some n=>if 0 < n then .alloc zs n else .raw o | _,_=>.raw o)
 | .box _ x=>.box x
 | .build t ps=>(match tabOf P t with | some q=>.build q.1 q.2 ps.toList | none=>.raw o)
 | .buildSlice t len ps=>(match litOf P t len ps.toList.length with | some n=>.lit n ps.toList | none=>.raw o)
 | .load t a=>(match agOf P t with | some ag=>.load ag a | none=>.raw o)
 | .store t a x=>(match sizeT P t with | some n=>.store n a x | none=>.raw o)
 | .nilCheck x=>.nilC x
 | .binOp op t x y _=>if isSh op = true then .sh op x y else if isM op = true then .binM op x y else (match P.underlying t with | some (.int _) | some .string=>.bin op x y | some .bool=>.binB op x y | _=>.raw o)
 | .unOp .not _ x=>.not x
 | .convert s d x=>(match P.underlying s,P.underlying d with | some (.int _),some (.int k)=>.wrap k x | some (.int _),some .string=>.toStr x | _,_=>.raw o)
 | .makeInterface t x=>(match P.underlying t with | some d=>if qkF9 d = true then .raw o else .mkI t x | none=>.raw o)
 | .makeFunc (.func f) first caps=>if first.toList.length = 0 then .mkF f caps.toList else .raw o
 | .makeMap t none=>(match P.underlying t with | some (.map _ _)=>.mkMap | _=>.raw o)
 | .makeMap t (some x)=>(match P.underlying t with | some (.map _ _)=>.mkMapN x | _=>.raw o)
 | .slice t x lo hi none=>(match P.underlying t with | some .string=>.cutS x lo hi | _=>(match (qt9 P t).bind (sizeT P) with | some n=>.cut n x lo hi | none=>.raw o))
 | .slice t x none hi (some m)=>(match (qt9 P t).bind (sizeT P) with | some n=>.cutF n x hi m | none=>.raw o)
 | .slice t x (some lo) hi (some m)=>(match (qt9 P t).bind (sizeT P) with | some n=>.cutR n x lo hi m | none=>.raw o)
 | .range t x=>(match P.underlying t with | some .string=>.rng x | _=>.raw o)
 | .next x b=>.nxt x b
 | .index t x i=>(match P.underlying t with | some .string=>.ixS x i | _=>.raw o)
 | .makeSlice t l c=>(match qt9 P t with | some e=>(match P.info? e,zeroCells P e with | some i,some z=>if 0 < i.size∧0 < i.bytes then .mkSl (z.map setl) i.size i.bytes l c else .raw o | _,_=>.raw o) | none=>.raw o)
 | .fieldAddr s x f=>(match fdOf P s f with | some q=>(match sizeT P q.1 with | some n=>if n = 0 then .raw o else .fa q.2 x | none=>.raw o) | none=>.raw o)
 | .field t x f=>(match fdOf P t f with | some q=>(match agOf P q.1 with | some ag=>.fld ag q.2 x | none=>.raw o) | none=>.raw o)
 | .indexAddr t x i=>(match P.underlying t with | some (.array len e)=>(match sizeT P e with | some n=>if 0 < n then .ixArr len n x i else .raw o | none=>.raw o) | _=>(match (qt9 P t).bind (sizeT P) with | some n=>if 0 < n then .ix n x i else .raw o | none=>.raw o))
 | .lookup t x k ok=>(match P.underlying t with | some (.map kt et)=>(match P.underlying kt,zeroP P et with | some kd,some z=>.look kd z x k ok | _,_=>.raw o) | _=>.raw o)
 | .mapUpdate t x k v=>(match P.underlying t with | some (.map kt _)=>(match P.underlying kt with | some kd=>.mput kd x k v | none=>.raw o) | _=>.raw o)
 | .typeAssert x _ t ok=>(match P.underlying t with | some d=>if qkF9 d = true then .raw o else .asr t (zeroP P t) x ok | none=>.raw o)
 | .extract x i=>.ext x i
 | .call c=>(match c.callee,c.argTypes.toList,c.args.toList with
  | .builtin .len,[t],[x]=>(match P.underlying t with | some (.slice _)=>.len x | some .string=>.slen x | some (.map _ _)=>.mlen x | _=>.raw o)
  | .builtin .append,[t,t'],[s,x]=>(match qt9 P t,qt9 P t' with
   | some e,some _=>(match (P.info? e).map (fun i=>(i.size,i.bytes,qhz9 i)) with | some (n,b,true)=>if n ≠ 0∧b ≠ 0 then .app n b s x else .raw o | _=>.raw o)
   | _,_=>.raw o)
  | .value (.func g),_,args=>.call g args
  | .value f,_,args=>.callV f args
  | .invoke r name,_,args=>.inv r name args
  | _,_,_=>.raw o)
 | _=>.raw o
end Go.Abs
namespace Go.Abs
open Go
set_option maxHeartbeats 1000000
section
variable {P : Program} {h : AHeap}

theorem qmJ9 {t : TypeId} {ag : Option Nat} (ha : agOf P t = some ag) (cs : List PV) (off : Nat) : partP P t cs off = partA ag cs off:=by
 unfold agOf at ha
 split at ha
 ·rename_i d i h1 h2
  simp only [Option.some.injEq] at ha
  subst ha
  simp only [partP,h1,h2]
  by_cases hd : qfp9 d = true
  ·simp [hd,partA]
  ·simp [hd,partA]
 ·cases ha
theorem qmw9 {s : TypeId} {f : Nat} {q : TypeId × Nat} (hq : fdOf P s f = some q) : ∃ fs fd,qdb9 P s = some fs∧fs[f]? = some fd∧fd.type = q.1∧fd.offset = q.2:=qpC9 (ft:=q.1) (o:=q.2) hq
theorem qpM9 {t : TypeId} {a b : Bool} (hu : P.underlying t = some .bool) : pev P (Op.equal t (.bool a) (.bool b)) = some (a == b):=by
 have e : ∀ d,pev P (Op.equalIn (d + 1) t (.bool a) (.bool b)) = some (a == b):=by
  intro d
  simp only [Op.equalIn,underlying,program,bind,pure,Sem.bind,pev,hu]
 exact e 9999
theorem qnT9 {α β : Type} {s : Sem α} {f : α→Sem β} {a : α} (h : pev P s = some a) : pev P (s >>= f) = pev P (f a):=by
 induction s with
 | pure x=>simp only [pev,Option.some.injEq] at h; subst h; rfl
 | program k ih=>exact ih P h
 | _=>cases h
theorem qsA9 {op : BinOp} {t : TypeId} {x y : Operand} {X Y Z : PV} (hu : P.underlying t = some .bool) (hb : binB op X Y = some Z) : opBin P h op t x y X Y = some (Z,h):=by
 unfold binB at hb
 split at hb
 ·rename_i a b
  split at hb
  ·rename_i v hv
   simp only [Option.some.injEq] at hb
   subst hb
   cases op <;> simp only [qpz9,Option.some.injEq,reduceCtorEq] at hv
   all_goals subst hv
   ·refine qbL9 qbi9 rfl rfl ?_
    simp only [eqGuard,binOp]
    exact qnT9 (qpM9 hu)
   ·refine qbL9 qbi9 rfl rfl ?_
    simp only [eqGuard,binOp]
    exact qnT9 (qpM9 hu)
  ·cases hb
 ·cases hb
theorem qrT9 {op : BinOp} {t : TypeId} {x y : Operand} {X Y Z : PV} (hb : binMA op X Y = some Z) : opBin P h op t x y X Y = some (Z,h):=by
 unfold binMA at hb
 split at hb
 ·split at hb
  ·rename_i hk
   subst hk
   split at hb
   ·rename_i v hv
    simp only [Option.some.injEq] at hb
    subst hb
    cases op with
    | quo =>
     simp only [qgQ9,quoV] at hv
     split at hv
     ·cases hv
     ·rename_i h0; simp only [Option.some.injEq] at hv; subst hv; exact qbL9 qbi9 rfl rfl (by simp [eqGuard,binOp,Op.intDiv,h0]; rfl)
    | rem =>
     simp only [qgQ9,remV] at hv
     split at hv
     ·cases hv
     ·rename_i h0; simp only [Option.some.injEq] at hv; subst hv; exact qbL9 qbi9 rfl rfl (by simp [eqGuard,binOp,Op.intDiv,h0]; rfl)
    | and=>simp only [qgQ9,Option.some.injEq] at hv; subst hv; exact qbL9 qbi9 rfl rfl (by simp [eqGuard,binOp,Op.intBits]; rfl)
    | or=>simp only [qgQ9,Option.some.injEq] at hv; subst hv; exact qbL9 qbi9 rfl rfl (by simp [eqGuard,binOp,Op.intBits]; rfl)
    | xor=>simp only [qgQ9,Option.some.injEq] at hv; subst hv; exact qbL9 qbi9 rfl rfl (by simp [eqGuard,binOp,Op.intBits]; rfl)
    | _=>simp [qgQ9] at hv
   ·cases hb
  ·cases hb
 ·cases hb
theorem qqh9 {op : BinOp} {t : TypeId} {x y : Operand} {X Y Z : PV} (hb : qlo9 op X Y = some Z) : opBin P h op t x y X Y = some (Z,h):=by
 unfold qlo9 at hb
 split at hb
 ·split at hb
  ·rename_i v hv
   simp only [Option.some.injEq] at hb
   subst hb
   cases op with
   | shl =>
    simp only [qim9,shlV] at hv
    split at hv
    ·rename_i h0; simp only [Option.some.injEq] at hv; subst hv; exact qbL9 qbi9 rfl rfl (by simp [eqGuard,binOp,Op.shift,Int.not_lt.2 h0]; rfl)
    ·cases hv
   | shr =>
    simp only [qim9,shrV] at hv
    split at hv
    ·rename_i h0; simp only [Option.some.injEq] at hv; subst hv; exact qbL9 qbi9 rfl rfl (by simp [eqGuard,binOp,Op.shift,Int.not_lt.2 h0]; rfl)
    ·cases hv
   | _=>simp [qim9] at hv
  ·cases hb
 ·cases hb
theorem qrK9 {op : BinOp} {t : TypeId} {x y : Operand} {X Y Z : PV} (hb : binA op X Y = some Z) : opBin P h op t x y X Y = some (Z,h):=by
 unfold binA at hb
 split at hb
 ·split at hb
  ·rename_i hk
   subst hk
   split at hb
   ·rename_i v hv
    simp only [Option.some.injEq] at hb
    subst hb
    cases op with
    | add=>simp only [arith,Option.some.injEq] at hv; subst hv; exact qlG9
    | sub=>simp only [arith,Option.some.injEq] at hv; subst hv; exact qzA9
    | mul=>simp only [arith,Option.some.injEq] at hv; subst hv; exact qpB9
    | eql=>simp only [arith,Option.some.injEq] at hv; subst hv; exact qzN9
    | lss=>simp only [arith,Option.some.injEq] at hv; subst hv; exact qAu9
    | gtr=>simp only [arith,Option.some.injEq] at hv; subst hv; exact qAJ9
    | neq=>simp only [arith,Option.some.injEq] at hv; subst hv; exact qzx9
    | leq=>simp only [arith,Option.some.injEq] at hv; subst hv; exact qAG9
    | geq=>simp only [arith,Option.some.injEq] at hv; subst hv; exact qAz9
    | _=>simp [arith] at hv
   ·cases hb
  ·cases hb
 ·split at hb
  ·rename_i v hv
   simp only [Option.some.injEq] at hb
   subst hb
   cases op with
   | add =>
    simp only [qii9] at hv
    split at hv
    ·rename_i hs
     simp only [Option.some.injEq] at hv
     subst hv
     exact qya9 hs
    ·cases hv
   | eql=>simp only [qii9,Option.some.injEq] at hv; subst hv; exact qxN9
   | neq=>simp only [qii9,Option.some.injEq] at hv; subst hv; exact qyP9
   | _=>simp [qii9] at hv
  ·cases hb
 ·cases hb
theorem qwN9 {t : TypeId} {X : PV} {lo hi : Option PV} (hX : ∀ s,X ≠ .d (.v (.string s))) : opCut P h t X lo hi none = match qt9 P t,lenP X with
   | some e,some n=>(match sizeT P e,bnd 0 lo,bnd n hi with
    | some sz,some l,some k=>if szOk h sz X = true∧0≤l∧l≤k∧k≤n then (cutP X l.toNat k.toNat hi.isNone).map fun x=>(x,h) else none
    | _,_,_=>none)
   | _,_=>none:=by
 cases X with
 | d d=>cases d with
  | v v=>cases v <;> first | rfl | exact absurd rfl (hX _)
  | _=>rfl
 | _=>rfl
theorem qsC9 {t e : TypeId} {n : Nat} (he : qt9 P t = some e) (hn : sizeT P e = some n) {X Z : PV} {lo hi : Option PV} (hc : cutA n h X lo hi = some Z) : opCut P h t X lo hi none = some (Z,h):=by
 unfold cutA at hc
 split at hc
 ·rename_i n' l k h1 h2 h3
  rw [h1] at h3
  split at hc
  ·rename_i hcond
   have hX : ∀ s,X ≠ .d (.v (.string s)):=by intro s e; subst e; simp [lenP] at h1
   rw [qwN9 hX]
   simp only [h1,Option.getD_some] at h3
   simp only [he,h1,hn,h2,h3,if_pos hcond,hc,Option.map_some]
  ·cases hc
 ·cases hc
theorem qxw9 {t : TypeId} (hu : P.underlying t = some .string) {s : ByteArray} {lo hi : Option PV} {w : PV} (hc : (match bnd 0 lo,bnd s.size hi with
  | some l,some k=>if 0≤l∧l≤k∧k≤s.size then some (PV.d (.v (.string (s.extract l.toNat k.toNat)))) else none
  | _,_=>none) = some w) : opCut P h t (.d (.v (.string s))) lo hi none = some (w,h):=by
 have key : ∀ (a b : Option Value) (l k : Int),(match a with | none=>l = 0 | some v=>∃ kk,v = .int kk l)→(match b with | none=>k = s.size | some v=>∃ kk,v = .int kk k)→0≤l∧l≤k∧k≤s.size→pev P (Instr.sliceAt t (.string s) a b none) = some (.string (s.extract l.toNat k.toNat)):=by
  intro a b l k ha hb hc
  have hk : 0≤k∧k≤(s.size : Int):=⟨by omega,hc.2.2⟩
  have hl : 0≤l∧l≤((k.toNat : Nat) : Int):=⟨hc.1,by omega⟩
  cases b with
  | none =>
   simp only at hb
   subst hb
   simp only [Int.toNat_natCast] at hl ⊢
   cases a with
   | none =>
    simp only at ha; subst ha
    simp only [Instr.sliceAt,Instr.slice,Instr.sliceBounds,underlying,program,bind,pure,Sem.bind,pev,hu]
    rfl
   | some v =>
    obtain ⟨kk,rfl⟩:=ha
    simp only [Instr.sliceAt,Instr.slice,Instr.sliceBounds,Instr.sliceBound,asIntOf,underlying,program,bind,pure,Sem.bind,pev,hu,if_pos hl]
    rfl
  | some vb =>
   obtain ⟨kb,rfl⟩:=hb
   cases a with
   | none =>
    simp only at ha; subst ha
    simp only [Instr.sliceAt,Instr.slice,Instr.sliceBounds,Instr.sliceBound,asIntOf,underlying,program,bind,pure,Sem.bind,pev,hu,if_pos hk]
    rfl
   | some v =>
    obtain ⟨kk,rfl⟩:=ha
    simp only [Instr.sliceAt,Instr.slice,Instr.sliceBounds,Instr.sliceBound,asIntOf,underlying,program,bind,pure,Sem.bind,pev,hu,if_pos hk,if_pos hl]
    rfl
 have op : ∀ (x : Option PV) (n l : Int),bnd n x = some l→∃ v,optV x = some v∧(match v with | none=>l = n | some v=>∃ kk,v = .int kk l):=by
  intro x n l hx
  cases x with
  | none=>simp only [bnd,Option.some.injEq] at hx; exact ⟨none,rfl,hx.symm⟩
  | some y =>
   simp only [bnd] at hx
   unfold qbj9 at hx
   split at hx
   ·rename_i kk m
    simp only [Option.some.injEq] at hx
    subst hx
    exact ⟨some (.int kk m),rfl,kk,rfl⟩
   ·cases hx
 split at hc
 ·rename_i l k h1 h2
  split at hc
  ·rename_i hcc
   simp only [Option.some.injEq] at hc
   subst hc
   obtain ⟨a,ha1,ha2⟩:=op lo _ _ h1
   obtain ⟨b,hb1,hb2⟩:=op hi _ _ h2
   simp only [opCut,qlk9,ha1,hb1,key a b l k ha2 hb2 hcc,Option.map_some]
  ·cases hc
 ·cases hc
theorem qR9 {x : Option PV} {r : PV × AHeap} (hs : same h x = some r) : ∃ z,x = some z∧r = (z,h):=by
 cases x with
 | none=>cases hs
 | some z=>simp only [same,Option.some.injEq] at hs; exact ⟨z,rfl,hs.symm⟩
end
section
variable {C : Cfg} {L : Oracle} {get : Nat→PV} {h : AHeap}
theorem qkS9 {d : TypeDesc} (hd : ¬ qkF9 d = true) : ∀ ms,d ≠ .interface ms:=by
 intro ms e; subst e; exact hd rfl
theorem qjZ9 {o : Oper} {r : PV × AHeap} (ho : aopA C L get h (qco9 C.P o) = some r) : aop C L get h o = some r:=by
 have raw : ∀ {o : Oper},aopA C L get h (.raw o) = aop C L get h o:=rfl
 unfold qco9 at ho
 split at ho
 ·rename_i x hop; simpa only [aop,hop,aopA] using ho
 ·rename_i x hop; simpa only [aop,hop,aopA] using ho
 ·rename_i c a b hop; simpa only [aop,hop,aopA] using ho
 ·rename_i e hop
  split at ho
  ·rename_i zs n h1 h2
   split at ho
   ·rename_i h0
    simp only [aopA,qpq9] at ho
    simp only [aop,hop,qjS9,h1,h2,if_pos h0]
    exact ho
   ·exact ho
  ·exact ho
 ·rename_i t x hop; simpa only [aop,hop,aopA] using ho
 ·rename_i t ps hop
  split at ho
  ·rename_i q hq
   unfold tabOf at hq
   split at hq
   ·rename_i zs fs hz hu
    split at hq
    ·rename_i hall
     simp only [Option.map_eq_some_iff] at hq
     obtain ⟨tab,ht,rfl⟩:=hq
     simp only [aopA] at ho
     simp only [aop,hop,qwf9 hz hu hall ht]
     exact ho
    ·cases hq
   ·cases hq
  ·exact ho
 ·rename_i t len ps hop
  split at ho
  ·rename_i n hn
   unfold litOf at hn
   split at hn
   ·cases hn
   ·rename_i e he
    split at hn
    ·rename_i zs n' hz hs
     split at hn
     ·rename_i hc
      simp only [Option.some.injEq] at hn
      subst hn
      simp only [aopA] at ho
      have hl : (ps.toList.map fun p=>(p.1,evO get p.2)).length = ps.toList.length:=by simp
      simp only [aop,hop,qno9 he hz hs hc.2.1,hl,if_pos (show len = ps.toList.length∧len * n'≤16777216 from ⟨hc.1,hc.2.2⟩)]
      exact ho
     ·cases hn
    ·cases hn
  ·exact ho
 ·rename_i t a hop
  split at ho
  ·rename_i ag hag
   simp only [aopA] at ho
   simp only [aop,hop,loadP]
   cases hc : qbs9 h (evO get a) with
   | none=>simp [hc] at ho
   | some cs =>
    simp only [hc] at ho
    obtain ⟨z,h1,rfl⟩:=qR9 ho
    simp [qmJ9 hag,h1]
  ·exact ho
 ·rename_i t a x hop
  split at ho
  ·rename_i n hn
   simp only [aopA] at ho
   split at ho
   ·rename_i h' hs
    simp only [Option.some.injEq] at ho
    subst ho
    simp only [aop,hop]
    unfold qnS9 at hs
    unfold qls9
    cases ha : evO get a with
    | ptr id ver idx off =>
     simp only [ha] at hs
     simp only [hn]
     cases hid : h[id]? with
     | none=>simp [hid] at hs
     | some ob =>
      cases ob with
      | row fz ver' sz es =>
       simp only [hid] at hs ⊢
       split at hs
       ·rename_i cs hcs
        simp only [hcs]
        split at hs
        ·rename_i hc; simp only [if_pos hc,Option.map_some,hs]
        ·cases hs
       ·cases hs
      | map _=>simp [hid] at hs
      | siter _ _=>simp [hid] at hs
    | _=>simp [ha] at hs
   ·cases ho
  ·exact ho
 ·rename_i x hop; simpa only [aop,hop,aopA] using ho
 ·rename_i op t x y b hop
  have hb : ∀ {z : Option PV},z = binA op (evO get x) (evO get y)→same h z = some r→aop C L get h o = some r:=by
   intro z hz hs
   obtain ⟨w,h1,rfl⟩:=qR9 hs
   simp only [aop,hop]
   exact qrK9 (by rw [← hz]; exact h1)
  split at ho
  ·simp only [aopA] at ho
   obtain ⟨w,h1,rfl⟩:=qR9 ho
   simp only [aop,hop]
   exact qqh9 h1
  split at ho
  ·simp only [aopA] at ho
   obtain ⟨w,h1,rfl⟩:=qR9 ho
   simp only [aop,hop]
   exact qrT9 h1
  split at ho
  ·exact hb rfl ho
  ·exact hb rfl ho
  ·rename_i hu
   simp only [aopA] at ho
   obtain ⟨w,h1,rfl⟩:=qR9 ho
   simp only [aop,hop]
   exact qsA9 hu h1
  ·exact ho
 ·rename_i t x hop
  simp only [aopA] at ho
  obtain ⟨w,h1,rfl⟩:=qR9 ho
  simp only [aop,hop]
  unfold notA at h1
  split at h1
  ·rename_i b hb
   simp only [Option.some.injEq] at h1
   subst h1
   rw [hb]; exact qAd9
  ·cases h1
 ·rename_i s d x hop
  split at ho
  ·rename_i k1 k h1 h2
   simp only [aopA] at ho
   obtain ⟨w,h3,rfl⟩:=qR9 ho
   simp only [aop,hop]
   unfold wrapA at h3
   split at h3
   ·rename_i k0 n hb
    simp only [Option.some.injEq] at h3
    subst h3
    rw [hb]; exact qxa9 h1 h2
   ·cases h3
  ·rename_i k1 h1 h2
   simp only [aopA] at ho
   obtain ⟨w,h3,rfl⟩:=qR9 ho
   simp only [aop,hop]
   unfold qpU9 at h3
   split at h3
   ·rename_i k0 n hb
    simp only [Option.some.injEq] at h3
    subst h3
    rw [hb]; exact qwg9 h1 h2
   ·cases h3
  ·exact ho
 ·rename_i t x hop
  split at ho
  ·rename_i d hd
   split at ho
   ·exact ho
   ·rename_i hi
    simp only [aop,hop,qvZ9 hd (qkS9 hi)]
    exact ho
  ·exact ho
 ·rename_i f first caps hop
  split at ho
  ·rename_i hf
   have : first.toList = []:=List.length_eq_zero_iff.1 hf
   simp only [aop,hop,qif9,this,List.map_nil]
   exact ho
  ·exact ho
 ·rename_i t hop
  split at ho
  ·rename_i kt et hu
   simp only [aop,hop,Option.map_none,qgO9,hu]
   exact ho
  ·exact ho
 ·rename_i t x hop
  split at ho
  ·rename_i kt et hu
   simp only [aopA] at ho
   simp only [aop,hop,Option.map_some,qgO9,hu]
   unfold qmi9 at ho
   split at ho
   ·rename_i k n hx; simp only [hx]; exact ho
   ·cases ho
  ·exact ho
 ·rename_i t x lo hi hop
  split at ho
  ·rename_i hu
   simp only [aopA] at ho
   obtain ⟨w,h3,rfl⟩:=qR9 ho
   simp only [aop,hop,Option.map_none]
   unfold cutSA at h3
   split at h3
   ·rename_i s hs
    rw [hs]
    exact qxw9 hu h3
   ·cases h3
  split at ho
  ·rename_i n hn
   obtain ⟨e,he,hn⟩:=Option.bind_eq_some_iff.1 hn
   simp only [aopA] at ho
   obtain ⟨w,h3,rfl⟩:=qR9 ho
   simp only [aop,hop,Option.map_none]
   exact qsC9 he hn h3
  ·exact ho
 ·rename_i t x hi m hop
  split at ho
  ·rename_i n hn
   obtain ⟨e,he,hn⟩:=Option.bind_eq_some_iff.1 hn
   simp only [aopA] at ho
   obtain ⟨w,h3,rfl⟩:=qR9 ho
   simp only [aop,hop,Option.map_none,Option.map_some,opCut,he,hn,h3]
  ·exact ho
 ·rename_i t x lo hi m hop
  split at ho
  ·rename_i n hn
   obtain ⟨e,he,hn⟩:=Option.bind_eq_some_iff.1 hn
   simp only [aopA] at ho
   obtain ⟨w,h3,rfl⟩:=qR9 ho
   simp only [aop,hop,Option.map_some,opCut,he,hn,h3]
  ·exact ho
 ·rename_i t x hop
  split at ho
  ·rename_i hu
   simp only [aopA] at ho
   simp only [aop,hop]
   unfold rngA at ho
   split at ho
   ·rename_i s hs; rw [hs,qwO9 hu]; exact ho
   ·cases ho
  ·exact ho
 ·rename_i x b hop; simpa only [aop,hop,aopA] using ho
 ·rename_i t x i hop
  split at ho
  ·rename_i hu
   simp only [aopA] at ho
   obtain ⟨w,h3,rfl⟩:=qR9 ho
   simp only [aop,hop]
   unfold ixSA at h3
   split at h3
   ·rename_i s k n hs hi
    split at h3
    ·rename_i h0
     split at h3
     ·rename_i b hb
      simp only [Option.some.injEq] at h3
      subst h3
      rw [hs,hi,show n = ((n.toNat : Nat) : Int) by omega]
      exact sindex hu hb
     ·cases h3
    ·cases h3
   ·cases h3
  ·exact ho
 ·rename_i t l c hop
  split at ho
  ·rename_i e he
   split at ho
   ·rename_i i z hi hz
    split at ho
    ·rename_i h0
     simp only [aopA] at ho
     simp only [aop,hop,qgD9,he]
     unfold mkSlA at ho
     split at ho
     ·rename_i l' k' h1 h2
      split at ho
      ·rename_i hc
       obtain ⟨hc1,hc2,hc3⟩:=hc
       simp only [h1,h2,hi,hz,if_pos (show l' = k'∧0≤l'∧(i.bytes : Int) * l'≤140737488355328∧0 < i.size∧0 < i.bytes from ⟨hc1,hc2,hc3,h0.1,h0.2⟩)]
       exact ho
      ·cases ho
     ·cases ho
    ·exact ho
   ·exact ho
  ·exact ho
 ·rename_i s x f hop
  split at ho
  ·rename_i q hq
   split at ho
   ·rename_i n hn
    split at ho
    ·exact ho
    ·rename_i h0
     simp only [aopA] at ho
     obtain ⟨w,h3,rfl⟩:=qR9 ho
     obtain ⟨fs,fd,k1,k2,k3,k4⟩:=qmw9 hq
     simp only [aop,hop,qfj9,k1,k2,k3,k4,hn,if_neg h0,h3,Option.map_some]
   ·exact ho
  ·exact ho
 ·rename_i t x f hop
  split at ho
  ·rename_i q hq
   split at ho
   ·rename_i ag hag
    simp only [aopA] at ho
    obtain ⟨w,h3,rfl⟩:=qR9 ho
    obtain ⟨fs,fd,k1,k2,k3,k4⟩:=qmw9 hq
    unfold fldA at h3
    split at h3
    ·rename_i cs hcs
     rw [← qmJ9 hag] at h3
     simp only [aop,hop,qig9,k1,k2,k3,k4,hcs,h3,Option.map_some]
    ·cases h3
   ·exact ho
  ·exact ho
 ·rename_i t x i hop
  split at ho
  ·rename_i len e hu
   split at ho
   ·rename_i n hn
    split at ho
    ·rename_i h0
     simp only [aopA] at ho
     obtain ⟨w,h3,rfl⟩:=qR9 ho
     unfold qpW9 at h3
     split at h3
     ·rename_i k hk
      split at h3
      ·rename_i hc
       simp only [aop,hop,qeo9,hk,hu,hn,if_pos (show 0≤k∧k < (len : Int)∧0 < n from ⟨hc.1,hc.2,h0⟩),h3,Option.map_some]
      ·cases h3
     ·cases h3
    ·exact ho
   ·exact ho
  split at ho
  ·rename_i n hn
   obtain ⟨e,he,hn⟩:=Option.bind_eq_some_iff.1 hn
   split at ho
   ·rename_i h0
    simp only [aopA] at ho
    obtain ⟨w,h3,rfl⟩:=qR9 ho
    unfold ixA at h3
    split at h3
    ·rename_i k n' h1 h2
     split at h3
     ·rename_i hc
      split at h3
      ·rename_i z hz
       split at h3
       ·rename_i hok
        simp only [Option.some.injEq] at h3
        subst h3
        have hu:=qbr9 he
        simp only [aop,hop,qeo9,h2,hu,hn,h1,if_pos (show 0≤n'∧n' < (k : Int)∧0 < n from ⟨hc.1,hc.2,h0⟩),hz,if_pos hok]
       ·cases h3
      ·cases h3
     ·cases h3
    ·cases h3
   ·exact ho
  ·exact ho
 ·rename_i t x k ok hop
  split at ho
  ·rename_i kt et hu
   split at ho
   ·rename_i kd z hk hz
    simp only [aopA] at ho
    obtain ⟨w,h3,rfl⟩:=qR9 ho
    have hkey : ∀ v,qfk9 C.P kt v = keyD kd v:=by intro v; simp only [qfk9,hk]
    simp only [aop,hop,qip9,hu]
    unfold lookA at h3
    split at h3
    ·rename_i id kv hX hK
     simp only [hX,hK]
     split at h3
     ·rename_i es hid
      simp only [hid,hz,hkey]
      split at h3
      ·rename_i hkd
       simp only [if_pos hkd]
       split at h3
       ·cases h3
       ·rename_i hl; simp only [Option.some.injEq] at h3; subst h3; simp only [hl]
       ·rename_i i v hl; simp only [Option.some.injEq] at h3; subst h3; simp only [hl]
      ·cases h3
     ·cases h3
    ·cases h3
   ·exact ho
  ·exact ho
 ·rename_i t x k v hop
  split at ho
  ·rename_i kt et hu
   split at ho
   ·rename_i kd hk
    simp only [aopA] at ho
    split at ho
    ·rename_i h' h3
     simp only [Option.some.injEq] at ho
     subst ho
     have hkey : ∀ v,qfk9 C.P kt v = keyD kd v:=by intro v; simp only [qfk9,hk]
     simp only [aop,hop,qgC9,hu]
     unfold mputA at h3
     split at h3
     ·rename_i id kv hX hK
      simp only [hX,hK]
      split at h3
      ·rename_i es hid
       simp only [hid,hkey]
       split at h3
       ·rename_i hkd
        simp only [if_pos hkd]
        unfold putP at h3
        cases hl : lookP kv es with
        | none=>simp [hl] at h3
        | some q =>
         cases q with
         | none=>simp only [hl,Option.some.injEq] at h3; subst h3; rfl
         | some q=>obtain ⟨i,v⟩:=q; simp only [hl,Option.some.injEq] at h3; subst h3; rfl
       ·cases h3
      ·cases h3
     ·cases h3
    ·cases ho
   ·exact ho
  ·exact ho
 ·rename_i x t0 t ok hop
  split at ho
  ·rename_i d hd
   split at ho
   ·exact ho
   ·rename_i hi
    simp only [aopA] at ho
    obtain ⟨w,h3,rfl⟩:=qR9 ho
    simp only [aop,hop,qtv9 hd (qkS9 hi)]
    unfold asrA at h3
    unfold qfA9
    split at h3
    ·cases h3
    ·rename_i hdy
     simp only [hdy]
     split at h3
     ·rename_i hok
      simp only [if_pos hok]
      split at h3
      ·rename_i zv hz; simp only [Option.some.injEq] at h3; subst h3; simp [hz]
      ·cases h3
     ·cases h3
    ·rename_i t' v hdy
     simp only [hdy]
     split at h3
     ·rename_i ht; simp only [Option.some.injEq] at h3; subst h3; simp only [if_pos ht]
     ·rename_i ht
      simp only [if_neg ht]
      split at h3
      ·rename_i hok
       simp only [if_pos hok]
       split at h3
       ·rename_i zv hz; simp only [Option.some.injEq] at h3; subst h3; simp [hz]
       ·cases h3
      ·cases h3
  ·exact ho
 ·rename_i x i hop; simpa only [aop,hop,aopA] using ho
 ·rename_i c hop
  simp only [aop,hop]
  split at ho
  ·rename_i t x hcal hts hargs
   have hts' : c.argTypes = #[t]:=by rw [← hts]
   have hab : ∀ z : PV,aopA C L get h (.raw o) = some r→qcA9 C L h c.callee (qdf9 get c.callee) c.argTypes o.type (c.args.toList.map (evO get)) = some r:=by
    intro z hr; rw [raw] at hr; simpa only [aop,hop] using hr
   split at ho
   ·rename_i e hu
    simp only [aopA] at ho
    obtain ⟨w,h3,rfl⟩:=qR9 ho
    unfold lenA at h3
    simp only at h3
    split at h3
    ·rename_i n hn
     simp only [Option.some.injEq] at h3
     subst h3
     rw [hcal,hargs,hts']
     simp only [List.map_cons,List.map_nil,qzz9,hu,hn]
    ·cases h3
   ·rename_i hu
    simp only [aopA] at ho
    obtain ⟨w,h3,rfl⟩:=qR9 ho
    unfold slenA at h3
    split at h3
    ·rename_i s hs
     simp only [Option.some.injEq] at h3
     subst h3
     rw [hcal,hargs,hts']
     simp only [List.map_cons,List.map_nil,hs]
     exact qyY9 hu
    ·cases h3
   ·rename_i kt et hu
    simp only [aopA] at ho
    obtain ⟨w,h3,rfl⟩:=qR9 ho
    unfold mlenA at h3
    split at h3
    ·rename_i id hs
     split at h3
     ·rename_i es hes
      simp only [Option.some.injEq] at h3
      subst h3
      rw [hcal,hargs,hts']
      simp only [List.map_cons,List.map_nil,hs]
      have e : (#[t][0]?).bind C.P.underlying = C.P.underlying t:=rfl
      simp only [qcA9,qbh9,lenP,hes,e,hu]
     ·cases h3
    ·cases h3
   ·exact hab .junk ho
  ·rename_i t t' s x hcal hts hargs
   have hts' : c.argTypes = #[t,t']:=by rw [← hts]
   have hab : aopA C L get h (.raw o) = some r→qcA9 C L h c.callee (qdf9 get c.callee) c.argTypes o.type (c.args.toList.map (evO get)) = some r:=by
    intro hr; rw [raw] at hr; simpa only [aop,hop] using hr
   split at ho
   ·rename_i e e' he he'
    split at ho
    ·rename_i n b hi
     split at ho
     ·rename_i h0
      simp only [aopA] at ho
      rw [hcal,hargs,hts']
      simp only [List.map_cons,List.map_nil,qtx9 he',qvl9 he hi h0.1 h0.2]
      exact ho
     ·exact hab ho
    ·exact hab ho
   ·exact hab ho
  ·rename_i g hcal
   simp only [aopA] at ho
   simp only [hcal,qcA9,qdf9,evO,List.append_nil]
   exact ho
  ·rename_i f hne hcal
   simp only [aopA] at ho
   simp only [hcal,qcA9,qdf9]
   exact ho
  ·rename_i r name hcal
   simp only [aopA] at ho
   simp only [hcal,qcA9,qdf9]
   exact ho
  ·rw [raw] at ho; simpa only [aop,hop] using ho
 ·exact ho
end
end Go.Abs

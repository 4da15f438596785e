import Derived.Test.YtfjgfcnhklopdaaDoorAbs28
set_option maxHeartbeats 400000
set_option linter.unusedVariables false
set_option linter.unusedSimpArgs false
namespace Go.Abs
open Go

inductive AOp where
  | mv (x : Operand)
  | pick (c a b : Operand)
  | alloc (zs : List PV) (n : Nat)
  | box (x : Operand)
  | build (tab : List (Nat × Nat)) (zs : List PV) (ps : List (Nat × Operand))
  | lit (n : Nat) (ps : List (Nat × Operand))
  | load (ag : Option Nat) (a : Operand)
  | loadB (ag : Option Nat) (a : Operand)
  | store (n : Nat) (a x : Operand)
  | nilC (x : Operand)
  | bin (op : BinOp) (x y : Operand)
  | binB (op : BinOp) (x y : Operand)
  | binM (op : BinOp) (x y : Operand)
  | sh (op : BinOp) (x y : Operand)
  | not (x : Operand)
  | wrap (k : IntKind) (x : Operand)
  | toStr (x : Operand)
  | mkI (t : TypeId) (x : Operand)
  | mkF (f : FuncId) (caps : List Operand)
  | mkMap
  | mkMapN (x : Operand)
  | ixArr (len sz : Nat) (x i : Operand)
  | cut (sz : Nat) (x : Operand) (lo hi : Option Operand)
  | cutF (sz : Nat) (x : Operand) (hi : Option Operand) (m : Operand)
  | fa (off : Nat) (x : Operand)
  | fld (ag : Option Nat) (off : Nat) (x : Operand)
  | ix (sz : Nat) (x i : Operand)
  | look (kd : TypeDesc) (z : PV) (x k : Operand) (ok : Bool)
  | mput (kd : TypeDesc) (x k v : Operand)
  | asr (t : TypeId) (z : Option PV) (x : Operand) (ok : Bool)
  | ext (x : Operand) (i : Nat)
  | len (x : Operand)
  | slen (x : Operand)
  | mlen (x : Operand)
  | app (n b : Nat) (s x : Operand)
  | call (g : FuncId) (args : List Operand)
  | callV (f : Operand) (args : List Operand)
  | inv (r : Operand) (name : String) (args : List Operand)
  | rng (x : Operand)
  | nxt (x : Operand) (b : Bool)
  | cutS (x : Operand) (lo hi : Option Operand)
  | ixS (x i : Operand)
  | mkSl (z : List PV) (n b : Nat) (l c : Operand)
  | raw (o : Oper)

def qhf9 : PV → Option (List PV)
  | .bx cs => some cs
  | .d (.bx cs) => some (cs.map PV.d)
  | _ => none
def partA (ag : Option Nat) (cs : List PV) (off : Nat) : Option PV := match ag with
  | none => cs[off]?
  | some n => if off + n ≤ cs.length then some (.ag ((cs.drop off).take n)) else none
abbrev bool' (b : Bool) : PV := .d (.v (.bool b))
def arith (op : BinOp) (k : IntKind) (a b : Int) : Option Value := match op with
  | .add => some (.int k (k.wrap (a + b)))
  | .sub => some (.int k (k.wrap (a - b)))
  | .mul => some (.int k (k.wrap (a * b)))
  | .lss => some (.bool (decide (a < b)))
  | .leq => some (.bool (decide (a ≤ b)))
  | .gtr => some (.bool (decide (b < a)))
  | .geq => some (.bool (decide (b ≤ a)))
  | .eql => some (.bool (decide (a = b)))
  | .neq => some (.bool (decide (a ≠ b)))
  | _ => none
def qjf9 (op : BinOp) (a b : ByteArray) : Option Value := match op with
  | .add => if ((a.size + b.size : Nat) : Int) ≤ 9223372036854775807 then some (.string (a ++ b)) else none
  | .eql => some (.bool (decide (a = b)))
  | .neq => some (.bool (decide (a ≠ b)))
  | _ => none
def qpJ9 (op : BinOp) (a b : Bool) : Option Value := match op with
  | .eql => some (.bool (a == b))
  | .neq => some (.bool (a != b))
  | _ => none
def binA (op : BinOp) : PV → PV → Option PV
  | .d (.v (.int k a)), .d (.v (.int k' b)) => if k = k' then (match arith op k a b with | some v => some (.d (.v v)) | none => none) else none
  | .d (.v (.string a)), .d (.v (.string b)) => (match qjf9 op a b with | some v => some (.d (.v v)) | none => none)
  | _, _ => none
def binB (op : BinOp) : PV → PV → Option PV
  | .d (.v (.bool a)), .d (.v (.bool b)) => (match qpJ9 op a b with | some v => some (.d (.v v)) | none => none)
  | _, _ => none
def shlV (k : IntKind) (a b : Int) : Option Int := if 0 ≤ b then some (k.wrap (a * 2 ^ (min b.toNat k.bits))) else none
def shrV (k : IntKind) (a b : Int) : Option Int := if 0 ≤ b then some (a.fdiv (2 ^ (min b.toNat k.bits))) else none
def quoV (k : IntKind) (a b : Int) : Option Int := if b = 0 then none else some (k.wrap (a.tdiv b))
def remV (a b : Int) : Option Int := if b = 0 then none else some (a.tmod b)
def andV (k : IntKind) (a b : Int) : Int := k.wrap ((BitVec.ofInt k.bits a &&& BitVec.ofInt k.bits b).toNat : Nat)
def orV (k : IntKind) (a b : Int) : Int := k.wrap ((BitVec.ofInt k.bits a ||| BitVec.ofInt k.bits b).toNat : Nat)
def xorV (k : IntKind) (a b : Int) : Int := k.wrap ((BitVec.ofInt k.bits a ^^^ BitVec.ofInt k.bits b).toNat : Nat)
def qhp9 (op : BinOp) (k : IntKind) (a b : Int) : Option Int := match op with
  | .quo => quoV k a b
  | .rem => remV a b
  | .and => some (andV k a b)
  | .or => some (orV k a b)
  | .xor => some (xorV k a b)
  | _ => none
def qjk9 (op : BinOp) (k : IntKind) (a b : Int) : Option Int := match op with
  | .shl => shlV k a b
  | .shr => shrV k a b
  | _ => none
def binMA (op : BinOp) : PV → PV → Option PV
  | .d (.v (.int k a)), .d (.v (.int k' b)) => if k = k' then (match qhp9 op k a b with | some v => some (.d (.v (.int k v))) | none => none) else none
  | _, _ => none
def qlM9 (op : BinOp) : PV → PV → Option PV
  | .d (.v (.int k a)), .d (.v (.int _ b)) => (match qjk9 op k a b with | some v => some (.d (.v (.int k v))) | none => none)
  | _, _ => none
def isM : BinOp → Bool
  | .quo | .rem | .and | .or | .xor => true
  | _ => false
def isSh : BinOp → Bool
  | .shl | .shr => true
  | _ => false
def notA : PV → Option PV
  | .d (.v (.bool b)) => some (.d (.v (.bool (!b))))
  | _ => none
def wrapA (k : IntKind) : PV → Option PV
  | .d (.v (.int _ n)) => some (.d (.v (.int k (k.wrap n))))
  | _ => none
def qpW9 : PV → Option PV
  | .d (.v (.int _ n)) => some (.d (.v (.string (Utf8.encode n))))
  | _ => none
def bndA (n : Int) : Option PV → Option Int
  | none => some n
  | some x => qbQ9 x
def cutA (sz : Nat) (h : AHeap) (X : PV) (lo hi : Option PV) : Option PV := match lenP X, bnd 0 lo, bnd ((lenP X).getD 0) hi with
  | some n, some l, some k => if szOk h sz X = true ∧ 0 ≤ l ∧ l ≤ k ∧ k ≤ n then cutP X l.toNat k.toNat hi.isNone else none
  | _, _, _ => none
def fldA (ag : Option Nat) (off : Nat) (X : PV) : Option PV := match qee9 X with
  | some cs => partA ag cs off
  | none => none
def ixA (h : AHeap) (sz : Nat) (X I : PV) : Option PV := match lenP X, qbQ9 I with
  | some k, some n => if 0 ≤ n ∧ n < k then (match qhu9 X n.toNat with
    | some x => if qgy9 h sz x = true then some x else none
    | none => none) else none
  | _, _ => none
def lookA (kd : TypeDesc) (z : PV) (h : AHeap) (X K : PV) (ok : Bool) : Option PV := match X, toV K with
  | .mp id, some kv => (match h[id]? with
    | some (.map es) => if keyD kd kv = true then (match lookP kv es with
        | none => none
        | some none => some (okTup ok z false)
        | some (some (_, v)) => some (okTup ok v true)) else none
    | _ => none)
  | _, _ => none
def putP (kv : Value) (V : PV) (es : List (Value × PV)) : Option (List (Value × PV)) := match lookP kv es with
  | none => none
  | some none => some (es ++ [(kv, V)])
  | some (some (i, _)) => some (es.set i (kv, V))
def mputA (kd : TypeDesc) (h : AHeap) (X K V : PV) : Option AHeap := match X, toV K with
  | .mp id, some kv => (match h[id]? with
    | some (.map es) => if keyD kd kv = true then (match putP kv V es with
        | none => none
        | some es' => some (h.set id (.map es'))) else none
    | _ => none)
  | _, _ => none
def asrA (t : TypeId) (z : Option PV) (X : PV) (ok : Bool) : Option PV := match dynOf X with
  | none => none
  | some none => if ok = true then (match z with | some zv => some (.tp [zv, .d (.v (.bool false))]) | none => none) else none
  | some (some (t', v)) => if t' = t then some (okTup ok v true)
      else if ok = true then (match z with | some zv => some (.tp [zv, .d (.v (.bool false))]) | none => none) else none
def lenA : PV → Option PV
  | x => match lenP x with
    | some n => some (.d (.v (.int .i64 n)))
    | none => none
def slenA : PV → Option PV
  | .d (.v (.string s)) => some (.d (.v (.int .i64 s.size)))
  | _ => none
def mlenA (h : AHeap) : PV → Option PV
  | .mp id => (match h[id]? with | some (.map es) => some (.d (.v (.int .i64 es.length))) | _ => none)
  | _ => none
def qpD9 (zs : List PV) (n : Nat) (h : AHeap) : PV × AHeap := (.ptr h.length 0 0 0, qgl9 h [zs] n)
def qoo9 (n : Nat) (h : AHeap) (a x : PV) : Option AHeap := match a with
  | .ptr id ver idx off => (match h[id]? with
    | some (.row fz ver' sz es) => (match es[idx]? with
      | some cs => if fz = false ∧ ver = ver' ∧ qdA9 x = true ∧ (qY9 x).length = n ∧ off + n ≤ cs.length then some (h.set id (.row fz ver' sz (es.set idx (splice cs off (qY9 x))))) else none
      | none => none)
    | _ => none)
  | _ => none
def rngA (h : AHeap) : PV → Option (PV × AHeap)
  | .d (.v (.string s)) => some (.it h.length, h ++ [.siter s 0])
  | _ => none
def cutSA (X : PV) (lo hi : Option PV) : Option PV := match X with
  | .d (.v (.string s)) => (match bnd 0 lo, bnd s.size hi with
    | some l, some k => if 0 ≤ l ∧ l ≤ k ∧ k ≤ s.size then some (.d (.v (.string (s.extract l.toNat k.toNat)))) else none
    | _, _ => none)
  | _ => none
def ixSA (X I : PV) : Option PV := match X, I with
  | .d (.v (.string s)), .d (.v (.int _ i)) => if 0 ≤ i then (match s[i.toNat]? with | some b => some (.d (.v (.int .u8 ((b.toNat : Nat) : Int)))) | none => none) else none
  | _, _ => none
def mkSlA (z : List PV) (n b : Nat) (h : AHeap) (L K : PV) : Option (PV × AHeap) := match qbQ9 L, qbQ9 K with
  | some l, some k => if l = k ∧ 0 ≤ l ∧ (b : Int) * l ≤ 140737488355328 then some (.ref h.length 0 0 l.toNat, h ++ [.row false 0 n (List.replicate l.toNat z)]) else none
  | _, _ => none
def qmN9 (h : AHeap) : PV → Option (PV × AHeap)
  | .d (.v (.int _ _)) => some (.mp h.length, h ++ [.map []])
  | _ => none
def qpY9 (len sz : Nat) (X I : PV) : Option PV := match qbQ9 I with
  | some n => if 0 ≤ n ∧ n < len then qdX9 X (n.toNat * sz) else none
  | none => none
def same (h : AHeap) : Option PV → Option (PV × AHeap)
  | some x => some (x, h)
  | none => none
def aopA (C : Cfg) (L : Oracle) (get : Nat → PV) (h : AHeap) : AOp → Option (PV × AHeap)
  | .mv x => some (evO get x, h)
  | .pick c a b => qkg9 (evO get c) (evO get a) (evO get b) h
  | .alloc zs n => some (qpD9 zs n h)
  | .box x => opBox h (evO get x)
  | .build tab zs ps => (match qii9 tab zs (ps.map fun p => (p.1, evO get p.2)) with | some cs => some (.ag cs, h) | none => none)
  | .lit n ps => (match qde9 n 0 (ps.map fun p => (p.1, evO get p.2)) with | some es => some (.im true es, h) | none => none)
  | .load ag a => (match qbH9 h (evO get a) with | some cs => same h (partA ag cs 0) | none => none)
  | .loadB ag a => (match qhf9 (evO get a) with | some cs => same h (partA ag cs 0) | none => none)
  | .store n a x => (match qoo9 n h (evO get a) (evO get x) with | some h' => some (.junk, h') | none => none)
  | .nilC x => opNil (evO get x) h
  | .bin op x y => same h (binA op (evO get x) (evO get y))
  | .binB op x y => same h (binB op (evO get x) (evO get y))
  | .binM op x y => same h (binMA op (evO get x) (evO get y))
  | .sh op x y => same h (qlM9 op (evO get x) (evO get y))
  | .not x => same h (notA (evO get x))
  | .wrap k x => same h (wrapA k (evO get x))
  | .toStr x => same h (qpW9 (evO get x))
  | .mkI t x => some (.ifc t (evO get x), h)
  | .mkF f caps => some (.fn f (caps.map (evO get)), h)
  | .mkMap => some (.mp h.length, h ++ [.map []])
  | .mkMapN x => qmN9 h (evO get x)
  | .ixArr len sz x i => same h (qpY9 len sz (evO get x) (evO get i))
  | .cut sz x lo hi => same h (cutA sz h (evO get x) (lo.map (evO get)) (hi.map (evO get)))
  | .cutF sz x hi m => same h (cutF sz h (evO get x) (hi.map (evO get)) (evO get m))
  | .fa off x => same h (qdX9 (evO get x) off)
  | .fld ag off x => same h (fldA ag off (evO get x))
  | .ix sz x i => same h (ixA h sz (evO get x) (evO get i))
  | .look kd z x k ok => same h (lookA kd z h (evO get x) (evO get k) ok)
  | .mput kd x k v => (match mputA kd h (evO get x) (evO get k) (evO get v) with | some h' => some (.junk, h') | none => none)
  | .asr t z x ok => same h (asrA t z (evO get x) ok)
  | .ext x i => qgj9 h (evO get x) i
  | .len x => same h (lenA (evO get x))
  | .slen x => same h (slenA (evO get x))
  | .mlen x => same h (mlenA h (evO get x))
  | .app n b s x => (match elems h (evO get x) with | some ys => qkk9 n b h (evO get s) ys | none => none)
  | .call g args => callP C L g (args.map (evO get)) h
  | .callV f args => (match evO get f with
    | .fn g caps => callP C L g (args.map (evO get) ++ caps) h
    | .d (.fn g caps) => callP C L g (args.map (evO get) ++ caps.map PV.d) h
    | _ => none)
  | .inv r name args => (match evO get r with
    | .ifc t x => (match qeC9 C.P t name with | some g => callP C L g (x :: args.map (evO get)) h | none => none)
    | .d (.ifc t x) => (match qeC9 C.P t name with | some g => callP C L g (PV.d x :: args.map (evO get)) h | none => none)
    | _ => none)
  | .rng x => rngA h (evO get x)
  | .nxt x b => qke9 h (evO get x) b
  | .cutS x lo hi => same h (cutSA (evO get x) (lo.map (evO get)) (hi.map (evO get)))
  | .ixS x i => same h (ixSA (evO get x) (evO get i))
  | .mkSl z n b l c => mkSlA z n b h (evO get l) (evO get c)
  | .raw o => aop C L get h o

def agOf (P : Program) (t : TypeId) : Option (Option Nat) := match P.underlying t, P.info? t with
  | some d, some i => some (if qfJ9 d = true then some i.size else none)
  | _, _ => none
def tabOf (P : Program) (t : TypeId) : Option (List (Nat × Nat) × List PV) := match zeroCells P t, P.underlying t with
  | some zs, some (.struct fs) => if fs.toList.all (fun f => (P.info? f.type).isSome) = true then (mapO (fun f : Field => (sizeT P f.type).map fun n => (f.offset, n)) fs.toList).map fun tab => (tab, zs) else none
  | _, _ => none
def litOf (P : Program) (t : TypeId) (len k : Nat) : Option Nat := match qK9 P t with
  | none => none
  | some e => match zeroCells P e, sizeT P e with
    | some _, some n => if len = k ∧ 0 < n ∧ len * n ≤ 16777216 then some n else none
    | _, _ => none
def fdOf (P : Program) (s : TypeId) (f : Nat) : Option (TypeId × Nat) := ((qdG9 P s).bind (fun fs => fs[f]?)).map (fun fd => (fd.type, fd.offset))
def qlm9 : TypeDesc → Bool
  | .interface _ => true
  | _ => false
def qdY9 (P : Program) (o : Oper) : AOp := match o.op with
  | .move x => .mv x
  | .assign x => .mv x
  | .pick c a b => .pick c a b
  | .alloc e => (match zeroCells P e, sizeT P e with | some zs, some n => if 0 < n then .alloc zs n else .raw o | _, _ => .raw o)
  | .box _ x => .box x
  | .build t ps => (match tabOf P t with | some q => .build q.1 q.2 ps.toList | none => .raw o)
  | .buildSlice t len ps => (match litOf P t len ps.toList.length with | some n => .lit n ps.toList | none => .raw o)
  | .load t a => (match agOf P t with | some ag => .load ag a | none => .raw o)
  | .store t a x => (match sizeT P t with | some n => .store n a x | none => .raw o)
  | .nilCheck x => .nilC x
  | .binOp op t x y _ => if isSh op = true then .sh op x y else if isM op = true then .binM op x y else (match P.underlying t with | some (.int _) | some .string => .bin op x y | some .bool => .binB op x y | _ => .raw o)
  | .unOp .not _ x => .not x
  | .convert s d x => (match P.underlying s, P.underlying d with | some (.int _), some (.int k) => .wrap k x | some (.int _), some .string => .toStr x | _, _ => .raw o)
  | .makeInterface t x => (match P.underlying t with | some d => if qlm9 d = true then .raw o else .mkI t x | none => .raw o)
  | .makeFunc (.func f) first caps => if first.toList.length = 0 then .mkF f caps.toList else .raw o
  | .makeMap t none => (match P.underlying t with | some (.map _ _) => .mkMap | _ => .raw o)
  | .makeMap t (some x) => (match P.underlying t with | some (.map _ _) => .mkMapN x | _ => .raw o)
  | .slice t x lo hi none => (match P.underlying t with | some .string => .cutS x lo hi | _ => (match (qK9 P t).bind (sizeT P) with | some n => .cut n x lo hi | none => .raw o))
  | .slice t x none hi (some m) => (match (qK9 P t).bind (sizeT P) with | some n => .cutF n x hi m | none => .raw o)
  | .range t x => (match P.underlying t with | some .string => .rng x | _ => .raw o)
  | .next x b => .nxt x b
  | .index t x i => (match P.underlying t with | some .string => .ixS x i | _ => .raw o)
  | .makeSlice t l c => (match qK9 P t with | some e => (match P.info? e, zeroCells P e with | some i, some z => if 0 < i.size ∧ 0 < i.bytes then .mkSl (z.map setl) i.size i.bytes l c else .raw o | _, _ => .raw o) | none => .raw o)
  | .fieldAddr s x f => (match fdOf P s f with | some q => (match sizeT P q.1 with | some n => if n = 0 then .raw o else .fa q.2 x | none => .raw o) | none => .raw o)
  | .field t x f => (match fdOf P t f with | some q => (match agOf P q.1 with | some ag => .fld ag q.2 x | none => .raw o) | none => .raw o)
  | .indexAddr t x i => (match P.underlying t with | some (.array len e) => (match sizeT P e with | some n => if 0 < n then .ixArr len n x i else .raw o | none => .raw o) | _ => (match (qK9 P t).bind (sizeT P) with | some n => if 0 < n then .ix n x i else .raw o | none => .raw o))
  | .lookup t x k ok => (match P.underlying t with | some (.map kt et) => (match P.underlying kt, zeroP P et with | some kd, some z => .look kd z x k ok | _, _ => .raw o) | _ => .raw o)
  | .mapUpdate t x k v => (match P.underlying t with | some (.map kt _) => (match P.underlying kt with | some kd => .mput kd x k v | none => .raw o) | _ => .raw o)
  | .typeAssert x _ t ok => (match P.underlying t with | some d => if qlm9 d = true then .raw o else .asr t (zeroP P t) x ok | none => .raw o)
  | .extract x i => .ext x i
  | .call c => (match c.callee, c.argTypes.toList, c.args.toList with
    | .builtin .len, [t], [x] => (match P.underlying t with | some (.slice _) => .len x | some .string => .slen x | some (.map _ _) => .mlen x | _ => .raw o)
    | .builtin .append, [t, t'], [s, x] => (match qK9 P t, qK9 P t' with
      | some e, some _ => (match (P.info? e).map (fun i => (i.size, i.bytes, qif9 i)) with | some (n, b, true) => if n ≠ 0 ∧ b ≠ 0 then .app n b s x else .raw o | _ => .raw o)
      | _, _ => .raw o)
    | .value (.func g), _, args => .call g args
    | .value f, _, args => .callV f args
    | .invoke r name, _, args => .inv r name args
    | _, _, _ => .raw o)
  | _ => .raw o
end Go.Abs

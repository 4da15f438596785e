import Derived.Test.YtmkohpkfeamjiaaAbs30
set_option maxHeartbeats 400000
set_option linter.unusedVariables false
set_option linter.unusedSimpArgs false
set_option linter.unusedSectionVars false
namespace Go.Abs
open Go

structure AOper where
 dst : Option (Nat × Bool)
 op : AOp
 g : Option (Nat × Bool)
 chk : Bool
 co : Bool:=false

def AOper.T (d : Nat) (op : AOp) : AOper:=⟨some (d,false),op,none,false,false⟩
def AOper.K (d : Nat) (op : AOp) : AOper:=⟨some (d,true),op,none,false,false⟩
def AOper.M (d s : Nat) : AOper:=⟨some (d,false),.mv (.tmp s),none,false,false⟩
def AOper.N (d s : Nat) : AOper:=⟨some (d,true),.mv (.tmp s),none,false,false⟩
def AOper.TG (d g : Nat) (b : Bool) (op : AOp) : AOper:=⟨some (d,false),op,some (g,b),false,false⟩
def AOper.MG (d g : Nat) (b : Bool) (s : Nat) : AOper:=⟨some (d,false),.mv (.tmp s),some (g,b),false,false⟩
abbrev cI (n : Int) : Operand:=.const (.int .i64 n)

inductive ACode where
 | skip
 | reg (pre post : List (Nat × Nat)) (ops : List AOper)
 | seq (a b : ACode)
 | cond (c : Operand) (del : Option Nat) (a b : ACode)
 | block (id : Nat) (del : Nat) (c : ACode)
 | loop (c : ACode)
 | exit (id : Nat)
 | ret
 | goto (l : Nat)
 | gbody (l d : Nat) (c : ACode)
 | sseq (a b : ACode)

def coA (keep : Nat) : List (Nat × Nat)→St→Option St
 | [],s=>some s
 | (i,k)::r,s=>if keep.testBit i = true then (match coV s.h k (s.env.get i) with
  | some p=>coA keep r ⟨s.env.set i p.1,p.2⟩
  | none=>none) else none
def qil9 (C : Cfg) (L : Oracle) (get : Nat→PV) (h : AHeap) (g : Nat × Bool) (op : AOp) : Option (PV × AHeap):=match get g.1 with
 | .d (.v (.bool b))=>if b = g.2 then aopA C L get h op else some (qjt9,h)
 | .d (.v (.tuple _))=>some (qjt9,h)
 | _=>none
def opA (C : Cfg) (L : Oracle) (get : Nat→PV) (h : AHeap) (o : AOper) : Option (PV × AHeap):=match o.g with
 | none=>aopA C L get h o.op
 | some g=>qil9 C L get h g o.op
def putA (dst : Option (Nat × Bool)) (r : PV) (te env : Env) : Env × Env:=match dst with
 | none=>(te,env)
 | some (d,true)=>(te,env.set d r)
 | some (d,false)=>((d,r)::te,env)
def delS (del : Option Nat) (s : St) : St:=match del with
 | none=>s
 | some i=>⟨Env.del (2 ^ i) s.env,s.h⟩
def delOf (t : Hint) (c : Operand) : Option Nat:=match c with
 | .tmp i=>if i < t.loc then none else some i
 | _=>none
open Classical in
noncomputable def opsA (C : Cfg) (L : Oracle) : List AOper→Env→Env→AHeap→Option St
 | [],_,env,h=>some ⟨env,h⟩
 | o::r,te,env,h=>match opA C L (get2 te env) h o with
  | none=>none
  | some (x,h')=>if o.chk = false∨h' = h then (match (if o.co = true then coV h' 0 x else some (x,h')) with
   | none=>none
   | some (x,h')=>opsA C L r (putA o.dst x te env).1 (putA o.dst x te env).2 h') else none
noncomputable def semA (C : Cfg) (L : Oracle) (keep : Nat) : ACode→St→Option (AExit × St)
 | .skip,s=>some (.normal,s)
 | .reg pre post ops,s=>match coA keep pre s with
  | none=>none
  | some s1=>match opsA C L ops [] s1.env s1.h with
   | none=>none
   | some s2=>match coA keep post s2 with
    | none=>none
    | some s3=>some (.normal,s3)
 | .seq a b,s=>match semA C L keep a s with
  | some (.normal,s')=>semA C L keep b s'
  | r=>r
 | .cond c del a b,s=>match evO s.env.get c with
  | .d (.v (.bool true))=>semA C L keep a (delS del s)
  | .d (.v (.bool false))=>semA C L keep b (delS del s)
  | _=>none
 | .block id del c,s=>match semA C L keep c s with
  | some (.normal,s')=>some (.normal,⟨Env.del del s'.env,s'.h⟩)
  | some (.exit j,s')=>if j = id then some (.normal,⟨Env.del del s'.env,s'.h⟩) else some (.exit j,s')
  | r=>r
 | .loop c,s=>qM9 (semA C L keep c) s
 | .exit id,s=>some (.exit id,s)
 | .ret,s=>some (.ret,s)
 | .goto l,s=>some (.goto l,s)
 | .gbody l d c,s=>gmap l d (semA C L keep c s)
 | .sseq a b,s=>match semA C L keep a s with
  | some (.normal,s')=>semA C L keep b s'
  | some (.ret,s')=>some (.ret,s')
  | _=>none

def qfS9 (ops : Array Oper) (nt : Nat) : Option (Nat × Bool)→Option (Option (Nat × Bool))
 | none=>some none
 | some (j,b)=>match (ops[j]?).bind (·.dst) with
  | some d=>if d < nt then some (some (d,b)) else none
  | none=>none
def opW (P : Program) (W : Option (List Nat)) (k : Nat) (o : Oper) : Option AOp:=match W with
 | none=>some (qco9 P o)
 | some W=>if W.contains (k + 1000) = true then (match o.guard,o.op with
  | none,.load t a=>(match agOf P t with | some ag=>some (.loadB ag a) | none=>none)
  | none,.call c=>(match c.callee with | .value (.func g)=>some (.callF g c.args.toList) | _=>none)
  | none,.indexAddr t x i=>(match P.underlying t with | some (.slice _)=>(match (qt9 P t).bind (sizeT P) with | some n=>if 0 < n then some (.ixB n x i) else none | none=>none) | _=>none)
  | _,_=>none) else some (qco9 P o)
def qbT9 (P : Program) (st : Oper→Bool) (keep nt : Nat) (ops : Array Oper) (W : Option (List Nat)) (k : Nat) (o : Oper) : Option AOper :=
 match qfS9 ops nt o.guard with
 | none=>none
 | some g=>match opW P W k o with
 | none=>none
 | some op=>match o.dst with
  | none=>some ⟨none,op,g,(match W with | none=>false | some W=>heapy o && !W.contains k),false⟩
  | some d=>if d < nt then some ⟨some (d,keep.testBit d),op,g,(match W with | none=>false | some W=>heapy o && !W.contains k),(match W with | none=>st o | some _=>false)⟩ else none
def qec9 (P : Program) (st : Oper→Bool) (keep nt : Nat) (ops : Array Oper) (W : Option (List Nat)) : Nat→List Oper→Option (List AOper)
 | _,[]=>some []
 | k,o::r=>match qbT9 P st keep nt ops W k o with
  | none=>none
  | some a=>match qec9 P st keep nt ops W (k + 1) r with
   | none=>none
   | some l=>some (a::l)
def qP9 (P : Program) (st : Oper→Bool) (t : Hint) (nt : Nat) : Code→Option ACode
 | .skip=>some .skip
 | .region id ops draw=>(match qec9 P st t.keep nt ops (if draw = true then some (t.wrs id) else none) 0 ops.toList with
  | some l=>some (.reg (lookC t.pre id) (lookC t.post id) l)
  | none=>none)
 | .seq a b=>(match qP9 P st t nt a,qP9 P st t nt b with | some x,some y=>some (.seq x y) | _,_=>none)
 | .cond c a b=>(match qP9 P st t nt a,qP9 P st t nt b with | some x,some y=>some (.cond c (delOf t c) x y) | _,_=>none)
 | .block id c=>(match qP9 P st t nt c with | some x=>some (.block id (t.drop id) x) | none=>none)
 | .loop c=>(match qP9 P st t nt c with | some x=>some (.loop x) | none=>none)
 | .exit id=>some (.exit id)
 | .ret=>some .ret
 | .goto l=>some (.goto l)
 | _=>none
def qjl9 (P : Program) (st : Oper→Bool) (t : Hint) (nt : Nat) : Code→Option ACode
 | .seq a b=>match qdT9 a with
  | some l=>(qP9 P st t nt b).map fun y=>.loop (.gbody l (t.drop (l + 4096)) y)
  | none=>match qP9 P st t nt a,qjl9 P st t nt b with
   | some x,some y=>some (.sseq x y)
   | _,_=>none
 | _=>none
def qlK9 (P : Program) (st : Oper→Bool) (t : Hint) (nt : Nat) : Code→Option ACode
 | .seq a b=>if qhE9 b = true then (match qP9 P st t nt a,qlK9 P st t nt b with
   | some x,some y=>some (.sseq x y)
   | _,_=>none) else qP9 P st t nt (.seq a b)
 | .scope c=>qjl9 P st t nt c
 | c=>qP9 P st t nt c

section
variable {C : Cfg} {L : Oracle}

theorem qvf9 (t : Hint) : ∀ (l : List (Nat × Nat)) (s : St),coA t.keep l s = coE t l s:=by
 intro l
 induction l with
 | nil=>intro s; rfl
 | cons p r ih =>
  obtain ⟨i,k⟩:=p
  intro s
  simp only [coA,coE]
  split
  ·cases coV s.h k (s.env.get i) with
   | none=>rfl
   | some q=>exact ih _
  ·rfl

def locals (keep : Nat) (te : Env) : Env:=te.filter fun p=>!keep.testBit p.1
theorem qka9 (keep : Nat) (env : Env) : ∀ (te : Env) (i : Nat),get2 (locals keep te) (Env.commit keep te env) i = get2 te env i:=by
 intro te
 induction te with
 | nil=>intro i; rfl
 | cons p r ih =>
  obtain ⟨d,v⟩:=p
  intro i
  have hset : ∀ (l : Env) (e : Env),(∀ q∈l,q.1 ≠ d)→∀ i,get2 l (e.set d v) i = if i = d then v else get2 l e i:=by
   intro l e
   induction l with
   | nil=>intro _ i; simp only [get2,Env.get_set]
   | cons q l ihl =>
    intro hq i
    obtain ⟨j,u⟩:=q
    simp only [get2]
    by_cases hj : i = j
    ·have:=hq (j,u) (by simp)
     rw [if_pos hj,if_pos hj,if_neg (by intro e; exact this (by simp; omega))]
    ·rw [if_neg hj,if_neg hj]
     exact ihl (fun q hm=>hq q (by simp [hm])) i
  by_cases hk : keep.testBit d = true
  ·have h1 : locals keep ((d,v)::r) = locals keep r:=by simp [locals,hk]
   rw [h1]
   simp only [Env.commit,hk,if_true,get2]
   rw [hset _ _ (fun q hq=>by
    have:=(List.mem_filter.1 hq).2
    intro e
    rw [e,hk] at this
    cases this),ih]
  ·have h1 : locals keep ((d,v)::r) = (d,v)::locals keep r:=by simp [locals,hk]
   rw [h1]
   simp only [Env.commit,get2]
   rw [if_neg hk,ih]

theorem qmE9 {W : Option (List Nat)} {k : Nat} {o : Oper} {op : AOp} (hw : opW C.P W k o = some op) {get : Nat→PV} {h : AHeap} {r : PV × AHeap} (ho : aopA C L get h op = some r) : aopA C L get h (qco9 C.P o) = some r:=by
 unfold opW at hw
 split at hw
 ·simp only [Option.some.injEq] at hw; subst hw; exact ho
 ·split at hw
  ·split at hw
   ·rename_i t a _ hop
    split at hw
    ·rename_i ag hag
     simp only [Option.some.injEq] at hw
     subst hw
     have e : qco9 C.P o = .load ag a:=by simp only [qco9,hop,hag]
     rw [e]
     simp only [aopA] at ho ⊢
     cases hx : evO get a with
     | bx cs=>simp only [hx,qgK9] at ho; simp only [qbs9]; exact ho
     | d x=>cases x with
      | bx cs=>simp only [hx,qgK9] at ho; simp only [qbs9]; exact ho
      | _=>simp [hx,qgK9] at ho
     | _=>simp [hx,qgK9] at ho
    ·cases hw
   ·rename_i c _ hop
    split at hw
    ·rename_i g hcal
     simp only [Option.some.injEq] at hw
     subst hw
     have e : qco9 C.P o = .call g c.args.toList:=by simp only [qco9,hop,hcal]
     rw [e]
     simp only [aopA] at ho ⊢
     split at ho
     ·exact ho
     ·cases ho
    ·cases hw
   ·rename_i t x i _ hop
    split at hw
    ·rename_i e hu
     split at hw
     ·rename_i n hn
      split at hw
      ·rename_i hpos
       simp only [Option.some.injEq] at hw
       subst hw
       have e : qco9 C.P o = .ix n x i:=by simp only [qco9,hop,hu,hn,if_pos hpos]
       rw [e]
       simp only [aopA] at ho ⊢
       split at ho
       ·rename_i hx; rw [hx]; exact ho
       ·cases ho
      ·cases hw
     ·cases hw
    ·cases hw
   ·cases hw
  ·simp only [Option.some.injEq] at hw; subst hw; exact ho
theorem qmx9 {W : List Nat} {k : Nat} {o : Oper} {op : AOp} (hw : opW C.P (some W) k o = some op) (hf : W.contains (k + 1000) = true) {get : Nat→PV} {h : AHeap} {r : PV × AHeap} (ho : aopA C L get h op = some r) : qcS9 C get o = true∧o.guard = none:=by
 simp only [opW,hf,if_true] at hw
 split at hw
 ·rename_i t a hg hop
  split at hw
  ·simp only [Option.some.injEq] at hw
   subst hw
   simp only [aopA] at ho
   refine ⟨?_,hg⟩
   simp only [qcS9,hop]
   cases hx : evO get a with
   | bx cs=>rfl
   | d x=>cases x with
    | bx cs=>rfl
    | _=>simp [hx,qgK9] at ho
   | _=>simp [hx,qgK9] at ho
  ·cases hw
 ·rename_i c hg hop
  split at hw
  ·rename_i g hcal
   simp only [Option.some.injEq] at hw
   subst hw
   simp only [aopA] at ho
   refine ⟨?_,hg⟩
   simp only [qcS9,hop,hcal]
   split at ho
   ·rename_i hc
    rw [List.all_map] at hc
    exact hc
   ·cases ho
  ·cases hw
 ·rename_i t x i hg hop
  split at hw
  ·split at hw
   ·split at hw
    ·simp only [Option.some.injEq] at hw
     subst hw
     simp only [aopA] at ho
     refine ⟨?_,hg⟩
     simp only [qcS9,hop]
     split at ho
     ·rename_i hx; rw [hx]
     ·cases ho
    ·cases hw
   ·cases hw
  ·cases hw
 ·cases hw
theorem qmR9 {nt : Nat} {ops : Array Oper} {W : Option (List Nat)} {k : Nat} {keep : Nat} {o : Oper} {a : AOper} (hs : qbT9 C.P C.settle keep nt ops W k o = some a) {get : Nat→PV} {h : AHeap} {r : PV × AHeap} (ho : opA C L get h a = some r) : opV C L nt ops get h o = some r:=by
 have key : ∀ g,qfS9 ops nt o.guard = some g→(match g with | none=>aopA C L get h (qco9 C.P o) | some g=>qil9 C L get h g (qco9 C.P o)) = some r→opV C L nt ops get h o = some r:=by
  intro g hg hr
  unfold opV
  cases hgd : o.guard with
  | none =>
   simp only [hgd,qfS9,Option.some.injEq] at hg
   subst hg
   exact qjZ9 hr
  | some p =>
   obtain ⟨j,b⟩:=p
   simp only [hgd,qfS9] at hg
   cases hd : (ops[j]?).bind (·.dst) with
   | none=>simp [hd] at hg
   | some d =>
    simp only [hd] at hg
    split at hg
    ·rename_i hlt
     simp only [Option.some.injEq] at hg
     subst hg
     simp only [hd,if_pos hlt]
     simp only [qil9] at hr
     split at hr
     ·rename_i b' hb'
      simp only [hb']
      split at hr
      ·rename_i e; rw [if_pos e]; exact qjZ9 hr
      ·rename_i e; rw [if_neg e]; exact hr
     ·rename_i z hz
      simp only [hz]
      exact hr
     ·cases hr
    ·cases hg
 unfold qbT9 at hs
 split at hs
 ·cases hs
 ·rename_i g hg
  refine key g hg ?_
  split at hs
  ·cases hs
  ·rename_i op hop
   have fin : ∀ (g' : Option (Nat × Bool)) (d : Option (Nat × Bool)) (c s : Bool),opA C L get h ⟨d,op,g',c,s⟩ = some r→(match g' with | none=>aopA C L get h (qco9 C.P o) | some g=>qil9 C L get h g (qco9 C.P o)) = some r:=by
    intro g' d c s hr
    cases g' with
    | none=>exact qmE9 hop hr
    | some g =>
     simp only [opA,qil9] at hr ⊢
     split at hr
     ·split at hr
      ·rename_i e; rw [if_pos e]; exact qmE9 hop hr
      ·rename_i e; rw [if_neg e]; exact hr
     ·exact hr
     ·cases hr
   split at hs
   ·simp only [Option.some.injEq] at hs; subst hs; exact fin _ _ _ _ ho
   ·split at hs
    ·simp only [Option.some.injEq] at hs; subst hs; exact fin _ _ _ _ ho
    ·cases hs
theorem qqW9 {nt : Nat} {ops : Array Oper} {W : List Nat} {k : Nat} {keep : Nat} {o : Oper} {a : AOper} (hs : qbT9 C.P C.settle keep nt ops (some W) k o = some a) (hf : W.contains (k + 1000) = true) {get : Nat→PV} {h : AHeap} {r : PV × AHeap} (ho : opA C L get h a = some r) : qcS9 C get o = true:=by
 unfold qbT9 at hs
 split at hs
 ·cases hs
 ·rename_i g hg
  split at hs
  ·cases hs
  ·rename_i op hop
   have hgn : o.guard = none:=by
    simp only [opW,hf,if_true] at hop
    split at hop
    ·rename_i h1 _; exact h1
    ·rename_i h1 _; exact h1
    ·rename_i h1 _; exact h1
    ·cases hop
   simp only [hgn,qfS9,Option.some.injEq] at hg
   subst hg
   split at hs
   ·simp only [Option.some.injEq] at hs; subst hs; exact (qmx9 hop hf ho).1
   ·split at hs
    ·simp only [Option.some.injEq] at hs; subst hs; exact (qmx9 hop hf ho).1
    ·cases hs
theorem qmK9 {nt : Nat} {ops : Array Oper} {W : Option (List Nat)} {k : Nat} {keep : Nat} {o : Oper} {a : AOper} (hs : qbT9 C.P C.settle keep nt ops W k o = some a) (x : PV) (te env : Env) : ∃ te',putT nt o.dst x te = some te'∧putA a.dst x (locals keep te) (Env.commit keep te env) = (locals keep te',Env.commit keep te' env):=by
 unfold qbT9 at hs
 split at hs
 ·cases hs
 split at hs
 ·cases hs
 ·split at hs
  ·rename_i hd
   simp only [Option.some.injEq] at hs
   subst hs
   exact ⟨te,by rw [hd]; rfl,rfl⟩
  ·rename_i d hd
   split at hs
   ·rename_i hlt
    simp only [Option.some.injEq] at hs
    subst hs
    refine ⟨(d,x)::te,by rw [hd]; simp [putT,hlt],?_⟩
    cases hk : keep.testBit d
    ·simp [putA,locals,Env.commit,hk]
    ·simp [putA,locals,Env.commit,hk]
   ·cases hs
theorem qut9 {nt : Nat} {ops : Array Oper} {W : List Nat} {k : Nat} {keep : Nat} {o : Oper} {a : AOper} (hs : qbT9 C.P C.settle keep nt ops (some W) k o = some a) : a.chk = (heapy o && !W.contains k):=by
 unfold qbT9 at hs
 split at hs
 ·cases hs
 split at hs
 ·cases hs
 ·split at hs
  ·simp only [Option.some.injEq] at hs; subst hs; rfl
  ·split at hs
   ·simp only [Option.some.injEq] at hs; subst hs; rfl
   ·cases hs

theorem qxh9 {nt : Nat} {ops : Array Oper} {k : Nat} {keep : Nat} {o : Oper} {a : AOper} (hs : qbT9 C.P C.settle keep nt ops none k o = some a) : a.co = (C.settle o && o.dst.isSome):=by
 unfold qbT9 at hs
 split at hs
 ·cases hs
 split at hs
 ·cases hs
 ·split at hs
  ·rename_i hd; simp only [Option.some.injEq] at hs; subst hs; rw [hd]; simp
  ·rename_i hd
   split at hs
   ·simp only [Option.some.injEq] at hs; subst hs; rw [hd]; simp
   ·cases hs
theorem qvm9 {nt : Nat} {ops : Array Oper} {W : List Nat} {k : Nat} {keep : Nat} {o : Oper} {a : AOper} (hs : qbT9 C.P C.settle keep nt ops (some W) k o = some a) : a.co = false:=by
 unfold qbT9 at hs
 split at hs
 ·cases hs
 split at hs
 ·cases hs
 ·split at hs
  ·simp only [Option.some.injEq] at hs; subst hs; rfl
  ·split at hs
   ·simp only [Option.some.injEq] at hs; subst hs; rfl
   ·cases hs
theorem qlA9 {nt : Nat} {ops : Array Oper} {keep : Nat} {env : Env} : ∀ (l : List Oper) (k : Nat) (al : List AOper) (te : Env) (h : AHeap) (s : St),qec9 C.P C.settle keep nt ops none k l = some al→opsA C L al (locals keep te) (Env.commit keep te env) h = some s →
  ∃ te',opsS C L nt ops env l te h = some (te',s.h)∧s.env = Env.commit keep te' env:=by
 intro l
 induction l with
 | nil =>
  intro k al te h s hs ho
  simp only [qec9,Option.some.injEq] at hs
  subst hs
  simp only [opsA,Option.some.injEq] at ho
  subst ho
  exact ⟨te,rfl,rfl⟩
 | cons o r ih =>
  intro k al te h s hs ho
  simp only [qec9] at hs
  split at hs
  ·cases hs
  ·rename_i a ha
   split at hs
   ·cases hs
   ·rename_i l' hl'
    simp only [Option.some.injEq] at hs
    subst hs
    simp only [opsA] at ho
    split at ho
    ·cases ho
    ·rename_i x h' hop
     split at ho
     ·split at ho
      ·cases ho
      rename_i x h' hco
      have hg : get2 (locals keep te) (Env.commit keep te env) = get2 te env:=funext (qka9 keep env te)
      rw [hg] at hop
      have hv:=qmR9 ha hop
      obtain ⟨te',hp,hq⟩:=qmK9 ha x te env
      rw [hq] at ho
      obtain ⟨te2,k1,k2⟩:=ih (k + 1) l' te' h' s hl' ho
      rw [qxh9 ha] at hco
      refine ⟨te2,?_,k2⟩
      simp only [opsS,opT,hv,Option.bind_some]
      rw [hco]
      simp only [Option.bind_some,hp,Option.map_some,k1]
     ·cases ho

open Classical in
theorem qqM9 {nt : Nat} {ops : Array Oper} {keep : Nat} {env : Env} {W : List Nat} : ∀ (l : List Oper) (k : Nat) (al : List AOper) (te : Env) (h : AHeap) (s : St),qec9 C.P C.settle keep nt ops (some W) k l = some al→opsA C L al (locals keep te) (Env.commit keep te env) h = some s →
  ∃ te',opsD C L nt W ops env k l te h = some (te',s.h)∧s.env = Env.commit keep te' env:=by
 intro l
 induction l with
 | nil =>
  intro k al te h s hs ho
  simp only [qec9,Option.some.injEq] at hs
  subst hs
  simp only [opsA,Option.some.injEq] at ho
  subst ho
  exact ⟨te,rfl,rfl⟩
 | cons o r ih =>
  intro k al te h s hs ho
  simp only [qec9] at hs
  split at hs
  ·cases hs
  ·rename_i a ha
   split at hs
   ·cases hs
   ·rename_i l' hl'
    simp only [Option.some.injEq] at hs
    subst hs
    simp only [opsA] at ho
    split at ho
    ·cases ho
    ·rename_i x h' hop
     split at ho
     ·rename_i hc
      rw [qvm9 ha] at ho
      simp only [Bool.false_eq_true,if_false] at ho
      have hg : get2 (locals keep te) (Env.commit keep te env) = get2 te env:=funext (qka9 keep env te)
      rw [hg] at hop
      have hv:=qmR9 ha hop
      obtain ⟨te',hp,hq⟩:=qmK9 ha x te env
      rw [hq] at ho
      obtain ⟨te2,k1,k2⟩:=ih (k + 1) l' te' h' s hl' ho
      have hW : W.contains k = true∨h' = h:=by
       rw [qut9 ha] at hc
       rcases hc with hc | hc
       ·cases hw : W.contains k with
        | true=>exact .inl rfl
        | false =>
         rw [hw] at hc
         exact .inr (qps9 (by simpa using hc) hv).1
       ·exact .inr hc
      refine ⟨te2,?_,k2⟩
      have hfl : W.contains (k + 1000) = true→qcS9 C (get2 te env) o = true:=fun hf=>qqW9 ha hf hop
      simp only [opsD,opS,hv,Option.bind_some,hp,Option.map_some]
      rw [if_pos ⟨hW,hfl⟩]
      exact k1
     ·cases ho

theorem qpi9 {step step' : St→Option (AExit × St)} (hh : ∀ s r,step s = some r→step' s = some r) : ∀ (n : Nat) (s : St) (r : AExit × St),iterN step n s = some r→iterN step' n s = some r:=by
 intro n
 induction n with
 | zero=>intro s r h; cases h
 | succ n ih =>
  intro s r h
  simp only [iterN] at h ⊢
  cases hs : step s with
  | none=>simp [hs] at h
  | some p =>
   rw [hh s p hs]
   rw [hs] at h
   obtain ⟨e,s1⟩:=p
   cases e with
   | normal=>exact ih _ _ h
   | exit j=>exact h
   | ret=>exact h
   | goto j=>exact h

theorem qbe9 {t : Hint} {nt : Nat} : ∀ (c : Code) (ac : ACode) (s : St) (r : AExit × St),qP9 C.P C.settle t nt c = some ac→semA C L t.keep ac s = some r→sem C L t nt c s = some r:=by
 intro c
 induction c with
 | skip=>intro ac s r hc hs; simp only [qP9,Option.some.injEq] at hc; subst hc; exact hs
 | exit id=>intro ac s r hc hs; simp only [qP9,Option.some.injEq] at hc; subst hc; exact hs
 | ret=>intro ac s r hc hs; simp only [qP9,Option.some.injEq] at hc; subst hc; exact hs
 | goto l=>intro ac s r hc hs; simp only [qP9,Option.some.injEq] at hc; subst hc; exact hs
 | region id ops draw =>
  intro ac s r hc hs
  simp only [qP9] at hc
  split at hc
  ·rename_i l hl
   simp only [Option.some.injEq] at hc
   subst hc
   simp only [semA,qvf9] at hs
   split at hs
   ·cases hs
   ·rename_i s1 h1
    split at hs
    ·cases hs
    ·rename_i s2 h2
     split at hs
     ·cases hs
     ·rename_i s3 h3
      simp only [Option.some.injEq] at hs
      subst hs
      cases draw with
      | false =>
       simp only [Bool.false_eq_true,if_false] at hl
       obtain ⟨te',k1,k2⟩:=qlA9 (nt:=nt) (ops:=ops) (keep:=t.keep) (env:=s1.env) ops.toList 0 l [] s1.h s2 hl h2
       simp only [sem,h1,Option.bind_some,k1,← k2,h3,Option.map_some]
      | true =>
       simp only [if_true] at hl
       obtain ⟨te',k1,k2⟩:=qqM9 (nt:=nt) (ops:=ops) (keep:=t.keep) (env:=s1.env) ops.toList 0 l [] s1.h s2 hl h2
       simp only [sem,h1,Option.bind_some,k1,← k2,h3,Option.map_some]
  ·cases hc
 | seq x y ihx ihy =>
  intro ac s r hc hs
  simp only [qP9] at hc
  split at hc
  ·rename_i a b ha hb
   simp only [Option.some.injEq] at hc
   subst hc
   simp only [semA] at hs
   simp only [sem]
   cases hx : semA C L t.keep a s with
   | none=>simp [hx] at hs
   | some p =>
    rw [ihx a s p ha hx]
    rw [hx] at hs
    obtain ⟨e,s1⟩:=p
    cases e with
    | normal=>exact ihy b s1 r hb hs
    | exit j=>exact hs
    | ret=>exact hs
    | goto j=>exact hs
  ·cases hc
 | cond c x y ihx ihy =>
  intro ac s r hc hs
  simp only [qP9] at hc
  split at hc
  ·rename_i a b ha hb
   simp only [Option.some.injEq] at hc
   subst hc
   simp only [semA] at hs
   simp only [sem]
   have hst : delS (delOf t c) s = condSt t c s:=by
    unfold condSt delOf
    cases c with
    | tmp i=>by_cases hi : i < t.loc <;> simp [hi,delS]
    | _=>rfl
   rw [hst] at hs
   split at hs
   ·rename_i hq; simp only [hq]; exact ihx a _ r ha hs
   ·rename_i hq; simp only [hq]; exact ihy b _ r hb hs
   ·cases hs
  ·cases hc
 | block id c ih =>
  intro ac s r hc hs
  simp only [qP9] at hc
  split at hc
  ·rename_i a ha
   simp only [Option.some.injEq] at hc
   subst hc
   simp only [semA] at hs
   simp only [sem]
   cases hx : semA C L t.keep a s with
   | none=>simp [hx] at hs
   | some p =>
    rw [ih a s p ha hx]
    rw [hx] at hs
    exact hs
  ·cases hc
 | loop c ih =>
  intro ac s r hc hs
  simp only [qP9] at hc
  split at hc
  ·rename_i a ha
   simp only [Option.some.injEq] at hc
   subst hc
   simp only [semA] at hs
   simp only [sem]
   obtain ⟨n,hn⟩:=qdc9 hs
   exact qcJ9 (qpi9 (fun s r h=>ih a s r ha h) n s r hn)
  ·cases hc
 | _=>intro ac s r hc; simp [qP9] at hc

theorem qAj9 {t : Hint} {nt : Nat} : ∀ (c : Code) (ac : ACode) (s : St) (r : AExit × St),qjl9 C.P C.settle t nt c = some ac→semA C L t.keep ac s = some r→semS C L t nt c s = some r:=by
 intro c
 induction c with
 | seq x y ihx ihy =>
  intro ac s r hc hs
  simp only [qjl9] at hc
  simp only [semS]
  cases hi : qdT9 x with
  | some l =>
   rw [hi] at hc
   simp only at hc ⊢
   cases hy : qP9 C.P C.settle t nt y with
   | none=>simp [hy] at hc
   | some b =>
    simp only [hy,Option.map_some,Option.some.injEq] at hc
    subst hc
    simp only [semA] at hs
    obtain ⟨n,hn⟩:=qdc9 hs
    refine qcJ9 (qpi9 (fun s r h=>?_) n s r hn)
    cases hx : semA C L t.keep b s with
    | none=>rw [hx] at h; cases h
    | some q=>rw [hx] at h; rw [qbe9 y b s q hy hx]; exact h
  | none =>
   rw [hi] at hc
   simp only at hc ⊢
   split at hc
   ·rename_i a b ha hb
    simp only [Option.some.injEq] at hc
    subst hc
    simp only [semA] at hs
    cases hx : semA C L t.keep a s with
    | none=>simp [hx] at hs
    | some p =>
     rw [qbe9 x a s p ha hx]
     rw [hx] at hs
     obtain ⟨e,s1⟩:=p
     cases e with
     | normal=>exact ihy b s1 r hb hs
     | ret=>exact hs
     | exit j=>cases hs
     | goto j=>cases hs
   ·cases hc
 | _=>intro ac s r hc; simp [qjl9] at hc
theorem qzY9 {t : Hint} {nt : Nat} : ∀ (c : Code) (ac : ACode) (s : St) (r : AExit × St),qlK9 C.P C.settle t nt c = some ac→semA C L t.keep ac s = some r→semT C L t nt c s = some r:=by
 intro c
 induction c with
 | seq x y ihx ihy =>
  intro ac s r hc hs
  simp only [qlK9] at hc
  simp only [semT]
  by_cases hy : qhE9 y = true
  ·rw [if_pos hy] at hc ⊢
   split at hc
   ·rename_i a b ha hb
    simp only [Option.some.injEq] at hc
    subst hc
    simp only [semA] at hs
    cases hx : semA C L t.keep a s with
    | none=>simp [hx] at hs
    | some p =>
     rw [qbe9 x a s p ha hx]
     rw [hx] at hs
     obtain ⟨e,s1⟩:=p
     cases e with
     | normal=>exact ihy b s1 r hb hs
     | ret=>exact hs
     | exit j=>cases hs
     | goto j=>cases hs
   ·cases hc
  ·rw [if_neg hy] at hc ⊢
   exact qbe9 _ ac s r hc hs
 | scope c ih=>intro ac s r hc hs; exact qAj9 c ac s r hc hs
 | _=>intro ac s r hc hs; exact qbe9 _ ac s r hc hs
structure IsF (C : Cfg) (f : FuncId) (nt : Nat) (keep : Nat) (ac : ACode) (rs : List ResultVar) : Prop where
 ex : ∃ fn code,C.P.funcs[f]? = some fn∧fn.body = some code∧fn.ntmps = nt∧(C.hint f).keep = keep∧qlK9 C.P C.settle (C.hint f) nt code = some ac∧fn.results.toList = rs

theorem Lim_A {f : FuncId} {nt keep : Nat} {ac : ACode} {rs : List ResultVar} (hf : IsF C f nt keep ac rs) {args : List PV} (hn : args.length≤nt) {h h' : AHeap} {env : Env} {e : AExit} {vs : List PV}
  (hs : semA C (Lim C) keep ac ⟨qbt9 keep 0 args,h⟩ = some (e,⟨env,h'⟩)) (he : e = .normal∨e = .ret) (hv : mapO (resP C.P ⟨env,h'⟩) rs = some vs) : Lim C f args h = some (resOf vs,h'):=by
 obtain ⟨fn,code,h1,h2,rfl,rfl,h5,rfl⟩:=hf.ex
 refine qyU9 ?_
 rw [qyp9 h1 h2]
 have hnt : args.length + (fn.ntmps - args.length) = fn.ntmps:=by omega
 have hsm:=qzY9 (L:=Lim C) (t:=C.hint f) (nt:=fn.ntmps) code ac _ _ h5 hs
 rw [hnt,hsm]
 rcases he with rfl | rfl
 ·simp only [hv,Option.map_some]
 ·simp only [hv,Option.map_some]
end
end Go.Abs

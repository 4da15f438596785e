import Derived.Test.YtmkohpkfeamjiaaAbs32
import Derived.Lib.SliceRun
import Derived.Test.YtmkohpkfeamjiaaAbs28
set_option maxHeartbeats 400000
set_option linter.unusedVariables false
set_option linter.unusedSimpArgs false
set_option linter.unusedSectionVars false
namespace Go.Abs
open Go Go.RowKit

section
variable {W0 : World} {X : Nat→Prop} {P : Program}

theorem qmG9 {E : Nat→Prop} {h : AHeap} {m : Places} {w : World} {x : PV} {v : Value} {ys : List (List PV)} (hv : VRel E h m w x v) (he : elems h x = some ys) : ∃ A n c,v = .slice A n c∧(A = none→ys = []):=by
 cases x with
 | d d =>
  cases d with
  | rd xs =>
   cases hv with
   | d _ _ hd =>
    cases hd with
    | rd _ A c sz f hc hsz hA hE hr =>
     refine ⟨A,xs.length,c,rfl,fun hn=>?_⟩
     simp only [elems,Option.some.injEq] at he
     subst he
     cases xs with
     | nil=>rfl
     | cons a r=>obtain ⟨ad,h1⟩:=hA 0 a rfl; rw [hn] at h1; cases h1
  | _=>simp [elems] at he
 | im t es =>
  cases hv with
  | im _ _ A c sz f hc ht hsz hA hE hr =>
   refine ⟨A,es.length,c,rfl,fun hn=>?_⟩
   simp only [elems,Option.some.injEq] at he
   subst he
   cases es with
   | nil=>rfl
   | cons a r=>obtain ⟨ad,h1⟩:=hA 0 a rfl; rw [hn] at h1; cases h1
 | ref id ver off len =>
  cases hv with
  | ref _ _ _ _ _ hs =>
   obtain ⟨A,cap,hv0,hv1,hv2,_⟩:=hs
   refine ⟨A,len,cap,hv0,fun hn=>?_⟩
   simp only [elems,Option.map_eq_some_iff] at he
   obtain ⟨p,_,rfl⟩:=he
   have : len = 0:=by
    rcases Nat.eq_zero_or_pos len with c | c
    ·exact c
    ·obtain ⟨a,ha⟩:=hv2 c; rw [hn] at ha; cases ha
   subst this
   simp
 | _=>simp [elems] at he

def qbP9 (n b : Nat) : List PV→AHeap→Option (PV × AHeap):=fun args h=>match args with
 | [x]=>(match elems h x with
  | some ys=>if ys.all (fun cs=>cs.length == n) = true∧ys.length * b≤140737488355328 then some (.ref h.length 0 0 ys.length,h++[.row false 0 n ys]) else none
  | none=>none)
 | _=>none

structure CloneCode (P : Program) (n b : Nat) (fn : Func) (t : TypeId) (r0 : Code) (id1 : Nat) (o1 o2 : Oper) (c rest : Code) (hint : Hint) : Prop where
 body : fn.body = some (.seq r0 (.seq (.seq (.region id1 #[o1,o2] false) c) rest))
 op1 : o1.op = .move (.tmp 0)
 dst1 : o1.dst = some 3
 g1 : o1.guard = none
 op2 : ∃ tb,o2.op = .binOp .eql t (.tmp 3) (.const (.slice none 0 0)) tb
 dst2 : o2.dst = some 4
 g2 : o2.guard = none
 ut : ∃ e,P.underlying t = some (.slice e)
 nt : fn.ntmps = 8
 keep : hint.keep = 21
 s0 : qP9 P (fun _=>false) hint 8 r0 = some (.reg [] [] [⟨some (2,true),.mv (.const (.slice none 0 0)),none,false,false⟩])
 s1 : qP9 P (fun _=>false) hint 8 c = some (.cond (.tmp 4) (some 4) (.seq (.reg [] [] [⟨some (2,true),.mv (.const (.slice none 0 0)),none,false,false⟩]) .ret) .skip)
 s2 : qP9 P (fun _=>false) hint 8 rest = some (.seq (.reg [] [] [⟨some (5,false),.lit n [],none,false,false⟩,⟨some (6,false),.mv (.tmp 0),none,false,false⟩,⟨some (7,false),.app n b (.tmp 5) (.tmp 6),none,false,false⟩,⟨some (2,true),.mv (.tmp 7),none,false,false⟩]) .ret)
 k0 : qbb9 hint r0 = true
 k1 : qbb9 hint c = true
 k2 : qbb9 hint rest = true
 res : fn.results.toList = [.tmp 2]
 pos : 0 < n

theorem qkk9 {n b : Nat} {g : FuncId} {fn : Func} {t : TypeId} {r0 c rest : Code} {id1 : Nat} {o1 o2 : Oper} {hint : Hint} (hf : P.funcs[g]? = some fn) (hm : P.follows .mixedOrders = true) (hc : CloneCode P n b fn t r0 id1 o1 o2 c rest hint) : FSound W0 P g (qbP9 n b):=by
 intro args h r h' ho X m w vs H hv
 unfold qbP9 at ho
 split at ho
 ·rename_i x
  split at ho
  ·rename_i ys he
   split at ho
   ·rename_i hcond
    simp only [Option.some.injEq,Prod.mk.injEq] at ho
    obtain ⟨rfl,rfl⟩:=ho
    obtain ⟨v,rfl⟩ : ∃ v,vs = [v]:=by
     have h1:=hv.1
     match vs,h1 with
     | [v],_=>exact ⟨v,rfl⟩
    have hxv : VRel (Ex X h m) h m w x v:=hv.2 0 x v rfl rfl
    obtain ⟨A,nn,cc,hval,hnil⟩:=qmG9 hxv he
    -- a configuration without calls
    let C0 : Cfg:={ P:=P,mode:=fun _=>0,prim:=fun _=>none,hint:=fun _=>hint,use:=fun _=>false }
    let L0 : Oracle:=fun _ _ _=>none
    have hC0 : CSound W0 C0:=⟨fun g hg=>(by cases hg),fun g p hg=>(by cases hg)⟩
    have hL0 : OSound W0 C0 L0:=fun g hg=>(by cases hg)
    refine calls_of_wp hf hc.body ?_
    have hsr : SRel W0 X hint 0 8 ⟨[(0,x)],h⟩ m w { tmps:=[v].toArray++Array.replicate (fn.ntmps - [v].toArray.size) undef,defers:=[] }:=by
     refine ⟨by simp [hc.nt],rfl,H,fun i=>?_,fun i _ hk=>?_⟩
     ·show VRel _ _ _ _ (Env.get [(0,x)] i) _
      simp only [Env.get]
      by_cases hi : i = 0
      ·subst hi
       rw [if_pos rfl]
       have e : ({ tmps:=[v].toArray++Array.replicate (fn.ntmps - [v].toArray.size) undef,defers:=[] } : Act).eval (.tmp 0) = v:=by
        simp only [Act.eval]
        rw [Array.getD_eq_getD_getElem?,Array.getElem?_append_left (by simp)]
        rfl
       rw [e]; exact hxv
      ·rw [if_neg hi]; exact .junk _
     ·show Env.get [(0,x)] i = _
      simp only [Env.get]
      rw [if_neg]
      rintro rfl
      rw [hc.keep] at hk
      cases hk
    refine wp_seq ?_
    have e0 : sem C0 L0 hint 8 r0 ⟨[(0,x)],h⟩ = some (.normal,⟨[(0,x),(2,.im true [])],h⟩):=by
     refine qbe9 (C:=C0) (L:=L0) (t:=hint) r0 _ _ _ hc.s0 ?_
     rw [hc.keep]
     simp (config:={decide:=true}) only [semA,coA,opsA,opA,aopA,putA,evO,qeX9,qfh9,Env.set,if_true,if_false,true_or,get2,↓reduceIte,Bool.false_eq_true]
    refine qbo9 hC0 hL0 hm hint 8 r0 _ _ _ e0 hc.k0 _ m w _ hsr (fun a1 m1 w1 k1 k2=>?_)
    refine wp_seq ?_
    refine wp_seq ?_
    refine wp_region ?_
    -- the slice by its value,in this frame
    have hx1 : VRel (Ex X h m1) h m1 w1 x (a1.eval (.tmp 0)):=k1.env 0
    obtain ⟨A,nn,cc,hval,hnil⟩:=qmG9 hx1 he
    obtain ⟨tb,hop2⟩:=hc.op2
    obtain ⟨e,hut⟩:=hc.ut
    have hr2 : (List.range (#[o1,o2] : Array Oper).size) = [0,1]:=rfl
    rw [hr2]
    have g0 : (#[o1,o2] : Array Oper)[0]? = some o1:=rfl
    have g1 : (#[o1,o2] : Array Oper)[1]? = some o2:=rfl
    simp only [wpOps,g0,g1]
    rw [if_pos (by simp [Region.wanted,hc.g1])]
    refine .inl ?_
    refine qfU9 (v:=a1.eval (.tmp 0)) (w':=w1) (by simp only [execOp,hc.op1]; rfl) ?_
    rw [if_pos (by simp [Region.wanted,hc.g2])]
    refine .inl ?_
    have hs1 : a1.tmps.size = 8:=k1.size
    have ev3 : (a1.put o1.dst (a1.eval (.tmp 0))).eval (.tmp 3) = a1.eval (.tmp 0):=by
     rw [hc.dst1,Act.eval_put_tmp _ _ _ (show 3 < a1.tmps.size by omega),if_pos rfl]
    refine qfU9 (v:=.bool A.isNone) (w':=w1) ?_ ?_
    ·simp only [execOp,hop2,ev3]
     rw [hval]
     show ((do eqGuard .eql t (.tmp 3) (.const (.slice none 0 0)) (.slice A nn cc) (.slice none 0 0); let v ← binOp .eql t (.slice A nn cc) (.slice none 0 0); pure (Next.value v) : Sem Next)).run P w1 = _
     simp [eqGuard,Lib.run_eql_slice_nil w1 t e A nn cc 0 0 hut]
    -- on
    have hs2 : (a1.put o1.dst (a1.eval (.tmp 0))).tmps.size = 8:=by rw [qhw9]; exact hs1
    have k3 : SRel W0 X hint 0 8 ⟨[(0,x),(2,.im true []),(4,.d (.v (.bool A.isNone)))],h⟩ m1 w1 ((a1.put o1.dst (a1.eval (.tmp 0))).put o2.dst (.bool A.isNone)):=by
     refine ⟨by rw [qhw9]; exact hs2,by rw [qfQ9,qfQ9]; exact k1.dfs,k1.heap,fun i=>?_,fun i _ hk=>?_⟩
     ·show VRel _ _ _ _ (Env.get [(0,x),(2,.im true []),(4,.d (.v (.bool A.isNone)))] i) _
      rw [hc.dst2,Act.eval_put_tmp _ _ _ (show 4 < (a1.put o1.dst (a1.eval (.tmp 0))).tmps.size by omega),hc.dst1,Act.eval_put_tmp _ _ _ (show 3 < a1.tmps.size by omega)]
      simp only [Env.get]
      by_cases h4 : i = 4
      ·subst h4
       simp only [if_true]
       exact .d _ _ (.v _)
      ·rw [if_neg h4]
       by_cases h0 : i = 0
       ·subst h0; simp only [if_true]; exact k1.env 0
       ·rw [if_neg h0]
        by_cases h2 : i = 2
        ·subst h2; simp only [if_true]; exact k1.env 2
        ·rw [if_neg h2,if_neg h4]; exact .junk _
     ·show Env.get [(0,x),(2,.im true []),(4,.d (.v (.bool A.isNone)))] i = _
      rw [hc.keep] at hk
      simp only [Env.get]
      rw [if_neg (by rintro rfl; cases hk),if_neg (by rintro rfl; cases hk),if_neg (by rintro rfl; cases hk)]
    have hown : elems h x = some ys:=he
    -- what comes back
    have fin : ∀ (s : St) (a' : Act) (m' : Places) (w' : World),SRel W0 X hint 0 8 s m' w' a'→Evo (Ex X h m1) h m1 w1 (Ex X s.h m') s.h m' w'→(s.env.get 2 = .ref h.length 0 0 ys.length∧s.h = h++[.row false 0 n ys])∨(ys = []∧s.env.get 2 = .im true []∧s.h = h) →
      bodyPost P fn (Ret fun v w'=>Out W0 X h m w (.ref h.length 0 0 ys.length) (h++[.row false 0 n ys]) v w') .ret a' w':=by
     intro s a' m' w' q1 q2 q3
     have hres : mapO (resP P s) fn.results.toList = some [s.env.get 2]:=by rw [hc.res]; rfl
     obtain ⟨v',r1,r2⟩:=qfu9 q1.heap q1.env hres
     rcases q3 with ⟨c1,c2⟩ | ⟨c1,c2,c3⟩
     ·rw [c1] at r2
      rw [c2] at r2 q2
      have q1h:=q1.heap
      rw [c2] at q1h
      exact ⟨q1.dfs,v',r1,m',r2,q1h,k2.trans q2⟩
     ·subst c1
      have q1h:=q1.heap
      rw [c3] at q1h q2 r2
      rw [c2] at r2
      obtain ⟨m2,d1,d2,d3⟩:=qjr9 q1h (k:=n) (y:=.ref h.length 0 0 0) (h1:=h++[.row false 0 n []]) r2 (by have:=hc.pos; simp only [coV]; rw [if_neg (by omega)]; rfl)
      exact ⟨q1.dfs,v',r1,m2,d1,d2,k2.trans (q2.trans d3)⟩
    cases hA : A with
    | none =>
     have hys:=hnil hA
     subst hys
     rw [hA] at k3
     have es : sem C0 L0 hint 8 c ⟨[(0,x),(2,.im true []),(4,.d (.v (.bool true)))],h⟩ = some (.ret,⟨[(0,x),(2,.im true [])],h⟩):=by
      refine qbe9 (C:=C0) (L:=L0) (t:=hint) _ _ _ _ hc.s1 ?_
      rw [hc.keep]
      simp (config:={decide:=true}) only [semA,coA,opsA,opA,aopA,putA,evO,qeX9,qfh9,Env.set,Env.get,Env.del,delS,if_true,if_false,true_or,get2,↓reduceIte,Bool.false_eq_true]
     exact qbo9 hC0 hL0 hm hint 8 _ _ _ _ es hc.k1 _ m1 w1 _ k3 (fun a' m' w' q1 q2=>fin _ a' m' w' q1 q2 (.inr ⟨rfl,rfl,rfl⟩))
    | some ad =>
     rw [hA] at k3
     have h1 : (ys.all fun cs=>cs.length == n) = true:=hcond.1
     have h2 : (ys.length * b≤140737488355328) = True:=eq_true hcond.2
     have es : sem C0 L0 hint 8 c ⟨[(0,x),(2,.im true []),(4,.d (.v (.bool false)))],h⟩ = some (.normal,⟨[(0,x),(2,.im true [])],h⟩):=by
      refine qbe9 (C:=C0) (L:=L0) (t:=hint) _ _ _ _ hc.s1 ?_
      rw [hc.keep]
      simp (config:={decide:=true}) only [semA,coA,opsA,opA,aopA,putA,evO,qeX9,qfh9,Env.set,Env.get,Env.del,delS,if_true,if_false,true_or,get2,↓reduceIte,Bool.false_eq_true]
     have es2 : sem C0 L0 hint 8 rest ⟨[(0,x),(2,.im true [])],h⟩ = some (.ret,⟨[(0,x),(2,.ref h.length 0 0 ys.length)],h++[.row false 0 n ys]⟩):=by
      refine qbe9 (C:=C0) (L:=L0) (t:=hint) _ _ _ _ hc.s2 ?_
      rw [hc.keep]
      simp (config:={decide:=true}) only [semA,coA,opsA,opA,aopA,putA,evO,qeX9,qfh9,Env.set,Env.get,Env.del,delS,if_true,if_false,true_or,get2,↓reduceIte,Bool.false_eq_true,List.map_nil,qcG9,hown,qjG9,List.length_nil,Nat.zero_add,h1,h2,List.all_nil,true_and,and_self,List.nil_append]
     refine qbo9 hC0 hL0 hm hint 8 _ _ _ _ es hc.k1 _ m1 w1 _ k3 (fun a2 m2 w2 p1 p2=>?_)
     exact qbo9 hC0 hL0 hm hint 8 _ _ _ _ es2 hc.k2 _ m2 w2 _ p1 (fun a' m' w' q1 q2=>fin _ a' m' w' q1 (p2.trans q2) (.inl ⟨rfl,rfl⟩))
   ·cases ho
  ·cases ho
 ·cases ho
end
end Go.Abs
namespace Go.Abs
open Go
def okI (k : IntKind) (n : Int) : Prop:=(Lit.int k n).wf = true
def okL {α : Type} (ok : α→Prop) (l : List α) : Prop:=∀ a∈l,ok a
theorem okI64 {n : Int} (h : okI .i64 n) : -9223372036854775808≤n∧n≤9223372036854775807:=by
 simp only [okI,Lit.wf,Bool.and_eq_true,decide_eq_true_eq] at h
 have e1 : IntKind.i64.min = -9223372036854775808:=by decide
 have e2 : IntKind.i64.max = 9223372036854775807:=by decide
 rw [e1,e2] at h
 exact h
theorem okU32 {n : Int} (h : okI .u32 n) : 0≤n∧n≤4294967295:=by
 simp only [okI,Lit.wf,Bool.and_eq_true,decide_eq_true_eq] at h
 have e1 : IntKind.u32.min = 0:=by decide
 have e2 : IntKind.u32.max = 4294967295:=by decide
 rw [e1,e2] at h
 exact h
theorem qrw9 {α : Type} {f : α→List D} {l : List α} {a : α} (h : a∈l) : szL (f a)≤szLL (l.map f):=qyx9 (List.mem_map.2 ⟨a,h,rfl⟩)
theorem qxB9 {σ ρ G : Type} {step : σ→Option (σ ⊕ ρ)} {sem : St→Option (AExit × St)} {S : σ→G→St} {I : σ→Prop} {X : ρ→AExit × St→Prop}
  (h : ∀ s g r,I s→step s = some r→Sum.elim (fun s'=>(∃ g',sem (S s g) = some (.normal,S s' g'))∧I s') (fun x=>∃ q,sem (S s g) = some q∧q.1 ≠ .normal∧X x q) r) {s : σ} {g : G} {x : ρ} (hI : I s) (hw : wh step s = some x) :
  ∃ q,qM9 sem (S s g) = some q∧X x q:=by
 obtain ⟨n,hn⟩:=qhq9 hw
 clear hw
 induction n generalizing s g with
 | zero=>cases hn
 | succ n ih =>
  simp only [itW] at hn
  cases hs : step s with
  | none=>simp [hs] at hn
  | some r =>
   have hh:=h s g r hI hs
   cases r with
   | inl s' =>
    obtain ⟨⟨g',hg⟩,hI'⟩:=hh
    rw [hs] at hn
    obtain ⟨q,h1,h2⟩:=ih (g:=g') hI' hn
    exact ⟨q,qlU9 hg h1,h2⟩
   | inr x' =>
    obtain ⟨q,h2,h1,h3⟩:=hh
    rw [hs] at hn
    simp only [Option.some.injEq] at hn
    subst hn
    obtain ⟨e,st⟩:=q
    exact ⟨_,qkx9 h2 h1,h3⟩
theorem iteP {α : Type} {p : Prop} [Decidable p] {a b : Option α} {r : α} (h : (if p then a else b) = some r) : (p = True∧a = some r)∨(p = False∧b = some r):=by
 by_cases hp : p
 ·rw [if_pos hp] at h; exact .inl ⟨eq_true hp,h⟩
 ·rw [if_neg hp] at h; exact .inr ⟨eq_false hp,h⟩
theorem iteB {α : Type} {p : Bool} {a b : Option α} {r : α} (h : (if p = true then a else b) = some r) : (p = true∧a = some r)∨(p = false∧b = some r):=by
 cases p with
 | true=>exact .inl ⟨rfl,h⟩
 | false=>exact .inr ⟨rfl,h⟩
def fixN {α β : Type} (F : (α→Option β)→α→Option β) : Nat→α→Option β
 | 0=>fun _=>none
 | n + 1=>F (fixN F n)
open Classical in
noncomputable def fixO {α β : Type} (F : (α→Option β)→α→Option β) (a : α) : Option β :=
 if h : ∃ n r,fixN F n a = some r then some (Classical.choose (Classical.choose_spec h)) else none
section
variable {α : Type} {a : α} {l : List α} {b : α} {o : AObj} {h : AHeap} {x y z k : Nat}
theorem cget1 : (a::l)[x + (k + 1)]? = l[x + k]?:=by rw [← Nat.add_assoc]; exact List.getElem?_cons_succ
theorem cget2 : (a::l)[x + (y + (k + 1))]? = l[x + (y + k)]?:=by rw [show x + (y + (k + 1)) = (x + (y + k)) + 1 by omega]; exact List.getElem?_cons_succ
theorem cget3 : (a::l)[x + (y + (z + (k + 1)))]? = l[x + (y + (z + k))]?:=by rw [show x + (y + (z + (k + 1))) = (x + (y + (z + k))) + 1 by omega]; exact List.getElem?_cons_succ
theorem cset1 : (a::l).set (x + (k + 1)) b = a::l.set (x + k) b:=by rw [← Nat.add_assoc]; rfl
theorem cset2 : (a::l).set (x + (y + (k + 1))) b = a::l.set (x + (y + k)) b:=by rw [show x + (y + (k + 1)) = (x + (y + k)) + 1 by omega]; rfl
theorem cset3 : (a::l).set (x + (y + (z + (k + 1)))) b = a::l.set (x + (y + (z + k))) b:=by rw [show x + (y + (z + (k + 1))) = (x + (y + (z + k))) + 1 by omega]; rfl
theorem cmod1 : (o::h).modify (x + (k + 1)) AObj.freeze = o::h.modify (x + k) AObj.freeze:=by rw [← Nat.add_assoc]; exact qdX9
theorem cmod2 : (o::h).modify (x + (y + (k + 1))) AObj.freeze = o::h.modify (x + (y + k)) AObj.freeze:=by rw [show x + (y + (k + 1)) = (x + (y + k)) + 1 by omega]; exact qdX9
theorem cmod3 : (o::h).modify (x + (y + (z + (k + 1)))) AObj.freeze = o::h.modify (x + (y + (z + k))) AObj.freeze:=by rw [show x + (y + (z + (k + 1))) = (x + (y + (z + k))) + 1 by omega]; exact qdX9
end
theorem qfL9 {C : Cfg} {g : FuncId} (hp : C.prim g = none) (hu : C.use g = true) (hm : C.mode g = 1) {args : List PV} {h : AHeap} {r : PV × AHeap} (hL : Lim C g args h = some r) : callP C (Lim C) g args h = some r:=by
 simp only [callP,hp,hu,if_true,hm]
 exact hL
end Go.Abs

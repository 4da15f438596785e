import Derived.Test.YtmkohpkfeamjiaaAbs14
set_option maxHeartbeats 400000
set_option linter.unusedVariables false
set_option linter.unusedSimpArgs false
set_option linter.unusedSectionVars false
namespace Go.Abs
open Go Go.RowKit

section
variable {W0 : World} {E E' : Nat→Prop} {X : Nat→Prop} {h h' : AHeap} {m : Places} {w w' : World} {P : Program}

def Ret (R : Value→World→Prop) : Ending→World→Prop
 | .returned v,w'=>R v w'
 | _,_=>False
theorem Ret.mono {R R' : Value→World→Prop} (h : ∀ v w,R v w→R' v w) : ∀ e w,Ret R e w→Ret R' e w:=by
 intro e w hr
 cases e <;> first | exact h _ _ hr | exact hr

def Callable (P : Program) (g : FuncId) : Prop := ∃ fn, P.funcs[g]? = some fn ∧ fn.name ≠ "runtime.NumGoroutine" ∧ fn.body.isSome = true
theorem qhy9 {g : FuncId} (hg : Callable P g) (args : Array Value) : (callFunc g args).run P w = .ok (.enter g args) w:=by
 obtain ⟨fn,h1,h2,h3⟩:=hg
 have hb : fn.body ≠ none:=by
  intro hq
  simp [hq] at h3
 simp [callFunc,h1,h2,hb]

def FSound (W0 : World) (P : Program) (g : FuncId) (F : List PV→AHeap→Option (PV × AHeap)) : Prop :=
 ∀ (args : List PV) (h : AHeap) (r : PV) (h' : AHeap),F args h = some (r,h')→∀ (X : Nat→Prop) (m : Places) (w : World) (vs : List Value),HRel W0 X h m w→VRels (Ex X h m) h m w args vs →
  Calls P g vs.toArray w (Ret fun v w'=>Out W0 X h m w r h' v w')
structure CSound (W0 : World) (C : Cfg) : Prop where
 use : ∀ g,C.use g = true→Callable C.P g
 prim : ∀ g p,C.prim g = some p→Callable C.P g∧FSound W0 C.P g p
def OSound (W0 : World) (C : Cfg) (L : Oracle) : Prop:=∀ g,C.use g = true→FSound W0 C.P g (L g)

theorem qiN9 (ids : List Nat) : ∀ (h : AHeap) (id : Nat) (fz : Bool) (ver sz : Nat) (es : List (List PV)),h[id]? = some (.row fz ver sz es)→(id∈ids∨fz = true)→(freezeAll ids h)[id]? = some (.row true ver sz es):=by
 induction ids with
 | nil =>
  intro h id fz ver sz es ho hc
  rcases hc with hc | rfl
  ·cases hc
  ·exact ho
 | cons i r ih =>
  intro h id fz ver sz es ho hc
  show (freezeAll r (h.modify i AObj.freeze))[id]? = _
  by_cases e : i = id
  ·subst e
   exact ih _ _ true ver sz es (by simp [ho,AObj.freeze]) (.inr rfl)
  ·refine ih _ _ fz ver sz es (by rw [List.getElem?_modify]; simp [e,ho]) ?_
   rcases hc with hc | hc
   ·rcases List.mem_cons.1 hc with rfl | hc
    ·exact absurd rfl e
    ·exact .inl hc
   ·exact .inr hc

def RD (E : Nat→Prop) (w : World) (r : PV) (v : Value) : Prop :=
 (∃ d,r = .d d∧DRel E w d v)∨∃ (ds : List D) (us : List Value),r = .tp (ds.map PV.d)∧v = .tuple us.toArray∧us.length = ds.length∧∀ (j : Nat) (u : D) (y : Value),ds[j]? = some u→us[j]? = some y→DRel E w u y
structure Grown (w w' : World) : Prop where
 os : w'.os = w.os
 tape : w'.tape = w.tape
 out : Outs w w'
 size : w.heap.size≤w'.heap.size
 blk : ∀ b,b < w.heap.size→w'.heap[b]? = w.heap[b]?

theorem HRel.empty {X X' : Nat→Prop} {h0 : AHeap} {m0 : Places} (H : HRel W0 X h0 m0 w) (hx : ∀ b,X' b→b < w.heap.size) : HRel W0 X' [] (fun _=>none) w :=
 ⟨fun id o ho=>by simp at ho,fun id o g bo ho=>by simp at ho,fun id id' o o' g bo bo' ho=>by simp at ho,fun id o g bo ho=>by simp at ho,hx,H.osz,H.old,fun id o g bo ho=>by simp at ho⟩

theorem qmN9 {C : Cfg} {L : Oracle} {g : FuncId} {X : Nat→Prop} {h0 : AHeap} {m0 : Places} (H : HRel W0 X h0 m0 w) (hL : FSound W0 C.P g (L g)) {X' : Nat→Prop} (hx : ∀ b,X' b→b < w.heap.size) {ds : List D} {vs : List Value} (hl : vs.length = ds.length)
  (hd : ∀ (j : Nat) (u : D) (y : Value),ds[j]? = some u→vs[j]? = some y→DRel X' w u y) {r r' : PV} {h1 : AHeap} (ho : L g (ds.map PV.d) [] = some (r,h1)) (hr : rsT h1 r = some r') :
  Calls C.P g vs.toArray w (Ret fun v w'=>RD X' w' r' v∧Grown w w'):=by
 have hv : VRels (Ex X' [] (fun _=>none)) [] (fun _=>none) w (ds.map PV.d) vs:=by
  refine ⟨by simp [hl],fun j u y a b=>?_⟩
  rw [List.getElem?_map] at a
  cases hj : ds[j]? with
  | none=>simp [hj] at a
  | some d =>
   simp only [hj,Option.map_some,Option.some.injEq] at a
   subst a
   refine .d _ _ ((hd j d y hj b).move (fun b _ he=>?_) (fun _ _ _=>rfl))
   rcases he with he | ⟨id,o,bo,k,_⟩
   ·exact he
   ·simp at k
 refine Calls.mono (hL _ _ _ _ ho X' (fun _=>none) w vs (HRel.empty H hx) hv) (Ret.mono fun v w' hout=>?_)
 obtain ⟨m',o1,o2,o3⟩:=hout
 refine ⟨?_,⟨o3.os,o3.tape,o3.output,o3.size,fun b hb=>o3.blk2 b hb (fun he=>?_)⟩⟩
 ·have hrs : ∀ (n : Nat) (x : PV) (d : D) (v : Value),rs h1 n x = some d→VRel (Ex X' h1 m') h1 m' w' x v→DRel X' w' d v:=fun n x d v a b =>
   qed9 o2 (fun b hb=>.inl hb) n x d v a (fun id _ g bo fz ver sz es hm hid=>o2.apart id _ g bo hid hm) b
  unfold rsT at hr
  split at hr
  ·rename_i xs
   simp only [Option.map_eq_some_iff] at hr
   obtain ⟨ds',k1,rfl⟩:=hr
   obtain ⟨m1,m2⟩:=qbO9 k1
   cases o1 with
   | tp _ us hl' hr' =>
    refine .inr ⟨ds',us,rfl,rfl,by omega,fun j u y a b=>?_⟩
    have hlt : j < xs.length:=by rw [← m1]; exact (List.getElem?_eq_some_iff.1 a).1
    obtain ⟨u',q1,q2⟩:=m2 j xs[j] (List.getElem?_eq_getElem hlt)
    rw [a] at q1
    cases q1
    exact hrs _ _ _ _ q2 (hr' j _ y (List.getElem?_eq_getElem hlt) b)
  ·simp only [Option.map_eq_some_iff] at hr
   obtain ⟨d,k1,rfl⟩:=hr
   exact .inl ⟨d,rfl,hrs _ _ _ _ k1 o1⟩
 ·rcases he with he | ⟨id,o,bo,k,_⟩
  ·exact he
  ·simp at k

theorem RD.vrel {r : PV} {v : Value} (hr : RD E w r v) : VRel E h m w r v:=by
 rcases hr with ⟨d,rfl,hd⟩ | ⟨ds,us,rfl,rfl,hl,hd⟩
 ·exact .d d v hd
 ·refine .tp _ us (by simp [hl]) (fun j u y a b=>?_)
  rw [List.getElem?_map] at a
  cases hj : ds[j]? with
  | none=>simp [hj] at a
  | some d =>
   simp only [hj,Option.map_some,Option.some.injEq] at a
   subst a
   exact .d _ _ (hd j d y hj b)
theorem RD.scalar {r : PV} {v : Value} (hr : RD E w r v) (hs : Go.Abs.scalar r = true) : RD E' w r v:=by
 have one : ∀ (x : Value) (y : Value),DRel E w (.v x) y→DRel E' w (.v x) y:=by
  intro x y hd
  cases hd
  exact .v x
 rcases hr with ⟨d,rfl,hd⟩ | ⟨ds,us,rfl,rfl,hl,hd⟩
 ·cases d with
  | v x=>exact .inl ⟨_,rfl,one x v hd⟩
  | _=>simp [Go.Abs.scalar] at hs
 ·refine .inr ⟨ds,us,rfl,rfl,hl,fun j u y a b=>?_⟩
  simp only [Go.Abs.scalar,List.all_eq_true,List.mem_map] at hs
  have:=hs (.d u) ⟨u,List.mem_of_getElem? a,rfl⟩
  cases u with
  | v x=>exact one x y (hd j _ y a b)
  | _=>simp at this

theorem qgy9 {C : Cfg} {L : Oracle} (hC : CSound W0 C) (hL : OSound W0 C L) (H : HRel W0 X h m w) {g : FuncId} {args : List PV} {vs : List Value} {r : PV} {h1 : AHeap} (hv : VRels (Ex X h m) h m w args vs) (ho : callP C L g args h = some (r,h1)) :
  Callable C.P g∧Calls C.P g vs.toArray w (Ret fun v w'=>Out W0 X h m w r h1 v w'):=by
 unfold callP at ho
 split at ho
 ·rename_i p hp
  obtain ⟨c1,c2⟩:=hC.prim g p hp
  exact ⟨c1,c2 _ _ _ _ ho X m w vs H hv⟩
 ·split at ho
  ·rename_i hu
   refine ⟨hC.use g hu,?_⟩
   split at ho
   ·exact hL g hu _ _ _ _ ho X m w vs H hv
   ·split at ho
    ·cases ho
    ·rename_i ds hds
     obtain ⟨m1,m2⟩:=qbO9 hds
     have back : ∀ (j : Nat) (u : D) (y : Value),ds[j]? = some u→vs[j]? = some y→∃ x,args[j]? = some x∧rs h depth x = some u∧VRel (Ex X h m) h m w x y:=by
      intro j u y a b
      have hlt : j < args.length:=by rw [← m1]; exact (List.getElem?_eq_some_iff.1 a).1
      obtain ⟨u',q1,q2⟩:=m2 j args[j] (List.getElem?_eq_getElem hlt)
      rw [a] at q1
      cases q1
      exact ⟨_,List.getElem?_eq_getElem hlt,q2,hv.2 j _ y (List.getElem?_eq_getElem hlt) b⟩
     have hf:=FzH.freezeAll (args.flatMap (reach h depth)) h
     obtain ⟨f1,f2⟩:=qtQ9 H hf
     have hdat : ∀ (j : Nat) (u : D) (y : Value),ds[j]? = some u→vs[j]? = some y→DRel (Ex X (freezeAll (args.flatMap (reach h depth)) h) m) w u y:=by
      intro j u y a b
      obtain ⟨x,q1,q2,q3⟩:=back j u y a b
      refine qed9 H (fun b hb=>?_) _ _ _ _ q2 (fun id hid g bo fz ver sz es hm ho hE=>?_) q3
      ·rcases hb with hb | ⟨id,o,bo,k1,k2,k3⟩
       ·exact .inl hb
       ·obtain ⟨o0,l1,l2⟩:=hf.back k1
        refine .inr ⟨id,o0,bo,l1,?_,k3⟩
        cases o0 <;> cases o <;> simp_all [Fz,AObj.active]
      ·rcases hE with hE | ⟨id',o',bo',k1,k2,k3⟩
       ·exact H.apart id _ g bo ho hm hE
       ·obtain ⟨o0,l1,l2⟩:=hf.back k1
        have e:=H.inj id' id o0 _ g bo' bo l1 ho k3 hm
        subst e
        have hmem : id'∈args.flatMap (reach h depth):=qeF9 (List.mem_of_getElem? q1) hid
        have:=qiN9 _ h id' fz ver sz es ho (.inl hmem)
        rw [this] at k1
        cases k1
        simp [AObj.active] at k2
     split at ho
     ·have hvr : VRels (Ex X (freezeAll (args.flatMap (reach h depth)) h) m) (freezeAll (args.flatMap (reach h depth)) h) m w (ds.map PV.d) vs:=by
       refine ⟨by simp [hv.1,m1],fun j u y a b=>?_⟩
       rw [List.getElem?_map] at a
       cases hj : ds[j]? with
       | none=>simp [hj] at a
       | some d =>
        simp only [hj,Option.map_some,Option.some.injEq] at a
        subst a
        exact .d _ _ (hdat j d y hj b)
      refine Calls.mono (hL g hu _ _ _ _ ho X m w vs f2 hvr) (Ret.mono fun v w' hq=>?_)
      obtain ⟨m',q1,q2,q3⟩:=hq
      exact ⟨m',q1,q2,f1.trans q3⟩
     split at ho
     ·cases ho
     ·rename_i r0 h2 hcall
      split at ho
      ·cases ho
      ·rename_i r' hr'
       simp only [Option.some.injEq,Prod.mk.injEq] at ho
       obtain ⟨rfl,rfl⟩:=ho
       by_cases hs : scalar r' = true
       ·rw [if_pos hs]
        refine Calls.mono (qmN9 H (hL g hu) (X':=fun _=>False) (fun b hb=>hb.elim) (by rw [hv.1,m1]) (fun j u y a b=>?_) hcall hr') (Ret.mono fun v w' hq=>?_)
        ·obtain ⟨x,q1,q2,q3⟩:=back j u y a b
         exact qed9 H (fun b hb=>hb.elim) _ _ _ _ q2 (fun _ _ _ _ _ _ _ _ _ _ hf=>hf) q3
        ·obtain ⟨q1,q2⟩:=hq
         exact ⟨m,(q1.scalar hs).vrel,HRel.grow H q2.os q2.tape q2.out q2.size q2.blk,Evo.grow H q2.os q2.tape q2.out q2.size q2.blk⟩
       ·rw [if_neg hs]
        refine Calls.mono (qmN9 H (hL g hu) (X':=Ex X (freezeAll (args.flatMap (reach h depth)) h) m) (fun b hb=>?_) (by rw [hv.1,m1]) hdat hcall hr') (Ret.mono fun v w' hq=>?_)
        ·rcases hb with hb | ⟨id,o,bo,k1,_,k3⟩
         ·exact H.xlt b hb
         ·exact f2.lt id o b bo k1 k3
        ·obtain ⟨q1,q2⟩:=hq
         exact ⟨m,q1.vrel,HRel.grow f2 q2.os q2.tape q2.out q2.size q2.blk,f1.trans (Evo.grow f2 q2.os q2.tape q2.out q2.size q2.blk)⟩
  ·cases ho
end
end Go.Abs
namespace Go.Abs
open Go Go.RowKit

section
variable {W0 : World} {E E' : Nat→Prop} {X : Nat→Prop} {h h' : AHeap} {m : Places} {w w' : World}

def TRel (E : Nat→Prop) (h : AHeap) (m : Places) (w : World) (get : Nat→PV) (a : Act) : Prop:=∀ i,VRel E h m w (get i) (a.eval (.tmp i))

theorem TRel.op {get : Nat→PV} {a : Act} (hg : TRel E h m w get a) (x : Operand) : VRel E h m w (evO get x) (a.eval x):=by
 cases x with
 | tmp t=>exact hg t
 | const v=>exact qkq9 v
 | global g=>exact .junk _
 | func f=>exact .fn f [] [] rfl (fun j u y a=>by simp at a)

theorem qfU9 {P : Program} {o : Oper} {a : Act} {K : Act→World→Prop} {Q : Exit→Act→World→Prop} {v : Value} (hr : (execOp a.eval o).run P w = .ok (.value v) w') (hk : K (a.put o.dst v) w') : o.wp P a w K Q:=by
 unfold Oper.wp
 rw [hr]
 exact hk
theorem qyL9 {P : Program} {o : Oper} {a : Act} {K : Act→World→Prop} {Q : Exit→Act→World→Prop} (hr : (execOp a.eval o).run P w = .ok .skip w') (hk : K (a.put o.dst undef) w') : o.wp P a w K Q:=by
 unfold Oper.wp
 rw [hr]
 exact hk
theorem qrp9 {P : Program} {o : Oper} {a : Act} {K : Act→World→Prop} {Q : Exit→Act→World→Prop} {g : FuncId} {args : Array Value} {R : Value→World→Prop} (hr : (execOp a.eval o).run P w = .ok (.enter g args) w) (hc : Calls P g args w (Ret R)) (hk : ∀ v w',R v w'→K (a.put o.dst v) w') : o.wp P a w K Q:=by
 unfold Oper.wp
 rw [hr]
 refine Calls.mono hc (fun e w' he=>?_)
 cases e with
 | returned v=>exact hk v w' he
 | panicked c=>exact he.elim
 | outgrown=>exact he.elim

theorem qiX9 {P : Program} {t : TypeId} {d : TypeDesc} {v : Value} {b : Bool} {o : Option String} (hu : P.underlying t = some d) (hd : (b = true∧∃ e,d = .pointer e)∨(b = false∧∀ e,d ≠ .pointer e)) : (receiverAt t (.val v) b o).run P w = .ok v w:=by
 rcases hd with ⟨rfl,e,rfl⟩ | ⟨rfl,hd⟩
 ·simp [receiverAt,run_underlying hu,Place.get]
 ·cases d <;> first | exact absurd rfl (hd _) | simp [receiverAt,run_underlying hu,Place.get]

theorem qtk9 {P : Program} {t : TypeId} {name : String} {g : FuncId} {v : Value} (hm : qfC9 P t name = some g) (n : Nat) : (method (n + 1) t v name).run P w = .ok (g,v) w:=by
 unfold qfC9 at hm
 cases hi : P.info? t with
 | none=>simp [hi] at hm
 | some i =>
  simp only [hi] at hm
  cases hf : i.methods.find? (·.name == name) with
  | none=>simp [hf] at hm
  | some md =>
   simp only [hf] at hm
   split at hm
   ·rename_i hp
    have hpl : md.path.toList = []:=by simpa using hp
    split at hm
    ·rename_i f e hfn hu
     cases hm
     have hr:=fun o=>qiX9 (w:=w) (v:=v) (b:=true) (o:=o) hu (.inl ⟨rfl,_,rfl⟩)
     simp [method,typeInfo,hi,hf,hpl,follow,hfn,hr]
    ·rename_i f d hfn hu
     have hne : ∀ e,d ≠ .pointer e:=by
      intro e he; subst he; simp at hm
     have hg : f = g:=by cases d <;> simp_all
     subst hg
     have hr:=fun o=>qiX9 (w:=w) (v:=v) (b:=false) (o:=o) hu (.inr ⟨rfl,hne⟩)
     simp [method,typeInfo,hi,hf,hpl,follow,hfn,hr]
    ·cases hm
   ·cases hm

theorem qna9 {get : Nat→PV} {a : Act} (hg : TRel E h m w get a) (ps : Array (Nat × Operand)) : PRelL E h m w (ps.toList.map fun p=>(p.1,evO get p.2)) (ps.map fun (i,x)=>(i,a.eval x)).toList:=by
 refine ⟨by simp,fun j p q h1 h2=>?_⟩
 simp only [Array.toList_map,List.getElem?_map] at h1 h2
 cases hj : ps.toList[j]? with
 | none=>simp [hj] at h1
 | some x =>
  simp only [hj,Option.map_some,Option.some.injEq] at h1 h2
  subst h1
  subst h2
  exact ⟨rfl,hg.op x.2⟩
theorem qpd9 {get : Nat→PV} {a : Act} (hg : TRel E h m w get a) (xs : Array Operand) : VRels E h m w (xs.toList.map (evO get)) (xs.map a.eval).toList:=by
 rw [Array.toList_map]
 exact VRels.map (fun x _=>hg.op x)
theorem qih9 {get : Nat→PV} {a : Act} (hg : TRel E h m w get a) (x : Option Operand) : (∀ z,x.map (evO get) = some z→∃ v,x.map a.eval = some v∧VRel E h m w z v)∧(x.map (evO get) = none→x.map a.eval = none):=by
 cases x with
 | none=>exact ⟨fun z hz=>by simp at hz,fun _=>rfl⟩
 | some x=>exact ⟨fun z hz=>⟨a.eval x,rfl,by simp at hz; subst hz; exact hg.op x⟩,fun hz=>by simp at hz⟩

theorem qrB9 {C : Cfg} {L : Oracle} (hC : CSound W0 C) (hL : OSound W0 C L) (H : HRel W0 X h m w) {get : Nat→PV} {a : Act} (hg : TRel (Ex X h m) h m w get a) {o : Oper} {c : Call} (hop : o.op = .call c) {r : PV} {h1 : AHeap}
  (ho : qcA9 C L h c.callee (qdf9 get c.callee) c.argTypes o.type (c.args.toList.map (evO get)) = some (r,h1)) {K : Act→World→Prop} {Q : Exit→Act→World→Prop} (hK : ∀ v w',Out W0 X h m w r h1 v w'→K (a.put o.dst v) w') : o.wp C.P a w K Q:=by
 have hargs:=qpd9 hg c.args
 unfold qcA9 at ho
 cases hc : c.callee with
 | builtin b =>
  simp only [hc] at ho
  obtain ⟨u,w',q1,q2⟩:=qnm9 (cs:=c.args.map fun | .const _=>true | _=>false) H hargs ho
  refine qfU9 ?_ (hK _ _ q2)
  simp only [Array.toArray_toList] at q1
  simp only [execOp,hop,resolve,hc,Sem.run_bind,Sem.run_pure,Result.andThen_ok,invoke]
  exact q1
 | value f =>
  simp only [hc,qdf9] at ho
  have key : ∀ (g : FuncId) (caps : List PV) (vs : List Value),a.eval f = .func (.func g) #[] vs.toArray→VRels (Ex X h m) h m w caps vs→callP C L g (c.args.toList.map (evO get)++caps) h = some (r,h1)→o.wp C.P a w K Q:=by
   intro g caps vs hev hvs hcp
   obtain ⟨q1,q2⟩:=qgy9 hC hL H (hargs.append hvs) hcp
   refine qrp9 (g:=g) (args:=c.args.map a.eval++vs.toArray) ?_ (by
    have e : ((c.args.map a.eval).toList++vs).toArray = c.args.map a.eval++vs.toArray:=by
     apply Array.ext'; simp
    rw [e] at q2
    exact q2) hK
   simp only [execOp,hop,resolve,hc,hev,Deferred.ofValue,Sem.run_bind,Sem.run_pure,Result.andThen_ok,invoke]
   rw [show (#[] : Array Value)++c.args.map a.eval = c.args.map a.eval from by apply Array.ext'; simp]
   exact qhy9 q1 _
  have hf:=hg.op f
  split at ho
  ·rename_i g caps hfv
   rw [hfv] at hf
   generalize hev : a.eval f = vf at hf
   cases hf with
   | fn _ _ vs hl hvs=>exact key g caps vs hev ⟨hl,hvs⟩ ho
  ·rename_i g caps hfv
   rw [hfv] at hf
   generalize hev : a.eval f = vf at hf
   cases hf with
   | d _ _ hd=>cases hd with
    | fn _ _ vs hl hvs=>exact key g (caps.map PV.d) vs hev ⟨by simp [hl],VRel.of_d_cells hvs⟩ ho
  ·cases ho
 | invoke x name =>
  simp only [hc,qdf9] at ho
  have key : ∀ (t : TypeId) (y : PV) (v : Value),a.eval x = .iface t v→VRel (Ex X h m) h m w y v→(match qfC9 C.P t name with | some g=>callP C L g (y::c.args.toList.map (evO get)) h | none=>none) = some (r,h1)→o.wp C.P a w K Q:=by
   intro t y v hev hvs hcp
   cases hmt : qfC9 C.P t name with
   | none=>simp [hmt] at hcp
   | some g =>
    simp only [hmt] at hcp
    obtain ⟨q1,q2⟩:=qgy9 hC hL H (VRels.cons hvs hargs) hcp
    refine qrp9 (g:=g) (args:=#[v]++c.args.map a.eval) ?_ (by
     have e : (v::(c.args.map a.eval).toList).toArray = #[v]++c.args.map a.eval:=by
      apply Array.ext'; simp
     rw [e] at q2
     exact q2) hK
    have hme:=qtk9 (w:=w) (v:=v) hmt (C.P.types.size + Made.depth - 1)
    have hpos : C.P.types.size + Made.depth - 1 + 1 = C.P.types.size + Made.depth:=by
     have : 0 < Made.depth:=by decide
     omega
    rw [hpos] at hme
    have e2 : (#[Value.iface t v]++c.args.map a.eval).extract 1 (#[Value.iface t v]++c.args.map a.eval).size = c.args.map a.eval:=by
     apply Array.ext'
     simp only [Array.toList_extract,Array.toList_append,List.extract_eq_take_drop,Array.toList_map]
     simp [List.take_of_length_le]
    have e3 : (#[Value.iface t v]++c.args.map a.eval)[0]? = some (Value.iface t v):=by
     rw [← Array.getElem?_toList]
     simp
    simp only [execOp,hop,resolve,hc,hev,Sem.run_bind,Sem.run_pure,Result.andThen_ok,invoke,e3,e2,callMethod,run_program,hme]
    exact qhy9 q1 _
  have hf:=hg.op x
  split at ho
  ·rename_i t y hfv
   rw [hfv] at hf
   generalize hev : a.eval x = vf at hf
   cases hf with
   | ifc _ _ v hv=>exact key t y v hev hv ho
  ·rename_i t y hfv
   rw [hfv] at hf
   generalize hev : a.eval x = vf at hf
   cases hf with
   | d _ _ hd=>cases hd with
    | ifc _ _ v hv=>exact key t (.d y) v hev (.d _ _ hv) ho
  ·cases ho
end
end Go.Abs
namespace Go.Abs
open Go Go.RowKit

section
variable {W0 : World} {X : Nat→Prop} {h : AHeap} {m : Places} {w : World}

theorem qvh9 {C : Cfg} {L : Oracle} (hC : CSound W0 C) (hL : OSound W0 C L) (H : HRel W0 X h m w) {get : Nat→PV} {a : Act} (hg : TRel (Ex X h m) h m w get a) {o : Oper} {r : PV} {h1 : AHeap}
  (ho : aop C L get h o = some (r,h1)) {K : Act→World→Prop} {Q : Exit→Act→World→Prop} (hK : ∀ v w',Out W0 X h m w r h1 v w'→K (a.put o.dst v) w') : o.wp C.P a w K Q:=by
 have hv:=fun x=>hg.op x
 -- an operation that leaves the world as it is
 have same : ∀ {s : Sem Value},execOp a.eval o = (do pure (.value (← s)))→(h1 = h∧∃ u,s.run C.P w = .ok u w∧VRel (Ex X h m) h m w r u)→o.wp C.P a w K Q:=by
  intro s he hs
  obtain ⟨rfl,u,h2,h3⟩:=hs
  exact qfU9 (w':=w) (v:=u) (by rw [he]; simp [h2]) (hK _ _ (Out.same H h3))
 have made : ∀ {s : Sem Value},execOp a.eval o = (do pure (.value (← s)))→(∃ u w',s.run C.P w = .ok u w'∧Out W0 X h m w r h1 u w')→o.wp C.P a w K Q:=by
  intro s he hs
  obtain ⟨u,w',h2,h3⟩:=hs
  exact qfU9 (w':=w') (v:=u) (by rw [he]; simp [h2]) (hK _ _ h3)
 have unit : ∀ {s : Sem Unit},execOp a.eval o = (do s; pure .skip)→(∃ w',s.run C.P w = .ok () w'∧∀ u,Out W0 X h m w r h1 u w')→o.wp C.P a w K Q:=by
  intro s he hs
  obtain ⟨w',h2,h3⟩:=hs
  exact qyL9 (w':=w') (by rw [he]; simp [h2]) (hK _ _ (h3 _))
 cases hop : o.op with
 | move x =>
  simp only [aop,hop,Option.some.injEq,Prod.mk.injEq] at ho
  obtain ⟨rfl,rfl⟩:=ho
  exact qfU9 (w':=w) (v:=a.eval x) (by simp only [execOp,hop]; rfl) (hK _ _ (Out.same H (hv x)))
 | assign x =>
  simp only [aop,hop,Option.some.injEq,Prod.mk.injEq] at ho
  obtain ⟨rfl,rfl⟩:=ho
  exact qfU9 (w':=w) (v:=a.eval x) (by simp only [execOp,hop]; rfl) (hK _ _ (Out.same H (hv x)))
 | pick c x y =>
  simp only [aop,hop,qjz9] at ho
  split at ho
  ·rename_i t hc
   simp only [Option.some.injEq,Prod.mk.injEq] at ho
   obtain ⟨rfl,rfl⟩:=ho
   have hcv:=hv c
   rw [hc] at hcv
   have hb:=hcv.as_bool
   refine qfU9 (w':=w) (v:=if t = true then a.eval x else a.eval y) (by simp only [execOp,hop]; simp [hb,asBool]) (hK _ _ (Out.same H ?_))
   cases t
   ·exact hv y
   ·exact hv x
  ·cases ho
 | alloc e =>
  simp only [aop,hop] at ho
  exact made (by simp only [execOp,hop]) (qqJ9 H ho)
 | box e x =>
  simp only [aop,hop] at ho
  exact made (s:=Instr.box e (a.eval x)) (by simp only [execOp,hop]) (qty9 H (hv x) ho)
 | build t ps =>
  simp only [aop,hop] at ho
  exact same (by simp only [execOp,hop]) (qqR9 (qna9 hg ps) ho)
 | buildSlice t len ps =>
  simp only [aop,hop] at ho
  exact made (by simp only [execOp,hop]) (qkD9 H (qna9 hg ps) ho)
 | load t x =>
  simp only [aop,hop,Option.map_eq_some_iff,Prod.mk.injEq] at ho
  obtain ⟨y,h2,rfl,rfl⟩:=ho
  exact same (by simp only [execOp,hop]) ⟨rfl,qlt9 H (hv x) h2⟩
 | store t x y =>
  simp only [aop,hop,Option.map_eq_some_iff,Prod.mk.injEq] at ho
  obtain ⟨h2,h3,rfl,rfl⟩:=ho
  exact unit (by simp only [execOp,hop]) (qqu9 H (hv x) (hv y) h3)
 | nilCheck x =>
  simp only [aop,hop] at ho
  obtain ⟨rfl,rfl,hc⟩:=qvs9 (hv x) ho
  refine qfU9 (w':=w) (v:=a.eval x) ?_ (hK _ _ (Out.same H (hv x)))
  rcases hc with ⟨ad,hc⟩ | ⟨t,u,hc⟩ <;> simp only [execOp,hop,hc] <;> rfl
 | binOp op t x y _ =>
  simp only [aop,hop] at ho
  exact same (by simp only [execOp,hop]) (quU9 (hv x) (hv y) ho)
 | unOp op _ x =>
  simp only [aop,hop] at ho
  exact same (by simp only [execOp,hop]) (qvy9 (hv x) ho)
 | convert s d x =>
  simp only [aop,hop] at ho
  exact same (by simp only [execOp,hop]) (qsQ9 (hv x) ho)
 | makeInterface t x =>
  simp only [aop,hop] at ho
  exact same (by simp only [execOp,hop]) (qqr9 (hv x) ho)
 | makeFunc fn first caps =>
  simp only [aop,hop] at ho
  obtain ⟨c1,c2⟩:=qpd9 hg caps
  exact same (s:=Instr.makeFunc fn (first.map a.eval) (caps.map a.eval)) (by simp only [execOp,hop]) (qqn9 (vf:=first.map a.eval) (vc:=caps.map a.eval) (by simp) (by simp) (fun j u x p q=>c2 j u x p (by simpa using q)) ho)
 | makeMap t x =>
  simp only [aop,hop] at ho
  obtain ⟨o1,o2⟩:=qih9 hg x
  refine made (s:=Instr.makeMap t (x.map a.eval)) (by simp only [execOp,hop]) (qni9 H ?_ (fun z v hz hzv=>?_) ho)
  ·cases x <;> rfl
  ·obtain ⟨v',hv',hr⟩:=o1 z hz
   rw [hv'] at hzv
   cases hzv
   exact hr
 | makeSlice t l c =>
  simp only [aop,hop] at ho
  exact made (by simp only [execOp,hop]) (qlC9 H (hv l) (hv c) ho)
 | slice t x lo hi mx =>
  simp only [aop,hop] at ho
  cases mx with
  | some z =>
   obtain ⟨l1,l2⟩:=qih9 hg lo
   obtain ⟨k1,k2⟩:=qih9 hg hi
   exact same (s:=Instr.sliceAt t (a.eval x) (lo.map a.eval) (hi.map a.eval) (some (a.eval z))) (by simp only [execOp,hop]; rfl) (qrR9 (hv x) l1 l2 k1 (hv z) ho)
  | none =>
   obtain ⟨l1,l2⟩:=qih9 hg lo
   obtain ⟨k1,k2⟩:=qih9 hg hi
   exact same (s:=Instr.sliceAt t (a.eval x) (lo.map a.eval) (hi.map a.eval) none) (by simp only [execOp,hop]; rfl) (qsk9 (hv x) l1 l2 k1 k2 ho)
 | fieldAddr s x f =>
  simp only [aop,hop] at ho
  exact same (by simp only [execOp,hop]) (qlJ9 (hv x) ho)
 | field t x f =>
  simp only [aop,hop] at ho
  exact same (by simp only [execOp,hop]) (qqQ9 (hv x) ho)
 | indexAddr t x i =>
  simp only [aop,hop] at ho
  exact same (by simp only [execOp,hop]) (qkR9 (hv x) (hv i) ho)
 | index t x i =>
  simp only [aop,hop] at ho
  exact same (by simp only [execOp,hop]) (qqE9 (hv x) (hv i) ho)
 | lookup t x k ok =>
  simp only [aop,hop] at ho
  exact same (by simp only [execOp,hop]) (qpZ9 H (hv x) (hv k) ho)
 | mapUpdate t x k v =>
  simp only [aop,hop] at ho
  obtain ⟨rfl,q⟩:=qkY9 H (hv x) (hv k) (hv v) ho
  exact unit (by simp only [execOp,hop]) q
 | typeAssert x xt asserted ok =>
  simp only [aop,hop] at ho
  exact same (s:=Instr.typeAssert (a.eval x) xt asserted ok) (by simp only [execOp,hop]) (qoE9 (hv x) ho)
 | extract x i =>
  simp only [aop,hop] at ho
  exact same (by simp only [execOp,hop]) (qnl9 (hv x) ho)
 | range t x =>
  simp only [aop,hop] at ho
  exact made (s:=Instr.range t (a.eval x)) (by simp only [execOp,hop]) (qra9 H (hv x) ho)
 | next x b =>
  simp only [aop,hop] at ho
  exact made (s:=Instr.next (a.eval x) b o.type) (by simp only [execOp,hop]) (qsf9 H (hv x) ho)
 | call c =>
  simp only [aop,hop] at ho
  exact qrB9 hC hL H hg hop ho hK
 | _=>simp [aop,hop] at ho
end
end Go.Abs
namespace Go.Abs
open Go Go.RowKit

section
variable {W0 : World} {E E' : Nat→Prop} {X : Nat→Prop} {h h' : AHeap} {m m' : Places} {w w' : World}

theorem Act.eval_put_tmp (a : Act) (d : Tmp) (v : Value) (hd : d < a.tmps.size) (i : Nat) : (a.put (some d) v).eval (.tmp i) = if i = d then v else a.eval (.tmp i):=by
 by_cases hi : i = d
 ·subst hi; simp [Act.eval,Act.put,hd]
 ·rw [if_neg hi]
  simp [Act.eval,Act.put,Array.getElem?_setIfInBounds_ne (Ne.symm hi)]
theorem qhw9 (a : Act) (d : Option Tmp) (v : Value) : (a.put d v).tmps.size = a.tmps.size:=by
 cases d <;> simp [Act.put]
theorem qfQ9 (a : Act) (d : Option Tmp) (v : Value) : (a.put d v).defers = a.defers:=by
 cases d <;> rfl

theorem TRel.evo {get : Nat→PV} {a : Act} (hg : TRel E h m w get a) (hv : Evo E h m w E' h' m' w') : TRel E' h' m' w' get a:=fun i=>(hg i).evo hv

def setG (get : Nat→PV) (dst : Option Tmp) (r : PV) : Nat→PV:=match dst with
 | none=>get
 | some d=>fun i=>if i = d then r else get i
theorem TRel.put {get : Nat→PV} {a : Act} {nt : Nat} (hg : TRel E h m w get a) (hs : a.tmps.size = nt) {dst : Option Tmp} (hd : ∀ d,dst = some d→d < nt) {r : PV} {v : Value} (hr : VRel E h m w r v) : TRel E h m w (setG get dst r) (a.put dst v):=by
 intro i
 cases dst with
 | none=>exact hg i
 | some d =>
  rw [Act.eval_put_tmp a d v (by rw [hs]; exact hd d rfl)]
  simp only [setG]
  by_cases hi : i = d
  ·rw [if_pos hi,if_pos hi]; exact hr
  ·rw [if_neg hi,if_neg hi]; exact hg i
theorem qhL9 {nt : Nat} {dst : Option Tmp} {r : PV} {te te1 : Env} {env : Env} (hp : putT nt dst r te = some te1) : (∀ d,dst = some d→d < nt)∧∀ i,get2 te1 env i = setG (get2 te env) dst r i:=by
 cases dst with
 | none =>
  simp only [putT,Option.some.injEq] at hp
  subst hp
  exact ⟨fun d hd=>by simp at hd,fun i=>rfl⟩
 | some d =>
  simp only [putT] at hp
  split at hp
  ·rename_i hlt
   simp only [Option.some.injEq] at hp
   subst hp
   exact ⟨fun d' hd=>by cases hd; exact hlt,fun i=>rfl⟩
  ·cases hp

theorem qmW9 {C : Cfg} {L : Oracle} (hC : CSound W0 C) (hL : OSound W0 C L) (H : HRel W0 X h m w) {nt : Nat} {ops : Array Oper} {get : Nat→PV} {a : Act} (hs : a.tmps.size = nt) (hdf : a.defers = []) (hg : TRel (Ex X h m) h m w get a) {o : Oper} {r : PV} {h1 : AHeap}
  (ho : opV C L nt ops get h o = some (r,h1)) (hd : ∀ d,o.dst = some d→d < nt) {K : Act→World→Prop} {Q : Exit→Act→World→Prop}
  (hK : ∀ a' m' w',a'.tmps.size = nt→a'.defers = []→TRel (Ex X h1 m') h1 m' w' (setG get o.dst r) a'→HRel W0 X h1 m' w'→Evo (Ex X h m) h m w (Ex X h1 m') h1 m' w'→K a' w') :
  if Region.wanted o (yielded ops a.tmps) then o.wp C.P a w K Q∨(o.asks C.P a w∧LetsOut Q) else K (a.put o.dst undef) w:=by
 have done : aop C L get h o = some (r,h1)→o.wp C.P a w K Q:=fun ha=>qvh9 hC hL H hg ha (fun v w' hout=>by
  obtain ⟨m',o1,o2,o3⟩:=hout
  exact hK _ m' w' (by rw [qhw9]; exact hs) (by rw [qfQ9]; exact hdf) ((hg.evo o3).put hs hd o1) o2 o3)
 unfold opV at ho
 cases hgd : o.guard with
 | none =>
  simp only [hgd] at ho
  rw [if_pos (by simp [Region.wanted,hgd])]
  exact .inl (done ho)
 | some p =>
  obtain ⟨j,b⟩:=p
  simp only [hgd] at ho
  cases hj : (ops[j]?).bind (·.dst) with
  | none=>simp [hj] at ho
  | some d =>
   simp only [hj] at ho
   split at ho
   ·rename_i hlt
    split at ho
    ·rename_i b' hb'
     have hv:=hg d
     rw [hb'] at hv
     have hbv:=hv.as_bool
     have hy : yielded ops a.tmps j = some b':=by
      have hsz : d < a.tmps.size:=by rw [hs]; exact hlt
      simp only [Act.eval] at hbv
      unfold yielded
      rw [hj]
      simp only [Option.bind_some]
      rw [Array.getElem?_eq_getElem hsz]
      have : a.tmps[d] = .bool b':=by
       simpa [hsz] using hbv
      rw [this]
     have hwn : Region.wanted o (yielded ops a.tmps) = (b' == b):=by
      simp only [Region.wanted,hgd,hy]
      cases b <;> cases b' <;> rfl
     rw [hwn]
     split at ho
     ·rename_i he
      rw [if_pos (by simpa using he)]
      exact .inl (done ho)
     ·rename_i he
      simp only [Option.some.injEq,Prod.mk.injEq] at ho
      obtain ⟨rfl,rfl⟩:=ho
      rw [if_neg (by simpa using he)]
      exact hK _ m w (by rw [qhw9]; exact hs) (by rw [qfQ9]; exact hdf) (hg.put hs hd (.d _ _ (.v _))) H (Evo.refl _ _ _ _)
    ·rename_i tv htv
     have hv:=hg d
     rw [htv] at hv
     have hbv:=hv.to_v rfl
     have hy : yielded ops a.tmps j = none:=by
      have hsz : d < a.tmps.size:=by rw [hs]; exact hlt
      simp only [Act.eval] at hbv
      unfold yielded
      rw [hj]
      simp only [Option.bind_some]
      rw [Array.getElem?_eq_getElem hsz]
      have : a.tmps[d] = .tuple tv:=by
       simpa [hsz] using hbv
      rw [this]
     have hwn : Region.wanted o (yielded ops a.tmps) = false:=by
      simp only [Region.wanted,hgd,hy]
      cases b <;> rfl
     rw [hwn]
     simp only [Option.some.injEq,Prod.mk.injEq] at ho
     obtain ⟨rfl,rfl⟩:=ho
     exact hK _ m w (by rw [qhw9]; exact hs) (by rw [qfQ9]; exact hdf) (hg.put hs hd (.d _ _ (.v _))) H (Evo.refl _ _ _ _)
    ·cases ho
   ·cases ho

theorem TRel.congr {get get' : Nat→PV} {a : Act} (hg : TRel E h m w get a) (he : ∀ i,get' i = get i) : TRel E h m w get' a:=fun i=>by rw [he]; exact hg i

theorem qnn9 {h : AHeap} {m : Places} {w : World} (H : HRel W0 X h m w) {k : Nat} {x y : PV} {v : Value} {h1 : AHeap} (hv : VRel (Ex X h m) h m w x v) (ho : qjK9 h k x = some (y,h1)) :
  ∃ m',VRel (Ex X h1 m') h1 m' w y v∧HRel W0 X h1 m' w∧Evo (Ex X h m) h m w (Ex X h1 m') h1 m' w:=by
 unfold qjK9 at ho
 split at ho
 ·rename_i id ver
  split at ho
  ·rename_i ver' sz cs hid
   split at ho
   ·split at ho
    ·rename_i he
     subst he
     simp only [Option.some.injEq,Prod.mk.injEq] at ho
     obtain ⟨rfl,rfl⟩:=ho
     have hor:=H.obj id _ hid
     cases hm : m id with
     | none=>rw [hm] at hor; cases hor
     | some p =>
      obtain ⟨g,bo⟩:=p
      rw [hm] at hor
      obtain ⟨s0,cur,e,r1,r2,r3,r4⟩:=hor
      have hgl:=H.lt id _ g bo hid hm
      have hh:=qeq9 (w':=w) H hid rfl (.row false ver sz [cs.map setl]) (m id) rfl rfl (Outs.refl w) (Nat.le_refl _) (fun _ _ _=>rfl)
       ⟨Nat.le_refl _,fun z=>z,rfl,fun _=>⟨by simp,rfl,fun g1 bo1 cur1 e1 hp1 hg1=>⟨cur1,hg1,rfl⟩⟩⟩
       (fun g1 bo1 hp1=>by
        rw [hm] at hp1
        cases hp1
        exact ⟨hgl,.inl ⟨bo,hm⟩⟩)
       (fun hev=>by
        rw [hm]
        refine ⟨s0,cur,e,r1,by simpa using r2,fun i ds hd=>?_,fun i j ds u hd hj=>?_⟩
        ·cases i with
         | zero =>
          have:=r3 0 cs rfl
          simp at hd; subst hd
          simpa using this
         | succ i=>simp at hd
        ·cases i with
         | succ i=>simp at hd
         | zero =>
          simp at hd; subst hd
          rw [List.getElem?_map] at hj
          cases hc : cs[j]? with
          | none=>rw [hc] at hj; cases hj
          | some u0 =>
           rw [hc] at hj
           simp only [Option.map_some,Option.some.injEq] at hj
           subst hj
           obtain ⟨z,q1,q2,q3⟩:=r4 0 j cs u0 rfl hc
           have q4:=q3.evo hev
           rw [hm] at q4
           exact ⟨z,q1,q2,qkA9 q4⟩)
      exact ⟨_,hv.evo hh.1,hh.2,hh.1⟩
    ·cases ho
   split at ho
   ·rename_i hcs
    generalize k / 4096 = jj at hcs ho
    generalize k % 4096 = kk at ho
    split at ho
    ·rename_i he
     subst he
     simp only [Option.some.injEq,Prod.mk.injEq] at ho
     obtain ⟨rfl,rfl⟩:=ho
     have hlt : id < h.length:=(List.getElem?_eq_some_iff.1 hid).1
     have hjl : jj < cs.length:=(List.getElem?_eq_some_iff.1 hcs).1
     obtain ⟨k1,k2⟩:=qgl9 H (.row false 0 kk []) none rfl rfl (Outs.refl w) (Nat.le_refl _) (fun _ _=>rfl) (fun g bo e=>by cases e) (fun _=>rfl)
     have hid' : (h++[.row false 0 kk []])[id]? = some (.row false ver sz [cs]):=by rw [List.getElem?_append_left hlt]; exact hid
     have hor:=k2.obj id _ hid'
     cases hm : upd m h.length none id with
     | none=>rw [hm] at hor; cases hor
     | some p =>
      obtain ⟨g,bo⟩:=p
      rw [hm] at hor
      obtain ⟨s0,cur,e,r1,r2,r3,r4⟩:=hor
      have hgl:=k2.lt id _ g bo hid' hm
      have hh:=qeq9 (w':=w) k2 hid' rfl (.row false ver sz [cs.set jj (.ref h.length 0 0 0)]) (upd m h.length none id) rfl rfl (Outs.refl w) (Nat.le_refl _) (fun _ _ _=>rfl)
       ⟨Nat.le_refl _,fun z=>z,rfl,fun _=>⟨by simp,rfl,fun g1 bo1 cur1 e1 hp1 hg1=>⟨cur1,hg1,rfl⟩⟩⟩
       (fun g1 bo1 hp1=>by
        rw [hm] at hp1
        cases hp1
        exact ⟨hgl,.inl ⟨bo,hm⟩⟩)
       (fun hev=>by
        rw [hm]
        refine ⟨s0,cur,e,r1,by simpa using r2,fun i ds hd=>?_,fun i j ds u hd hj=>?_⟩
        ·cases i with
         | zero =>
          have:=r3 0 cs rfl
          simp at hd; subst hd
          simpa using this
         | succ i=>simp at hd
        ·cases i with
         | succ i=>simp at hd
         | zero =>
          simp at hd; subst hd
          by_cases hjj : j = jj
          ·subst hjj
           simp [hjl] at hj
           subst hj
           obtain ⟨z,q1,q2,q3⟩:=r4 0 j cs (.im true []) rfl hcs
           refine ⟨z,q1,q2,?_⟩
           cases q3 with
           | im t xs A c sz f hc ht hsz hA hc1 hr =>
            have hc0 : c = 0:=by simpa using (ht rfl).symm
            subst hc0
            refine .ref _ _ _ _ _ ⟨A,0,rfl,Nat.le_refl _,fun e=>absurd e (by simp),false,0,kk,[],?_,Nat.le_refl _,fun _=>⟨by simp,?_⟩⟩
            ·rw [List.getElem?_set_ne (by omega)]; simp
            ·rw [qjy9 _ _ (by omega),upd_same]
          ·rw [List.getElem?_set_ne (fun e=>hjj e.symm)] at hj
           obtain ⟨z,q1,q2,q3⟩:=r4 0 j cs u rfl hj
           have q4:=q3.evo hev
           rw [hm] at q4
           exact ⟨z,q1,q2,q4⟩)
      exact ⟨_,(hv.evo k1).evo hh.1,hh.2,k1.trans hh.1⟩
    ·cases ho
   ·cases ho
  ·cases ho
 ·cases ho
theorem qjr9 {h : AHeap} {m : Places} {w : World} (H : HRel W0 X h m w) {k : Nat} {x y : PV} {v : Value} {h1 : AHeap} (hv : VRel (Ex X h m) h m w x v) (ho : coV h k x = some (y,h1)) :
  ∃ m',VRel (Ex X h1 m') h1 m' w y v∧HRel W0 X h1 m' w∧Evo (Ex X h m) h m w (Ex X h1 m') h1 m' w:=by
 unfold coV at ho
 split at ho
 ·split at ho
  ·rename_i d hd
   simp only [Option.some.injEq,Prod.mk.injEq] at ho
   obtain ⟨rfl,rfl⟩:=ho
   have hf:=FzH.freezeAll (reach h depth x) h
   obtain ⟨f1,f2⟩:=qtQ9 H hf
   refine ⟨m,.d _ _ ?_,f2,f1⟩
   refine qed9 H (fun b hb=>?_) _ _ _ _ hd (fun id hid g bo fz ver sz es hm ho hE=>?_) hv
   ·rcases hb with hb | ⟨id,o,bo,k1,k2,k3⟩
    ·exact .inl hb
    ·obtain ⟨o0,l1,l2⟩:=hf.back k1
     refine .inr ⟨id,o0,bo,l1,?_,k3⟩
     cases o0 <;> cases o <;> simp_all [Fz,AObj.active]
   ·rcases hE with hE | ⟨id',o',bo',k1,k2,k3⟩
    ·exact H.apart id _ g bo ho hm hE
    ·obtain ⟨o0,l1,l2⟩:=hf.back k1
     have e:=H.inj id' id o0 _ g bo' bo l1 ho k3 hm
     subst e
     have:=qiN9 _ h id' fz ver sz es ho (.inl hid)
     rw [this] at k1
     cases k1
     simp [AObj.active] at k2
  ·cases ho
 ·split at ho
  ·simp only [Option.some.injEq,Prod.mk.injEq] at ho
   obtain ⟨rfl,rfl⟩:=ho
   obtain ⟨k1,k2⟩:=qgl9 H (.row false 0 k []) none rfl rfl (Outs.refl w) (Nat.le_refl _) (fun _ _=>rfl) (fun g bo e=>by cases e) (fun _=>rfl)
   refine ⟨upd m h.length none,?_,k2,k1⟩
   cases hv with
   | im t xs A c sz f hc ht hsz hA hc1 hr =>
    have hc0 : c = 0:=by simpa using (ht rfl).symm
    subst hc0
    refine .ref _ _ _ _ _ ⟨A,0,rfl,Nat.le_refl _,fun e=>absurd e (by simp),false,0,k,[],by simp,Nat.le_refl _,fun _=>⟨by simp,?_⟩⟩
    rw [upd_same]
  ·exact qnn9 H hv ho
  ·simp only [Option.some.injEq,Prod.mk.injEq] at ho
   obtain ⟨rfl,rfl⟩:=ho
   exact ⟨m,hv,H,Evo.refl _ _ _ _⟩

theorem qlm9 {C : Cfg} {L : Oracle} (hC : CSound W0 C) (hL : OSound W0 C L) {nt : Nat} {ops : Array Oper} {env : Env} {Q : Exit→Act→World→Prop} : ∀ (l : List Oper) (k : Nat),ops.toList.drop k = l→∀ {te te1 : Env} {h h1 : AHeap} {m : Places} {w : World} {a : Act},HRel W0 X h m w→a.tmps.size = nt→a.defers = []→TRel (Ex X h m) h m w (get2 te env) a →
  opsS C L nt ops env l te h = some (te1,h1) →
  (∀ a' m' w',a'.tmps.size = nt→a'.defers = []→TRel (Ex X h1 m') h1 m' w' (get2 te1 env) a'→HRel W0 X h1 m' w'→Evo (Ex X h m) h m w (Ex X h1 m') h1 m' w'→Q .normal a' w') →
  wpOps C.P ops Q ((List.range ops.size).drop k) a w:=by
 intro l
 induction l with
 | nil =>
  intro k hk te te1 h h1 m w a H hs hdf hg ho hK
  have hle : ops.size≤k:=by simpa using hk
  rw [List.drop_eq_nil_of_le (by simpa using hle)]
  simp only [opsS,Option.some.injEq,Prod.mk.injEq] at ho
  obtain ⟨rfl,rfl⟩:=ho
  exact hK a m w hs hdf hg H (Evo.refl _ _ _ _)
 | cons o r ih =>
  intro k hk te te1 h h1 m w a H hs hdf hg ho hK
  have hlt : k < ops.size:=by
   rcases Nat.lt_or_ge k ops.size with c | c
   ·exact c
   ·rw [List.drop_eq_nil_of_le (by simpa using c)] at hk; cases hk
  have hok : ops[k]? = some o:=by
   have : ops.toList[k]? = some o:=by
    have:=congrArg (·[0]?) hk
    simpa using this
   simpa using this
  have hr : ops.toList.drop (k + 1) = r:=by
   rw [← List.tail_drop,hk]; rfl
  have hdr : (List.range ops.size).drop k = k::(List.range ops.size).drop (k + 1):=by
   rw [List.drop_eq_getElem_cons (by simpa using hlt)]
   simp
  rw [hdr]
  simp only [opsS,opT] at ho
  cases hv : opV C L nt ops (get2 te env) h o with
  | none=>simp [hv] at ho
  | some p0 =>
   obtain ⟨rv0,h20⟩:=p0
   simp only [hv,Option.bind_some] at ho
   cases hco : (if (C.settle o && o.dst.isSome) = true then coV h20 0 rv0 else some (rv0,h20)) with
   | none=>rw [hco] at ho; simp at ho
   | some p =>
   obtain ⟨rv,h2⟩:=p
   rw [hco] at ho
   simp only [Option.bind_some] at ho
   cases hp : putT nt o.dst rv te with
   | none=>simp [hp] at ho
   | some te2 =>
    simp only [hp,Option.map_some,Option.bind_some] at ho
    obtain ⟨p1,p2⟩:=qhL9 (env:=env) hp
    simp only [wpOps,hok]
    refine qmW9 hC hL H hs hdf hg hv p1 (fun a' m' w' a1 a2 a3 a4 a5=>?_)
    by_cases hset : (C.settle o && o.dst.isSome) = true
    ·rw [if_pos hset] at hco
     cases hd : o.dst with
     | none =>
      rw [hd] at hset
      simp at hset
     | some d =>
      rw [hd] at a3 p2 p1
      have hvd : VRel (Ex X h20 m') h20 m' w' rv0 (a'.eval (.tmp d)):=by
       have:=a3 d
       simpa [setG] using this
      obtain ⟨m2,c1,c2,c3⟩:=qjr9 a4 hvd hco
      refine ih (k + 1) hr c2 a1 a2 (fun i=>?_) ho (fun a'' m'' w'' b1 b2 b3 b4 b5=>hK a'' m'' w'' b1 b2 b3 b4 (a5.trans (c3.trans b5)))
      rw [p2 i]
      simp only [setG]
      by_cases hi : i = d
      ·rw [if_pos hi,hi]; exact c1
      ·rw [if_neg hi]
       have:=(a3 i).evo c3
       simpa [setG,hi] using this
    ·rw [if_neg hset] at hco
     simp only [Option.some.injEq,Prod.mk.injEq] at hco
     obtain ⟨rfl,rfl⟩:=hco
     exact ih (k + 1) hr a4 a1 a2 (a3.congr p2) ho (fun a'' m'' w'' b1 b2 b3 b4 b5=>hK a'' m'' w'' b1 b2 b3 b4 (a5.trans b5))
end
end Go.Abs

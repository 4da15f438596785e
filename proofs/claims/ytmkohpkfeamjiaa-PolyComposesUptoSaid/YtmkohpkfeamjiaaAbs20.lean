import Derived.Test.YtmkohpkfeamjiaaAbs18
set_option maxHeartbeats 400000
set_option linter.unusedVariables false
set_option linter.unusedSimpArgs false
set_option linter.unusedSectionVars false
namespace Go.Abs
open Go Go.RowKit

def Direct (ops : Array Oper) (k j : Nat) : Prop:=∃ o,ops[j]? = some o∧∃ e∈o.after,Region.binds .any e = true∧e.on = k
inductive Pre (ops : Array Oper) : Nat→Nat→Prop where
 | one {k j : Nat} (h : Direct ops k j) : Pre ops k j
 | step {k l j : Nat} (h : Direct ops l j) (h' : Pre ops k l) : Pre ops k j
def mask (acc : List Nat) (es : List Edge) : Nat:=es.foldr (fun e s=>if Region.binds .any e = true then s ||| 2 ^ e.on ||| acc.getD e.on 0 else s) 0
def masks : List Oper→List Nat→List Nat
 | [],acc=>acc
 | o::r,acc=>masks r (acc++[mask acc o.after.toList])
theorem qtZ9 {ops : Array Oper} {acc : List Nat} {j : Nat} {o : Oper} (ho : ops[j]? = some o) (hacc : ∀ l k,(acc.getD l 0).testBit k = true→Pre ops k l) : ∀ (es : List Edge),(∀ e∈es,e∈o.after)→∀ k,(mask acc es).testBit k = true→Pre ops k j:=by
 intro es
 induction es with
 | nil=>intro _ k hk; simp [mask] at hk
 | cons e r ih =>
  intro hes k hk
  simp only [mask,List.foldr_cons] at hk
  split at hk
  ·rename_i hb
   simp only [Nat.testBit_or,Bool.or_eq_true,Nat.testBit_two_pow,decide_eq_true_eq] at hk
   have hdir : Direct ops e.on j:=⟨o,ho,e,hes e (by simp),hb,rfl⟩
   rcases hk with (hk | hk) | hk
   ·exact ih (fun e he=>hes e (by simp [he])) k hk
   ·subst hk; exact .one hdir
   ·exact .step hdir (hacc _ _ hk)
  ·exact ih (fun e he=>hes e (by simp [he])) k hk
theorem qrZ9 {ops : Array Oper} : ∀ (l : List Oper) (acc : List Nat),ops.toList.drop acc.length = l→(∀ l k,(acc.getD l 0).testBit k = true→Pre ops k l)→∀ j k,((masks l acc).getD j 0).testBit k = true→Pre ops k j:=by
 intro l
 induction l with
 | nil=>intro acc _ hacc j k hk; exact hacc j k hk
 | cons o r ih =>
  intro acc hl hacc j k hk
  have ho : ops[acc.length]? = some o:=by
   have:=congrArg (·[0]?) hl
   simpa using this
  refine ih (acc++[mask acc o.after.toList]) ?_ ?_ j k hk
  ·rw [List.length_append,List.length_singleton,← List.tail_drop,hl]; rfl
  ·intro l k hk
   rcases Nat.lt_trichotomy l acc.length with c | c | c
   ·rw [List.getD_eq_getElem?_getD,List.getElem?_append_left c,← List.getD_eq_getElem?_getD] at hk; exact hacc l k hk
   ·subst c
    rw [List.getD_eq_getElem?_getD,List.getElem?_append_right (Nat.le_refl _)] at hk
    simp at hk
    exact qtZ9 ho hacc o.after.toList (fun e he=>by simpa using he) k hk
   ·rw [List.getD_eq_getElem?_getD,List.getElem?_eq_none (by simp; omega)] at hk
    simp at hk

def heapy (o : Oper) : Bool:=match o.op with
 | .move _ | .assign _ | .pick _ _ _ | .nilCheck _ | .unOp _ _ _ | .convert _ _ _ | .makeInterface _ _ | .makeFunc _ _ _ | .fieldAddr _ _ _ | .field _ _ _ | .extract _ _ | .build _ _ | .buildSlice _ _ _ | .binOp _ _ _ _ _ | .index _ _ _ | .typeAssert _ _ _ _=>false
 | _=>true
def okReg (ops : Array Oper) (W : List Nat) : Bool :=
 decide (ops.size≤1000) && decide ((ops.toList.filterMap (·.dst)).Nodup) &&
 (List.range ops.size).all fun j=>match ops[j]? with
  | none=>true
  | some o=>(o.after.all fun e=>!Region.binds .any e || decide (e.on < j)) &&
   ((o.looksAt ops).all fun t=>(List.range ops.size).all fun k=>!decide ((ops[k]?).bind (·.dst) = some t) || ((((masks ops.toList []).getD j 0).testBit k && decide (k < j)) || (((masks ops.toList []).getD k 0).testBit j && decide (j < k)))) &&
   (!(heapy o || W.contains j) || W.all fun v=>decide (1000≤v) || decide (v = j) || (W.contains (j + 1000) && !W.contains j) || (decide (v < j) && ((masks ops.toList []).getD j 0).testBit v) || (decide (j < v) && ((masks ops.toList []).getD v 0).testBit j))

structure OkReg (ops : Array Oper) (W : List Nat) : Prop where
 small : ops.size≤1000
 dst : ∀ (j k : Nat) (d : Tmp),(ops[j]?).bind (·.dst) = some d→(ops[k]?).bind (·.dst) = some d→j = k
 back : ∀ k j,Direct ops k j→k < j
 look : ∀ (j : Nat) (o : Oper),ops[j]? = some o→∀ t∈o.looksAt ops,∀ k,(ops[k]?).bind (·.dst) = some t→(Pre ops k j∧k < j)∨(Pre ops j k∧j < k)
 heap : ∀ (j : Nat) (o : Oper),ops[j]? = some o→(heapy o = true∨W.contains j = true)→∀ v,W.contains v = true→1000≤v∨v = j∨(W.contains (j + 1000) = true∧W.contains j = false)∨(v < j∧Pre ops v j)∨(j < v∧Pre ops j v)
theorem quB9 : ∀ {l : List Oper},(l.filterMap (·.dst)).Nodup→∀ (j k : Nat) (d : Tmp),(l[j]?).bind (·.dst) = some d→(l[k]?).bind (·.dst) = some d→j = k:=by
 intro l
 induction l with
 | nil=>intro _ j k d hj; simp at hj
 | cons o r ih =>
  intro hn j k d hj hk
  have hmem : ∀ (i : Nat),(r[i]?).bind (·.dst) = some d→d∈r.filterMap (·.dst):=by
   intro i hi
   cases hr : r[i]? with
   | none=>simp [hr] at hi
   | some x =>
    simp only [hr,Option.bind_some] at hi
    exact List.mem_filterMap.2 ⟨x,List.mem_of_getElem? hr,hi⟩
  have hn' : (r.filterMap (·.dst)).Nodup∧∀ d,o.dst = some d→d ∉ r.filterMap (·.dst):=by
   rw [List.filterMap_cons] at hn
   cases ho : o.dst with
   | none=>simp only [ho] at hn; exact ⟨hn,fun d hd=>by cases hd⟩
   | some x=>simp only [ho,List.nodup_cons] at hn; exact ⟨hn.2,fun d hd=>by cases hd; exact hn.1⟩
  cases j with
  | zero =>
   cases k with
   | zero=>rfl
   | succ k=>exact absurd (hmem k (by simpa using hk)) (hn'.2 d (by simpa using hj))
  | succ j =>
   cases k with
   | zero=>exact absurd (hmem j (by simpa using hj)) (hn'.2 d (by simpa using hk))
   | succ k=>rw [ih hn'.1 j k d (by simpa using hj) (by simpa using hk)]
theorem qsT9 {ops : Array Oper} {W : List Nat} (hk : okReg ops W = true) : OkReg ops W:=by
 simp only [okReg,Bool.and_eq_true,decide_eq_true_eq,List.all_eq_true,List.mem_range] at hk
 obtain ⟨⟨h0,h1⟩,h2⟩:=hk
 have hpre : ∀ j k,((masks ops.toList []).getD j 0).testBit k = true→Pre ops k j:=qrZ9 ops.toList [] (by simp) (fun l k hk=>by simp at hk)
 have hlt : ∀ {j : Nat} {o : Oper},ops[j]? = some o→j < ops.size:=fun ho=>(Array.getElem?_eq_some_iff.1 ho).1
 refine ⟨h0,fun j k d hj hk=>quB9 h1 j k d (by simpa using hj) (by simpa using hk),fun k j ⟨o,ho,e,he,hb,hek⟩=>?_,fun j o ho t ht k hk=>?_,fun j o ho hh v hv=>?_⟩
 ·have:=h2 j (hlt ho)
  simp only [ho,Bool.and_eq_true] at this
  have:=(Array.all_eq_true_iff_forall_mem.1 this.1.1) e he
  simp only [hb,Bool.not_true,Bool.false_or,decide_eq_true_eq] at this
  omega
 ·have:=h2 j (hlt ho)
  simp only [ho,Bool.and_eq_true] at this
  have:=List.all_eq_true.1 this.1.2 t ht
  have hkl : k < ops.size:=by
   cases hq : ops[k]? with
   | none=>simp [hq] at hk
   | some x=>exact hlt hq
  have:=List.all_eq_true.1 this k (by simpa using hkl)
  simp only [hk,decide_true,Bool.not_true,Bool.false_or,Bool.or_eq_true,Bool.and_eq_true,decide_eq_true_eq] at this
  rcases this with this | this
  ·exact .inl ⟨hpre _ _ this.1,this.2⟩
  ·exact .inr ⟨hpre _ _ this.1,this.2⟩
 ·have:=h2 j (hlt ho)
  simp only [ho,Bool.and_eq_true] at this
  have h3:=this.2
  have hor : (heapy o || W.contains j) = true:=by simpa using hh
  rw [hor] at h3
  simp only [Bool.not_true,Bool.false_or] at h3
  have:=List.all_eq_true.1 h3 v (by simpa using hv)
  simp only [Bool.or_eq_true,Bool.and_eq_true,decide_eq_true_eq] at this
  rcases this with (((h | h) | h) | h) | h
  ·exact .inl h
  ·exact .inr (.inl h)
  ·exact .inr (.inr (.inl ⟨h.1,by simpa using h.2⟩))
  ·exact .inr (.inr (.inr (.inl ⟨h.1,hpre _ _ h.2⟩)))
  ·exact .inr (.inr (.inr (.inr ⟨h.1,hpre _ _ h.2⟩)))

theorem qtK9 {get get' : Nat→PV} {x : Operand} (h : ∀ t,x = .tmp t→get t = get' t) : evO get x = evO get' x:=by
 cases x with
 | tmp t=>exact h t rfl
 | _=>rfl
theorem qva9 {C : Cfg} {L : Oracle} {get get' : Nat→PV} {h : AHeap} {o : Oper} (hh : ∀ x∈o.op.operands,evO get x = evO get' x) : aop C L get h o = aop C L get' h o:=by
 obtain ⟨dst,op,type,pos,after,guard⟩:=o
 have pairs : ∀ ps : Array (Nat × Operand),(∀ x∈ps.map (·.2),evO get x = evO get' x)→(ps.toList.map fun p=>(p.1,evO get p.2)) = (ps.toList.map fun p=>(p.1,evO get' p.2)):=fun ps hp =>
  List.map_congr_left fun p hm=>by rw [hp p.2 (Array.mem_map.2 ⟨p,by simpa using hm,rfl⟩)]
 have many : ∀ ps : Array Operand,(∀ x∈ps,evO get x = evO get' x)→ps.toList.map (evO get) = ps.toList.map (evO get'):=fun ps hp =>
  List.map_congr_left fun p hm=>hp p (by simpa using hm)
 cases op <;> simp only [Op.operands] at hh <;> simp only [aop]
 case build t ps=>rw [pairs ps fun x hx=>hh x (by simpa using hx)]
 case buildSlice t n ps=>rw [pairs ps fun x hx=>hh x (by simpa using hx)]
 case makeFunc fn first captured=>rw [many first fun x hx=>hh x (by simp [hx]),many captured fun x hx=>hh x (by simp [hx])]
 case call c =>
  have hargs : c.args.toList.map (evO get) = c.args.toList.map (evO get'):=many c.args fun x hx=>hh x (by simp [Call.operands,hx])
  have hc : qdf9 get c.callee = qdf9 get' c.callee:=by
   cases hc : c.callee with
   | value f=>exact hh f (by simp [Call.operands,hc])
   | invoke r m=>exact hh r (by simp [Call.operands,hc])
   | builtin b=>rfl
  rw [hargs,hc]
 case makeMap t r=>cases r <;> simp_all
 case slice t x lo hi mx=>cases lo <;> cases hi <;> cases mx <;> simp_all
 all_goals (first | rfl | (simp_all; done))
theorem quS9 {C : Cfg} {L : Oracle} {nt : Nat} {ops : Array Oper} {get get' : Nat→PV} {h : AHeap} {o : Oper} (hh : ∀ t∈o.looksAt ops,get t = get' t) : opV C L nt ops get h o = opV C L nt ops get' h o:=by
 have ha : aop C L get h o = aop C L get' h o:=qva9 fun x hx=>qtK9 fun t ht=>hh t (by
  subst ht
  exact List.mem_append_left _ (List.mem_filterMap.2 ⟨.tmp t,by simpa using hx,rfl⟩))
 unfold opV
 cases hg : o.guard with
 | none=>exact ha
 | some p =>
  obtain ⟨j,b⟩:=p
  simp only
  cases hj : (ops[j]?).bind (·.dst) with
  | none=>rfl
  | some d =>
   have:=hh d (List.mem_append_right _ (by simp [hg,hj]))
   simp only [this,ha]

theorem qop9 {C : Cfg} {L : Oracle} {get : Nat→PV} {h h1 : AHeap} {o : Oper} {r : PV} (hn : heapy o = false) (ho : aop C L get h o = some (r,h1)) : h1 = h∧∀ h',aop C L get h' o = some (r,h'):=by
 cases hop : o.op <;> simp only [heapy,hop] at hn <;> (try cases hn) <;> simp only [aop,hop] at ho ⊢
 case move x=>simp only [Option.some.injEq,Prod.mk.injEq] at ho; obtain ⟨rfl,rfl⟩:=ho; exact ⟨rfl,fun _=>rfl⟩
 case assign x=>simp only [Option.some.injEq,Prod.mk.injEq] at ho; obtain ⟨rfl,rfl⟩:=ho; exact ⟨rfl,fun _=>rfl⟩
 case pick c a b =>
  unfold qjz9 at ho ⊢
  split at ho
  ·simp only [Option.some.injEq,Prod.mk.injEq] at ho; obtain ⟨rfl,rfl⟩:=ho; exact ⟨rfl,fun _=>by simp [*]⟩
  ·cases ho
 case nilCheck x =>
  unfold opNil at ho ⊢
  split at ho <;> first | (simp only [Option.some.injEq,Prod.mk.injEq] at ho; obtain ⟨rfl,rfl⟩:=ho; exact ⟨rfl,fun _=>rfl⟩) | cases ho
 case unOp op t x =>
  unfold opUn at ho ⊢
  split at ho
  ·simp only [Option.map_eq_some_iff,Prod.mk.injEq] at ho; obtain ⟨v,h2,rfl,rfl⟩:=ho; exact ⟨rfl,fun _=>by simp [*]⟩
  ·cases ho
 case convert s d x =>
  unfold qel9 at ho ⊢
  split at ho
  ·simp only [Option.map_eq_some_iff,Prod.mk.injEq] at ho; obtain ⟨v,h2,rfl,rfl⟩:=ho; exact ⟨rfl,fun _=>by simp [*]⟩
  ·simp only [Option.map_eq_some_iff,Prod.mk.injEq] at ho; obtain ⟨v,h2,rfl,rfl⟩:=ho; exact ⟨rfl,fun _=>by simp [*]⟩
 case makeInterface t x =>
  unfold qhp9 at ho ⊢
  split at ho
  ·cases ho
  ·simp only [Option.some.injEq,Prod.mk.injEq] at ho; obtain ⟨rfl,rfl⟩:=ho; exact ⟨rfl,fun _=>by simp_all⟩
  ·cases ho
 case makeFunc fn first caps =>
  unfold qif9 at ho ⊢
  split at ho
  ·simp only [Option.some.injEq,Prod.mk.injEq] at ho; obtain ⟨rfl,rfl⟩:=ho; exact ⟨rfl,fun _=>by simp [*]⟩
  ·cases ho
 case fieldAddr s x f =>
  unfold qfj9 at ho ⊢
  split at ho
  ·cases ho
  ·split at ho
   ·cases ho
   ·split at ho
    ·split at ho
     ·cases ho
     ·simp only [Option.map_eq_some_iff,Prod.mk.injEq] at ho; obtain ⟨v,h2,rfl,rfl⟩:=ho; exact ⟨rfl,fun _=>by simp [*]⟩
    ·cases ho
 case field t x f =>
  unfold qig9 at ho ⊢
  split at ho
  ·split at ho
   ·simp only [Option.map_eq_some_iff,Prod.mk.injEq] at ho; obtain ⟨v,h2,rfl,rfl⟩:=ho; exact ⟨rfl,fun _=>by simp [*]⟩
   ·cases ho
  ·cases ho
 case extract x i =>
  unfold qfI9 at ho ⊢
  split at ho
  ·simp only [Option.map_eq_some_iff,Prod.mk.injEq] at ho; obtain ⟨v,h2,rfl,rfl⟩:=ho; exact ⟨rfl,fun _=>by simp [*]⟩
  ·cases ho
 case build t ps =>
  unfold qhj9 at ho ⊢
  split at ho
  ·split at ho
   ·simp only [Option.map_eq_some_iff,Prod.mk.injEq] at ho; obtain ⟨v,h2,rfl,rfl⟩:=ho; exact ⟨rfl,fun _=>by simp [*]⟩
   ·cases ho
  ·simp only [Option.bind_eq_some_iff,Option.map_eq_some_iff,Prod.mk.injEq] at ho; obtain ⟨n,h3,v,h2,rfl,rfl⟩:=ho; exact ⟨rfl,fun _=>by simp [*]⟩
  ·cases ho
 case buildSlice t n ps =>
  have key : ∀ h,qcD9 C.P h t n (ps.toList.map fun p=>(p.1,evO get p.2)) = (qcD9 C.P [] t n (ps.toList.map fun p=>(p.1,evO get p.2))).map fun p=>(p.1,h):=by
   intro h
   unfold qcD9
   cases qt9 C.P t with
   | none=>rfl
   | some e =>
    simp only
    cases zeroCells C.P e with
    | none=>rfl
    | some z =>
     cases sizeT C.P e with
     | none=>rfl
     | some sz =>
      simp only
      split
      ·simp [Option.map_map,Function.comp_def]
      ·rfl
  rw [key] at ho
  simp only [Option.map_eq_some_iff,Prod.mk.injEq] at ho
  obtain ⟨p,h2,rfl,rfl⟩:=ho
  exact ⟨rfl,fun h'=>by rw [key,h2]; rfl⟩
 case binOp op t x y z =>
  unfold opBin at ho ⊢
  split at ho
  ·simp only [Option.some.injEq,Prod.mk.injEq] at ho; obtain ⟨rfl,rfl⟩:=ho; exact ⟨rfl,fun _=>by simp [*]⟩
  ·split at ho
   ·simp only [Option.map_eq_some_iff,Prod.mk.injEq] at ho; obtain ⟨v,h2,rfl,rfl⟩:=ho; exact ⟨rfl,fun _=>by simp [*]⟩
   ·cases ho
 case index t x i =>
  unfold qhs9 at ho ⊢
  split at ho
  ·split at ho
   ·simp only [Option.map_eq_some_iff,Prod.mk.injEq] at ho; obtain ⟨v,h2,rfl,rfl⟩:=ho; exact ⟨rfl,fun _=>by simp [*]⟩
   ·cases ho
  ·split at ho
   ·split at ho
    ·split at ho
     ·simp only [Option.map_eq_some_iff,Prod.mk.injEq] at ho; obtain ⟨v,h2,rfl,rfl⟩:=ho; exact ⟨rfl,fun _=>by simp [*]⟩
     ·cases ho
    ·cases ho
   ·cases ho
 case typeAssert x xt asserted ok =>
  have key : ∀ h,qeV9 C.P h (evO get x) asserted ok = (qeV9 C.P [] (evO get x) asserted ok).map fun p=>(p.1,h):=by
   intro h
   unfold qeV9 qfA9
   cases C.P.underlying asserted with
   | none=>rfl
   | some d =>
    cases d <;> try rfl
    all_goals
     cases dynOf (evO get x) with
     | none=>rfl
     | some q =>
      cases q with
      | none=>cases ok <;> simp [Option.map_map,Function.comp_def]
      | some p =>
       obtain ⟨t,v⟩:=p
       by_cases ht : t = asserted
       ·simp [ht]
       ·cases ok <;> simp [ht,Option.map_map,Function.comp_def]
  rw [key] at ho
  simp only [Option.map_eq_some_iff,Prod.mk.injEq] at ho
  obtain ⟨p,h2,rfl,rfl⟩:=ho
  exact ⟨rfl,fun h'=>by rw [key,h2]; rfl⟩
theorem qnv9 {get : Nat→PV} {a : Operand} (hf : (match evO get a with | .bx _=>true | .d (.bx _)=>true | _=>false) = true) (h h' : AHeap) : qbs9 h (evO get a) = qbs9 h' (evO get a):=by
 split at hf
 ·rename_i e; rw [e]; rfl
 ·rename_i e; rw [e]; rfl
 ·cases hf
theorem qob9 : ∀ {args : List PV},args.all isD = true→∃ ds : List D,args = ds.map PV.d
 | [],_=>⟨[],rfl⟩
 | x::r,h=>by
  simp only [List.all_cons,Bool.and_eq_true] at h
  obtain ⟨ds,hds⟩:=qob9 h.2
  cases x with
  | d y=>exact ⟨y::ds,by rw [hds]; rfl⟩
  | _=>simp [isD] at h
theorem qrf9 {h : AHeap} {n : Nat} : ∀ ds : List D,mapO (rs h (n + 1)) (ds.map PV.d) = some ds
 | []=>rfl
 | d::ds=>by
  simp only [List.map_cons,mapO,qrf9 ds]
  rfl
theorem qlp9 {h : AHeap} {n : Nat} : ∀ ds : List D,(ds.map PV.d).flatMap (reach h (n + 1)) = []
 | []=>rfl
 | d::ds=>by
  rw [List.map_cons,List.flatMap_cons,qlp9 ds]
  rfl
theorem qAi9 {x : PV} (hx : isC x = true) : ∃ d,∀ h,rs h depth x = some d∧reach h depth x = []:=by
 cases x with
 | d y=>exact ⟨y,fun h=>⟨rfl,rfl⟩⟩
 | ag cs =>
  obtain ⟨ds,rfl⟩:=qob9 hx
  refine ⟨.ag ds,fun h=>⟨?_,?_⟩⟩
  ·show (mapO (rs h 39) (ds.map PV.d)).map D.ag = _
   rw [qrf9 (n:=38)]; rfl
  ·show (ds.map PV.d).flatMap (reach h 39) = _
   exact qlp9 (n:=38) ds
 | _=>simp [isC] at hx
theorem qpy9 : ∀ {args : List PV},args.all isC = true→∃ ds : List D,∀ h,mapO (rs h depth) args = some ds∧args.flatMap (reach h depth) = []
 | [],_=>⟨[],fun h=>⟨rfl,rfl⟩⟩
 | x::r,hh=>by
  simp only [List.all_cons,Bool.and_eq_true] at hh
  obtain ⟨ds,hds⟩:=qpy9 hh.2
  obtain ⟨d,hd⟩:=qAi9 hh.1
  refine ⟨d::ds,fun h=>⟨?_,?_⟩⟩
  ·simp only [mapO,(hd h).1,(hds h).1]
  ·rw [List.flatMap_cons,(hd h).2,(hds h).2]; rfl
theorem qsD9 {C : Cfg} {L : Oracle} {g : FuncId} {args : List PV} {h h1 : AHeap} {r : PV} (hc : calm C g = true) (ha : args.all isC = true) (ho : callP C L g args h = some (r,h1)) : h1 = h∧∀ h',callP C L g args h' = some (r,h'):=by
 simp only [calm,Bool.and_eq_true,decide_eq_true_eq,Option.isNone_iff_eq_none] at hc
 obtain ⟨⟨hp,hu⟩,hm⟩:=hc
 obtain ⟨ds,hds⟩:=qpy9 ha
 have key : ∀ h',callP C L g args h' = match L g (ds.map .d) [] with
   | none=>none
   | some (r,h1)=>match rsT h1 r with
    | none=>none
    | some r'=>some (r',h'):=by
  intro h'
  simp only [callP,hp,hu,hm,if_true,(hds h').1,(hds h').2]
  rw [if_neg (by decide),if_neg (by decide)]
  cases L g (ds.map PV.d) [] with
  | none=>rfl
  | some p =>
   obtain ⟨a,b⟩:=p
   simp only
   cases rsT b a with
   | none=>rfl
   | some r' =>
    simp only [freezeAll,List.foldl_nil,ite_self]
 rw [key] at ho
 cases hL : L g (ds.map PV.d) [] with
 | none=>rw [hL] at ho; cases ho
 | some p =>
  obtain ⟨a,b⟩:=p
  rw [hL] at ho
  simp only at ho
  cases hr : rsT b a with
  | none=>rw [hr] at ho; cases ho
  | some r' =>
   rw [hr] at ho
   simp only [Option.some.injEq,Prod.mk.injEq] at ho
   obtain ⟨rfl,rfl⟩:=ho
   refine ⟨rfl,fun h'=>?_⟩
   rw [key,hL]
   simp only [hr]
theorem qmQ9 {C : Cfg} {L : Oracle} {get : Nat→PV} {h h1 : AHeap} {o : Oper} {r : PV} (hf : qcS9 C get o = true) (ho : aop C L get h o = some (r,h1)) : h1 = h∧∀ h',aop C L get h' o = some (r,h'):=by
 obtain ⟨dst,op,type,pos,after,guard⟩:=o
 cases op <;> simp only [qcS9] at hf <;> first | (exfalso; exact Bool.false_ne_true hf) | skip
 case call c =>
  simp only [aop] at ho ⊢
  split at hf
  ·rename_i g hcal
   simp only [Bool.and_eq_true] at hf
   have ha : (c.args.toList.map (evO get)).all isC = true:=by rw [List.all_map]; exact hf.2
   simp only [hcal,qcA9,qdf9,evO,List.append_nil] at ho ⊢
   exact qsD9 hf.1 ha ho
  ·cases hf
 case indexAddr t x i =>
  simp only [aop] at ho ⊢
  generalize evO get x = X at hf ho ⊢
  generalize evO get i = I at ho ⊢
  split at hf
  ·rename_i xs
   unfold qeo9 at ho ⊢
   have he : ∀ (h' : AHeap) (sz j : Nat) (y : PV),qeS9 (.d (.rd xs)) j = some y→qeK9 h' sz y = qeK9 h sz y:=by
    intro h' sz j y hy
    simp only [qeS9,Option.map_eq_some_iff] at hy
    obtain ⟨cs,_,rfl⟩:=hy
    rfl
   have hs : ∀ (h' : AHeap) (k : Nat) (y : PV),qcU9 (.d (.rd xs)) k = some y→False:=by
    intro h' k y hy
    cases hy
   cases hI : qbj9 I with
   | none=>rw [hI] at ho; cases ho
   | some n =>
    rw [hI] at ho
    cases hu : C.P.underlying t with
    | none=>rw [hu] at ho; cases ho
    | some u =>
     rw [hu] at ho
     cases u with
     | slice e =>
      simp only at ho ⊢
      cases hz : sizeT C.P e with
      | none=>rw [hz] at ho; simp at ho
      | some sz =>
       cases hl : lenP (.d (.rd xs)) with
       | none=>rw [hz,hl] at ho; simp at ho
       | some k =>
        rw [hz,hl] at ho
        simp only at ho ⊢
        split at ho
        ·rename_i hc
         cases hy : qeS9 (.d (.rd xs)) n.toNat with
         | none=>rw [hy] at ho; cases ho
         | some y =>
          rw [hy] at ho
          simp only at ho
          split at ho
          ·rename_i hok
           simp only [Option.some.injEq,Prod.mk.injEq] at ho
           obtain ⟨rfl,rfl⟩:=ho
           refine ⟨rfl,fun h'=>?_⟩
           rw [if_pos hc]
           simp only
           rw [he h' sz _ _ hy,if_pos hok]
          ·cases ho
        ·cases ho
     | array len e =>
      simp only at ho
      cases hz : sizeT C.P e with
      | none=>rw [hz] at ho; cases ho
      | some sz =>
       rw [hz] at ho
       simp only at ho
       split at ho
       ·cases hy : qcU9 (.d (.rd xs)) (n.toNat * sz) with
        | none=>rw [hy] at ho; cases ho
        | some y=>exact (hs h _ _ hy).elim
       ·cases ho
     | _=>simp at ho
  ·cases hf
 rename_i t a
 simp only [aop,loadP] at ho ⊢
 have hc:=fun h'=>qnv9 hf h' h
 cases hx : (qbs9 h (evO get a)).bind fun cs=>partP C.P t cs 0 with
 | none=>simp [hx] at ho
 | some x =>
  simp only [hx,Option.map_some,Option.some.injEq,Prod.mk.injEq] at ho
  obtain ⟨rfl,rfl⟩:=ho
  exact ⟨rfl,fun h'=>by rw [hc h',hx]; rfl⟩
theorem quZ9 {C : Cfg} {L : Oracle} {nt : Nat} {ops : Array Oper} {get : Nat→PV} {h h1 : AHeap} {o : Oper} {r : PV} (hf : qcS9 C get o = true) (ho : opV C L nt ops get h o = some (r,h1)) : h1 = h∧∀ h',opV C L nt ops get h' o = some (r,h'):=by
 unfold opV at ho ⊢
 cases hg : o.guard with
 | none=>simp only [hg] at ho ⊢; exact qmQ9 hf ho
 | some p =>
  obtain ⟨j,b⟩:=p
  simp only [hg] at ho ⊢
  cases hj : (ops[j]?).bind (·.dst) with
  | none=>simp [hj] at ho
  | some d =>
   simp only [hj] at ho ⊢
   split at ho
   ·rename_i hlt
    simp only [if_pos hlt]
    split at ho
    ·rename_i b' hb
     split at ho
     ·rename_i he
      simp only [if_pos he]; exact qmQ9 hf ho
     ·rename_i he
      simp only [Option.some.injEq,Prod.mk.injEq] at ho; obtain ⟨rfl,rfl⟩:=ho
      exact ⟨rfl,fun _=>by rw [if_neg he]⟩
    ·simp only [Option.some.injEq,Prod.mk.injEq] at ho; obtain ⟨rfl,rfl⟩:=ho
     exact ⟨rfl,fun _=>rfl⟩
    ·cases ho
   ·cases ho
theorem qps9 {C : Cfg} {L : Oracle} {nt : Nat} {ops : Array Oper} {get : Nat→PV} {h h1 : AHeap} {o : Oper} {r : PV} (hn : heapy o = false) (ho : opV C L nt ops get h o = some (r,h1)) : h1 = h∧∀ h',opV C L nt ops get h' o = some (r,h'):=by
 unfold opV at ho ⊢
 cases hg : o.guard with
 | none=>simp only [hg] at ho ⊢; exact qop9 hn ho
 | some p =>
  obtain ⟨j,b⟩:=p
  simp only [hg] at ho ⊢
  cases hj : (ops[j]?).bind (·.dst) with
  | none=>simp [hj] at ho
  | some d =>
   simp only [hj] at ho ⊢
   split at ho
   ·rename_i hlt
    simp only [if_pos hlt]
    split at ho
    ·rename_i b' hb
     split at ho
     ·rename_i he
      simp only [if_pos he]; exact qop9 hn ho
     ·rename_i he
      simp only [Option.some.injEq,Prod.mk.injEq] at ho; obtain ⟨rfl,rfl⟩:=ho
      exact ⟨rfl,fun _=>by rw [if_neg he]⟩
    ·simp only [Option.some.injEq,Prod.mk.injEq] at ho; obtain ⟨rfl,rfl⟩:=ho
     exact ⟨rfl,fun _=>rfl⟩
    ·cases ho
   ·cases ho
end Go.Abs
namespace Go.Abs
open Go Go.RowKit

theorem qti9 {C : Cfg} {L : Oracle} {nt : Nat} {W : List Nat} {ops : Array Oper} {env : Env} : ∀ (l : List Oper) (k : Nat) {te te1 : Env} {h h1 : AHeap},opsD C L nt W ops env k l te h = some (te1,h1) →
  ∃ (R : Nat→PV) (Hh : Nat→AHeap) (G : Nat→Nat→PV),Hh 0 = h∧(∀ i,G 0 i = get2 te env i)∧Hh l.length = h1∧(∀ i,G l.length i = get2 te1 env i) ∧
   ∀ (j : Nat) (o : Oper),l[j]? = some o→opV C L nt ops (G j) (Hh j) o = some (R j,Hh (j + 1))∧(∀ d,o.dst = some d→d < nt)∧(W.contains (k + j) = true∨Hh (j + 1) = Hh j)∧(∀ i,G (j + 1) i = setG (G j) o.dst (R j) i)∧(W.contains (k + j + 1000) = true→qcS9 C (G j) o = true):=by
 intro l
 induction l with
 | nil =>
  intro k te te1 h h1 ho
  simp only [opsD,Option.some.injEq,Prod.mk.injEq] at ho
  obtain ⟨rfl,rfl⟩:=ho
  exact ⟨fun _=>.junk,fun _=>h,fun _=>get2 te env,rfl,fun _=>rfl,rfl,fun _=>rfl,fun j o hj=>by simp at hj⟩
 | cons o r ih =>
  intro k te te1 h h1 ho
  simp only [opsD,opS] at ho
  cases hv : opV C L nt ops (get2 te env) h o with
  | none=>simp [hv] at ho
  | some p =>
   obtain ⟨rv,h2⟩:=p
   simp only [hv,Option.bind_some] at ho
   cases hp : putT nt o.dst rv te with
   | none=>simp [hp] at ho
   | some te2 =>
    simp only [hp,Option.map_some,Option.bind_some] at ho
    obtain ⟨p1,p2⟩:=qhL9 (env:=env) hp
    split at ho
    ·rename_i hw
     obtain ⟨R,Hh,G,a1,a2,a3,a4,a5⟩:=ih (k + 1) ho
     refine ⟨fun j=>match j with | 0=>rv | j + 1=>R j,fun j=>match j with | 0=>h | j + 1=>Hh j,fun j=>match j with | 0=>get2 te env | j + 1=>G j,rfl,fun _=>rfl,a3,a4,fun j o' hj=>?_⟩
     cases j with
     | zero =>
      simp only [List.getElem?_cons_zero,Option.some.injEq] at hj
      subst hj
      refine ⟨by simp only [a1]; exact hv,p1,?_,fun i=>?_,fun hf=>?_⟩
      ·rcases hw.1 with hw | hw
       ·exact .inl (by simpa using hw)
       ·exact .inr (by simp only [a1]; exact hw)
      ·show G 0 i = setG (get2 te env) o.dst rv i
       rw [a2 i,p2 i]
      ·exact hw.2 (by simpa using hf)
     | succ j =>
      obtain ⟨b1,b2,b3,b4,b5⟩:=a5 j o' (by simpa using hj)
      refine ⟨b1,b2,?_,b4,fun hf=>b5 (by rw [← hf]; congr 1; omega)⟩
      rcases b3 with b3 | b3
      ·exact .inl (by rw [← b3]; congr 1; omega)
      ·exact .inr b3
    ·cases ho

section
variable {W0 : World} {X : Nat→Prop}

def qH9 (W : List Nat) (n : Nat) (listed : Array Bool) : Nat:=((List.range n).find? fun v=>W.contains v && !listed.getD v false).getD n
theorem qeE9 (W : List Nat) (n : Nat) (listed : Array Bool) : qH9 W n listed≤n:=by
 unfold qH9
 cases h : (List.range n).find? _ with
 | none=>simp
 | some v =>
  have:=List.mem_of_find?_eq_some h
  simp at this
  simp; omega
theorem qhO9 {W : List Nat} {n : Nat} {listed : Array Bool} {v : Nat} (hv : v < qH9 W n listed) (hw : W.contains v = true) : listed.getD v false = true:=by
 have hn : v < n:=Nat.lt_of_lt_of_le hv (qeE9 W n listed)
 cases hl : listed.getD v false with
 | true=>rfl
 | false =>
  exfalso
  unfold qH9 at hv
  have hp : (W.contains v && !listed.getD v false) = true:=by rw [hw,hl]; rfl
  cases h : (List.range n).find? (fun v=>W.contains v && !listed.getD v false) with
  | none =>
   have:=List.find?_eq_none.1 h v (by simpa using hn)
   exact this hp
  | some u =>
   rw [h] at hv
   simp only [Option.getD_some] at hv
   obtain ⟨_,as,bs,hab,hno⟩:=List.find?_eq_some_iff_append.1 h
   have hlen : as.length = u:=by
    have h1:=congrArg (·[as.length]?) hab
    simp only [List.getElem?_append_right (Nat.le_refl _),Nat.sub_self,List.getElem?_cons_zero] at h1
    rcases Nat.lt_or_ge as.length n with c | c
    ·rw [List.getElem?_range c] at h1; simpa using h1
    ·rw [List.getElem?_eq_none (by simpa using c)] at h1; cases h1
   have hva : v∈as:=by
    have h1:=congrArg (·[v]?) hab
    simp only [List.getElem?_append_left (show v < as.length by omega)] at h1
    rw [List.getElem?_range hn] at h1
    exact List.mem_of_getElem? h1.symm
   have:=hno v hva
   rw [hp] at this
   cases this
theorem qhU9 {W : List Nat} {n : Nat} {listed : Array Bool} (h : qH9 W n listed < n) : W.contains (qH9 W n listed) = true∧listed.getD (qH9 W n listed) false = false:=by
 unfold qH9 at h ⊢
 cases hf : (List.range n).find? (fun v=>W.contains v && !listed.getD v false) with
 | none=>rw [hf] at h; simp at h
 | some v =>
  have:=List.find?_some hf
  simpa using this

theorem qwi9 (listed : Array Bool) (i k : Nat) (hi : i < listed.size) : (listed.setIfInBounds i true).getD k false = if k = i then true else listed.getD k false:=by
 by_cases h : k = i
 ·subst h; simp [hi]
 ·rw [if_neg h]; simp [Array.getElem?_setIfInBounds_ne (Ne.symm h)]

open Classical in
noncomputable def gAt (ops : Array Oper) (G0 G : Nat→PV) (listed : Array Bool) (t : Nat) : PV:=if ∃ k,(ops[k]?).bind (·.dst) = some t∧listed.getD k false = false then G0 t else G t

theorem quA9 {C : Cfg} {L : Oracle} (hC : CSound W0 C) (hL : OSound W0 C L) {nt : Nat} {W : List Nat} {ops : Array Oper} {Q : Exit→Act→World→Prop} (hok : OkReg ops W)
  {R : Nat→PV} {Hh : Nat→AHeap} {G : Nat→Nat→PV} (htr : ∀ (j : Nat) (o : Oper),ops[j]? = some o→opV C L nt ops (G j) (Hh j) o = some (R j,Hh (j + 1))∧(∀ d,o.dst = some d→d < nt)∧(W.contains j = true∨Hh (j + 1) = Hh j)∧(∀ i,G (j + 1) i = setG (G j) o.dst (R j) i)∧(W.contains (j + 1000) = true→qcS9 C (G j) o = true))
  {m0 : Places} {w0 : World} (hK : ∀ a' m' w',a'.tmps.size = nt→a'.defers = []→TRel (Ex X (Hh ops.size) m') (Hh ops.size) m' w' (G ops.size) a'→HRel W0 X (Hh ops.size) m' w'→Evo (Ex X (Hh 0) m0) (Hh 0) m0 w0 (Ex X (Hh ops.size) m') (Hh ops.size) m' w'→Q .normal a' w') :
  ∀ (fuel : Nat) (listed : Array Bool) (a : Act) (m : Places) (w : World),listed.size = ops.size→listed.toList.count false = fuel→(∀ j k,listed.getD j false = true→Direct ops k j→listed.getD k false = true) →
   a.tmps.size = nt→a.defers = []→HRel W0 X (Hh (qH9 W ops.size listed)) m w→TRel (Ex X (Hh (qH9 W ops.size listed)) m) (Hh (qH9 W ops.size listed)) m w (gAt ops (G 0) (G ops.size) listed) a →
   Evo (Ex X (Hh 0) m0) (Hh 0) m0 w0 (Ex X (Hh (qH9 W ops.size listed)) m) (Hh (qH9 W ops.size listed)) m w →
   wpAny C.P .any ops Q fuel listed a w:=by
 have hlt : ∀ {j : Nat} {o : Oper},ops[j]? = some o→j < ops.size:=fun ho=>(Array.getElem?_eq_some_iff.1 ho).1
 -- slots that an operation fills
 have hG1 : ∀ (k : Nat) (o : Oper) (t : Nat),ops[k]? = some o→o.dst = some t→∀ j,k < j→j≤ops.size→G j t = R k:=by
  intro k o t ho hd j hkj
  induction j with
  | zero=>omega
  | succ j ih =>
   intro hj
   have hoj : ops[j]? = some ops[j]:=Array.getElem?_eq_getElem (by omega)
   rw [(htr j _ hoj).2.2.2.1 t]
   rcases Nat.lt_or_ge k j with c | c
   ·have hne : ops[j].dst ≠ some t:=by
     intro he
     have:=hok.dst k j t (by rw [ho]; exact hd) (by rw [hoj]; exact he)
     omega
    have : setG (G j) ops[j].dst (R j) t = G j t:=by
     cases hdj : ops[j].dst with
     | none=>rfl
     | some d =>
      simp only [setG]
      rw [if_neg]
      intro e; subst e; exact hne hdj
    rw [this]; exact ih c (by omega)
   ·have e : k = j:=by omega
    subst e
    rw [hoj] at ho
    cases ho
    rw [hd]; simp [setG]
 have hG0 : ∀ (t : Nat) (j : Nat),j≤ops.size→(∀ k,k < j→(ops[k]?).bind (·.dst) ≠ some t)→G j t = G 0 t:=by
  intro t j
  induction j with
  | zero=>intro _ _; rfl
  | succ j ih =>
   intro hj hno
   have hoj : ops[j]? = some ops[j]:=Array.getElem?_eq_getElem (by omega)
   rw [(htr j _ hoj).2.2.2.1 t]
   have hne : ops[j].dst ≠ some t:=by
    intro he
    exact hno j (by omega) (by rw [hoj]; exact he)
   have : setG (G j) ops[j].dst (R j) t = G j t:=by
    cases hdj : ops[j].dst with
    | none=>rfl
    | some d =>
     simp only [setG]
     rw [if_neg]
     intro e; subst e; exact hne hdj
   rw [this]; exact ih (by omega) (fun k hk=>hno k (by omega))
 have hpre : ∀ (listed : Array Bool),(∀ j k,listed.getD j false = true→Direct ops k j→listed.getD k false = true)→∀ k j,Pre ops k j→(listed.getD j false = true∨∀ k',Direct ops k' j→listed.getD k' false = true)→listed.getD k false = true:=by
  intro listed hcl k j hp
  induction hp with
  | one hd =>
   intro hj
   rcases hj with hj | hj
   ·exact hcl _ _ hj hd
   ·exact hj _ hd
  | step hd _ ih =>
   intro hj
   refine ih (.inl ?_)
   rcases hj with hj | hj
   ·exact hcl _ _ hj hd
   ·exact hj _ hd
 have hsame : ∀ (i j : Nat),i≤j→j≤ops.size→(∀ k,i≤k→k < j→W.contains k = false)→Hh j = Hh i:=by
  intro i j hij
  induction j with
  | zero =>
   intro _ _
   have : i = 0:=by omega
   subst this; rfl
  | succ j ih =>
   intro hj hno
   rcases Nat.lt_or_ge i (j + 1) with c | c
   ·have hoj : ops[j]? = some ops[j]:=Array.getElem?_eq_getElem (by omega)
    rcases (htr j _ hoj).2.2.1 with hw | hw
    ·rw [hno j (by omega) (by omega)] at hw; cases hw
    ·rw [hw]; exact ih (by omega) (by omega) (fun k hk hk'=>hno k hk (by omega))
   ·have : i = j + 1:=by omega
    subst this; rfl
 intro fuel
 -- where all is done
 have fin : ∀ (listed : Array Bool) (a : Act) (m : Places) (w : World),listed.size = ops.size→(∀ k,k < ops.size→listed.getD k false = true)→a.tmps.size = nt→a.defers = []→HRel W0 X (Hh (qH9 W ops.size listed)) m w→TRel (Ex X (Hh (qH9 W ops.size listed)) m) (Hh (qH9 W ops.size listed)) m w (gAt ops (G 0) (G ops.size) listed) a →
   Evo (Ex X (Hh 0) m0) (Hh 0) m0 w0 (Ex X (Hh (qH9 W ops.size listed)) m) (Hh (qH9 W ops.size listed)) m w→Q .normal a w:=by
  intro listed a m w hsz hall hs hdf H hg hev
  have hfw : qH9 W ops.size listed = ops.size:=by
   rcases Nat.lt_or_ge (qH9 W ops.size listed) ops.size with c | c
   ·have:=(qhU9 c).2
    rw [hall _ c] at this
    cases this
   ·have:=qeE9 W ops.size listed; omega
  rw [hfw] at H hg hev
  refine hK a m w hs hdf (hg.congr fun i=>?_) H hev
  unfold gAt
  rw [if_neg]
  rintro ⟨k,hk1,hk2⟩
  have : k < ops.size:=by
   cases hq : ops[k]? with
   | none=>simp [hq] at hk1
   | some x=>exact hlt hq
  rw [hall k this] at hk2
  cases hk2
 have ready_nil : ∀ (listed : Array Bool),listed.size = ops.size→Region.ready .any ops listed = []→∀ k,k < ops.size→listed.getD k false = true:=by
  intro listed hsz hr k
  induction k using Nat.strongRecOn with
  | _ k ih =>
   intro hk
   cases hl : listed.getD k false with
   | true=>rfl
   | false =>
    exfalso
    have : k∈Region.ready .any ops listed:=by
     rw [mem_ready]
     refine ⟨?_,ops[k],Array.getElem?_eq_getElem hk,fun e he hb=>?_⟩
     ·have hkl : k < listed.size:=by omega
      simp [hkl] at hl ⊢; exact hl
     ·have hd : Direct ops e.on k:=⟨_,Array.getElem?_eq_getElem hk,e,he,hb,rfl⟩
      have:=hok.back _ _ hd
      exact ih _ this (by omega)
    rw [hr] at this
    cases this
 induction fuel with
 | zero =>
  intro listed a m w hsz hcnt hcl hs hdf H hg hev
  have hall : ∀ k,k < ops.size→listed.getD k false = true:=by
   intro k hk
   cases hl : listed.getD k false with
   | true=>rfl
   | false =>
    exfalso
    have hkl : k < listed.size:=by omega
    have : false∈listed.toList:=by
     have h0 : listed[k] = false:=by simpa [hkl] using hl
     rw [← h0]; simp
    have:=List.count_pos_iff.2 this
    omega
  refine ⟨?_,fin listed a m w hsz hall hs hdf H hg hev⟩
  rw [List.eq_nil_iff_forall_not_mem]
  intro k hk
  rw [mem_ready] at hk
  obtain ⟨h0,o,ho,_⟩:=hk
  have hkl : k < listed.size:=by rw [hsz]; exact hlt ho
  have h1:=hall k (hlt ho)
  simp [hkl] at h0 h1
  rw [h1] at h0
  cases h0
 | succ fuel ih =>
  intro listed a m w hsz hcnt hcl hs hdf H hg hev
  refine ⟨fun hr=>fin listed a m w hsz (ready_nil listed hsz hr) hs hdf H hg hev,fun i hi=>?_⟩
  rw [mem_ready] at hi
  obtain ⟨hi0,o,ho,hed⟩:=hi
  have hil : i < ops.size:=hlt ho
  have hils : i < listed.size:=by omega
  have hi1 : listed.getD i false = false:=by simp [hils] at hi0 ⊢; exact hi0
  have hdir : ∀ k',Direct ops k' i→listed.getD k' false = true:=by
   rintro k' ⟨o',ho',e,he,hb,rfl⟩
   rw [ho] at ho'
   cases ho'
   exact hed e he hb
  have hpi : ∀ k,Pre ops k i→listed.getD k false = true:=fun k hk=>hpre listed hcl k i hk (.inr hdir)
  obtain ⟨t1,t2,t3,t4,t5⟩:=htr i o ho
  -- what it looks at
  have hlook : ∀ t∈o.looksAt ops,gAt ops (G 0) (G ops.size) listed t = G i t:=by
   intro t ht
   by_cases hex : ∃ k : Nat,(ops[k]?).bind (·.dst) = some t
   ·obtain ⟨k,hk⟩:=hex
    rcases hok.look i o ho t ht k hk with ⟨q1,q2⟩ | ⟨q1,q2⟩
    rotate_left
    ·have hkl : listed.getD k false = false:=by
      cases hl : listed.getD k false with
      | false=>rfl
      | true =>
       have:=hpre listed hcl i k q1 (.inl hl)
       rw [hi1] at this
       cases this
     unfold gAt
     rw [if_pos ⟨k,hk,hkl⟩]
     exact (hG0 t i (by omega) (fun k' hk' he=>by
      have:=hok.dst k k' t hk he
      omega)).symm
    have hkd:=hpi k q1
    cases hok2 : ops[k]? with
    | none=>simp [hok2] at hk
    | some x =>
     have hxd : x.dst = some t:=by simpa [hok2] using hk
     rw [hG1 k x t hok2 hxd i q2 (by omega)]
     unfold gAt
     rw [if_neg,hG1 k x t hok2 hxd ops.size (by omega) (Nat.le_refl _)]
     rintro ⟨k',hk1,hk2⟩
     have:=hok.dst k k' t hk hk1
     subst this
     rw [hkd] at hk2
     cases hk2
   ·unfold gAt
    rw [if_neg,hG0 t ops.size (Nat.le_refl _) (fun k _ hk=>hex ⟨k,hk⟩),hG0 t i (by omega) (fun k _ hk=>hex ⟨k,hk⟩)]
    rintro ⟨k',hk1,_⟩
    exact hex ⟨k',hk1⟩
  have hnew : ∀ k,(listed.setIfInBounds i true).getD k false = if k = i then true else listed.getD k false:=fun k=>qwi9 listed i k hils
  -- the heap
  have hheap : opV C L nt ops (gAt ops (G 0) (G ops.size) listed) (Hh (qH9 W ops.size listed)) o = some (R i,Hh (qH9 W ops.size (listed.setIfInBounds i true))):=by
   rw [quS9 hlook]
   have efw : W.contains i = false→qH9 W ops.size (listed.setIfInBounds i true) = qH9 W ops.size listed:=by
    intro hw
    unfold qH9
    congr 1
    apply congrArg (fun p=>List.find? p (List.range ops.size))
    funext v
    rw [hnew]
    by_cases hv : v = i
    ·subst hv; rw [hw]; rfl
    ·rw [if_neg hv]
   by_cases hfl : W.contains (i + 1000) = true∧W.contains i = false
   ·rw [efw hfl.2]
    exact (quZ9 (t5 hfl.1) t1).2 _
   by_cases hh : heapy o = true∨W.contains i = true
   ·have hchk : ∀ v,v < ops.size→W.contains v = true→v = i∨(v < i∧Pre ops v i)∨(i < v∧Pre ops i v):=by
     intro v hv hwv
     have hsm:=hok.small
     rcases hok.heap i o ho hh v hwv with h | h | h | h
     ·omega
     ·exact .inl h
     ·exact absurd h hfl
     ·exact .inr h
    have hge : i≤qH9 W ops.size listed:=by
     rcases Nat.lt_or_ge (qH9 W ops.size listed) i with c | c
     ·exfalso
      obtain ⟨f1,f2⟩:=qhU9 (W:=W) (listed:=listed) (show qH9 W ops.size listed < ops.size by omega)
      rcases hchk _ (by omega) f1 with e | ⟨_,e⟩ | ⟨e,_⟩
      ·omega
      ·rw [hpi _ e] at f2; cases f2
      ·omega
     ·exact c
    have hge' : i < qH9 W ops.size (listed.setIfInBounds i true):=by
     rcases Nat.lt_or_ge i (qH9 W ops.size (listed.setIfInBounds i true)) with c | c
     ·exact c
     ·exfalso
      obtain ⟨f1,f2⟩:=qhU9 (W:=W) (listed:=listed.setIfInBounds i true) (show qH9 W ops.size (listed.setIfInBounds i true) < ops.size by omega)
      rw [hnew] at f2
      split at f2
      ·cases f2
      ·rcases hchk _ (by omega) f1 with e | ⟨_,e⟩ | ⟨e,_⟩
       ·omega
       ·rw [hpi _ e] at f2; cases f2
       ·omega
    have hno : ∀ k,i < k→(k < qH9 W ops.size listed∨k < qH9 W ops.size (listed.setIfInBounds i true))→W.contains k = false:=by
     intro k hik hk
     cases hw : W.contains k with
     | false=>rfl
     | true =>
      exfalso
      have hkl : listed.getD k false = true:=by
       rcases hk with hk | hk
       ·exact qhO9 hk hw
       ·have:=qhO9 hk hw
        rw [hnew,if_neg (by omega)] at this
        exact this
      have hks : k < ops.size:=by
       rcases hk with hk | hk
       ·exact Nat.lt_of_lt_of_le hk (qeE9 _ _ _)
       ·exact Nat.lt_of_lt_of_le hk (qeE9 _ _ _)
      rcases hchk _ hks hw with e | ⟨e,_⟩ | ⟨_,e⟩
      ·omega
      ·omega
      ·have:=hpre listed hcl i k e (.inl hkl)
       rw [hi1] at this
       cases this
    have e2 : Hh (qH9 W ops.size (listed.setIfInBounds i true)) = Hh (i + 1):=hsame (i + 1) _ hge' (qeE9 _ _ _) (fun k hk hk'=>hno k (by omega) (.inr hk'))
    have e1 : Hh (qH9 W ops.size listed) = Hh i:=by
     rcases Nat.lt_or_ge i (qH9 W ops.size listed) with c | c
     ·have hiw : W.contains i = false:=by
       cases hw : W.contains i with
       | false=>rfl
       | true=>have:=qhO9 c hw; rw [hi1] at this; cases this
      refine hsame i _ hge (qeE9 _ _ _) (fun k hk hk'=>?_)
      rcases Nat.lt_or_ge i k with c' | c'
      ·exact hno k c' (.inl hk')
      ·have : k = i:=by omega
       subst this; exact hiw
     ·have : qH9 W ops.size listed = i:=by omega
      rw [this]
    rw [e1,e2]; exact t1
   ·have hn : heapy o = false:=by
     cases hq : heapy o with
     | false=>rfl
     | true=>exact absurd (.inl hq) hh
    have hw : W.contains i = false:=by
     cases hq : W.contains i with
     | false=>rfl
     | true=>exact absurd (.inr hq) hh
    have e : qH9 W ops.size (listed.setIfInBounds i true) = qH9 W ops.size listed:=by
     unfold qH9
     congr 1
     apply congrArg (fun p=>List.find? p (List.range ops.size))
     funext v
     rw [hnew]
     by_cases hv : v = i
     ·subst hv; rw [hw]; rfl
     ·rw [if_neg hv]
    rw [e]
    exact (qps9 hn t1).2 _
  unfold wpOp
  simp only [ho]
  refine qmW9 hC hL H hs hdf hg hheap t2 (fun a' m' w' a1 a2 a3 a4 a5=>ih (listed.setIfInBounds i true) a' m' w' (by simpa using hsz) ?_ ?_ a1 a2 a4 ?_ (hev.trans a5))
  ·rw [Array.toList_setIfInBounds]
   have hl0 : listed.toList[i]'(by simpa using hils) = false:=by
    have : listed[i] = false:=by simpa [hils] using hi1
    simpa using this
   rw [List.count_set (by simpa using hils),hl0,hcnt]
   simp
  ·intro j k hj hd
   rw [hnew] at hj ⊢
   split
   ·rfl
   ·split at hj
    ·rename_i e; subst e; exact hdir k hd
    ·exact hcl j k hj hd
  ·refine a3.congr fun t=>?_
   cases hd : o.dst with
   | none =>
    simp only [setG]
    unfold gAt
    congr 1
    apply propext
    constructor
    ·rintro ⟨k,k1,k2⟩
     rw [hnew] at k2
     split at k2
     ·cases k2
     ·exact ⟨k,k1,k2⟩
    ·rintro ⟨k,k1,k2⟩
     refine ⟨k,k1,?_⟩
     rw [hnew,if_neg]
     ·exact k2
     ·intro e; subst e; rw [ho] at k1; simp [hd] at k1
   | some d =>
    simp only [setG]
    by_cases ht : t = d
    ·subst ht
     rw [if_pos rfl]
     unfold gAt
     rw [if_neg,hG1 i o t ho hd ops.size hil (Nat.le_refl _)]
     rintro ⟨k,k1,k2⟩
     have:=hok.dst i k t (by rw [ho]; exact hd) k1
     subst this
     rw [hnew,if_pos rfl] at k2
     cases k2
    ·rw [if_neg ht]
     unfold gAt
     congr 1
     apply propext
     constructor
     ·rintro ⟨k,k1,k2⟩
      rw [hnew] at k2
      split at k2
      ·cases k2
      ·exact ⟨k,k1,k2⟩
     ·rintro ⟨k,k1,k2⟩
      refine ⟨k,k1,?_⟩
      rw [hnew,if_neg]
      ·exact k2
      ·intro e; subst e; rw [ho] at k1; simp [hd] at k1; exact ht k1.symm
end
end Go.Abs

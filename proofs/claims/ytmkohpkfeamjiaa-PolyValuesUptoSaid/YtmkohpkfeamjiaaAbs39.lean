import Derived.Test.YtmkohpkfeamjiaaAbs37
set_option maxHeartbeats 400000
set_option linter.unusedVariables false
set_option linter.unusedSimpArgs false
set_option linter.unusedSectionVars false
namespace Go.Abs
open Go
def Res (C : Cfg) (f : FuncId) (ds : List D) (v : PV) : Prop:=∃ p hp,Lim C f (ds.map PV.d) [] = some (p,hp)∧rsT hp p = some v
theorem Res.k {C : Cfg} {f : FuncId} {ds : List D} {v : PV} (H : Res C f ds v) (hp : C.prim f = none) (hu : C.use f = true) (hm : C.mode f = 0) (h : AHeap) : callP C (Lim C) f (ds.map PV.d) h = some (v,h):=qyd9 hp hu hm H h
theorem Res.o {C : Cfg} {f : FuncId} {ds : List D} {v : PV} (H : Res C f ds v) (hp : C.prim f = none) (hu : C.use f = true) (hm : C.mode f = 0) {h : AHeap} {args : List PV} (ha : mapO (rs h depth) args = some ds) : callP C (Lim C) f args h = some (v,if scalar v = true then h else freezeAll (args.flatMap (reach h depth)) h):=qxm9 hp hu hm H ha
def retV (C : Cfg) (rs : List ResultVar) (q : AExit × St) : Option PV:=match q.1 with
 | .normal | .ret=>(mapO (resP C.P q.2) rs).bind fun vs=>rsT q.2.h (resOf vs)
 | _=>none
def retL (C : Cfg) (rs : List ResultVar) (q : AExit × St) : Option (List PV × AHeap):=match q.1 with
 | .normal | .ret=>(mapO (resP C.P q.2) rs).map fun vs=>(vs,q.2.h)
 | _=>none
theorem qwG9 {C : Cfg} {rs : List ResultVar} {env : Env} {h : AHeap} : retV C rs (.ret,⟨env,h⟩) = (mapO (resP C.P ⟨env,h⟩) rs).bind fun vs=>rsT h (resOf vs):=rfl
theorem qrV9 {C : Cfg} {rs : List ResultVar} {env : Env} {h : AHeap} : retV C rs (.normal,⟨env,h⟩) = (mapO (resP C.P ⟨env,h⟩) rs).bind fun vs=>rsT h (resOf vs):=rfl
theorem qwW9 {C : Cfg} {rs : List ResultVar} {env : Env} {h : AHeap} : retL C rs (.ret,⟨env,h⟩) = (mapO (resP C.P ⟨env,h⟩) rs).map fun vs=>(vs,h):=rfl
theorem qrH9 {C : Cfg} {rs : List ResultVar} {env : Env} {h : AHeap} : retL C rs (.normal,⟨env,h⟩) = (mapO (resP C.P ⟨env,h⟩) rs).map fun vs=>(vs,h):=rfl
theorem qxn9 {P : Program} {s : St} {t : Nat} : resP P s (.tmp t) = some (s.env.get t):=rfl
attribute [go_sem] qwG9 qrV9 qwW9 qrH9 qxn9 Option.bind_none Option.map_none
theorem run_V {C : Cfg} {f : FuncId} {nt keep : Nat} {ac : ACode} {rs : List ResultVar} (hf : IsF C f nt keep ac rs) {ds : List D} (hn : ds.length≤nt) {v : PV}
  (hs : (semA C (Lim C) keep ac ⟨qde9 keep 0 (ds.map PV.d),[]⟩).bind (retV C rs) = some v) : Res C f ds v:=by
 obtain ⟨q,h1,h2⟩:=Option.bind_eq_some_iff.1 hs
 obtain ⟨e,env,h'⟩:=q
 have he : e = .normal∨e = .ret:=by cases e <;> simp [retV] at h2 ⊢
 have hv : RetOK C rs ⟨env,h'⟩ v:=by
  rcases he with rfl | rfl <;> exact Option.bind_eq_some_iff.1 h2
 exact qzR9 hf (by rw [List.length_map]; exact hn) h1 he hv
theorem run_L {C : Cfg} {f : FuncId} {nt keep : Nat} {ac : ACode} {rs : List ResultVar} (hf : IsF C f nt keep ac rs) {args : List PV} (hn : args.length≤nt) {h h' : AHeap} {vs : List PV}
  (hs : (semA C (Lim C) keep ac ⟨qde9 keep 0 args,h⟩).bind (retL C rs) = some (vs,h')) : Lim C f args h = some (resOf vs,h'):=by
 obtain ⟨q,h1,h2⟩:=Option.bind_eq_some_iff.1 hs
 obtain ⟨e,env,h''⟩:=q
 have he : e = .normal∨e = .ret:=by cases e <;> simp [retL] at h2 ⊢
 have hv : mapO (resP C.P ⟨env,h'⟩) rs = some vs∧h'' = h':=by
  rcases he with rfl | rfl <;> (obtain ⟨a,ha,hb⟩:=Option.map_eq_some_iff.1 h2; cases hb; exact ⟨ha,rfl⟩)
 obtain ⟨hv,rfl⟩:=hv
 exact Lim_A hf hn h1 he hv
def Sim (C : Cfg) (keep : Nat) (b : ACode) {σ ρ G : Type} (step : σ→Option (σ ⊕ ρ)) (S : σ→G→St) (X : ρ→AExit × St→Prop) : Prop :=
 ∀ s g r,step s = some r→Sum.elim (fun s'=>∃ g',semA C (Lim C) keep b (S s g) = some (.normal,S s' g')) (fun x=>∃ q,semA C (Lim C) keep b (S s g) = some q∧q.1 ≠ .normal∧X x q) r
theorem Sim.L {C : Cfg} {keep : Nat} {b : ACode} {σ ρ G : Type} {step : σ→Option (σ ⊕ ρ)} {S : σ→G→St} {X : ρ→AExit × St→Prop} (H : Sim C keep b step S X) {s : σ} {g : G} {x : ρ} (hw : wh step s = some x) : ∃ q,qcW9 (semA C (Lim C) keep b) (S s g) = some q∧X x q:=qAM9 H hw
def SimI (C : Cfg) (keep : Nat) (b : ACode) {σ ρ G : Type} (I : σ→Prop) (step : σ→Option (σ ⊕ ρ)) (S : σ→G→St) (X : ρ→AExit × St→Prop) : Prop :=
 ∀ s g r,I s→step s = some r→Sum.elim (fun s'=>(∃ g',semA C (Lim C) keep b (S s g) = some (.normal,S s' g'))∧I s') (fun x=>∃ q,semA C (Lim C) keep b (S s g) = some q∧q.1 ≠ .normal∧X x q) r
theorem SimI.L {C : Cfg} {keep : Nat} {b : ACode} {σ ρ G : Type} {I : σ→Prop} {step : σ→Option (σ ⊕ ρ)} {S : σ→G→St} {X : ρ→AExit × St→Prop} (H : SimI C keep b I step S X) {s : σ} {g : G} {x : ρ} (hw : wh step s = some x) (hI : I s) : ∃ q,qcW9 (semA C (Lim C) keep b) (S s g) = some q∧X x q:=qxY9 H hI hw
def XV (C : Cfg) (rs : List ResultVar) (v : PV) (q : AExit × St) : Prop:=∃ st,q = (.ret,st)∧retV C rs (.ret,st) = some v
def XL (C : Cfg) (rs : List ResultVar) (Y : List PV→AHeap→Prop) (q : AExit × St) : Prop:=∃ st vs h,q = (.ret,st)∧retL C rs (.ret,st) = some (vs,h)∧Y vs h
def onRet {α : Type} (f : AExit × St→Option α) : AExit × St→Option α
 | (.ret,s)=>f (.ret,s)
 | _=>none
theorem quK9 {α : Type} {f : AExit × St→Option α} {s : St} : onRet f (.ret,s) = f (.ret,s):=rfl
attribute [go_sem] quK9
theorem qww9 {h : AHeap} {id ver off len : Nat} : rs h 39 (.ref id ver off len) = match rowAt h id ver with
  | some p=>(mapO (mapO (rs h 38)) ((p.2.2.drop off).take len)).map .rd
  | none=>none:=by
 show (match rowAt h id ver with | some (_,_,es)=>(mapO (mapO (rs h 38)) ((es.drop off).take len)).map D.rd | none=>none) = _
 cases rowAt h id ver <;> rfl
theorem qlt9 {α : Type} {f : α→List D} {l : List α} {h : AHeap} : mapO (mapO (rs h 38)) (rowP f l) = some (l.map f):=qjs9 (n:=37)
theorem qrD9 {h : AHeap} {id ver off len : Nat} : reach h 39 (.ref id ver off len) = id::(match rowAt h id ver with
   | some p=>p.2.2.flatMap fun cs=>cs.flatMap (reach h 38)
   | none=>[]):=by
 show (id::(match rowAt h id ver with | some (_,_,es)=>es.flatMap fun cs=>cs.flatMap (reach h 38) | none=>[])) = _
 cases rowAt h id ver <;> rfl
theorem qpL9 {α : Type} {f : α→List D} {l : List α} {h : AHeap} : (rowP f l).flatMap (fun cs=>cs.flatMap (reach h 38)) = []:=qkd9 (n:=37)
attribute [go_sem] qww9 qlt9 qrD9 qpL9
theorem qxP9 : setl (.im true []) = .d (.rd []):=rfl
theorem qAB9 {d : D} : setl (.d d) = .d d:=rfl
theorem qxM9 {a b c d : Nat} : setl (.ref a b c d) = .ref a b c d:=rfl
theorem qxo9 {a b c d : Nat} : setl (.ptr a b c d) = .ptr a b c d:=rfl
attribute [go_sem] qxP9 qAB9 qxM9 qxo9
theorem qxQ9 {C : Cfg} {L : Oracle} {get : Nat→PV} {h : AHeap} {d : Option Nat} {t ty : TypeId} {x : Operand} {p : String} {af} {g} : aop C L get h { dst:=d,op:=.unOp .neg t x,type:=ty,pos:=p,after:=af,guard:=g } = opUn C.P h .neg (evO get x):=rfl
theorem qzV9 {P : Program} {h : AHeap} {a : Int} : opUn P h .neg (.d (.v (.int .i64 a))) = some (.d (.v (.int .i64 (w64 (0 - a)))),h):=rfl
attribute [go_sem] qxQ9 qzV9
theorem qvC9 {l d : Nat} {s : St} : gmap l d (some (.goto l,s)) = some (.normal,⟨Env.del d s.env,s.h⟩):=if_pos rfl
theorem qxG9 {l d : Nat} {s : St} : gmap l d (some (.ret,s)) = some (.ret,s):=rfl
theorem qvb9 {l d j : Nat} {s : St} : gmap l d (some (.exit j,s)) = some (.exit j,s):=rfl
attribute [go_sem] qvC9 qxG9 qvb9
theorem qmG9 {α : Type} {f : AExit × St→Option α} {q : AExit × St} {a : α} (h : onRet f q = some a) : ∃ st,q = (.ret,st)∧f (.ret,st) = some a:=by
 obtain ⟨e,st⟩:=q
 cases e <;> first | cases h | exact ⟨st,rfl,h⟩
theorem xv_of {C : Cfg} {rs : List ResultVar} {v : PV} {o : Option (AExit × St)} (h : o.bind (onRet (retV C rs)) = some v) : ∃ q,o = some q∧q.1 ≠ .normal∧XV C rs v q:=by
 obtain ⟨q,h1,h2⟩:=Option.bind_eq_some_iff.1 h
 obtain ⟨st,rfl,h3⟩:=qmG9 h2
 exact ⟨_,h1,nofun,st,rfl,h3⟩
theorem xl_of {C : Cfg} {rs : List ResultVar} {Y : List PV→AHeap→Prop} {vs : List PV} {hp : AHeap} {o : Option (AExit × St)} (hY : Y vs hp) (h : o.bind (onRet (retL C rs)) = some (vs,hp)) : ∃ q,o = some q∧q.1 ≠ .normal∧XL C rs Y q:=by
 obtain ⟨q,h1,h2⟩:=Option.bind_eq_some_iff.1 h
 obtain ⟨st,rfl,h3⟩:=qmG9 h2
 exact ⟨_,h1,nofun,st,vs,hp,rfl,h3,hY⟩
theorem xe_of {o : Option (AExit × St)} {k : Nat} {st : St} {X : AExit × St→Prop} (hX : X (.exit k,st)) (h : o = some (.exit k,st)) : ∃ q,o = some q∧q.1 ≠ .normal∧X q:=⟨_,h,nofun,hX⟩
theorem qzZ9 {α : Type} {l : List α} : 1 + l.length = l.length + 1:=Nat.add_comm _ _
theorem qAw9 {α : Type} {l : List α} {x : Nat} : 1 + (l.length + x) = l.length + (1 + x):=Nat.add_left_comm _ _ _
theorem qAG9 {α : Type} {l : List α} : 2 + l.length = l.length + 2:=Nat.add_comm _ _
theorem qAH9 {α : Type} {l : List α} {x : Nat} : 2 + (l.length + x) = l.length + (2 + x):=Nat.add_left_comm _ _ _
theorem qAg9 {α : Type} {l : List α} : 3 + l.length = l.length + 3:=Nat.add_comm _ _
theorem qAO9 {α : Type} {l : List α} {x : Nat} : 3 + (l.length + x) = l.length + (3 + x):=Nat.add_left_comm _ _ _
theorem qAS9 {α : Type} {l : List α} : 4 + l.length = l.length + 4:=Nat.add_comm _ _
theorem qAi9 {α : Type} {l : List α} {x : Nat} : 4 + (l.length + x) = l.length + (4 + x):=Nat.add_left_comm _ _ _
theorem qAz9 {α : Type} {l : List α} : 5 + l.length = l.length + 5:=Nat.add_comm _ _
theorem qzW9 {α : Type} {l : List α} {x : Nat} : 5 + (l.length + x) = l.length + (5 + x):=Nat.add_left_comm _ _ _
theorem qzD9 {α : Type} {l : List α} : 6 + l.length = l.length + 6:=Nat.add_comm _ _
theorem qAE9 {α : Type} {l : List α} {x : Nat} : 6 + (l.length + x) = l.length + (6 + x):=Nat.add_left_comm _ _ _
theorem qAL9 {α : Type} {l : List α} : 7 + l.length = l.length + 7:=Nat.add_comm _ _
theorem qzI9 {α : Type} {l : List α} {x : Nat} : 7 + (l.length + x) = l.length + (7 + x):=Nat.add_left_comm _ _ _
theorem qzL9 {α : Type} {l : List α} : 8 + l.length = l.length + 8:=Nat.add_comm _ _
theorem qAr9 {α : Type} {l : List α} {x : Nat} : 8 + (l.length + x) = l.length + (8 + x):=Nat.add_left_comm _ _ _
attribute [go_sem] qzZ9 qAw9 qAG9 qAH9 qAg9 qAO9 qAS9 qAi9 qAz9 qzW9 qzD9 qAE9 qAL9 qzI9 qzL9 qAr9
def rcA (s : St) (a n : Nat) : Option PV:=match qcV9 s.h (s.env.get a) with
 | some cs=>if n≤cs.length then some (.ag (cs.take n)) else none
 | none=>none
def rcB (s : St) (a : Nat) : Option PV:=match qcV9 s.h (s.env.get a) with
 | some cs=>cs[0]?
 | none=>none
theorem qAv9 {P : Program} {s : St} {a t n : Nat} (h1 : (P.underlying t).map qht9 = some true) (h2 : (P.info? t).map (·.size) = some n) : resP P s (.cell a t) = rcA s a n:=by
 unfold rcA
 cases h3 : qcV9 s.h (s.env.get a) with
 | none=>simp only [resP,loadP,h3,Option.bind_none]
 | some cs =>
  by_cases h4 : n≤cs.length
  ·simp only [h4,if_true]; exact qvy9 h1 h2 h3 h4
  ·simp only [h4,if_false,resP,loadP,h3,Option.bind_some,partP]
   cases hu : P.underlying t with
   | none=>rfl
   | some d =>
    cases hi : P.info? t with
    | none=>rfl
    | some i =>
     rw [hu] at h1; rw [hi] at h2
     simp only [Option.map_some,Option.some.injEq] at h1 h2
     simp only [h1,h2,if_true,Nat.zero_add,h4,if_false]
attribute [go_sem] rcA rcB
theorem bs2 {α β γ : Type} {o : Option α} {f : α→Option β} {g : α→β→Option γ} {r : γ} (h : (o.bind fun a=>(f a).bind (g a)) = some r) : ∃ a,o = some a∧∃ b,f a = some b∧g a b = some r:=by
 obtain ⟨a,h1,h2⟩:=bsome h
 exact ⟨a,h1,bsome h2⟩
theorem bs3 {α β γ δ : Type} {o : Option α} {f : α→Option β} {g : α→β→Option γ} {k : α→β→γ→Option δ} {r : δ} (h : (o.bind fun a=>(f a).bind fun b=>(g a b).bind (k a b)) = some r) : ∃ a,o = some a∧∃ b,f a = some b∧∃ c,g a b = some c∧k a b c = some r:=by
 obtain ⟨a,h1,b,h2,h3⟩:=bs2 h
 exact ⟨a,h1,b,h2,bsome h3⟩
theorem bs4 {α β γ δ ε : Type} {o : Option α} {f : α→Option β} {g : α→β→Option γ} {k : α→β→γ→Option δ} {l : α→β→γ→δ→Option ε} {r : ε} (h : (o.bind fun a=>(f a).bind fun b=>(g a b).bind fun c=>(k a b c).bind (l a b c)) = some r) : ∃ a,o = some a∧∃ b,f a = some b∧∃ c,g a b = some c∧∃ d,k a b c = some d∧l a b c d = some r:=by
 obtain ⟨a,h1,b,h2,c,h3,h4⟩:=bs3 h
 exact ⟨a,h1,b,h2,c,h3,bsome h4⟩
end Go.Abs
namespace Go.Abs
open Go Go.RowKit
def qih9 (n : Nat) (b : Int) : List PV→AHeap→Option (PV × AHeap):=fun args h=>match args with
 | [.im true [],.d (.v (.int .i64 k))]=>if 0≤k∧k * b≤140737488355328 then some (.ref h.length 1 0 0,h++[.row false 1 n []]) else none
 | _=>none
theorem quf9 {W0 : World} {P : Program} {N n : Nat} {b : Int} {F : List PV→AHeap→Option (PV × AHeap)} (hn : 0 < n) (hS : FSound W0 P N F) (h0 : ∀ h,F [.im true [],.d (.v (.int .i64 0))] h = some (.im true [],h))
  (hpos : ∀ (h : AHeap) (k : Int),0 < k→k * b≤140737488355328→∃ es,F [.im true [],.d (.v (.int .i64 k))] h = some (.ref h.length 0 0 0,h++[.row false 0 n es])) : FSound W0 P N (qih9 n b):=by
 intro args h r h' ho X m w vs H hv
 unfold qih9 at ho
 split at ho
 ·rename_i k
  split at ho
  ·rename_i hk
   simp only [Option.some.injEq,Prod.mk.injEq] at ho
   obtain ⟨rfl,rfl⟩:=ho
   by_cases hk0 : k = 0
   ·subst hk0
    refine (hS _ h _ _ (h0 h) X m w vs H hv).mono fun e w' hr=>?_
    cases e with
    | returned v =>
     obtain ⟨m',a1,a2,a3⟩:=hr
     obtain ⟨k1,k2⟩:=qig9 a2 (.row false 1 n []) none rfl rfl (Outs.refl w') (Nat.le_refl _) (fun _ _=>rfl) (fun g bo e=>by cases e) (fun _=>rfl)
     refine ⟨upd m' h.length none,?_,k2,a3.trans k1⟩
     cases a1 with
     | im t xs A c sz f hc ht hsz hA hc1 hr =>
      have hc0 : c = 0:=by simpa using (ht rfl).symm
      subst hc0
      refine .ref _ _ _ _ _ ⟨A,0,rfl,Nat.le_refl _,fun e=>absurd e (by simp),false,1,n,[],by simp,Nat.le_refl _,fun _=>⟨by simp,?_⟩⟩
      rw [upd_same]
    | _=>exact hr
   ·obtain ⟨es,he⟩:=hpos h k (by omega) hk.2
    refine (hS _ h _ _ he X m w vs H hv).mono fun e w' hr=>?_
    cases e with
    | returned v =>
     obtain ⟨m',a1,a2,a3⟩:=hr
     have hid : (h++[.row false 0 n es])[h.length]? = some (.row false 0 n es):=by simp
     have hor:=a2.obj h.length _ hid
     have hset : (h++[AObj.row false 0 n es]).set h.length (.row false 1 n []) = h++[.row false 1 n []]:=by simp
     have hh:=qhh9 (w':=w') a2 hid rfl (.row false 1 n []) (m' h.length) rfl rfl (Outs.refl w') (Nat.le_refl _) (fun _ _ _=>rfl)
      ⟨by omega,fun z=>z,rfl,fun e=>by omega⟩
      (fun g1 bo1 hp1=>⟨a2.lt _ _ g1 bo1 hid hp1,.inl ⟨bo1,hp1⟩⟩)
      (fun hev=>by
       cases hm : m' h.length with
       | none=>rfl
       | some p =>
        obtain ⟨g,bo⟩:=p
        rw [hm] at hor
        obtain ⟨s0,cur,e,r1,r2,r3,r4⟩:=hor
        refine ⟨s0,cur,e,r1,?_,fun i ds hd=>by simp at hd,fun i j ds u hd hj=>by simp at hd⟩
        refine Nat.le_trans (Nat.mul_le_mul_right _ ?_) r2
        simp)
     rw [hset] at hh
     refine ⟨_,?_,hh.2,a3.trans hh.1⟩
     cases a1 with
     | ref _ _ _ _ _ hs =>
      obtain ⟨A,cap,hv0,hv1,hv2,fz,ver,sz,es1,b1,b2,b3⟩:=hs
      rw [hid] at b1
      simp only [Option.some.injEq,AObj.row.injEq] at b1
      obtain ⟨rfl,rfl,rfl,rfl⟩:=b1
      obtain ⟨c1,c2⟩:=b3 rfl
      refine .ref _ _ _ _ _ ⟨A,cap,hv0,hv1,hv2,false,1,n,[],by simp,Nat.le_refl _,fun _=>⟨by simp,?_⟩⟩
      rw [upd_same]
      exact c2
    | _=>exact hr
  ·cases ho
 ·cases ho
def okTF (P : Program) (t : Hint) (N : FuncId) : Bool:=match P.funcs[N]? with
 | some fn=>(match fn.body with | some c=>okT t c | none=>false)
 | none=>false
theorem qAd9 {P : Program} {t : Hint} {N : FuncId} {fn : Func} {c : Code} (h : okTF P t N = true) (hf : P.funcs[N]? = some fn) (hc : fn.body = some c) : okT t c = true:=by
 unfold okTF at h
 rw [hf] at h
 simp only [hc] at h
 exact h
theorem qsG9 {C : Cfg} {L : Oracle} {get : Nat→PV} {h : AHeap} {d : Option Nat} {ty : TypeId} {x : Operand} {ts : Array TypeId} {p : String} {af} {g} : aop C L get h { dst:=d,op:=.call { callee:=.builtin .cap,args:=#[x],argTypes:=ts },type:=ty,pos:=p,after:=af,guard:=g } = qcx9 C h .cap ts ty [evO get x]:=rfl
theorem qwZ9 {C : Cfg} {L : Oracle} {get : Nat→PV} {h : AHeap} {d : Option Nat} {ty : TypeId} {x y : Operand} {ts : Array TypeId} {p : String} {af} {g} : aop C L get h { dst:=d,op:=.call { callee:=.builtin .append,args:=#[x,y],argTypes:=ts },type:=ty,pos:=p,after:=af,guard:=g } = qcx9 C h .append ts ty [evO get x,evO get y]:=rfl
theorem qxT9 {α : Type} {f : α→List D} {n : Nat} (hf : ∀ a,(f a).length = n) {h : AHeap} {l : List α} {a b : IntKind} : cutF n h (.d (.rd (l.map f))) (some (.d (.v (.int a (l.length : Int))))) (.d (.v (.int b (l.length : Int)))) = some (.im true (rowP f l)):=by
 simp only [cutF,Option.bind_some,qcT9,szOk,qvL9 hf,List.length_map,and_self,if_true,rowP,List.map_map]
 rfl
def onceA (r : Option (AExit × St)) (k : St→Option (AExit × St)) : Option (AExit × St):=match r with
 | some (.normal,s')=>k s'
 | r=>r
theorem qpl9 {s : St} {k : St→Option (AExit × St)} : onceA (some (.normal,s)) k = k s:=rfl
theorem qvD9 {s : St} {k : St→Option (AExit × St)} : onceA (some (.ret,s)) k = some (.ret,s):=rfl
theorem qsO9 {s : St} {k : St→Option (AExit × St)} {i : Nat} : onceA (some (.exit i,s)) k = some (.exit i,s):=rfl
theorem qsg9 {α : Type} {f : α→List D} {l : List α} {h : AHeap} : mapO (mapO (rs h 37)) (rowP f l) = some (l.map f):=qjs9 (n:=36)
theorem qrC9 (a : ByteArray) : (a == a) = true:=by
 obtain ⟨d⟩:=a
 show (d == d) = true
 exact beq_self_eq_true d
theorem qvI9 {a b : ByteArray} (h : a ≠ b) : (a == b) = false:=by
 obtain ⟨d⟩:=a
 obtain ⟨e⟩:=b
 show (d == e) = false
 exact beq_eq_false_iff_ne.2 (fun he=>h (by rw [he]))
theorem qpF9 {V : Type} {f : V→List D} {l : List (ByteArray × V)} {k : ByteArray} : lookP (.string k) (mapP keyS f l) = some ((mget l k).map fun v=>((l.findIdx fun p=>decide (k = p.1)),match f v with | [x]=>PV.d x | cs=>.ag (cs.map PV.d))):=by
 induction l with
 | nil=>rfl
 | cons p r ih =>
  obtain ⟨k',v⟩:=p
  simp only [mapP,List.map_cons,keyS,lookP,keyEq,mget]
  by_cases h : k = k'
  ·subst h; rw [qrC9]; simp [List.findIdx_cons]; try rfl
  ·rw [show (k == k') = false from qvI9 h,if_neg h]
   simp only [mapP,keyS] at ih
   simp only [ih,Option.map_some,List.findIdx_cons,h,decide_false,cond_false]
   cases mget r k <;> rfl
theorem qwz9 {V : Type} {f : V→List D} {l : List (ByteArray × V)} {k : ByteArray} {v : V} : mapP keyS f (mset l k v) = match mget l k with
  | none=>mapP keyS f l++[(.string k,match f v with | [x]=>PV.d x | cs=>.ag (cs.map PV.d))]
  | some _=>(mapP keyS f l).set (l.findIdx fun p=>decide (k = p.1)) (.string k,match f v with | [x]=>PV.d x | cs=>.ag (cs.map PV.d)):=by
 induction l with
 | nil=>rfl
 | cons p r ih =>
  obtain ⟨k',u⟩:=p
  simp only [mset,mget]
  by_cases h : k = k'
  ·subst h; simp [mapP,keyS,List.findIdx_cons]; try rfl
  ·rw [if_neg h,if_neg h]
   simp only [mapP,keyS,List.map_cons] at ih ⊢
   rw [ih]
   simp only [List.findIdx_cons,h,decide_false,cond_false]
   cases mget r k with
   | none=>simp
   | some w=>simp
theorem qgR9 {V : Type} {f : V→List D} {l : List (ByteArray × V)} {k : ByteArray} {v : V} {W : PV} (hW : mapV f v = W) : putP (.string k) W (mapP keyS f l) = some (mapP keyS f (mset l k v)):=by
 subst hW
 unfold putP
 rw [qpF9,qwz9]
 cases mget l k <;> rfl
theorem qAl9 {C : Cfg} {L : Oracle} {get : Nat→PV} {h : AHeap} {d : Option Nat} {ty s t : TypeId} {x : Operand} {p : String} {af} {g} : aop C L get h { dst:=d,op:=.convert s t x,type:=ty,pos:=p,after:=af,guard:=g } = qgs9 C.P h s t (evO get x):=rfl
theorem qtM9 (l : List Int) : mapO byteD (l.map qbT9) = some l:=by
 induction l with
 | nil=>rfl
 | cons x l ih=>simp only [List.map_cons,mapO,ih,byteD,qbT9]
theorem qsP9 {P : Program} {s d e : TypeId} (hs : P.underlying s = some (.slice e)) (hd : P.underlying d = some .string) (he : P.underlying e = some (.int .u8)) {h : AHeap} {l : List Int} : qgs9 P h s d (.d (.rd (l.map qbT9))) = some (.d (.v (.string (qcY9 l))),h):=by
 have e1 : toV (.d (.rd (l.map qbT9))) = none:=rfl
 unfold qgs9
 rw [e1]
 simp only [convB,hs,hd,he,qtM9,Option.map_some]
attribute [go_sem] qpF9 qAl9 qpl9 qvD9 qsO9 qsg9 qlt9 qxT9
end Go.Abs

import Derived.Test.YtmkohpkfeamjiaaAbs37
import Derived.Shelf.SlSortCmp.NoneTotal
set_option maxHeartbeats 400000
set_option linter.unusedVariables false
set_option linter.unusedSimpArgs false
set_option linter.unusedSectionVars false
namespace Go.Abs
open Go
def Res (C : Cfg) (f : FuncId) (ds : List D) (v : PV) : Prop:=∃ p hp,Lim C f (ds.map PV.d) [] = some (p,hp)∧rsT hp p = some v
theorem Res.k {C : Cfg} {f : FuncId} {ds : List D} {v : PV} (H : Res C f ds v) (hp : C.prim f = none) (hu : C.use f = true) (hm : C.mode f = 0) (h : AHeap) : callP C (Lim C) f (ds.map PV.d) h = some (v,h):=qxJ9 hp hu hm H h
theorem Res.o {C : Cfg} {f : FuncId} {ds : List D} {v : PV} (H : Res C f ds v) (hp : C.prim f = none) (hu : C.use f = true) (hm : C.mode f = 0) {h : AHeap} {args : List PV} (ha : mapO (rs h depth) args = some ds) : callP C (Lim C) f args h = some (v,if scalar v = true then h else freezeAll (args.flatMap (reach h depth)) h):=qwI9 hp hu hm H ha
def retV (C : Cfg) (rs : List ResultVar) (q : AExit × St) : Option PV:=match q.1 with
 | .normal | .ret=>(mapO (resP C.P q.2) rs).bind fun vs=>rsT q.2.h (resOf vs)
 | _=>none
def retL (C : Cfg) (rs : List ResultVar) (q : AExit × St) : Option (List PV × AHeap):=match q.1 with
 | .normal | .ret=>(mapO (resP C.P q.2) rs).map fun vs=>(vs,q.2.h)
 | _=>none
theorem qwd9 {C : Cfg} {rs : List ResultVar} {env : Env} {h : AHeap} : retV C rs (.ret,⟨env,h⟩) = (mapO (resP C.P ⟨env,h⟩) rs).bind fun vs=>rsT h (resOf vs):=rfl
theorem qqN9 {C : Cfg} {rs : List ResultVar} {env : Env} {h : AHeap} : retV C rs (.normal,⟨env,h⟩) = (mapO (resP C.P ⟨env,h⟩) rs).bind fun vs=>rsT h (resOf vs):=rfl
theorem qwr9 {C : Cfg} {rs : List ResultVar} {env : Env} {h : AHeap} : retL C rs (.ret,⟨env,h⟩) = (mapO (resP C.P ⟨env,h⟩) rs).map fun vs=>(vs,h):=rfl
theorem qqy9 {C : Cfg} {rs : List ResultVar} {env : Env} {h : AHeap} : retL C rs (.normal,⟨env,h⟩) = (mapO (resP C.P ⟨env,h⟩) rs).map fun vs=>(vs,h):=rfl
theorem qwL9 {P : Program} {s : St} {t : Nat} : resP P s (.tmp t) = some (s.env.get t):=rfl
attribute [go_sem] qwd9 qqN9 qwr9 qqy9 qwL9 Option.bind_none Option.map_none
theorem run_V {C : Cfg} {f : FuncId} {nt keep : Nat} {ac : ACode} {rs : List ResultVar} (hf : IsF C f nt keep ac rs) {ds : List D} (hn : ds.length≤nt) {v : PV}
  (hs : (semA C (Lim C) keep ac ⟨qbt9 keep 0 (ds.map PV.d),[]⟩).bind (retV C rs) = some v) : Res C f ds v:=by
 obtain ⟨q,h1,h2⟩:=Option.bind_eq_some_iff.1 hs
 obtain ⟨e,env,h'⟩:=q
 have he : e = .normal∨e = .ret:=by cases e <;> simp [retV] at h2 ⊢
 have hv : RetOK C rs ⟨env,h'⟩ v:=by
  rcases he with rfl | rfl <;> exact Option.bind_eq_some_iff.1 h2
 exact qzy9 hf (by rw [List.length_map]; exact hn) h1 he hv
theorem run_L {C : Cfg} {f : FuncId} {nt keep : Nat} {ac : ACode} {rs : List ResultVar} (hf : IsF C f nt keep ac rs) {args : List PV} (hn : args.length≤nt) {h h' : AHeap} {vs : List PV}
  (hs : (semA C (Lim C) keep ac ⟨qbt9 keep 0 args,h⟩).bind (retL C rs) = some (vs,h')) : Lim C f args h = some (resOf vs,h'):=by
 obtain ⟨q,h1,h2⟩:=Option.bind_eq_some_iff.1 hs
 obtain ⟨e,env,h''⟩:=q
 have he : e = .normal∨e = .ret:=by cases e <;> simp [retL] at h2 ⊢
 have hv : mapO (resP C.P ⟨env,h'⟩) rs = some vs∧h'' = h':=by
  rcases he with rfl | rfl <;> (obtain ⟨a,ha,hb⟩:=Option.map_eq_some_iff.1 h2; cases hb; exact ⟨ha,rfl⟩)
 obtain ⟨hv,rfl⟩:=hv
 exact Lim_A hf hn h1 he hv
def Sim (C : Cfg) (keep : Nat) (b : ACode) {σ ρ G : Type} (step : σ→Option (σ ⊕ ρ)) (S : σ→G→St) (X : ρ→AExit × St→Prop) : Prop :=
 ∀ s g r,step s = some r→Sum.elim (fun s'=>∃ g',semA C (Lim C) keep b (S s g) = some (.normal,S s' g')) (fun x=>∃ q,semA C (Lim C) keep b (S s g) = some q∧q.1 ≠ .normal∧X x q) r
theorem Sim.L {C : Cfg} {keep : Nat} {b : ACode} {σ ρ G : Type} {step : σ→Option (σ ⊕ ρ)} {S : σ→G→St} {X : ρ→AExit × St→Prop} (H : Sim C keep b step S X) {s : σ} {g : G} {x : ρ} (hw : wh step s = some x) : ∃ q,qM9 (semA C (Lim C) keep b) (S s g) = some q∧X x q:=qAB9 H hw
def SimI (C : Cfg) (keep : Nat) (b : ACode) {σ ρ G : Type} (I : σ→Prop) (step : σ→Option (σ ⊕ ρ)) (S : σ→G→St) (X : ρ→AExit × St→Prop) : Prop :=
 ∀ s g r,I s→step s = some r→Sum.elim (fun s'=>(∃ g',semA C (Lim C) keep b (S s g) = some (.normal,S s' g'))∧I s') (fun x=>∃ q,semA C (Lim C) keep b (S s g) = some q∧q.1 ≠ .normal∧X x q) r
theorem SimI.L {C : Cfg} {keep : Nat} {b : ACode} {σ ρ G : Type} {I : σ→Prop} {step : σ→Option (σ ⊕ ρ)} {S : σ→G→St} {X : ρ→AExit × St→Prop} (H : SimI C keep b I step S X) {s : σ} {g : G} {x : ρ} (hw : wh step s = some x) (hI : I s) : ∃ q,qM9 (semA C (Lim C) keep b) (S s g) = some q∧X x q:=qxB9 H hI hw
def XV (C : Cfg) (rs : List ResultVar) (v : PV) (q : AExit × St) : Prop:=∃ st,q = (.ret,st)∧retV C rs (.ret,st) = some v
def XL (C : Cfg) (rs : List ResultVar) (Y : List PV→AHeap→Prop) (q : AExit × St) : Prop:=∃ st vs h,q = (.ret,st)∧retL C rs (.ret,st) = some (vs,h)∧Y vs h
def onRet {α : Type} (f : AExit × St→Option α) : AExit × St→Option α
 | (.ret,s)=>f (.ret,s)
 | _=>none
theorem qtI9 {α : Type} {f : AExit × St→Option α} {s : St} : onRet f (.ret,s) = f (.ret,s):=rfl
attribute [go_sem] qtI9
theorem qod9 {h : AHeap} {id ver off len : Nat} : rs h 39 (.ref id ver off len) = match rowAt h id ver with
  | some p=>(mapO (mapO (rs h 38)) ((p.2.2.drop off).take len)).map .rd
  | none=>none:=by
 show (match rowAt h id ver with | some (_,_,es)=>(mapO (mapO (rs h 38)) ((es.drop off).take len)).map D.rd | none=>none) = _
 cases rowAt h id ver <;> rfl
theorem qkg9 {α : Type} {f : α→List D} {l : List α} {h : AHeap} : mapO (mapO (rs h 38)) (rowP f l) = some (l.map f):=qgJ9 (n:=37)
theorem qhT9 {h : AHeap} {id ver off len : Nat} : reach h 39 (.ref id ver off len) = id::(match rowAt h id ver with
   | some p=>p.2.2.flatMap fun cs=>cs.flatMap (reach h 38)
   | none=>[]):=by
 show (id::(match rowAt h id ver with | some (_,_,es)=>es.flatMap fun cs=>cs.flatMap (reach h 38) | none=>[])) = _
 cases rowAt h id ver <;> rfl
theorem qhA9 {α : Type} {f : α→List D} {l : List α} {h : AHeap} : (rowP f l).flatMap (fun cs=>cs.flatMap (reach h 38)) = []:=qgY9 (n:=37)
attribute [go_sem] qod9 qkg9 qhT9 qhA9
theorem qxt9 : setl (.im true []) = .d (.rd []):=rfl
theorem qAp9 {d : D} : setl (.d d) = .d d:=rfl
theorem qxq9 {a b c d : Nat} : setl (.ref a b c d) = .ref a b c d:=rfl
theorem qwM9 {a b c d : Nat} : setl (.ptr a b c d) = .ptr a b c d:=rfl
attribute [go_sem] qxt9 qAp9 qxq9 qwM9
theorem qxu9 {C : Cfg} {L : Oracle} {get : Nat→PV} {h : AHeap} {d : Option Nat} {t ty : TypeId} {x : Operand} {p : String} {af} {g} : aop C L get h { dst:=d,op:=.unOp .neg t x,type:=ty,pos:=p,after:=af,guard:=g } = opUn C.P h .neg (evO get x):=rfl
theorem qzC9 {P : Program} {h : AHeap} {a : Int} : opUn P h .neg (.d (.v (.int .i64 a))) = some (.d (.v (.int .i64 (w64 (0 - a)))),h):=rfl
attribute [go_sem] qxu9 qzC9
theorem quN9 {l d : Nat} {s : St} : gmap l d (some (.goto l,s)) = some (.normal,⟨Env.del d s.env,s.h⟩):=if_pos rfl
theorem qxg9 {l d : Nat} {s : St} : gmap l d (some (.ret,s)) = some (.ret,s):=rfl
theorem qub9 {l d j : Nat} {s : St} : gmap l d (some (.exit j,s)) = some (.exit j,s):=rfl
attribute [go_sem] quN9 qxg9 qub9
theorem qlz9 {α : Type} {f : AExit × St→Option α} {q : AExit × St} {a : α} (h : onRet f q = some a) : ∃ st,q = (.ret,st)∧f (.ret,st) = some a:=by
 obtain ⟨e,st⟩:=q
 cases e <;> first | cases h | exact ⟨st,rfl,h⟩
theorem xv_of {C : Cfg} {rs : List ResultVar} {v : PV} {o : Option (AExit × St)} (h : o.bind (onRet (retV C rs)) = some v) : ∃ q,o = some q∧q.1 ≠ .normal∧XV C rs v q:=by
 obtain ⟨q,h1,h2⟩:=Option.bind_eq_some_iff.1 h
 obtain ⟨st,rfl,h3⟩:=qlz9 h2
 exact ⟨_,h1,nofun,st,rfl,h3⟩
theorem xl_of {C : Cfg} {rs : List ResultVar} {Y : List PV→AHeap→Prop} {vs : List PV} {hp : AHeap} {o : Option (AExit × St)} (hY : Y vs hp) (h : o.bind (onRet (retL C rs)) = some (vs,hp)) : ∃ q,o = some q∧q.1 ≠ .normal∧XL C rs Y q:=by
 obtain ⟨q,h1,h2⟩:=Option.bind_eq_some_iff.1 h
 obtain ⟨st,rfl,h3⟩:=qlz9 h2
 exact ⟨_,h1,nofun,st,vs,hp,rfl,h3,hY⟩
theorem xe_of {o : Option (AExit × St)} {k : Nat} {st : St} {X : AExit × St→Prop} (hX : X (.exit k,st)) (h : o = some (.exit k,st)) : ∃ q,o = some q∧q.1 ≠ .normal∧X q:=⟨_,h,nofun,hX⟩
theorem qzH9 {α : Type} {l : List α} : 1 + l.length = l.length + 1:=Nat.add_comm _ _
theorem qAg9 {α : Type} {l : List α} {x : Nat} : 1 + (l.length + x) = l.length + (1 + x):=Nat.add_left_comm _ _ _
theorem qAv9 {α : Type} {l : List α} : 2 + l.length = l.length + 2:=Nat.add_comm _ _
theorem qAw9 {α : Type} {l : List α} {x : Nat} : 2 + (l.length + x) = l.length + (2 + x):=Nat.add_left_comm _ _ _
theorem qzO9 {α : Type} {l : List α} : 3 + l.length = l.length + 3:=Nat.add_comm _ _
theorem qAE9 {α : Type} {l : List α} {x : Nat} : 3 + (l.length + x) = l.length + (3 + x):=Nat.add_left_comm _ _ _
theorem qAH9 {α : Type} {l : List α} : 4 + l.length = l.length + 4:=Nat.add_comm _ _
theorem qzQ9 {α : Type} {l : List α} {x : Nat} : 4 + (l.length + x) = l.length + (4 + x):=Nat.add_left_comm _ _ _
theorem qAk9 {α : Type} {l : List α} : 5 + l.length = l.length + 5:=Nat.add_comm _ _
theorem qzD9 {α : Type} {l : List α} {x : Nat} : 5 + (l.length + x) = l.length + (5 + x):=Nat.add_left_comm _ _ _
theorem qzf9 {α : Type} {l : List α} : 6 + l.length = l.length + 6:=Nat.add_comm _ _
theorem qAt9 {α : Type} {l : List α} {x : Nat} : 6 + (l.length + x) = l.length + (6 + x):=Nat.add_left_comm _ _ _
theorem qAA9 {α : Type} {l : List α} : 7 + l.length = l.length + 7:=Nat.add_comm _ _
theorem qzm9 {α : Type} {l : List α} {x : Nat} : 7 + (l.length + x) = l.length + (7 + x):=Nat.add_left_comm _ _ _
theorem qzs9 {α : Type} {l : List α} : 8 + l.length = l.length + 8:=Nat.add_comm _ _
theorem qAc9 {α : Type} {l : List α} {x : Nat} : 8 + (l.length + x) = l.length + (8 + x):=Nat.add_left_comm _ _ _
attribute [go_sem] qzH9 qAg9 qAv9 qAw9 qzO9 qAE9 qAH9 qzQ9 qAk9 qzD9 qzf9 qAt9 qAA9 qzm9 qzs9 qAc9
def rcA (s : St) (a n : Nat) : Option PV:=match qbs9 s.h (s.env.get a) with
 | some cs=>if n≤cs.length then some (.ag (cs.take n)) else none
 | none=>none
def rcB (s : St) (a : Nat) : Option PV:=match qbs9 s.h (s.env.get a) with
 | some cs=>cs[0]?
 | none=>none
theorem quK9 {P : Program} {s : St} {a t n : Nat} (h1 : (P.underlying t).map qfp9 = some true) (h2 : (P.info? t).map (·.size) = some n) : resP P s (.cell a t) = rcA s a n:=by
 unfold rcA
 cases h3 : qbs9 s.h (s.env.get a) with
 | none=>simp only [resP,loadP,h3,Option.bind_none]
 | some cs =>
  by_cases h4 : n≤cs.length
  ·simp only [h4,if_true]; exact quH9 h1 h2 h3 h4
  ·simp only [h4,if_false,resP,loadP,h3,Option.bind_some,partP]
   cases hu : P.underlying t with
   | none=>rfl
   | some d =>
    cases hi : P.info? t with
    | none=>rfl
    | some i =>
     rw [hu] at h1; rw [hi] at h2
     simp only [Option.map_some,Option.some.injEq] at h1 h2
     simp only [h1,h2,if_true,Nat.zero_add,h4,if_false]
attribute [go_sem] rcA rcB
theorem bs2 {α β γ : Type} {o : Option α} {f : α→Option β} {g : α→β→Option γ} {r : γ} (h : (o.bind fun a=>(f a).bind (g a)) = some r) : ∃ a,o = some a∧∃ b,f a = some b∧g a b = some r:=by
 obtain ⟨a,h1,h2⟩:=bsome h
 exact ⟨a,h1,bsome h2⟩
theorem bs3 {α β γ δ : Type} {o : Option α} {f : α→Option β} {g : α→β→Option γ} {k : α→β→γ→Option δ} {r : δ} (h : (o.bind fun a=>(f a).bind fun b=>(g a b).bind (k a b)) = some r) : ∃ a,o = some a∧∃ b,f a = some b∧∃ c,g a b = some c∧k a b c = some r:=by
 obtain ⟨a,h1,b,h2,h3⟩:=bs2 h
 exact ⟨a,h1,b,h2,bsome h3⟩
theorem bs4 {α β γ δ ε : Type} {o : Option α} {f : α→Option β} {g : α→β→Option γ} {k : α→β→γ→Option δ} {l : α→β→γ→δ→Option ε} {r : ε} (h : (o.bind fun a=>(f a).bind fun b=>(g a b).bind fun c=>(k a b c).bind (l a b c)) = some r) : ∃ a,o = some a∧∃ b,f a = some b∧∃ c,g a b = some c∧∃ d,k a b c = some d∧l a b c d = some r:=by
 obtain ⟨a,h1,b,h2,c,h3,h4⟩:=bs3 h
 exact ⟨a,h1,b,h2,c,h3,bsome h4⟩
end Go.Abs
namespace Go.Abs
open Go Go.RowKit
def qgm9 (n : Nat) (b : Int) : List PV→AHeap→Option (PV × AHeap):=fun args h=>match args with
 | [.im true [],.d (.v (.int .i64 k))]=>if 0≤k∧k * b≤140737488355328 then some (.ref h.length 1 0 0,h++[.row false 1 n []]) else none
 | _=>none
theorem qte9 {W0 : World} {P : Program} {N n : Nat} {b : Int} {F : List PV→AHeap→Option (PV × AHeap)} (hn : 0 < n) (hS : FSound W0 P N F) (h0 : ∀ h,F [.im true [],.d (.v (.int .i64 0))] h = some (.im true [],h))
  (hpos : ∀ (h : AHeap) (k : Int),0 < k→k * b≤140737488355328→∃ es,F [.im true [],.d (.v (.int .i64 k))] h = some (.ref h.length 0 0 0,h++[.row false 0 n es])) : FSound W0 P N (qgm9 n b):=by
 intro args h r h' ho X m w vs H hv
 unfold qgm9 at ho
 split at ho
 ·rename_i k
  split at ho
  ·rename_i hk
   simp only [Option.some.injEq,Prod.mk.injEq] at ho
   obtain ⟨rfl,rfl⟩:=ho
   by_cases hk0 : k = 0
   ·subst hk0
    refine (hS _ h _ _ (h0 h) X m w vs H hv).mono fun e w' hr=>?_
    cases e with
    | returned v =>
     obtain ⟨m',a1,a2,a3⟩:=hr
     obtain ⟨k1,k2⟩:=qgl9 a2 (.row false 1 n []) none rfl rfl (Outs.refl w') (Nat.le_refl _) (fun _ _=>rfl) (fun g bo e=>by cases e) (fun _=>rfl)
     refine ⟨upd m' h.length none,?_,k2,a3.trans k1⟩
     cases a1 with
     | im t xs A c sz f hc ht hsz hA hc1 hr =>
      have hc0 : c = 0:=by simpa using (ht rfl).symm
      subst hc0
      refine .ref _ _ _ _ _ ⟨A,0,rfl,Nat.le_refl _,fun e=>absurd e (by simp),false,1,n,[],by simp,Nat.le_refl _,fun _=>⟨by simp,?_⟩⟩
      rw [upd_same]
    | _=>exact hr
   ·obtain ⟨es,he⟩:=hpos h k (by omega) hk.2
    refine (hS _ h _ _ he X m w vs H hv).mono fun e w' hr=>?_
    cases e with
    | returned v =>
     obtain ⟨m',a1,a2,a3⟩:=hr
     have hid : (h++[.row false 0 n es])[h.length]? = some (.row false 0 n es):=by simp
     have hor:=a2.obj h.length _ hid
     have hset : (h++[AObj.row false 0 n es]).set h.length (.row false 1 n []) = h++[.row false 1 n []]:=by simp
     have hh:=qeq9 (w':=w') a2 hid rfl (.row false 1 n []) (m' h.length) rfl rfl (Outs.refl w') (Nat.le_refl _) (fun _ _ _=>rfl)
      ⟨by omega,fun z=>z,rfl,fun e=>by omega⟩
      (fun g1 bo1 hp1=>⟨a2.lt _ _ g1 bo1 hid hp1,.inl ⟨bo1,hp1⟩⟩)
      (fun hev=>by
       cases hm : m' h.length with
       | none=>rfl
       | some p =>
        obtain ⟨g,bo⟩:=p
        rw [hm] at hor
        obtain ⟨s0,cur,e,r1,r2,r3,r4⟩:=hor
        refine ⟨s0,cur,e,r1,?_,fun i ds hd=>by simp at hd,fun i j ds u hd hj=>by simp at hd⟩
        refine Nat.le_trans (Nat.mul_le_mul_right _ ?_) r2
        simp)
     rw [hset] at hh
     refine ⟨_,?_,hh.2,a3.trans hh.1⟩
     cases a1 with
     | ref _ _ _ _ _ hs =>
      obtain ⟨A,cap,hv0,hv1,hv2,fz,ver,sz,es1,b1,b2,b3⟩:=hs
      rw [hid] at b1
      simp only [Option.some.injEq,AObj.row.injEq] at b1
      obtain ⟨rfl,rfl,rfl,rfl⟩:=b1
      obtain ⟨c1,c2⟩:=b3 rfl
      refine .ref _ _ _ _ _ ⟨A,cap,hv0,hv1,hv2,false,1,n,[],by simp,Nat.le_refl _,fun _=>⟨by simp,?_⟩⟩
      rw [upd_same]
      exact c2
    | _=>exact hr
  ·cases ho
 ·cases ho
def okTF (P : Program) (t : Hint) (N : FuncId) : Bool:=match P.funcs[N]? with
 | some fn=>(match fn.body with | some c=>okT t c | none=>false)
 | none=>false
theorem qzM9 {P : Program} {t : Hint} {N : FuncId} {fn : Func} {c : Code} (h : okTF P t N = true) (hf : P.funcs[N]? = some fn) (hc : fn.body = some c) : okT t c = true:=by
 unfold okTF at h
 rw [hf] at h
 simp only [hc] at h
 exact h
theorem qrz9 {C : Cfg} {L : Oracle} {get : Nat→PV} {h : AHeap} {d : Option Nat} {ty : TypeId} {x : Operand} {ts : Array TypeId} {p : String} {af} {g} : aop C L get h { dst:=d,op:=.call { callee:=.builtin .cap,args:=#[x],argTypes:=ts },type:=ty,pos:=p,after:=af,guard:=g } = qbh9 C h .cap ts ty [evO get x]:=rfl
theorem qwu9 {C : Cfg} {L : Oracle} {get : Nat→PV} {h : AHeap} {d : Option Nat} {ty : TypeId} {x y : Operand} {ts : Array TypeId} {p : String} {af} {g} : aop C L get h { dst:=d,op:=.call { callee:=.builtin .append,args:=#[x,y],argTypes:=ts },type:=ty,pos:=p,after:=af,guard:=g } = qbh9 C h .append ts ty [evO get x,evO get y]:=rfl
theorem qxv9 {α : Type} {f : α→List D} {n : Nat} (hf : ∀ a,(f a).length = n) {h : AHeap} {l : List α} {a b : IntKind} : cutF n h (.d (.rd (l.map f))) (some (.d (.v (.int a (l.length : Int))))) (.d (.v (.int b (l.length : Int)))) = some (.im true (rowP f l)):=by
 simp only [cutF,Option.bind_some,qbj9,szOk,quY9 hf,List.length_map,and_self,if_true,rowP,List.map_map]
 rfl
def onceA (r : Option (AExit × St)) (k : St→Option (AExit × St)) : Option (AExit × St):=match r with
 | some (.normal,s')=>k s'
 | r=>r
theorem qom9 {s : St} {k : St→Option (AExit × St)} : onceA (some (.normal,s)) k = k s:=rfl
theorem quO9 {s : St} {k : St→Option (AExit × St)} : onceA (some (.ret,s)) k = some (.ret,s):=rfl
theorem qrH9 {s : St} {k : St→Option (AExit × St)} {i : Nat} : onceA (some (.exit i,s)) k = some (.exit i,s):=rfl
theorem qqV9 {α : Type} {f : α→List D} {l : List α} {h : AHeap} : mapO (mapO (rs h 37)) (rowP f l) = some (l.map f):=qgJ9 (n:=36)
theorem qqt9 (a : ByteArray) : (a == a) = true:=by
 obtain ⟨d⟩:=a
 show (d == d) = true
 exact beq_self_eq_true d
theorem quV9 {a b : ByteArray} (h : a ≠ b) : (a == b) = false:=by
 obtain ⟨d⟩:=a
 obtain ⟨e⟩:=b
 show (d == e) = false
 exact beq_eq_false_iff_ne.2 (fun he=>h (by rw [he]))
theorem qoH9 {V : Type} {f : V→List D} {l : List (ByteArray × V)} {k : ByteArray} : lookP (.string k) (mapP keyS f l) = some ((mget l k).map fun v=>((l.findIdx fun p=>decide (k = p.1)),match f v with | [x]=>PV.d x | cs=>.ag (cs.map PV.d))):=by
 induction l with
 | nil=>rfl
 | cons p r ih =>
  obtain ⟨k',v⟩:=p
  simp only [mapP,List.map_cons,keyS,lookP,keyEq,mget]
  by_cases h : k = k'
  ·subst h; rw [qqt9]; simp [List.findIdx_cons]; try rfl
  ·rw [show (k == k') = false from quV9 h,if_neg h]
   simp only [mapP,keyS] at ih
   simp only [ih,Option.map_some,List.findIdx_cons,h,decide_false,cond_false]
   cases mget r k <;> rfl
theorem qvU9 {V : Type} {f : V→List D} {l : List (ByteArray × V)} {k : ByteArray} {v : V} : mapP keyS f (mset l k v) = match mget l k with
  | none=>mapP keyS f l++[(.string k,match f v with | [x]=>PV.d x | cs=>.ag (cs.map PV.d))]
  | some _=>(mapP keyS f l).set (l.findIdx fun p=>decide (k = p.1)) (.string k,match f v with | [x]=>PV.d x | cs=>.ag (cs.map PV.d)):=by
 induction l with
 | nil=>rfl
 | cons p r ih =>
  obtain ⟨k',u⟩:=p
  simp only [mset,mget]
  by_cases h : k = k'
  ·subst h; simp [mapP,keyS,List.findIdx_cons]; try rfl
  ·rw [if_neg h,if_neg h]
   simp only [mapP,keyS,List.map_cons] at ih ⊢
   rw [ih]
   simp only [List.findIdx_cons,h,decide_false,cond_false]
   cases mget r k with
   | none=>simp
   | some w=>simp
theorem qeO9 {V : Type} {f : V→List D} {l : List (ByteArray × V)} {k : ByteArray} {v : V} {W : PV} (hW : mapV f v = W) : putP (.string k) W (mapP keyS f l) = some (mapP keyS f (mset l k v)):=by
 subst hW
 unfold putP
 rw [qoH9,qvU9]
 cases mget l k <;> rfl
theorem qzT9 {C : Cfg} {L : Oracle} {get : Nat→PV} {h : AHeap} {d : Option Nat} {ty s t : TypeId} {x : Operand} {p : String} {af} {g} : aop C L get h { dst:=d,op:=.convert s t x,type:=ty,pos:=p,after:=af,guard:=g } = qel9 C.P h s t (evO get x):=rfl
theorem qsL9 (l : List Int) : mapO byteD (l.map qN9) = some l:=by
 induction l with
 | nil=>rfl
 | cons x l ih=>simp only [List.map_cons,mapO,ih,byteD,qN9]
theorem qrI9 {P : Program} {s d e : TypeId} (hs : P.underlying s = some (.slice e)) (hd : P.underlying d = some .string) (he : P.underlying e = some (.int .u8)) {h : AHeap} {l : List Int} : qel9 P h s d (.d (.rd (l.map qN9))) = some (.d (.v (.string (qbx9 l))),h):=by
 have e1 : toV (.d (.rd (l.map qN9))) = none:=rfl
 unfold qel9
 rw [e1]
 simp only [convB,hs,hd,he,qsL9,Option.map_some]
attribute [go_sem] qoH9 qzT9 qom9 quO9 qrH9 qqV9 qkg9 qxv9
end Go.Abs
namespace Go.Abs
open Go Go.Proofs Go.Shelf Go.RowKit Go.Lib Go.Sort
theorem qqj9 {w w' : World} (hos : w'.os = w.os) (ht : w'.tape = w.tape) (ho : Outs w w') (hs : w.heap.size≤w'.heap.size) (hb : ∀ b,b < w.heap.size→w'.heap[b]? = w.heap[b]?) : ∃ q os',w' = grow (w.drewN q) os':=by
 refine ⟨w'.drawn - w.drawn,w'.heap.extract w.heap.size w'.heap.size,?_⟩
 have h : w'.heap = w.heap++w'.heap.extract w.heap.size w'.heap.size:=by
  apply Array.ext_getElem?
  intro i
  rw [Array.getElem?_append]
  split
  ·rename_i c; exact hb i c
  ·rename_i c
   rw [Array.getElem?_extract]
   split
   ·rw [show w.heap.size + (i - w.heap.size) = i by omega]
   ·exact Array.getElem?_eq_none (by omega)
 obtain ⟨h1,h2⟩:=ho
 have h3 : w'.drawn = w.drawn + (w'.drawn - w.drawn):=by omega
 cases w with
 | mk a1 a2 a3 a4 a5 =>
  cases w' with
  | mk b1 b2 b3 b4 b5 =>
   simp only [grow,World.drewN,World.mk.injEq] at *
   exact ⟨h,ht,h3,hos,h1⟩
section
variable {P : Program} {β : Type}
def CmpOK (P : Program) (g : FuncId) (encD : β→List D) (good : β→Prop) (cf : β→β→Int) : Prop :=
 ∀ (W : World) (X : Nat→Prop) (x y : β) (vx vy : Array Value),good x→good y→(∀ b,X b→b < W.heap.size)→DRel X W (.ag (encD x)) (.agg vx)→DRel X W (.ag (encD y)) (.agg vy) →
  Calls P g #[.agg vx,.agg vy] W fun e w'=>e = .returned (.int .i64 (cf x y))∧∃ q os',w' = grow (W.drewN q) os'
theorem qxb9 {W : World} {X : Nat→Prop} (hX : ∀ b,X b→b < W.heap.size) : HRel W X [] (fun _=>none) W :=
 ⟨fun _ _ h=>by simp at h,fun _ _ _ _ h=>by simp at h,fun _ _ _ _ _ _ _ h=>by simp at h,fun _ _ _ _ h=>by simp at h,hX,Nat.le_refl _,fun _ _=>rfl,fun _ _ _ _ h=>by simp at h⟩
theorem qxk9 {g : FuncId} {encD : β→List D} {good : β→Prop} {cf : β→β→Int} {F : List PV→AHeap→Option (PV × AHeap)} (hF : ∀ W0,FSound W0 P g F)
  (hL : ∀ x y,good x→good y→∃ h1,F [.d (.ag (encD x)),.d (.ag (encD y))] [] = some (.d (.v (.int .i64 (cf x y))),h1)) : CmpOK P g encD good cf:=by
 intro W X x y vx vy gx gy hX hx hy
 obtain ⟨h1,hl⟩:=hL x y gx gy
 have hE : ∀ b,b < W.heap.size→Ex X [] (fun _=>none) b→X b:=by
  rintro b _ (hb | ⟨id,o,bo,ho,_⟩)
  ·exact hb
  ·simp at ho
 refine (hF W _ _ _ _ hl X (fun _=>none) W [.agg vx,.agg vy] (qxb9 hX) (VRels.cons (.d _ _ (hx.move hE fun _ _ _=>rfl)) (VRels.cons (.d _ _ (hy.move hE fun _ _ _=>rfl)) VRels.nil))).mono ?_
 intro e w' he
 cases e with
 | returned v =>
  obtain ⟨m',k1,k2,k3⟩:=he
  obtain rfl:=k1.to_v rfl
  exact ⟨rfl,qqj9 k3.os k3.tape k3.output k2.osz k2.old⟩
 | _=>exact he.elim
structure Sorts (k : Nat) (encD : β→List D) (good : β→Prop) (cf : β→β→Int) (h : AHeap) (id v n : Nat) (zs zs' : List (β × List PV)) : Prop where
 row : h[id]? = some (.row false v k (zs.map (·.2)))
 len : zs.length = n
 small : n < 1073741824
 good : ∀ z∈zs,good z.1∧z.2.length = k∧mapO (rs h 39) z.2 = some (encD z.1)∧∀ u∈z.2,id ∉ reach h 39 u
 perm : zs'.Perm zs
 rise : zs'.Pairwise fun x y=>cf x.1 y.1 < 0
open Classical in
noncomputable def qhv9 (g : FuncId) (k : Nat) (encD : β→List D) (good : β→Prop) (cf : β→β→Int) : List PV→AHeap→Option (PV × AHeap):=fun args h=>match args with
 | [.ref id v 0 n,.fn g' []]=>if g' = g then (if hyp : ∃ q : List (β × List PV) × List (β × List PV),Sorts k encD good cf h id v n q.1 q.2 then some (.tp [],h.set id (.row false v k ((Classical.choose hyp).2.map (·.2)))) else none) else none
 | _=>none
structure CfOK (good : β→Prop) (cf : β→β→Int) : Prop where
 irr : ∀ x,good x→¬ cf x x < 0
 tr : ∀ x y z,good x→good y→good z→cf x y < 0→cf y z < 0→cf x z < 0
 nt : ∀ x y z,good x→good y→good z→¬ cf x y < 0→¬ cf y z < 0→¬ cf x z < 0
theorem qon9 {good : β→Prop} {cf : β→β→Int} (hc : CfOK good cf) {a b : List (β × List PV)} (hp : a.Perm b) (hg : ∀ z∈a,good z.1) (ha : a.Pairwise fun x y=>cf x.1 y.1 < 0) (hb : b.Pairwise fun x y=>cf x.1 y.1 < 0) : a = b :=
 List.Perm.eq_of_pairwise (le:=fun x y : β × List PV=>cf x.1 y.1 < 0) (fun x y hx hy h1 h2=>absurd (hc.tr _ _ _ (hg x hx) (hg y (hp.mem_iff.2 hy)) (hg x hx) h1 h2) (hc.irr _ (hg x hx))) ha hb hp
theorem qql9 {g : FuncId} {k : Nat} {encD : β→List D} {good : β→Prop} {cf : β→β→Int} (hc : CfOK good cf) (hinj : ∀ x y,encD x = encD y→x = y) {h : AHeap} {id v n : Nat} {zs zs' : List (β × List PV)} (hs : Sorts k encD good cf h id v n zs zs') : qhv9 g k encD good cf [.ref id v 0 n,.fn g []] h = some (.tp [],h.set id (.row false v k (zs'.map (·.2)))):=by
 have hyp : ∃ q : List (β × List PV) × List (β × List PV),Sorts k encD good cf h id v n q.1 q.2:=⟨(zs,zs'),hs⟩
 unfold qhv9
 simp only []
 rw [if_pos trivial,dif_pos hyp]
 have hq:=Classical.choose_spec hyp
 generalize Classical.choose hyp = q at hq
 obtain ⟨us,us'⟩:=q
 have e0 : us.map (·.2) = zs.map (·.2):=by
  have:=hq.row.symm.trans hs.row
  simpa using this
 have e1 : us = zs:=by
  have hu:=hq.good
  have hz:=hs.good
  clear hs hq hyp
  simp only at hu e0
  induction us generalizing zs with
  | nil =>
   cases zs with
   | nil=>rfl
   | cons z zs=>simp at e0
  | cons a us ih =>
   cases zs with
   | nil=>simp at e0
   | cons z zs =>
    simp only [List.map_cons,List.cons.injEq] at e0
    have a1:=(hu a List.mem_cons_self).2.2.1
    have z1:=(hz z List.mem_cons_self).2.2.1
    rw [e0.1,z1] at a1
    have : a.1 = z.1:=hinj _ _ (oiA a1).symm
    rw [ih e0.2 (fun x hx=>hu x (List.mem_cons_of_mem _ hx)) (fun x hx=>hz x (List.mem_cons_of_mem _ hx)),Prod.ext this e0.1]
 subst e1
 have e2 : us' = zs':=qon9 hc (hq.perm.trans hs.perm.symm) (fun z hz=>(hs.good z (hq.perm.mem_iff.1 hz)).1) hq.rise hs.rise
 rw [e2]
theorem qmY9 {A B : Type} : ∀ (l : List A) (R : Nat→A→B→Prop),(∀ i a,l[i]? = some a→∃ b,R i a b)→∃ bs : List B,bs.length = l.length∧∀ i a b,l[i]? = some a→bs[i]? = some b→R i a b
 | [],R,_=>⟨[],rfl,fun i a b h=>by simp at h⟩
 | a::l,R,h=>by
  obtain ⟨b,hb⟩:=h 0 a rfl
  obtain ⟨bs,h1,h2⟩:=qmY9 l (fun i=>R (i + 1)) (fun i a h'=>h (i + 1) a (by simpa using h'))
  refine ⟨b::bs,by simp [h1],fun i x y hx hy=>?_⟩
  cases i with
  | zero=>cases hx; cases hy; exact hb
  | succ i=>exact h2 i x y (by simpa using hx) (by simpa using hy)
end
section
variable {α : Type} [Inhabited α] {enc : α→List Value} {k : Nat} {w : World} {gb off : Nat}
theorem qlV9 {m : Nat} {dk : Array α} {os : Array Obj} : (sortWorldK enc k w gb off m dk os).heap = (w.heap.modify gb (onCells (putCells id off (flatK enc k dk))))++os:=rfl
theorem qlT9 {m : Nat} {dk : Array α} {os : Array Obj} : w.heap.size≤(sortWorldK enc k w gb off m dk os).heap.size:=by
 rw [qlV9,Array.size_append,Array.size_modify]; omega
theorem qpk9 {m : Nat} {dk : Array α} {os : Array Obj} {b : Nat} (hb : b < w.heap.size) (hne : b ≠ gb) : (sortWorldK enc k w gb off m dk os).heap[b]? = w.heap[b]?:=by
 rw [qlV9,Array.getElem?_append,if_pos (by rw [Array.size_modify]; exact hb),Array.getElem?_modify,if_neg (fun e=>hne e.symm)]
theorem qvM9 {m : Nat} {dk : Array α} {os : Array Obj} {cur : Array Value} {e : TypeId} (hg : w.heap[gb]? = some (.cells cur e (0,0))) : (sortWorldK enc k w gb off m dk os).heap[gb]? = some (.cells (putCells id off (flatK enc k dk) cur) e (0,0)):=by
 have hb : gb < w.heap.size:=(Array.getElem?_eq_some_iff.1 hg).1
 rw [qlV9,Array.getElem?_append,if_pos (by rw [Array.size_modify]; exact hb),Array.getElem?_modify,if_pos rfl,hg]; rfl
theorem qri9 {F cur : Array Value} : (putCells id off F cur).size = cur.size:=by simp [putCells]
theorem qzE9 {F cur : Array Value} {t : Nat} (ht : t < F.size) (hc : off + t < cur.size) : (putCells id off F cur)[off + t]? = some F[t]!:=by
 simp only [putCells,Array.getElem?_mapIdx,Array.getElem?_eq_getElem hc,Option.map_some]
 rw [if_pos ⟨by omega,by omega⟩,show off + t - off = t by omega]; rfl
end
section
variable {P : Program} {ρ : Ren} {β : Type} {W0 : World} {k : Nat} {encD : β→List D} {good : β→Prop} {cf : β→β→Int} {g : FuncId}
structure Elt (k : Nat) (encD : β→List D) (good : β→Prop) (E : Nat→Prop) (h : AHeap) (m : Places) (w : World) (gb : Nat) where
 z : β × List PV
 vals : List Value
 gd : good z.1
 l1 : z.2.length = k
 l2 : vals.length = k
 one : ∀ v∈vals,v.oneCell' = true
 rel : ∀ (j : Nat) (u : PV) (v : Value),z.2[j]? = some u→vals[j]? = some v→VRel E h m w u v
 dr : DRel (fun b=>b = gb) w (.ag (encD z.1)) (.agg vals.toArray)
set_option maxHeartbeats 4000000 in
theorem qrF9 (L : SlLaysF0.n6 P ρ) (hk0 : 0 < k) (aE : ∀ w,(isAgg (ρ.t 24)).run P w = .ok true w) (zE : ∀ w,(Go.sizeOf (ρ.t 24)).run P w = .ok k w) (hc : CfOK good cf) (hg : Callable P g) (hcl : CmpOK P g encD good cf) : FSound W0 P (ρ.f 6) (qhv9 g k encD good cf):=by
 intro args h r h' ho X m w vs H hv
 unfold qhv9 at ho
 split at ho
 ·rename_i id v n g'
  split at ho
  ·rename_i hgg
   subst hgg
   split at ho
   ·rename_i hyp
    have hq:=Classical.choose_spec hyp
    generalize Classical.choose hyp = q at hq ho
    clear hyp
    obtain ⟨zs,zs'⟩:=q
    simp only [Option.some.injEq,Prod.mk.injEq] at ho
    obtain ⟨rfl,rfl⟩:=ho
    simp only at hq
    obtain ⟨v0,v1,rfl⟩ : ∃ v0 v1,vs = [v0,v1]:=by
     have h1:=hv.1
     match vs,h1 with
     | [v0,v1],_=>exact ⟨v0,v1,rfl⟩
    have hv0:=hv.2 0 _ _ rfl rfl
    have hv1:=hv.2 1 _ _ rfl rfl
    obtain rfl : v1 = .func (.func g') #[] #[]:=by
     cases hv1 with
     | fn f cs vs hl hr =>
      have : vs = []:=List.eq_nil_of_length_eq_zero hl
      rw [this]
    have hsr : SRef h m w id v 0 n v0:=by cases hv0 with | ref _ _ _ _ _ hs=>exact hs
    obtain ⟨A,cap,rfl,hcap,hA,fz,ver',sz,es,hob,hle,hcur⟩:=hsr
    have hobj:=H.obj id _ hq.row
    rw [hq.row] at hob
    cases hob
    have hlt : id < h.length:=(List.getElem?_eq_some_iff.1 hq.row).1
    obtain ⟨c1,c2⟩:=hcur rfl
    rcases Nat.eq_zero_or_pos n with hn0 | hn0
    ·subst hn0
     have hz : zs = []:=List.eq_nil_of_length_eq_zero hq.len
     subst hz
     have hz' : zs' = []:=List.eq_nil_of_length_eq_zero hq.perm.length_eq
     subst hz'
     refine (AnyF.slices_SortFunc_none L A cap (.func (.func g') #[] #[]) w).mono ?_
     rintro e w' ⟨rfl,rfl⟩
     have eh : h.set id (.row false v k ((([] : List (β × List PV))).map (·.2))) = h:=by
      refine List.ext_getElem? fun j=>?_
      rw [List.getElem?_set]
      split
      ·rename_i e; subst e; exact hq.row.symm
      ·rfl
     show Out W0 X h m w' _ _ _ _
     rw [eh]
     exact ⟨m,.tp [] [] rfl (fun j u x h1=>by simp at h1),H,Evo.refl _ _ _ _⟩
    ·have hml : (zs.map (·.2)).length = n:=by rw [List.length_map]; exact hq.len
     cases hm : m id with
     | none =>
      rw [hm] at hobj
      have : zs.map (·.2) = []:=hobj
      rw [this] at hml
      simp at hml
      omega
     | some p =>
      obtain ⟨gb,bo⟩:=p
      rw [hm] at hobj c2
      obtain ⟨k0,cur,e,r1,r2,r3,r4⟩:=hobj
      obtain ⟨cur',e',f1,f2,f3⟩:=c2
      rw [r1] at f1
      cases f1
      have hAe : A = some ⟨gb,bo * k,none⟩:=by have:=f2 (by omega); simpa using this
      subst hAe
      have hgb : gb < w.heap.size:=H.lt id _ gb bo hq.row hm
      have hcs : bo * k + n * k≤cur.size:=by rw [← Nat.add_mul,← hml]; exact r2
      have hbl : ∀ i,i < n→i * k + k≤n * k:=fun i hi=>by rw [← Nat.succ_mul]; exact Nat.mul_le_mul_right _ (by omega)
      have hX' : ∀ b,b = gb→Ex X h m b:=fun b hb=>.inr ⟨id,_,bo,hq.row,rfl,by rw [hb]; exact hm⟩
      -- the elements
      obtain ⟨ds,d1,d2⟩:=qmY9 (B:=Elt k encD good (Ex X h m) h m w gb) zs (fun i z x=>x.z = z∧x.vals = (cur.toList.drop ((bo + i) * k)).take k) (fun i z hz=>by
       have hi : i < n:=by rw [← hq.len]; exact (List.getElem?_eq_some_iff.1 hz).1
       have hzm : (zs.map (·.2))[i]? = some z.2:=by rw [List.getElem?_map,hz]; rfl
       obtain ⟨g1,g2,g3,g4⟩:=hq.good z (List.mem_of_getElem? hz)
       have hb:=hbl i hi
       have hoff : (bo + i) * k = bo * k + i * k:=Nat.add_mul ..
       have hvl : ((cur.toList.drop ((bo + i) * k)).take k).length = k:=by
        rw [List.length_take,List.length_drop,Array.length_toList]; omega
       have hvg : ∀ j,j < k→((cur.toList.drop ((bo + i) * k)).take k)[j]? = cur[(bo + i) * k + j]?:=fun j hj=>by
        rw [List.getElem?_take,if_pos hj,List.getElem?_drop,Array.getElem?_toList]
       have hone : ∀ v∈(cur.toList.drop ((bo + i) * k)).take k,v.oneCell' = true:=fun v hv=>by
        obtain ⟨j,hj⟩:=List.getElem?_of_mem hv
        have hjk : j < k:=by rw [← hvl]; exact (List.getElem?_eq_some_iff.1 hj).1
        rw [hvg j hjk] at hj
        obtain ⟨x,x1,x2,_⟩:=r4 i j z.2 (z.2[j]'(by omega)) hzm (List.getElem?_eq_getElem (by omega))
        rw [x1] at hj
        cases hj
        exact x2
       have hrel : ∀ (j : Nat) (u : PV) (v : Value),z.2[j]? = some u→((cur.toList.drop ((bo + i) * k)).take k)[j]? = some v→VRel (Ex X h m) h m w u v:=fun j u v hu hv=>by
        have hjk : j < k:=by rw [← hvl]; exact (List.getElem?_eq_some_iff.1 hv).1
        rw [hvg j hjk] at hv
        obtain ⟨x,x1,_,x3⟩:=r4 i j z.2 u hzm hu
        rw [x1] at hv
        cases hv
        exact x3
       refine ⟨⟨z,(cur.toList.drop ((bo + i) * k)).take k,g1,g2,hvl,hone,hrel,?_⟩,rfl,rfl⟩
       obtain ⟨q1,q2⟩:=qbO9 g3
       refine .ag _ _ (by rw [hvl,q1,g2]) (fun j x hx=>hone x (List.mem_of_getElem? hx)) (fun j u x hu hx=>?_)
       have hjk : j < z.2.length:=by rw [← q1]; exact (List.getElem?_eq_some_iff.1 hu).1
       obtain ⟨y,y1,y2⟩:=q2 j z.2[j] (List.getElem?_eq_getElem hjk)
       rw [hu] at y1
       cases y1
       refine qed9 H hX' 39 _ _ _ y2 (fun id' hid' g2 bo2 fz2 ver2 sz2 es2 hm2 ho2 hgb2=>?_) (hrel j _ _ (List.getElem?_eq_getElem hjk) hx)
       subst hgb2
       have:=H.inj id' id _ _ g2 bo2 bo ho2 hq.row hm2 hm
       subst this
       exact g4 _ (List.getElem_mem hjk) hid')
      have hdl : ds.length = n:=by rw [d1]; exact hq.len
      have hdz : ds.map (·.z) = zs:=by
       refine List.ext_getElem? fun i=>?_
       rw [List.getElem?_map]
       rcases Nat.lt_or_ge i n with c | c
       ·have h1 : ds[i]? = some (ds[i]'(by omega)):=List.getElem?_eq_getElem _
        have h2 : zs[i]? = some (zs[i]'(by rw [hq.len]; exact c)):=List.getElem?_eq_getElem _
        rw [h1,h2,Option.map_some,(d2 i _ _ h2 h1).1]
       ·rw [List.getElem?_eq_none (by omega),List.getElem?_eq_none (by rw [hq.len]; exact c)]; rfl
      haveI : Inhabited (Elt k encD good (Ex X h m) h m w gb):=⟨ds[0]'(by omega)⟩
      have hO : SWO (ltOf fun x y : Elt k encD good (Ex X h m) h m w gb=>cf x.z.1 y.z.1):={
       irrefl:=fun x=>by simp only [ltOf,decide_eq_false_iff_not]; exact hc.irr _ x.gd
       trans:=fun x y z h1 h2=>by simp only [ltOf,decide_eq_true_eq] at *; exact hc.tr _ _ _ x.gd y.gd z.gd h1 h2
       ntrans:=fun x y z h1 h2=>by simp only [ltOf,decide_eq_false_iff_not] at *; exact hc.nt _ _ _ x.gd y.gd z.gd h1 h2 }
      have hds : ds.toArray.size = n:=by rw [List.size_toArray]; exact hdl
      have hH : HoldsK (fun x : Elt k encD good (Ex X h m) h m w gb=>x.vals) k w gb (bo * k) ds.toArray:=by
       intro j hj
       rw [size_flatK,hds] at hj
       rw [get_flatK _ _ _ _ (by rw [hds]; exact hj)]
       have hjk : j / k < n:=Nat.div_lt_of_lt_mul (by rw [Nat.mul_comm]; exact hj)
       have hmk : j % k < k:=Nat.mod_lt _ hk0
       have hdj : ds[j / k]? = some (ds[j / k]'(by omega)):=List.getElem?_eq_getElem _
       have hzj : zs[j / k]? = some (zs[j / k]'(by rw [hq.len]; exact hjk)):=List.getElem?_eq_getElem _
       have e1 : ds.toArray[j / k]! = ds[j / k]'(by omega):=by
        rw [getElem!_pos ds.toArray (j / k) (by rw [hds]; exact hjk)]; rfl
       have hjj : (bo + j / k) * k + j % k = bo * k + j:=by
        rw [Nat.add_mul,Nat.add_assoc,Nat.mul_comm (j / k) k,Nat.div_add_mod]
       refine ⟨?_,?_⟩
       ·show w.cell? _ = _
        rw [e1,(d2 _ _ _ hzj hdj).2]
        have hl : (bo + j / k) * k + j % k < cur.size:=by rw [hjj]; omega
        have e2 : ((cur.toList.drop ((bo + j / k) * k)).take k)[j % k]! = cur[bo * k + j]'(by omega):=by
         have : ((cur.toList.drop ((bo + j / k) * k)).take k)[j % k]? = some (cur[bo * k + j]'(by omega)):=by
          rw [List.getElem?_take,if_pos hmk,List.getElem?_drop,Array.getElem?_toList,hjj,Array.getElem?_eq_getElem (by omega)]
         rw [List.getElem!_eq_getElem?_getD,this]; rfl
        rw [e2]
        simp only [World.cell?,r1,Option.isSome_none,Bool.false_eq_true,if_false]
        rw [Array.getElem?_eq_getElem (by omega)]; rfl
       ·simp only [World.frozen?,r1]
        simp
      have hcmp : CmpLays P g' #[] (fun x : Elt k encD good (Ex X h m) h m w gb=>x.vals) k (fun x y=>cf x.z.1 y.z.1) gb (bo * k) ds.toArray.size w:=fun m1 os1 dk hdk x y=>by
       have hmv : ∀ x : Elt k encD good (Ex X h m) h m w gb,DRel (fun b=>b = gb) (sortWorldK (fun x : Elt k encD good (Ex X h m) h m w gb=>x.vals) k w gb (bo * k) m1 dk os1) (.ag (encD x.z.1)) (.agg x.vals.toArray):=fun x=>x.dr.move (fun _ _ h=>h) (fun b hb hne=>qpk9 hb hne)
       exact hcl _ _ _ _ _ _ x.gd y.gd (fun b hb=>by rw [hb]; exact Nat.lt_of_lt_of_le hgb qlT9) (hmv x) (hmv y)
      have hrun:=AnyQ.slices_SortFunc L k aE zE (fun x : Elt k encD good (Ex X h m) h m w gb=>x.vals) (fun x=>x.l2) (fun x v hv=>x.one v hv) (fun x y=>cf x.z.1 y.z.1) hO g' #[] gb (bo * k) cap ds.toArray w (fun args w=>qhy9 hg args) hcmp hH hgb (by rw [hds]; have:=hq.small; omega)
      rw [hds] at hrun
      refine hrun.mono ?_
      rintro e1 w' ⟨rfl,d',nd,os,hp,hs,rfl⟩
      have hd's : d'.size = n:=by rw [hp.1,hds]
      have hperm : d'.toList.Perm ds:=by
       have:=hp.2.2
       have e1 : d'.extract 0 n = d':=by rw [← hd's]; exact Array.extract_size
       have e2 : ds.toArray.extract 0 n = ds.toArray:=by rw [← hds]; exact Array.extract_size
       rw [e1,e2] at this
       simpa using this
      have hzz : d'.toList.map (·.z) = zs':=by
       have hpz : (d'.toList.map (·.z)).Perm zs:=by have:=hperm.map (·.z); rw [hdz] at this; exact this
       refine qon9 hc (hpz.trans hq.perm.symm) (fun z hz=>?_) ?_ hq.rise
       ·obtain ⟨x,_,rfl⟩:=List.mem_map.1 hz; exact x.gd
       ·rw [List.pairwise_map,List.pairwise_iff_getElem]
        intro i j hi hj hij
        rw [Array.length_toList,hd's] at hi hj
        have h1:=hs i j (Nat.zero_le _) hij hj
        simp only [ltOf,decide_eq_false_iff_not] at h1
        have ei : d'[i]! = d'.toList[i]'(by rw [Array.length_toList]; omega):=by rw [getElem!_pos d' i (by omega)]; rfl
        have ej : d'[j]! = d'.toList[j]'(by rw [Array.length_toList]; omega):=by rw [getElem!_pos d' j (by omega)]; rfl
        rw [ei,ej] at h1
        -- two of zs' come one before the other
        have hxi : (d'.toList[i]'(by rw [Array.length_toList]; omega)).z∈zs':=(hq.perm.mem_iff.2 (hpz.mem_iff.1 (List.mem_map.2 ⟨_,List.getElem_mem _,rfl⟩)))
        have hnd : ((d'.toList.map (·.z))).Pairwise fun x y=>x ≠ y∧¬ (¬ cf x.1 y.1 < 0∧¬ cf y.1 x.1 < 0):=by
         have hz2 : zs'.Pairwise fun x y=>x ≠ y∧¬ (¬ cf x.1 y.1 < 0∧¬ cf y.1 x.1 < 0):=by
          refine List.Pairwise.imp_of_mem (fun {x y} hx hy hxy=>⟨fun e=>?_,fun hh=>hh.1 hxy⟩) hq.rise
          subst e
          exact hc.irr _ (hq.good x (hq.perm.mem_iff.1 hx)).1 hxy
         exact (hpz.trans hq.perm.symm).symm.pairwise hz2 (fun {x y} hxy=>⟨fun e=>hxy.1 e.symm,fun hh=>hxy.2 ⟨hh.2,hh.1⟩⟩)
        have h2:=(List.pairwise_iff_getElem.1 hnd) i j (by rw [List.length_map,Array.length_toList]; omega) (by rw [List.length_map,Array.length_toList]; omega) hij
        rw [List.getElem_map,List.getElem_map] at h2
        by_cases hlt : cf (d'.toList[i]'(by rw [Array.length_toList]; omega)).z.1 (d'.toList[j]'(by rw [Array.length_toList]; omega)).z.1 < 0
        ·exact hlt
        ·exact absurd ⟨hlt,h1⟩ h2.2
      have hzl : zs'.length = n:=by rw [hq.perm.length_eq]; exact hq.len
      have hgw:=qvM9 (enc:=fun x : Elt k encD good (Ex X h m) h m w gb=>x.vals) (k:=k) (off:=bo * k) (m:=nd) (dk:=d') (os:=os) r1
      have hh:=qeq9 (w':=sortWorldK (fun x : Elt k encD good (Ex X h m) h m w gb=>x.vals) k w gb (bo * k) nd d' os) H hq.row rfl (.row false v k (zs'.map (·.2))) (m id) rfl rfl ⟨rfl,Nat.le_add_right _ _⟩ qlT9 (fun b hb hne=>qpk9 hb (hne gb bo hm))
       ⟨Nat.le_refl _,fun z=>z,rfl,fun _=>⟨by rw [List.length_map,List.length_map,hzl,hq.len]; exact Nat.le_refl _,rfl,fun g1 bo1 cur1 e1 hp1 hg1=>by
        rw [hm] at hp1
        cases hp1
        rw [r1] at hg1
        cases hg1
        exact ⟨_,hgw,qri9⟩⟩⟩
       (fun g1 bo1 hp1=>by
        rw [hm] at hp1
        cases hp1
        exact ⟨Nat.lt_of_lt_of_le hgb qlT9,.inl ⟨bo,hm⟩⟩)
       (fun hev=>by
        have hrl : ∀ x : Elt k encD good (Ex X h m) h m w gb,∀ (j : Nat) (u : PV) (v : Value),x.z.2[j]? = some u→x.vals[j]? = some v→VRel _ _ _ _ u v:=fun x j u v a b=>(x.rel j u v a b).evo hev
        clear hev
        rw [hm] at hrl ⊢
        refine ⟨k0,_,_,hgw,by rw [qri9,List.length_map,hzl,Nat.add_mul]; exact hcs,fun i cs hi=>?_,fun i j cs u hi hj=>?_⟩
        ·obtain ⟨z,hz,rfl⟩:=List.mem_map.1 (List.mem_of_getElem? hi)
         exact (hq.good z (hq.perm.mem_iff.1 hz)).2.1
        ·have hin : i < n:=by have:=(List.getElem?_eq_some_iff.1 hi).1; rw [List.length_map,hzl] at this; exact this
         have hx : d'.toList[i]? = some (d'.toList[i]'(by rw [Array.length_toList]; omega)):=List.getElem?_eq_getElem _
         generalize d'.toList[i]'(by rw [Array.length_toList]; omega) = x at hx
         rw [← hzz,List.getElem?_map,List.getElem?_map,hx] at hi
         cases hi
         have hjk : j < k:=by rw [← x.l1]; exact (List.getElem?_eq_some_iff.1 hj).1
         have hvj : x.vals[j]? = some (x.vals[j]'(by rw [x.l2]; exact hjk)):=List.getElem?_eq_getElem _
         refine ⟨x.vals[j]'(by rw [x.l2]; exact hjk),?_,x.one _ (List.getElem_mem _),hrl x j u _ hj hvj⟩
         have hb:=hbl i hin
         have e0 : (bo + i) * k + j = bo * k + (i * k + j):=by rw [Nat.add_mul]; omega
         rw [e0,qzE9 (by rw [size_flatK,hd's]; omega) (by omega),get_flatK _ _ _ _ (by rw [hd's]; omega)]
         have e1 : (i * k + j) / k = i:=(blk_iff k i _ hk0).1 ⟨by omega,by omega⟩
         have e2 : (i * k + j) % k = j:=by rw [Nat.mod_eq_sub_div_mul,e1]; omega
         rw [e1,e2]
         have e3 : d'[i]! = x:=by
          rw [Array.getElem?_toList] at hx
          rw [getElem!_pos d' i (by omega)]
          rw [Array.getElem?_eq_getElem (by omega)] at hx
          exact oiA hx
         rw [e3,List.getElem!_eq_getElem?_getD,hvj]; rfl)
      have hu : upd m id (m id) = m:=by
       funext j
       unfold upd
       split
       ·rename_i e; rw [e]
       ·rfl
      rw [hu] at hh
      exact ⟨m,.tp [] [] rfl (fun j u x h1=>by simp at h1),hh.2,hh.1⟩
   ·cases ho
  ·cases ho
 ·cases ho
end
end Go.Abs

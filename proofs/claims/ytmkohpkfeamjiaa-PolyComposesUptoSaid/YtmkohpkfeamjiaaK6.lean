import Derived.Test.YtmkohpkfeamjiaaE3
import Derived.Test.YtmkohpkfeamjiaaSf1
import Derived.Test.YtmkohpkfeamjiaaPq6
import Derived.Test.YtmkohpkfeamjiaaPMW7
import Derived.Test.YtmkohpkfeamjiaaAbs28
import Derived.Test.YtmkohpkfeamjiaaU2
import Derived.Test.YtmkohpkfeamjiaaPMW11
import Derived.Test.YtmkohpkfeamjiaaPMW17
set_option maxHeartbeats 400000
set_option linter.unusedVariables false
set_option linter.unusedSimpArgs false
set_option linter.unusedSectionVars false
namespace Le
open Ld Lt Go Go.Proofs Go.Abs
set_option maxRecDepth 8000
def OwnE (N : Nat) (H : AHeap) (pv : PV) (L : List Mono) : Prop:=(pv = .d (.rd [])∧L = [])∨∃ pre post,N≤pre.length∧H = (pre++nestH pre.length L)++post∧pv = .ref (pre.length + 2 * L.length) 0 0 L.length
section
variable {N M : Nat} {H t : AHeap} {pv : PV} {L : List Mono} {C : Cfg}
theorem OwnE.app (h : OwnE N H pv L) (t : AHeap) : OwnE N (H++t) pv L:=by
 rcases h with h | ⟨pre,post,h1,rfl,h2⟩
 ·exact .inl h
 ·exact .inr ⟨pre,post++t,h1,by simp,h2⟩
theorem OwnE.mono (h : OwnE N H pv L) (hn : M≤N) : OwnE M H pv L:=by
 rcases h with h | ⟨pre,post,h1,h2,h3⟩
 ·exact .inl h
 ·exact .inr ⟨pre,post,Nat.le_trans hn h1,h2,h3⟩
theorem OwnE.nil (hL : L = []) : OwnE N H (.d (.rd (L.map qa9))) L:=by subst hL; exact .inl ⟨rfl,rfl⟩
theorem qrs9 {pre post : AHeap} {k : MK} (hk : k∈kel pre.length L) : ((pre++nestH pre.length L)++post)[k.c]? = some (.row false 0 1 (rowP qb9 k.m.Coef))∧((pre++nestH pre.length L)++post)[k.e]? = some (.row false 0 1 (rowP intD k.m.Exps)):=by
 have:=qkv9 L pre k hk
 have e : pre++nestH pre.length L = (pre++objs L)++[.row false 0 2 ((kel pre.length L).map encK)]:=by unfold nestH; rw [List.append_assoc]
 rw [e]
 exact ⟨qby9 (qby9 this.1),qby9 (qby9 this.2)⟩
theorem qpH9 {pre post : AHeap} : ((pre++nestH pre.length L)++post)[pre.length + 2 * L.length]? = some (.row false 0 2 ((kel pre.length L).map encK)):=by
 refine qby9 ?_
 rw [List.getElem?_append_right (by omega),show pre.length + 2 * L.length - pre.length = 2 * L.length by omega]
 exact qiY9
theorem OwnE.rs (h : OwnE N H pv L) : rs H depth pv = some (.rd (L.map qa9)):=by
 rcases h with ⟨rfl,rfl⟩ | ⟨pre,post,h1,rfl,rfl⟩
 ·rfl
 ·show (match Abs.rowAt ((pre++nestH pre.length L)++post) (pre.length + 2 * L.length) 0 with | some (_,_,es)=>(mapO (mapO (Abs.rs ((pre++nestH pre.length L)++post) 39)) ((es.drop 0).take L.length)).map D.rd | none=>none) = _
  simp only [Abs.rowAt,qpH9,if_true]
  rw [List.drop_zero,List.take_of_length_le (by rw [List.length_map,qhl9]; exact Nat.le_refl _),qoW9 (fun x hx=>qrs9 hx),kel_m]; rfl
theorem qyo9 : ∀ (L : List Mono) (k : Nat),∀ x∈kel k L,k≤x.c∧k≤x.e:=by
 intro L
 induction L with
 | nil=>intro k x hx; cases hx
 | cons m L ih =>
  intro k x hx
  rw [kel] at hx
  rcases List.mem_cons.1 hx with rfl | hx
  ·simp
  ·have:=ih (k + 2) x hx; omega
theorem OwnE.reach (h : OwnE N H pv L) : ∀ id∈reach H depth pv,N≤id:=by
 rcases h with ⟨rfl,rfl⟩ | ⟨pre,post,h1,rfl,rfl⟩
 ·intro id hid; cases hid
 ·intro id hid
  have e : Abs.reach ((pre++nestH pre.length L)++post) depth (.ref (pre.length + 2 * L.length) 0 0 L.length) = (pre.length + 2 * L.length)::(match Abs.rowAt ((pre++nestH pre.length L)++post) (pre.length + 2 * L.length) 0 with | some (_,_,es)=>es.flatMap fun cs=>cs.flatMap (Abs.reach ((pre++nestH pre.length L)++post) 39) | none=>[]):=rfl
  rw [e] at hid
  simp only [Abs.rowAt,qpH9,if_true] at hid
  rcases List.mem_cons.1 hid with rfl | hid
  ·omega
  obtain ⟨cs,hcs,hid⟩:=List.mem_flatMap.1 hid
  obtain ⟨x,hx,rfl⟩:=List.mem_map.1 hcs
  have hlow:=qyo9 L pre.length x hx
  obtain ⟨a1,a2⟩:=qrs9 (post:=post) hx
  obtain ⟨u,hu,hid⟩:=List.mem_flatMap.1 hid
  rcases List.mem_cons.1 hu with rfl | hu
  ·rw [qhT9] at hid
   simp only [Abs.rowAt,a1,if_true,qhA9] at hid
   rw [List.mem_singleton.1 hid]; omega
  ·rw [List.mem_singleton.1 hu] at hid
   rw [qhT9] at hid
   simp only [Abs.rowAt,a2,if_true,qhA9] at hid
   rw [List.mem_singleton.1 hid]; omega
theorem qrS9 {A t : AHeap} {i : Nat} {f : AObj→AObj} (h : A.length≤i) : (A++t).modify i f = A++t.modify (i - A.length) f:=by
 refine List.ext_getElem? fun j=>?_
 rcases Nat.lt_or_ge j A.length with c | c
 ·have e : ¬ i = j:=by omega
  rw [List.getElem?_modify,List.getElem?_append_left c,List.getElem?_append_left c]
  simp only [e,if_false]
  exact Option.map_id'
 ·rw [List.getElem?_modify,List.getElem?_append_right c,List.getElem?_append_right c,List.getElem?_modify]
  by_cases e : i = j
  ·have e2 : i - A.length = j - A.length:=by omega
   simp only [e,e2,if_true]
  ·have e2 : ¬ i - A.length = j - A.length:=by omega
   simp only [e,e2,if_false]
theorem qrP9 {A : AHeap} : ∀ (ids : List Nat) (t : AHeap),(∀ i∈ids,A.length≤i)→∃ t',freezeAll ids (A++t) = A++t':=by
 intro ids
 induction ids with
 | nil=>intro t _; exact ⟨t,rfl⟩
 | cons i ids ih =>
  intro t h
  obtain ⟨t',h1⟩:=ih (t.modify (i - A.length) AObj.freeze) (fun j hj=>h j (List.mem_cons_of_mem _ hj))
  refine ⟨t',?_⟩
  show freezeAll ids ((A++t).modify i AObj.freeze) = _
  rw [qrS9 (h i List.mem_cons_self),h1]
theorem OwnE.spoil (is23 : IsF C 23 75 137440003197 c23 []) (h : OwnE N H pv L) (hs : L.length≤1048576) (hsm : ∀ m∈L,m.Coef.length≤1048576∧m.Exps.length≤1048576) : ∃ H',Lim C 23 [pv] H = some (resOf [],H'):=by
 rcases h with ⟨rfl,rfl⟩ | ⟨pre,post,h1,rfl,rfl⟩
 ·exact qmH9 is23
 ·have S:=qre9 (pre:=pre) (L:=L)
  refine qmA9 is23 (N:=pre.length) (Nat.le_refl _) hs hsm ⟨?_,fun k m hk hm=>?_⟩
  ·obtain ⟨es,e1,e2⟩:=S.row
   exact ⟨es,qby9 e1,e2⟩
  ·obtain ⟨⟨r1,a1,a2⟩,⟨r2,b1,b2⟩⟩:=S.ob k m hk hm
   exact ⟨⟨r1,qby9 a1,a2⟩,⟨r2,qby9 b1,b2⟩⟩
end
def SimG (C : Cfg) (keep : Nat) (b : ACode) {σ ρ G : Type} (I : σ→G→Prop) (step : σ→Option (σ ⊕ ρ)) (S : σ→G→St) (X : ρ→AExit × St→Prop) : Prop :=
 ∀ s g r,I s g→step s = some r→Sum.elim (fun s'=>∃ g',semA C (Lim C) keep b (S s g) = some (.normal,S s' g')∧I s' g') (fun x=>∃ q,semA C (Lim C) keep b (S s g) = some q∧q.1 ≠ .normal∧X x q) r
theorem SimG.L {C : Cfg} {keep : Nat} {b : ACode} {σ ρ G : Type} {I : σ→G→Prop} {step : σ→Option (σ ⊕ ρ)} {S : σ→G→St} {X : ρ→AExit × St→Prop} (h : SimG C keep b I step S X) {s : σ} {g : G} {x : ρ} (hw : wh step s = some x) (hI : I s g) : ∃ q,qM9 (semA C (Lim C) keep b) (S s g) = some q∧X x q:=by
 obtain ⟨n,hn⟩:=qhq9 hw
 clear hw
 induction n generalizing s g with
 | zero=>cases hn
 | succ n ih =>
  simp only [itW] at hn
  cases hs : step s with
  | none=>simp [hs] at hn
  | some r =>
   have hh:=h s g r hI hs
   cases r with
   | inl s' =>
    obtain ⟨g',hg,hI'⟩:=hh
    rw [hs] at hn
    obtain ⟨q,h1,h2⟩:=ih (g:=g') hI' hn
    exact ⟨q,qlU9 hg h1,h2⟩
   | inr x' =>
    obtain ⟨q,h2,h1,h3⟩:=hh
    rw [hs] at hn
    simp only [Option.some.injEq] at hn
    subst hn
    obtain ⟨e,st⟩:=q
    exact ⟨_,qkx9 h2 h1,h3⟩
end Le
namespace Le.K
open Le Ld Go Go.Proofs Go.Abs
set_option maxRecDepth 8000
def mode2 : FuncId→Nat
 | 17=>2
 | 23=>1
 | 26=>2
 | _=>0
noncomputable def prim2 : FuncId→Option (List PV→AHeap→Option (PV × AHeap))
 | 12=>some (callP Ld.C (Lim Ld.C) 12)
 | 13=>some (callP Ld.C (Lim Ld.C) 13)
 | 14=>some (callP Ld.C (Lim Ld.C) 14)
 | 16=>some (callP Ld.C (Lim Ld.C) 16)
 | 24=>some (callP Ld.C (Lim Ld.C) 24)
 | 27=>some (callP Ld.C (Lim Ld.C) 27)
 | 43=>some (callP Ld.C (Lim Ld.C) 43)
 | 44=>some (callP Ld.C (Lim Ld.C) 44)
 | 45=>some (callP Ld.C (Lim Ld.C) 45)
 | 46=>some Lt.primTold2
 | 55=>some (callP Ld.C (Lim Ld.C) 55)
 | _=>none
def k6 : Hint:=⟨18894149675091080052723,0,[(0,33554432),(1,33554432),(2,18894077617497008242688),(3,18894077617497008242688)],[],[(10,[(7,0)])],[(5,[(7,1)])]⟩
def k23 : Hint:=⟨137440003197,0,[(0,137440003192),(1,137440003192),(2,1049608),(3,1048576),(4,137440003096),(5,137438953472)],[],[],[]⟩
noncomputable def hint2 : FuncId→Hint
 | 6=>k6
 | 23=>k23
 | g=>Ld.hint g
def uses2 : List FuncId:=[6,17,23,26]
noncomputable def C2 : Cfg:={ P:=Try.prog,mode:=mode2,prim:=prim2,hint:=hint2,use:=fun g=>uses2.contains g,settle:=Ld.C.settle }
theorem C2_P : C2.P = Try.prog:=rfl
theorem qZ9 {W : World} {g : FuncId} : FSound W Try.prog g (callP Ld.C (Lim Ld.C) g):=fun args h r h' ho X m w vs H hv =>
 (qgy9 (Ld.cOk W).toCSound (qbJ9 (Ld.cOk W)) H hv ho).2
theorem qoz9 : Ld.okAll Try.prog hint2 uses2 = true:=by kernel_rfl
theorem cOk2 (W : World) : COk W C2:=by
 have all : ∀ g, C2.use g = true → ∃ fn c, Try.prog.funcs[g]? = some fn ∧ fn.name ≠ "runtime.NumGoroutine" ∧ fn.body = some c ∧ okT (hint2 g) c = true := by
  intro g hg
  have hm : g∈uses2:=by simpa [C2] using hg
  have h1:=List.all_eq_true.1 qoz9 g hm
  cases hf : Try.prog.funcs[g]? with
  | none=>rw [hf] at h1; cases h1
  | some fn =>
   rw [hf] at h1
   simp only [Bool.and_eq_true,decide_eq_true_eq] at h1
   cases hb : fn.body with
   | none=>rw [hb] at h1; cases h1.2
   | some c=>rw [hb] at h1; exact ⟨fn,c,rfl,h1.1,hb,h1.2⟩
 refine { use:=fun g hg=>?_,prim:=fun g p hg=>?_,orders:=?_,hints:=fun g fn c hg hf hc=>?_ }
 ·obtain ⟨fn,c,h1,h2,h3,_⟩:=all g hg
  exact ⟨fn,h1,h2,by rw [h3]; rfl⟩
 ·have hg' : prim2 g = some p:=hg
  unfold prim2 at hg'
  split at hg'
  ·cases hg'; exact ⟨Ld.callable Try.func12 (by kernel_rfl) (by kernel_rfl),qZ9⟩
  ·cases hg'; exact ⟨Ld.callable Try.func13 (by kernel_rfl) (by kernel_rfl),qZ9⟩
  ·cases hg'; exact ⟨Ld.callable Try.func14 (by kernel_rfl) (by kernel_rfl),qZ9⟩
  ·cases hg'; exact ⟨Ld.callable Try.func16 (by kernel_rfl) (by kernel_rfl),qZ9⟩
  ·cases hg'; exact ⟨Ld.callable Try.func24 (by kernel_rfl) (by kernel_rfl),qZ9⟩
  ·cases hg'; exact ⟨Ld.callable Try.func27 (by kernel_rfl) (by kernel_rfl),qZ9⟩
  ·cases hg'; exact ⟨Ld.callable Try.func43 (by kernel_rfl) (by kernel_rfl),qZ9⟩
  ·cases hg'; exact ⟨Ld.callable Try.func44 (by kernel_rfl) (by kernel_rfl),qZ9⟩
  ·cases hg'; exact ⟨Ld.callable Try.func45 (by kernel_rfl) (by kernel_rfl),qZ9⟩
  ·cases hg'; exact ⟨Ld.callable Try.func46 (by kernel_rfl) (by kernel_rfl),Lt.told2_sound Lt.cOk W⟩
  ·cases hg'; exact ⟨Ld.callable Try.func55 (by kernel_rfl) (by kernel_rfl),qZ9⟩
  ·cases hg'
 ·show Try.prog.follows .mixedOrders = true
  kernel_rfl
 ·obtain ⟨fn',c',h1,_,h3,h4⟩:=all g hg
  have e : fn' = fn:=oiA (h1.symm.trans hf)
  subst e
  have e2 : c' = c:=oiA (h3.symm.trans hc)
  subst e2
  exact h4
theorem is23 : IsF C2 23 75 137440003197 c23 []:=⟨⟨Try.f23,_,C2_P ▸ Try.func23,rfl,rfl,rfl,by kernel_rfl,rfl⟩⟩
theorem is17 : IsF C2 17 34 1105232627 Ld.c17 [.tmp 4,.tmp 5]:=⟨⟨Try.f17,_,C2_P ▸ Try.func17,rfl,rfl,rfl,by kernel_rfl,rfl⟩⟩
theorem is26 : IsF C2 26 80 75594789267607774592507 Ld.c26 [.tmp 4,.tmp 5]:=⟨⟨Try.f26,_,C2_P ▸ Try.func26,rfl,rfl,rfl,by kernel_rfl,rfl⟩⟩
section
variable {args : List PV} {h : AHeap}
theorem ps12 : callP C2 (Lim C2) 12 args h = callP Ld.C (Lim Ld.C) 12 args h:=rfl
theorem ps13 : callP C2 (Lim C2) 13 args h = callP Ld.C (Lim Ld.C) 13 args h:=rfl
theorem ps14 : callP C2 (Lim C2) 14 args h = callP Ld.C (Lim Ld.C) 14 args h:=rfl
theorem ps16 : callP C2 (Lim C2) 16 args h = callP Ld.C (Lim Ld.C) 16 args h:=rfl
theorem ps24 : callP C2 (Lim C2) 24 args h = callP Ld.C (Lim Ld.C) 24 args h:=rfl
theorem ps27 : callP C2 (Lim C2) 27 args h = callP Ld.C (Lim Ld.C) 27 args h:=rfl
theorem ps43 : callP C2 (Lim C2) 43 args h = callP Ld.C (Lim Ld.C) 43 args h:=rfl
theorem ps44 : callP C2 (Lim C2) 44 args h = callP Ld.C (Lim Ld.C) 44 args h:=rfl
theorem ps45 : callP C2 (Lim C2) 45 args h = callP Ld.C (Lim Ld.C) 45 args h:=rfl
theorem ps55 : callP C2 (Lim C2) 55 args h = callP Ld.C (Lim Ld.C) 55 args h:=rfl
end
theorem qkG9 {h : AHeap} {id : Nat} {L : List (ByteArray × Mono)} {x : List Mono} (hx : toldP L = some x) (ho : h[id]? = some (.map (mapP keyS qa9 L))) : ∃ pv t,callP C2 (Lim C2) 46 [.mp id] h = some (pv,h++t)∧OwnE h.length (h++t) pv x:=by
 refine ⟨_,Lt.nestH h.length x,?_,.inr ⟨h,[],Nat.le_refl _,by simp,rfl⟩⟩
 show Lt.primTold2 [.mp id] h = _
 simp only [Lt.primTold2,ho,qkC9,Option.bind_some,hx,Option.map_some]
def addS (G : AHeap) (s0 : List Mono) (s1 : List Mono) (s4 : List Mono) (s6 : Int) (s21 : List Mono) (s22 : Int) : Int × (List (ByteArray × Mono))→AHeap→St:=fun (s23,m7) gt=>⟨[(0,.d (.rd (s0.map qa9))),(1,.d (.rd (s1.map qa9))),(4,.d (.rd (s4.map qa9))),(5,PI 0),(6,PI s6),(7,.mp G.length),(21,.d (.rd (s21.map qa9))),(22,PI s22),(23,PI s23)],(G++(.map (mapP keyS qa9 m7)::gt))⟩
def addX (G : AHeap) (s0 : List Mono) (s1 : List Mono) (s4 : List Mono) (s6 : Int) (s21 : List Mono) (s22 : Int) : (((List Mono) × Int) ⊕ (Int × (List (ByteArray × Mono))))→AExit × St→Prop
 | .inl r,q=>XL C2 [.tmp 4,.tmp 5] (fun vs h=>vs = [.d (.rd (r.1.map qa9)),PI r.2]∧r.1 = []∧∃ t,h = G++t) q
 | .inr (s23,m7),q=>∃ g,q = (.exit 0,addS G s0 s1 s4 s6 s21 s22 (s23,m7) g)
set_option maxHeartbeats 60000000 in
theorem qAl9 {G : AHeap} {s0 : List Mono} {s1 : List Mono} {s4 : List Mono} {s6 : Int} {s21 : List Mono} {s22 : Int} : Sim C2 1105232627 qjD9 (qbX9 s0 s1 s4 s6 s21 s22) (addS G s0 s1 s4 s6 s21 s22) (addX G s0 s1 s4 s6 s21 s22):=by
 intro s g r hr
 obtain ⟨s23,m7⟩:=s
 have ⟨gt,hg0⟩ : ∃ y,y = g:=⟨_,rfl⟩
 subst hg0
 simp only [qbX9] at hr
 rcases iteP hr with ⟨h1,hr⟩ | ⟨h1,hr⟩
 obtain ⟨x3,h2,x4,h3,hr⟩:=bs2 hr
 obtain ⟨z5,h3k⟩:=qeY9 (g1:=G) (g2:=(gt++(.row false 0 2 [[.d (.rd (x3.Coef.map qb9)),.d (.rd (x3.Exps.map intD))]]::[]))) h3
 replace h3k:=qfL9 rfl rfl rfl h3k
 try simp only [go_sem] at h3k
 rcases iteB hr with ⟨h4,hr⟩ | ⟨h4,hr⟩
 obtain rfl:=oiA hr
 refine ⟨(gt++(.row false 0 2 [[.d (.rd (x3.Coef.map qb9)),.d (.rd (x3.Exps.map intD))]]::z5)),?_⟩
 rotate_left
 obtain rfl:=oiA hr
 refine xl_of (vs:=[.d (.rd []),PI 2]) (hp:=(G++(.map (mapP keyS qa9 x4.2)::(gt++(.row false 0 2 [[.d (.rd (x3.Coef.map qb9)),.d (.rd (x3.Exps.map intD))]]::z5))))) ⟨rfl,rfl,_,rfl⟩ ?_
 rotate_left
 obtain rfl:=oiA hr
 refine xe_of ⟨gt,rfl⟩ ?_
 rotate_left
 all_goals (simp +decide only [go_sem,decide_not,addS,qjD9,ps45, *])
set_option maxHeartbeats 60000000 in
theorem qxF9 {a0 : List Mono} {a1 : List Mono} {r : (List Mono) × Int} (hr : qbA9 a0 a1 = some r) (G : AHeap) : ∃ pv t,Lim C2 17 [.d (.rd (a0.map qa9)),.d (.rd (a1.map qa9))] G = some (resOf [pv,PI r.2],G++t)∧OwnE G.length (G++t) pv r.1:=by
 simp only [qbA9] at hr
 obtain ⟨x1,h1,hr⟩:=bsome hr
 have h1k:=fun h=>(qbu9 h1).o rfl rfl rfl (h:=h) (args:=[.im true [[.d (.rd (a0.map qa9))],[.d (.rd (a1.map qa9))]]]) rfl
 try simp only [go_sem] at h1k
 rcases iteP hr with ⟨h2,hr⟩ | ⟨h2,hr⟩
 obtain ⟨x2,h3,hr⟩:=bsome hr
 have h3k:=fun h=>(qcF9 h3).o rfl rfl rfl (h:=h) (args:=[.im true [[.d (.rd (a0.map qa9))],[.d (.rd (a1.map qa9))]]]) rfl
 try simp only [go_sem] at h3k
 obtain ⟨x6,h4,hr⟩:=bsome hr
 obtain ⟨q4,h4L,h4X⟩:=(qAl9 (G:=G)).L (g:=[]) h4
 rcases x6 with x7 | ⟨x8,x9⟩
 try dsimp only at hr
 obtain ⟨st4,vs4,hp4,rfl,h4R,hv,hnil,tt,rfl⟩:=h4X
 simp only [addS,go_sem] at h4L
 obtain rfl:=oiA hr
 rw [hnil] at hv
 subst hv
 refine ⟨.d (.rd []),tt,run_L is17 (nbA rfl) ?_,.inl ⟨rfl,hnil⟩⟩
 rotate_left
 try dsimp only at hr
 obtain ⟨z10,rfl⟩:=h4X
 simp only [addS,go_sem] at h4L
 obtain ⟨x11,h5,hr⟩:=bsome hr
 obtain ⟨pv,t5,h5k,hown⟩:=qkG9 (h:=G++(.map (mapP keyS qa9 x9)::z10)) (id:=G.length) h5 (by rw [List.getElem?_append_right (Nat.le_refl _),Nat.sub_self]; rfl)
 obtain rfl:=oiA hr
 have hown' : OwnE G.length (G++(.map (mapP keyS qa9 x9)::(z10++t5))) pv x11:=by
  have hm:=hown.mono (M:=G.length) (by simp)
  simpa using hm
 refine ⟨pv,.map (mapP keyS qa9 x9)::(z10++t5),run_L is17 (nbA rfl) ?_,hown'⟩
 rotate_left
 obtain rfl:=oiA hr
 refine ⟨.d (.rd []),[],run_L is17 (nbA rfl) ?_,.inl ⟨rfl,rfl⟩⟩
 rotate_left
 all_goals (simp +decide only [go_sem,decide_not,Ld.c17,ps43,ps44, *])
end Le.K
namespace Le.K
open Le Ld Go Go.Proofs Go.Abs
set_option maxRecDepth 8000
def cmpS2 (G : AHeap) (pv : PV) (s0 : List Mono) (s1 : List (List Mono)) (s4 : List Mono) (s6 : Int) (s7 : Int) (s8 : List Mono) (s13 : Int) (s14 : Int) (s31 : List Mono) (s32 : Int) (s33 : Int) (s45 : List Int) (s46 : Int) (s47 : Int) (s52 : Int) (b3_0 : List (List Mono)) (b10_0 : List Int) (b10_1 : List Int) (g1 : AHeap) : (List Mono) × Int × Int→Unit→St:=fun (s11,s12,s53) _=>⟨[(0,.d (.rd (s0.map qa9))),(1,.d (.rd (s1.map (lsD qa9)))),(3,.ptr G.length 0 0 0),(4,.d (.rd (s4.map qa9))),(5,PI 0),(6,PI s6),(7,PI s7),(8,pv),(10,.ptr (G.length + g1.length + 1) 0 0 0),(11,.d (.rd (s11.map qa9))),(12,PI s12),(13,PI s13),(14,PI s14),(31,.d (.rd (s31.map qa9))),(32,PI s32),(33,PI s33),(45,.d (.rd (s45.map intD))),(46,PI s46),(47,PI s47),(52,PI s52),(53,PI s53)],(G++(.row false 0 1 [[.d (.rd (b3_0.map (lsD qa9)))]]::(g1++(.row false 0 2 [[.d (.rd (b10_0.map qb9)),.d (.rd (b10_1.map intD))]]::[]))))⟩
def cmpX2 (G : AHeap) (pv : PV) (s0 : List Mono) (s1 : List (List Mono)) (s4 : List Mono) (s6 : Int) (s7 : Int) (s8 : List Mono) (s13 : Int) (s14 : Int) (s31 : List Mono) (s32 : Int) (s33 : Int) (s45 : List Int) (s46 : Int) (s47 : Int) (s52 : Int) (b3_0 : List (List Mono)) (b10_0 : List Int) (b10_1 : List Int) (g1 : AHeap) : (((List Mono) × Int) ⊕ ((List Mono) × Int))→AExit × St→Prop
 | .inl r,q=>XL C2 [.tmp 4,.tmp 5] (fun vs _=>vs = [.d (.rd (r.1.map qa9)),PI r.2]∧r.1 = []) q
 | .inr (s11,s12),q=>∃ d13 : PV,∃ d14 : PV,∃ d52 : PV,∃ d53 : PV,q = (.exit 4,⟨[(0,.d (.rd (s0.map qa9))),(1,.d (.rd (s1.map (lsD qa9)))),(3,.ptr G.length 0 0 0),(4,.d (.rd (s4.map qa9))),(5,PI 0),(6,PI s6),(7,PI s7),(8,pv),(10,.ptr (G.length + g1.length + 1) 0 0 0),(11,.d (.rd (s11.map qa9))),(12,PI s12),(13,d13),(14,d14),(31,.d (.rd (s31.map qa9))),(32,PI s32),(33,PI s33),(45,.d (.rd (s45.map intD))),(46,PI s46),(47,PI s47),(52,d52),(53,d53)],(G++(.row false 0 1 [[.d (.rd (b3_0.map (lsD qa9)))]]::(g1++(.row false 0 2 [[.d (.rd (b10_0.map qb9)),.d (.rd (b10_1.map intD))]]::[]))))⟩)
set_option maxHeartbeats 60000000 in
theorem qzo9 {G : AHeap} {pv : PV} {s0 : List Mono} {s1 : List (List Mono)} {s4 : List Mono} {s6 : Int} {s7 : Int} {s8 : List Mono} {s13 : Int} {s14 : Int} {s31 : List Mono} {s32 : Int} {s33 : Int} {s45 : List Int} {s46 : Int} {s47 : Int} {s52 : Int} {b3_0 : List (List Mono)} {b10_0 : List Int} {b10_1 : List Int} {g1 : AHeap} : Sim C2 75594789267607774592507 qju9 (qbn9 s0 s1 s4 s6 s7 s8 s13 s14 s31 s32 s33 s45 s46 s47 s52 b3_0 b10_0 b10_1) (cmpS2 G pv s0 s1 s4 s6 s7 s8 s13 s14 s31 s32 s33 s45 s46 s47 s52 b3_0 b10_0 b10_1 g1) (cmpX2 G pv s0 s1 s4 s6 s7 s8 s13 s14 s31 s32 s33 s45 s46 s47 s52 b3_0 b10_0 b10_1 g1):=by
 intro s g r hr
 obtain ⟨s11,s12,s53⟩:=s
 simp only [qbn9] at hr
 rcases iteP hr with ⟨h1,hr⟩ | ⟨h1,hr⟩
 obtain ⟨x7,h2,x8,h3,hr⟩:=bs2 hr
 have h3k:=(qiJ9 h3).k rfl rfl rfl
 try simp only [go_sem] at h3k
 rcases iteP hr with ⟨h4,hr⟩ | ⟨h4,hr⟩
 obtain rfl:=oiA hr
 refine ⟨(),?_⟩
 rotate_left
 obtain rfl:=oiA hr
 refine xl_of (vs:=[.d (.rd []),PI x8.2]) (hp:=(G++(.row false 0 1 [[.d (.rd (b3_0.map (lsD qa9)))]]::(g1++(.row false 0 2 [[.d (.rd (b10_0.map qb9)),.d (.rd (b10_1.map intD))]]::[]))))) ⟨rfl,rfl⟩ ?_
 rotate_left
 obtain rfl:=oiA hr
 refine xe_of ⟨PI s13,PI s14,PI s52,PI s53,rfl⟩ ?_
 rotate_left
 all_goals (simp +decide only [go_sem,decide_not,cmpS2,qju9,ps24, *])
def cmpS1 (G : AHeap) (pv : PV) (s0 : List Mono) (s1 : List (List Mono)) (s4 : List Mono) (s6 : Int) (s7 : Int) (s8 : List Mono) (s31 : List Mono) (s32 : Int) (s33 : Int) (s45 : List Int) (s46 : Int) (b3_0 : List (List Mono)) (b10_0 : List Int) (b10_1 : List Int) (g1 : AHeap) : (List Mono) × Int × Int→Unit→St:=fun (s11,s12,s47) _=>⟨[(0,.d (.rd (s0.map qa9))),(1,.d (.rd (s1.map (lsD qa9)))),(3,.ptr G.length 0 0 0),(4,.d (.rd (s4.map qa9))),(5,PI 0),(6,PI s6),(7,PI s7),(8,pv),(10,.ptr (G.length + g1.length + 1) 0 0 0),(11,.d (.rd (s11.map qa9))),(12,PI s12),(31,.d (.rd (s31.map qa9))),(32,PI s32),(33,PI s33),(45,.d (.rd (s45.map intD))),(46,PI s46),(47,PI s47)],(G++(.row false 0 1 [[.d (.rd (b3_0.map (lsD qa9)))]]::(g1++(.row false 0 2 [[.d (.rd (b10_0.map qb9)),.d (.rd (b10_1.map intD))]]::[]))))⟩
def cmpX1 (G : AHeap) (pv : PV) (s0 : List Mono) (s1 : List (List Mono)) (s4 : List Mono) (s6 : Int) (s7 : Int) (s8 : List Mono) (s31 : List Mono) (s32 : Int) (s33 : Int) (s45 : List Int) (s46 : Int) (b3_0 : List (List Mono)) (b10_0 : List Int) (b10_1 : List Int) (g1 : AHeap) : (((List Mono) × Int) ⊕ ((List Mono) × Int))→AExit × St→Prop
 | .inl r,q=>XL C2 [.tmp 4,.tmp 5] (fun vs _=>vs = [.d (.rd (r.1.map qa9)),PI r.2]∧r.1 = []) q
 | .inr (s11,s12),q=>∃ d10 : PV,∃ d45 : PV,∃ d46 : PV,∃ d47 : PV,q = (.exit 2,⟨[(0,.d (.rd (s0.map qa9))),(1,.d (.rd (s1.map (lsD qa9)))),(3,.ptr G.length 0 0 0),(4,.d (.rd (s4.map qa9))),(5,PI 0),(6,PI s6),(7,PI s7),(8,pv),(10,d10),(11,.d (.rd (s11.map qa9))),(12,PI s12),(31,.d (.rd (s31.map qa9))),(32,PI s32),(33,PI s33),(45,d45),(46,d46),(47,d47)],(G++(.row false 0 1 [[.d (.rd (b3_0.map (lsD qa9)))]]::(g1++(.row false 0 2 [[.d (.rd (b10_0.map qb9)),.d (.rd (b10_1.map intD))]]::[]))))⟩)
set_option maxHeartbeats 60000000 in
theorem qAm9 {G : AHeap} {pv : PV} {s0 : List Mono} {s1 : List (List Mono)} {s4 : List Mono} {s6 : Int} {s7 : Int} {s8 : List Mono} {s31 : List Mono} {s32 : Int} {s33 : Int} {s45 : List Int} {s46 : Int} {b3_0 : List (List Mono)} {b10_0 : List Int} {b10_1 : List Int} {g1 : AHeap} : Sim C2 75594789267607774592507 qiT9 (qbm9 s0 s1 s4 s6 s7 s8 s31 s32 s33 s45 s46 b3_0 b10_0 b10_1) (cmpS1 G pv s0 s1 s4 s6 s7 s8 s31 s32 s33 s45 s46 b3_0 b10_0 b10_1 g1) (cmpX1 G pv s0 s1 s4 s6 s7 s8 s31 s32 s33 s45 s46 b3_0 b10_0 b10_1 g1):=by
 intro s g r hr
 obtain ⟨s11,s12,s47⟩:=s
 simp only [qbm9] at hr
 rcases iteP hr with ⟨h1,hr⟩ | ⟨h1,hr⟩
 obtain ⟨x6,h2,hr⟩:=bsome hr
 obtain ⟨x9,h3,hr⟩:=bsome hr
 obtain ⟨q3,h3L,h3X⟩:=(qzo9 (G:=G) (pv:=pv) (g1:=g1)).L (g:=()) h3
 rcases x9 with x10 | ⟨x11,x12⟩
 try dsimp only at hr
 obtain ⟨st3,vs3,hp3,rfl,h3R,hv,hnil⟩:=h3X
 simp only [cmpS2,go_sem] at h3L
 obtain rfl:=oiA hr
 rw [hnil] at hv
 subst hv
 refine xl_of (vs:=[.d (.rd []),PI x10.2]) (hp:=hp3) ⟨by rw [hnil]; rfl,hnil⟩ ?_
 rotate_left
 try dsimp only at hr
 obtain ⟨z13,z14,z15,z16,rfl⟩:=h3X
 simp only [cmpS2,go_sem] at h3L
 obtain rfl:=oiA hr
 refine ⟨(),?_⟩
 rotate_left
 obtain rfl:=oiA hr
 refine xe_of ⟨.ptr (G.length + g1.length + 1) 0 0 0,.d (.rd (s45.map intD)),PI s46,PI s47,rfl⟩ ?_
 rotate_left
 all_goals (simp +decide only [go_sem,decide_not,cmpS1,qiT9, *])
def cmpS0 (G : AHeap) (s0 : List Mono) (s1 : List (List Mono)) (s4 : List Mono) (s6 : Int) (s7 : Int) (s31 : List Mono) (s32 : Int) (b3_0 : List (List Mono)) : (List Mono) × Int→PV × AHeap→St:=fun (s8,s33) (pv,gt)=>⟨[(0,.d (.rd (s0.map qa9))),(1,.d (.rd (s1.map (lsD qa9)))),(3,.ptr G.length 0 0 0),(4,.d (.rd (s4.map qa9))),(5,PI 0),(6,PI s6),(7,PI s7),(8,pv),(31,.d (.rd (s31.map qa9))),(32,PI s32),(33,PI s33)],(G++(.row false 0 1 [[.d (.rd (b3_0.map (lsD qa9)))]]::gt))⟩
def cmpI0 (G : AHeap) (b3_0 : List (List Mono)) : (List Mono) × Int→PV × AHeap→Prop:=fun (s8,s33) (pv,gt)=>OwnE (G.length + 1) (G++(.row false 0 1 [[.d (.rd (b3_0.map (lsD qa9)))]]::gt)) pv s8
def cmpX0 (G : AHeap) (s0 : List Mono) (s1 : List (List Mono)) (s4 : List Mono) (s6 : Int) (s7 : Int) (s31 : List Mono) (s32 : Int) (b3_0 : List (List Mono)) : (((List Mono) × Int) ⊕ ((List Mono) × Int))→AExit × St→Prop
 | .inl r,q=>XL C2 [.tmp 4,.tmp 5] (fun vs _=>vs = [.d (.rd (r.1.map qa9)),PI r.2]∧r.1 = []) q
 | .inr (s8,s33),q=>∃ pv gt,q = (.exit 0,cmpS0 G s0 s1 s4 s6 s7 s31 s32 b3_0 (s8,s33) (pv,gt))∧OwnE (G.length + 1) (G++(.row false 0 1 [[.d (.rd (b3_0.map (lsD qa9)))]]::gt)) pv s8
theorem qvP9 {G u : AHeap} {box : AObj} {pv : PV} {s8 y : List Mono} {r : List Mono × Int} (hr : qbA9 s8 y = some r) (hI : OwnE (G.length + 1) (G++(box::u)) pv s8) : ∃ pv' t',callP C2 (Lim C2) 17 [pv,.d (.rd (y.map qa9))] (G++(box::u)) = some (.tp [pv',PI r.2],G++(box::t'))∧OwnE (G.length + 1) (G++(box::t')) pv' r.1:=by
 have e : ∀ v : AHeap,G++(box::v) = (G++[box])++v:=fun v=>by simp
 have ha : mapO (rs (G++(box::u)) depth) [pv,.d (.rd (y.map qa9))] = some [.rd (s8.map qa9),.rd (y.map qa9)]:=by
  simp only [mapO,hI.rs]; rfl
 obtain ⟨u',hf⟩:=qrP9 (A:=G++[box]) ([pv,.d (.rd (y.map qa9))].flatMap (reach (G++(box::u)) depth)) u (fun i hi=>by
  obtain ⟨z,hz,hi2⟩:=List.mem_flatMap.1 hi
  rcases List.mem_cons.1 hz with hz | hz
  ·rw [hz] at hi2; have:=hI.reach i hi2; simp; omega
  ·rw [List.mem_singleton.1 hz] at hi2; cases hi2)
 rw [← e] at hf
 obtain ⟨pv',t,h1,h2⟩:=qxF9 hr ((G++[box])++u')
 refine ⟨pv',u'++t,?_,?_⟩
 ·rw [e (u'++t),← List.append_assoc]
  exact qjm9 (C:=C2) (g:=17) rfl rfl rfl ha hf h1
 ·rw [e (u'++t),← List.append_assoc]
  exact h2.mono (by simp)
set_option maxHeartbeats 60000000 in
theorem qzW9 {G : AHeap} {s0 : List Mono} {s1 : List (List Mono)} {s4 : List Mono} {s6 : Int} {s7 : Int} {s31 : List Mono} {s32 : Int} {b3_0 : List (List Mono)} : SimG C2 75594789267607774592507 qjf9 (cmpI0 G b3_0) (qW9 s0 s1 s4 s6 s7 s31 s32 b3_0) (cmpS0 G s0 s1 s4 s6 s7 s31 s32 b3_0) (cmpX0 G s0 s1 s4 s6 s7 s31 s32 b3_0):=by
 intro s g r hI hr
 obtain ⟨s8,s33⟩:=s
 obtain ⟨pv,gt⟩:=g
 simp only [cmpI0] at hI
 simp only [qW9] at hr
 rcases iteP hr with ⟨h1,hr⟩ | ⟨h1,hr⟩
 obtain ⟨x4,h2,x5,h3,hr⟩:=bs2 hr
 have h3k:=fun h args=>(qcN9 h3).o rfl rfl rfl (h:=h) (args:=args)
 try simp only [go_sem] at h3k
 have hI' : OwnE (G.length + 1) (G++(.row false 0 1 [[.d (.rd (b3_0.map (lsD qa9)))]]::(gt++(.row false 0 2 [[.d (.rd (x4.Coef.map qb9)),.d (.rd (x4.Exps.map intD))]]::[])))) pv s8:=by
  have:=hI.app [.row false 0 2 [[.d (.rd (x4.Coef.map qb9)),.d (.rd (x4.Exps.map intD))]]]
  simpa using this
 have hI2 : cmpI0 G b3_0 (s8,w64 (s33 + 1)) (pv,gt++(.row false 0 2 [[.d (.rd (x4.Coef.map qb9)),.d (.rd (x4.Exps.map intD))]]::[])):=hI'
 rcases iteB hr with ⟨h4,hr⟩ | ⟨h4,hr⟩
 obtain rfl:=oiA hr
 refine ⟨(pv,gt++(.row false 0 2 [[.d (.rd (x4.Coef.map qb9)),.d (.rd (x4.Exps.map intD))]]::[])),?_,hI2⟩
 rotate_left
 obtain ⟨x17,h5,hr⟩:=bsome hr
 obtain ⟨q5,h5L,h5X⟩:=(qAm9 (G:=G) (pv:=pv) (g1:=gt)).L (g:=()) h5
 rcases x17 with x18 | ⟨x19,x20⟩
 try dsimp only at hr
 obtain ⟨st5,vs5,hp5,rfl,h5R,hv,hnil⟩:=h5X
 simp only [cmpS1,go_sem] at h5L
 obtain rfl:=oiA hr
 rw [hnil] at hv
 subst hv
 refine xl_of (vs:=[.d (.rd []),PI x18.2]) (hp:=hp5) ⟨by rw [hnil]; rfl,hnil⟩ ?_
 rotate_left
 try dsimp only at hr
 obtain ⟨z21,z22,z23,z24,rfl⟩:=h5X
 simp only [cmpS1,go_sem] at h5L
 obtain ⟨x25,h6,hr⟩:=bsome hr
 obtain ⟨pv',t',h6k,hown⟩:=qvP9 h6 hI'
 try simp only [go_sem] at h6k
 rcases iteP hr with ⟨h7,hr⟩ | ⟨h7,hr⟩
 obtain rfl:=oiA hr
 have hown2 : cmpI0 G b3_0 (x25.1,w64 (s33 + 1)) (pv',t'):=hown
 refine ⟨(pv',t'),?_,hown2⟩
 rotate_left
 obtain rfl:=oiA hr
 refine xl_of (vs:=[.d (.rd []),PI x25.2]) (hp:=G++(.row false 0 1 [[.d (.rd (b3_0.map (lsD qa9)))]]::t')) ⟨rfl,rfl⟩ ?_
 rotate_left
 obtain rfl:=oiA hr
 refine xe_of ⟨pv,gt,rfl,hI⟩ ?_
 rotate_left
 all_goals (simp +decide only [go_sem,decide_not,cmpS0,qjf9,ps55, *])
set_option maxHeartbeats 60000000 in
theorem qqG9 {a0 : List Mono} {a1 : List (List Mono)} {r : (List Mono) × Int} (hr : qz9 a0 a1 = some r) (G : AHeap) : ∃ pv H,Lim C2 26 [.d (.rd (a0.map qa9)),.d (.rd (a1.map (lsD qa9)))] G = some (resOf [pv,PI r.2],H)∧OwnE 0 H pv r.1:=by
 simp only [qz9] at hr
 obtain ⟨x1,h1,hr⟩:=bsome hr
 have h1k:=fun h=>(qbu9 h1).o rfl rfl rfl (h:=h) (args:=[.im true [[.d (.rd (a0.map qa9))]]]) rfl
 try simp only [go_sem] at h1k
 rcases iteP hr with ⟨h2,hr⟩ | ⟨h2,hr⟩
 obtain ⟨x2,h3,hr⟩:=bsome hr
 have h3k:=(qbu9 h3).k rfl rfl rfl
 try simp only [go_sem] at h3k
 rcases iteP hr with ⟨h4,hr⟩ | ⟨h4,hr⟩
 obtain ⟨x3,h5,hr⟩:=bsome hr
 have h5k:=(qda9 h5).k rfl rfl rfl
 try simp only [go_sem] at h5k
 rcases iteP hr with ⟨h6,hr⟩ | ⟨h6,hr⟩
 obtain ⟨x26,h7,hr⟩:=bsome hr
 obtain ⟨q7,h7L,h7X⟩:=(qzW9 (G:=G)).L (g:=(.d (.rd []),[])) h7 (.inl ⟨rfl,rfl⟩)
 rcases x26 with x27 | ⟨x28,x29⟩
 try dsimp only at hr
 obtain ⟨st7,vs7,hp7,rfl,h7R,hv,hnil⟩:=h7X
 simp only [cmpS0,go_sem] at h7L
 obtain rfl:=oiA hr
 rw [hnil] at hv
 subst hv
 refine ⟨.d (.rd []),hp7,run_L is26 (nbA rfl) ?_,.inl ⟨rfl,hnil⟩⟩
 rotate_left
 try dsimp only at hr
 obtain ⟨pv,gt,rfl,hown⟩:=h7X
 simp only [cmpS0,go_sem] at h7L
 obtain rfl:=oiA hr
 refine ⟨pv,_,run_L is26 (nbA rfl) ?_,hown.mono (Nat.zero_le _)⟩
 rotate_left
 obtain rfl:=oiA hr
 refine ⟨.d (.rd []),G++[.row false 0 1 [[.d (.rd (a1.map (lsD qa9)))]]],run_L is26 (nbA rfl) ?_,.inl ⟨rfl,rfl⟩⟩
 rotate_left
 obtain rfl:=oiA hr
 refine ⟨.d (.rd []),G++[.row false 0 1 [[.d (.rd (a1.map (lsD qa9)))]]],run_L is26 (nbA rfl) ?_,.inl ⟨rfl,rfl⟩⟩
 rotate_left
 obtain rfl:=oiA hr
 refine ⟨.d (.rd []),G++[.row false 0 1 [[.d (.rd (a1.map (lsD qa9)))]]],run_L is26 (nbA rfl) ?_,.inl ⟨rfl,rfl⟩⟩
 rotate_left
 all_goals (simp +decide only [go_sem,decide_not,Ld.c26,ps14,ps43, *])
end Le.K
namespace Ld.Law
open Go Go.Abs
theorem qtS9 {a0 : List Mono} {args : List (List Mono)} {s4 : List Mono} (hl : args.length≤1048576) (ta : ∀ q∈args,PolyT q) : ∃ e,qO9 args = some e∧wh (qbD9 a0 args s4) (0,0) = some (if e = 0 then .inr (0,(args.length : Int)) else .inl ([],e))∧(e = 0↔∀ q∈args,PolyV q):=by
 have key : ∀ (n i : Nat),i + n = args.length→∃ e,(wh (qq9 args args (args.length : Int)) (i : Int) = some (if e = 0 then .inr (args.length : Int) else .inl e))∧wh (qbD9 a0 args s4) (0,(i : Int)) = some (if e = 0 then .inr (0,(args.length : Int)) else .inl ([],e)):=by
  intro n
  induction n with
  | zero =>
   intro i hi
   obtain rfl : i = args.length:=by omega
   refine ⟨0,?_,?_⟩
   ·exact qe9 (by simp only [qq9]; rw [if_neg (by omega)]; rfl)
   ·exact qe9 (by simp only [qbD9]; rw [if_neg (by omega)]; rfl)
  | succ n ih =>
   intro i hi
   have hx : args[i]? = some (args[i]'(by omega)):=List.getElem?_eq_getElem _
   generalize args[i]'(by omega) = p at hx
   have hp:=List.mem_of_getElem? hx
   by_cases c : chkC p 4611686018427387904 = 0
   ·obtain ⟨e,h1,h2⟩:=ih (i + 1) (by omega)
    refine ⟨e,?_,?_⟩
    ·rw [qf9 (s':=((i + 1 : Nat) : Int)) (by simp only [qq9]; rw [if_pos (by omega),qc9 hx,Option.bind_some,qdn9 (ta p hp),Option.bind_some,if_pos c,qg9 (by omega)])]
     exact h1
    ·rw [qf9 (s':=(0,((i + 1 : Nat) : Int))) (by simp only [qbD9]; rw [if_pos (by omega),qc9 hx,Option.bind_some,qF9 (ta p hp),Option.bind_some,if_pos c,qg9 (by omega),c])]
     exact h2
   ·refine ⟨chkC p 4611686018427387904,?_,?_⟩
    ·rw [if_neg c]
     exact qe9 (by simp only [qq9]; rw [if_pos (by omega),qc9 hx,Option.bind_some,qdn9 (ta p hp),Option.bind_some,if_neg c])
    ·rw [if_neg c]
     exact qe9 (by simp only [qbD9]; rw [if_pos (by omega),qc9 hx,Option.bind_some,qF9 (ta p hp),Option.bind_some,if_neg c])
 obtain ⟨e,h1,h2⟩:=key args.length 0 (by omega)
 obtain ⟨e',h3,h4⟩:=qdj9 hl ta
 have h1' : wh (qq9 args args (args.length : Int)) 0 = _:=h1
 have hr : qO9 args = some e:=by
  unfold qO9
  rw [h1',Option.bind_some]
  by_cases c : e = 0
  ·rw [if_pos c,c]
  ·rw [if_neg c]
 refine ⟨e,hr,h2,?_⟩
 rw [hr] at h3
 rw [oiA h3]
 exact h4
theorem nought2 {p : List Mono} {args : List (List Mono)} {s4 s8 : List Mono} {s6 s7 : Int} {i : Nat} {m : Mono} (hx : p[i]? = some m) (hl : m.Exps.length≤args.length) (he : m.Exps.length≤512) (hn : ∀ n∈m.Exps,0≤n) : wh (qcn9 p args s4 s6 s7 s8 (i : Int)) (false,0) = some (nought (fun i=>(args.getD i []).isEmpty) m.Exps):=by
 have:=wh_up (step:=qcn9 p args s4 s6 s7 s8 (i : Int)) (fun j=>((List.range j).any fun k=>decide (0 < exAt m.Exps k) && (args.getD k []).isEmpty,(j : Int))) (n:=m.Exps.length) (r:=nought (fun i=>(args.getD i []).isEmpty) m.Exps) (fun j hj=>?_) ?_ m.Exps.length 0 (by omega)
 ·simpa using this
 ·have hN : m.Exps[j]? = some (m.Exps[j]'hj):=List.getElem?_eq_getElem _
  have hq : args[j]? = some (args[j]'(by omega)):=List.getElem?_eq_getElem _
  have e1:=qbw9 hN
  have e2 : args.getD j [] = args[j]'(by omega):=by rw [List.getD_eq_getElem?_getD,hq]; rfl
  simp only [qcn9]
  rw [qc9 hx,Option.bind_some,if_pos (by omega),qg9 (by omega),List.range_succ,List.any_append]
  simp only [List.any_cons,List.any_nil,Bool.or_false,e1,e2]
  generalize ((List.range j).any fun k=>decide (0 < exAt m.Exps k) && (args.getD k []).isEmpty) = b
  cases b with
  | true=>rw [if_pos rfl,Bool.true_or]
  | false =>
   rw [if_neg (by decide),qc9 hN,Option.bind_some,Bool.false_or]
   by_cases c : 0 < m.Exps[j]'hj
   ·rw [if_pos c,qc9 hq,Option.bind_some,decide_eq_true c,Bool.true_and]
    congr 3
    rw [Bool.eq_iff_iff]
    simp
   ·rw [if_neg c,decide_eq_false c,Bool.false_and]
 ·simp only [qcn9]
  rw [qc9 hx,Option.bind_some,if_neg (by omega)]
  rfl
theorem pow2 {p : List Mono} {args : List (List Mono)} {s4 s8 : List Mono} {s7 : Int} {s10 : Bool} {i k : Nat} {m : Mono} {q : List Mono} {N : Int} (hm : p[i]? = some m) (hk : m.Exps[k]? = some N) (hq : args[k]? = some q) (vq : PolyV q) (tq : PolyT q) (hN : N≤64) : ∀ (n j : Nat) (X : List (Nat × Ex)),j + n = N.toNat→PolyOK X→InB X→∃ r,wh (qbS9 p args s4 s7 s8 (i : Int) s10 (k : Int)) (0,fromP X,(j : Int)) = some r∧(match powO (q.map toM) n X with | none=>r = .inl ([],2) | some R=>r = .inr (0,fromP R)):=by
 intro n
 induction n with
 | zero =>
  intro j X hj hX hb
  exact ⟨_,qe9 (r:=.inr (0,fromP X)) (by simp only [qbS9]; rw [qc9 hm,Option.bind_some,qc9 hk,Option.bind_some,if_neg (by omega)]),by simp only [powO]⟩
 | succ n ih =>
  intro j X hj hX hb
  have hmu:=qiW9 hX hb vq tq
  rw [← qoG9 (qcb9 hX hb).2 tq] at hmu
  unfold powO
  by_cases c : InB (mulP X (q.map toM))
  ·rw [if_pos c] at hmu ⊢
   rw [qf9 (s':=(0,fromP (mulP X (q.map toM)),((j + 1 : Nat) : Int))) (by simp only [qbS9]; rw [qc9 hm,Option.bind_some,qc9 hk,Option.bind_some,if_pos (by omega),qc9 hq,Option.bind_some,hmu,Option.bind_some,qg9 (by omega)]; rfl)]
   exact ih (j + 1) _ (by omega) (qgv9 hX vq.ok) c
  ·rw [if_neg c] at hmu ⊢
   exact ⟨_,qe9 (r:=.inl ([],2)) (by simp only [qbS9]; rw [qc9 hm,Option.bind_some,qc9 hk,Option.bind_some,if_pos (by omega),qc9 hq,Option.bind_some,hmu,Option.bind_some]; rfl),rfl⟩
theorem mon2 {p : List Mono} {args : List (List Mono)} {s4 s8 : List Mono} {s7 : Int} {s10 : Bool} {i : Nat} {m : Mono} (hm : p[i]? = some m) (ha : ∀ q∈args,PolyV q∧PolyT q) (hel : m.Exps.length≤args.length) (he : ∀ n∈m.Exps,0≤n∧n≤64) (hl : m.Exps.length≤512) : ∀ (n k : Nat) (X : List (Nat × Ex)),k + n = m.Exps.length→PolyOK X→InB X→∃ r,wh (qbV9 p args s4 s7 s8 (i : Int) s10) (0,fromP X,(k : Int)) = some r∧(match monO (argP args) k (m.Exps.drop k) X with | none=>r = .inl ([],2) | some R=>r = .inr (0,fromP R)):=by
 intro n
 induction n with
 | zero =>
  intro k X hk hX hb
  obtain rfl : k = m.Exps.length:=by omega
  rw [List.drop_length]
  exact ⟨_,qe9 (r:=.inr (0,fromP X)) (by simp only [qbV9]; rw [qc9 hm,Option.bind_some,if_neg (by omega)]),by simp only [monO]⟩
 | succ n ih =>
  intro k X hk hX hb
  have hx : m.Exps[k]? = some (m.Exps[k]'(by omega)):=List.getElem?_eq_getElem _
  have hd : m.Exps.drop k = m.Exps[k]'(by omega)::m.Exps.drop (k + 1):=List.drop_eq_getElem_cons (by omega)
  generalize m.Exps[k]'(by omega) = N at hx hd
  have hN:=he N (List.mem_of_getElem? hx)
  have hq : args[k]? = some (args[k]'(by omega)):=List.getElem?_eq_getElem _
  generalize args[k]'(by omega) = q at hq
  obtain ⟨vq,tq⟩:=ha q (List.mem_of_getElem? hq)
  obtain ⟨r1,k1,k2⟩:=pow2 (s4:=s4) (s7:=s7) (s8:=s8) (s10:=s10) hm hx hq vq tq hN.2 N.toNat 0 X (by omega) hX hb
  have k1' : wh (qbS9 p args s4 s7 s8 (i : Int) s10 (k : Int)) (0,fromP X,0) = some r1:=k1
  rw [hd,monO,qrv9 hq]
  cases hp : powO (q.map toM) N.toNat X with
  | none =>
   rw [hp] at k2
   subst k2
   exact ⟨_,qe9 (r:=.inl ([],2)) (by simp only [qbV9]; rw [qc9 hm,Option.bind_some,if_pos (by omega),k1',Option.bind_some]),by rw [Option.bind_none]⟩
  | some R =>
   rw [hp] at k2
   subst k2
   obtain ⟨_,h3,h4⟩:=qiU9 vq.ok _ _ _ hX hb hp
   rw [Option.bind_some,qf9 (s':=(0,fromP R,((k + 1 : Nat) : Int))) (by simp only [qbV9]; rw [qc9 hm,Option.bind_some,if_pos (by omega),k1',Option.bind_some,qg9 (by omega)])]
   exact ih (k + 1) R (by omega) h3 h4
theorem comp2 {p : List Mono} {args : List (List Mono)} {s4 : List Mono} {s7 : Int} (vp : PolyV p) (tp : PolyT p) (hel : ∀ m∈p,m.Exps.length≤args.length) (ha : ∀ q∈args,PolyV q∧PolyT q) : ∀ (n i : Nat) (S : List (Nat × Ex)),i + n = p.length→PolyOK S→InB S→∃ r,wh (qbq9 p args s4 s7) (0,fromP S,(i : Int)) = some r∧(match compO (argP args) S ((p.drop i).map toM) with | none=>r = .inl ([],2) | some R=>∃ z y,r = .inr (y,fromP R,z)):=by
 have hlen:=vp.len
 intro n
 induction n with
 | zero =>
  intro i S hi hS hb
  obtain rfl : i = p.length:=by omega
  rw [List.drop_length]
  exact ⟨_,qe9 (r:=.inr (0,fromP S,(p.length : Int))) (by simp only [qbq9]; rw [if_neg (by omega)]),by simp only [List.map_nil,compO]; exact ⟨_,_,rfl⟩⟩
 | succ n ih =>
  intro i S hi hS hb
  have hx : p[i]? = some (p[i]'(by omega)):=List.getElem?_eq_getElem _
  have hd : p.drop i = p[i]'(by omega)::p.drop (i + 1):=List.drop_eq_getElem_cons (by omega)
  generalize p[i]'(by omega) = m at hx hd
  have hm:=List.mem_of_getElem? hx
  obtain ⟨he,hl⟩:=qmu9 vp m hm
  have hno:=nought2 (s4:=s4) (s8:=fromP S) (s6:=0) (s7:=s7) hx (hel m hm) hl (fun n hn=>(he n hn).1)
  have e0 : (fun i=>(args.getD i []).isEmpty) = fun i=>(argP args i).isEmpty:=by
   funext j; unfold argP; rw [List.isEmpty_map]
  rw [e0] at hno
  have hsm:=vp.bd.2 _ (List.mem_map.2 ⟨m,hm,rfl⟩)
  have hpos:=qeP9 (vp.fm m hm) (tp.2 m hm).lc
  rw [hd,List.map_cons,compO]
  have et2 : (toM m).2 = m.Exps:=rfl
  rw [et2]
  by_cases c : nought (fun i=>(argP args i).isEmpty) m.Exps = true
  ·rw [if_pos c,qf9 (s':=(0,fromP S,((i + 1 : Nat) : Int))) (by simp only [qbq9]; rw [if_pos (by omega),hno,Option.bind_some,if_pos c,qg9 (by omega)])]
   exact ih (i + 1) S (by omega) hS hb
  ·rw [if_neg c]
   have e1 : [(Mono.mk m.Coef ([] : List Int))] = fromP [((toM m).1,[])]:=by
    show _ = [Mono.mk (toL (natV m.Coef)) []]
    rw [qeg9 (tp.2 m hm).lc (vp.fm m hm).rt.2]
   obtain ⟨r1,k1,k2⟩:=mon2 (s4:=s4) (s7:=s7) (s8:=fromP S) (s10:=nought (fun i=>(argP args i).isEmpty) m.Exps) hx ha (hel m hm) he hl m.Exps.length 0 [((toM m).1,[])] (by omega) (qjk9 hpos) (qhX9 hsm)
   rw [List.drop_zero] at k2
   have k1' : wh (qbV9 p args s4 s7 (fromP S) (i : Int) (nought (fun i=>(argP args i).isEmpty) m.Exps)) (0,fromP [((toM m).1,[])],0) = some r1:=k1
   cases hp : monO (argP args) 0 m.Exps [((toM m).1,[])] with
   | none =>
    rw [hp] at k2
    subst k2
    exact ⟨_,qe9 (r:=.inl ([],2)) (by simp only [qbq9]; rw [if_pos (by omega),hno,Option.bind_some,if_neg c,qc9 hx,Option.bind_some,e1,k1',Option.bind_some]),by rw [Option.bind_none]⟩
   | some Y =>
    rw [hp] at k2
    subst k2
    obtain ⟨_,h3,h4⟩:=qiZ9 (qlY9 (fun q hq=>(ha q hq).1)) _ _ _ _ (qjk9 hpos) (qhX9 hsm) hp
    have had:=qjA9 hS hb h3 h4
    rw [← qxp9 (qcb9 hS hb).2 (qcb9 h3 h4).2] at had
    rw [Option.bind_some]
    by_cases d : InB (addP S Y)
    ·rw [if_pos d] at had ⊢
     rw [qf9 (s':=(0,fromP (addP S Y),((i + 1 : Nat) : Int))) (by simp only [qbq9]; rw [if_pos (by omega),hno,Option.bind_some,if_neg c,qc9 hx,Option.bind_some,e1,k1',Option.bind_some]; simp only []; rw [had,Option.bind_some,qg9 (by omega)]; rfl)]
     exact ih (i + 1) _ (by omega) (qie9 hS h3) d
    ·rw [if_neg d] at had ⊢
     exact ⟨_,qe9 (r:=.inl ([],2)) (by simp only [qbq9]; rw [if_pos (by omega),hno,Option.bind_some,if_neg c,qc9 hx,Option.bind_some,e1,k1',Option.bind_some]; simp only []; rw [had,Option.bind_some]; rfl),rfl⟩
theorem qhW9 {p : List Mono} (hT : PolyT p) : qO9 [p] = some (chkC p 4611686018427387904):=by
 have h0 : qq9 [p] [p] (([p] : List (List Mono)).length : Int) 0 = some (if chkC p 4611686018427387904 = 0 then .inl 1 else .inr (.inl (chkC p 4611686018427387904))):=by
  simp only [qq9]
  rw [if_pos (by simp),show idx [p] 0 = some p from rfl,Option.bind_some,qdn9 hT,Option.bind_some]
  by_cases c : chkC p 4611686018427387904 = 0
  ·rw [if_pos c,if_pos c]; rfl
  ·rw [if_neg c,if_neg c]
 unfold qO9
 by_cases c : chkC p 4611686018427387904 = 0
 ·rw [if_pos c] at h0
  rw [qf9 h0,qe9 (r:=.inr 1) (by simp only [qq9]; rw [if_neg (by simp)]),c]; rfl
 ·rw [if_neg c] at h0
  rw [qe9 h0]; rfl
theorem qpO9 {p : List Mono} {args : List (List Mono)} (tp : PolyT p) (hal : args.length≤1048576) (ta : ∀ q∈args,PolyT q) : qdG9 p args = qz9 p args:=by
 obtain ⟨e,h1,h2,h3⟩:=qtS9 (a0:=p) (s4:=[]) hal ta
 by_cases c1 : chkC p 4611686018427387904 = 0
 rotate_left
 ·unfold qdG9 qz9
  rw [qF9 tp,Option.bind_some,if_neg c1,qhW9 tp,Option.bind_some,if_neg c1]
 have h2' : wh (qbD9 p args ([] : List Mono)) (0,0) = _:=h2
 by_cases c2 : e = 0
 rotate_left
 ·rw [if_neg c2] at h2'
  unfold qdG9 qz9
  rw [qF9 tp,Option.bind_some,if_pos c1,qhW9 tp,Option.bind_some,if_pos c1,c1,h2',h1,Option.bind_some,Option.bind_some,if_neg c2]
 rw [if_pos c2] at h2'
 by_cases c3 : chkC p (args.length : Int) = 0
 rotate_left
 ·unfold qdG9 qz9
  rw [qF9 tp,Option.bind_some,if_pos c1,qhW9 tp,Option.bind_some,if_pos c1,c1,h2',h1,Option.bind_some,Option.bind_some,if_pos c2]
  simp only []
  rw [qF9 tp,Option.bind_some,if_neg c3,qdn9 tp,Option.bind_some,if_neg c3]
 have vp:=(qic9 tp).1 c1
 have va:=h3.1 c2
 obtain ⟨e3,k5,k6⟩:=qhu9 (v:=(args.length : Int)) tp
 rw [qdn9 tp] at k5
 have hel : ∀ m∈p,m.Exps.length≤args.length:=fun m hm=>by
  have:=(k6.1 ((oiA k5).symm.trans c3)).2.2 m hm; omega
 obtain ⟨r,k1,k2⟩:=comp2 (s4:=[]) (s7:=(args.length : Int)) vp tp hel (fun q hq=>⟨va q hq,ta q hq⟩) p.length 0 [] (by omega) qdk9 qgn9
 rw [List.drop_zero] at k2
 have k1' : wh (qbq9 p args ([] : List Mono) (args.length : Int)) (0,([] : List Mono),0) = some r:=k1
 have hp : qz9 p args = some (match compO (argP args) [] (p.map toM) with | none=>([],2) | some R=>(fromP R,0)):=by
  rcases qhg9 tp hal ta with ⟨e,_,_,hh⟩ | ⟨_,_,_,hh⟩
  ·exact absurd ⟨vp,va,hel⟩ hh
  ·exact hh
 rw [hp]
 unfold qdG9
 rw [qF9 tp,Option.bind_some,if_pos c1,c1,h2',Option.bind_some]
 simp only []
 rw [qF9 tp,Option.bind_some,if_pos c3,k1',Option.bind_some]
 cases hc : compO (argP args) [] (p.map toM) with
 | none=>rw [hc] at k2; subst k2; rfl
 | some R=>rw [hc] at k2; obtain ⟨z,y,rfl⟩:=k2; rfl
end Ld.Law
namespace Le.K
open Le Ld Ld.Law Go Go.Proofs Go.Abs
set_option maxRecDepth 8000
def qlu9 : ACode:=.reg [] [] [.M 59 13,.M 60 1,.T 61 (.len (.tmp 60)),.K 62 (.bin .lss (.tmp 59) (.tmp 61))]
def qlq9 : ACode:=.reg [] [] [.M 65 7,.M 66 13,⟨some (67,false),.ix 1 (.tmp 65) (.tmp 66),none,true,false⟩,⟨some (68,false),.load none (.tmp 67),none,true,false⟩,.M 69 1,.M 70 13,⟨some (71,false),.ix 1 (.tmp 69) (.tmp 70),none,true,false⟩,⟨some (72,false),.load none (.tmp 71),none,true,false⟩,⟨some (73,false),.call 16 [.tmp 68,.tmp 72],none,true,false⟩,.K 74 (.not (.tmp 73))]
def qkL9 : ACode:=.reg [] [] [.K 4 (.mv (.const (.bool false)))]
def qll9 : ACode:=.reg [] [] [.M 63 13,.T 64 (.bin .add (.tmp 63) (cI 1)),.N 13 64]
def c6_r7 : ACode:=.reg [] [] [.M 22 8,.M 23 1,.T 24 (.len (.tmp 23)),.K 25 (.bin .lss (.tmp 22) (.tmp 24))]
def c6_r9 : ACode:=.reg [] [] [.M 28 7,.M 29 1,.M 30 8,.T 31 (.ix 1 (.tmp 29) (.tmp 30)),.T 32 (.load none (.tmp 31)),.T 33 (.call 13 [.tmp 32]),.T 34 (.lit 1 [(0,.tmp 33)]),.T 35 (.app 1 24 (.tmp 28) (.tmp 34)),.N 7 35]
def c6_r8 : ACode:=.reg [] [] [.M 26 8,.T 27 (.bin .add (.tmp 26) (cI 1)),.N 8 27]
def c6_r0 : ACode:=.reg [] [] [.K 4 (.mv (.const (.bool false)))]
def c6_r1 : ACode:=.reg [] [] [.T 16 (.call 12 []),.N 5 16]
def c6_r2 : ACode:=.reg [] [] [.M 17 5,.K 18 (.not (.tmp 17))]
def c6_r3 : ACode:=.reg [] [] [.K 4 (.mv (.const (.bool false)))]
def c6_r4 : ACode:=.reg [] [] [.M 19 0,.T 20 (.call 13 [.tmp 19]),.N 6 20]
def c6_r5 : ACode:=.reg [] [(7,1)] [.T 21 (.lit 1 []),.N 7 21]
def c6_r6 : ACode:=.reg [] [] [.K 8 (.mv (cI 0))]
def quw9 : ACode:=.reg [(7,0)] [] [.M 37 6,.M 38 7,.T 39 (.call 26 [.tmp 37,.tmp 38]),.M 36 39,.T 40 (.ext (.tmp 36) 0),.T 41 (.ext (.tmp 36) 1),.N 9 40,.N 10 41]
def quE9 : ACode:=.reg [] [] [.M 43 0,.M 44 1,.T 45 (.call 27 [.tmp 43,.tmp 44]),.M 42 45,.T 46 (.ext (.tmp 42) 0),.T 47 (.ext (.tmp 42) 1),.N 11 46,.N 12 47]
def qui9 : ACode:=.reg [] [] [.M 48 10,.M 49 12,.T 50 (.bin .neq (.tmp 48) (.tmp 49)),.M 51 50,.MG 52 51 false 9,.MG 53 51 false 11,.TG 54 51 false (.call 16 [.tmp 52,.tmp 53]),.TG 55 51 false (.not (.tmp 54)),.K 56 (.pick (.tmp 51) (.const (.bool true)) (.tmp 55))]
def quQ9 : ACode:=.reg [] [] [.K 4 (.mv (.const (.bool false)))]
def qvo9 : ACode:=.reg [] [] [.M 57 9,.T 58 (.call 23 [.tmp 57])]
def qtT9 : ACode:=.reg [] [] [.K 13 (.mv (cI 0))]
def qul9 : ACode:=.reg [] [] [.M 76 6,.M 77 7,.T 78 (.call 26 [.tmp 76,.tmp 77]),.M 75 78,.T 79 (.ext (.tmp 75) 0),.T 80 (.ext (.tmp 75) 1),.N 14 79,.N 15 80]
def quh9 : ACode:=.reg [] [] [.M 81 5,.M 82 81,.MG 83 82 true 6,.MG 84 82 true 0,.TG 85 82 true (.call 16 [.tmp 83,.tmp 84]),.T 86 (.pick (.tmp 82) (.tmp 85) (.const (.bool false))),.M 87 86,.MG 88 87 true 14,.MG 89 87 true 11,.TG 90 87 true (.call 16 [.tmp 88,.tmp 89]),.T 91 (.pick (.tmp 87) (.tmp 90) (.const (.bool false))),.M 92 91,.MG 93 92 true 15,.MG 94 92 true 12,.TG 95 92 true (.bin .eql (.tmp 93) (.tmp 94)),.T 96 (.pick (.tmp 92) (.tmp 95) (.const (.bool false))),.N 4 96]
def lb6_1 : ACode:=.seq (.seq (qlu9) (.cond (.tmp 62) (some 62) (.skip) (.exit 2))) (.seq (.block 3 18894077617497008242688 (.seq (qlq9) (.cond (.tmp 74) (some 74) (.seq (qkL9) (.ret)) (.skip)))) (qll9))
def lb6_0 : ACode:=.seq (.seq (c6_r7) (.cond (.tmp 25) (some 25) (.skip) (.exit 0))) (.seq (.block 1 33554432 (c6_r9)) (c6_r8))
def c6 : ACode:=.seq (c6_r0) (.seq (c6_r1) (.seq (.seq (c6_r2) (.cond (.tmp 18) (some 18) (.seq (c6_r3) (.ret)) (.skip))) (.seq (c6_r4) (.seq (c6_r5) (.seq (.seq (c6_r6) (.block 0 33554432 (.loop lb6_0))) (.seq (quw9) (.seq (quE9) (.seq (.seq (qui9) (.cond (.tmp 56) (some 56) (.seq (quQ9) (.ret)) (.skip))) (.seq (qvo9) (.seq (.seq (qtT9) (.block 2 18894077617497008242688 (.loop lb6_1))) (.seq (qul9) (.seq (quh9) (.ret)))))))))))))
theorem is6 : IsF C2 6 97 18894149675091080052723 c6 [.tmp 4]:=⟨⟨Try.f6,_,C2_P ▸ Try.func6,rfl,rfl,rfl,by kernel_rfl,rfl⟩⟩
theorem is23' : IsF C2 23 75 137440003197 c23 []:=is23
theorem qjp9 {a0 : List Mono} {a1 : List (List Mono)} {x : List Mono × Int} (hx : qz9 a0 a1 = some x) (G : AHeap) : ∃ pv H,callP C2 (Lim C2) 26 [.d (.rd (a0.map qa9)),.d (.rd (a1.map (lsD qa9)))] G = some (.tp [pv,PI x.2],H)∧OwnE 0 H pv x.1:=by
 obtain ⟨pv,H,h1,h2⟩:=qqG9 hx G
 exact ⟨pv,H,qjm9 (C:=C2) (g:=26) rfl rfl rfl (args:=[.d (.rd (a0.map qa9)),.d (.rd (a1.map (lsD qa9)))]) (ds:=[.rd (a0.map qa9),.rd (a1.map (lsD qa9))]) rfl rfl h1,h2⟩
theorem qgM9 {pv : PV} {H : AHeap} {L M : List Mono} {b : Bool} (ho : OwnE 0 H pv L) (hb : qcH9 L M = some b) : callP Ld.C (Lim Ld.C) 16 [pv,.d (.rd (M.map qa9))] H = some (PB b,H):=by
 have ha : mapO (rs H depth) [pv,.d (.rd (M.map qa9))] = some [.rd (L.map qa9),.rd (M.map qa9)]:=by
  simp only [mapO,ho.rs]; rfl
 exact (qdx9 hb).o rfl rfl rfl (h:=H) ha
theorem qiI9 {pv : PV} {H : AHeap} {L : List Mono} (ho : OwnE 0 H pv L) (hT : PolyT L) : ∃ H',callP C2 (Lim C2) 23 [pv] H = some (.tp [],H'):=by
 obtain ⟨H',h⟩:=ho.spoil is23' hT.1 (fun m hm=>⟨(hT.2 m hm).sc,(hT.2 m hm).se⟩)
 exact ⟨H',qfL9 (C:=C2) (g:=23) rfl rfl rfl h⟩
theorem qgT9 {p : List Mono} (tp : PolyT p) : qgp9 p = some p:=by
 unfold qgp9
 refine if_pos ⟨tp.1,fun m hm=>?_⟩
 have:=tp.2 m hm
 exact ⟨this.sc,this.se⟩
def KP : Nat:=18894149675091080052723
def enA (p : List Mono) (args : List (List Mono)) (v n i : Nat) : Env:=[(0,.d (.rd (p.map qa9))),(1,.d (.rd (args.map (lsD qa9)))),(4,PB false),(5,PB true),(6,.d (.rd (p.map qa9))),(7,.ref 0 v 0 n),(8,PI i)]
theorem qxo9 {p : List Mono} {args : List (List Mono)} {v : Nat} {h : AHeap} : semA C2 (Lim C2) 18894149675091080052723 lb6_0 ⟨enA p args v args.length args.length,h⟩ = some (.exit 0,⟨enA p args v args.length args.length,h⟩):=by
 simp +decide only [go_sem,lb6_0,c6_r7,c6_r8,c6_r9,enA,Int.lt_irrefl]
theorem qvN9 {p q : List Mono} {args : List (List Mono)} {v i : Nat} {es : List (List PV)} (tq : PolyT q) (hq : args[i]? = some q) (he : es.length = i) (hs : i≤1048576) : semA C2 (Lim C2) 18894149675091080052723 lb6_0 ⟨enA p args v i i,[.row false v 1 es]⟩ = some (.normal,⟨enA p args (v + 1) (i + 1) (i + 1),[.row false (v + 1) 1 (es++[[.d (.rd (q.map qa9))]])]⟩):=by
 have hi:=(List.getElem?_eq_some_iff.1 hq).1
 have k13:=fun h=>qix9 (h:=h) (qgT9 tq)
 have i1 : ((i : Int) < (args.length : Int)) = True:=eq_true (by omega)
 have i3 : (i + 1) * 24≤140737488355328:=by omega
 have i4 : es.take i = es:=List.take_of_length_le (by omega)
 have i5 : w64 ((i : Int) + 1) = ((i + 1 : Nat) : Int):=by rw [qh9 (by omega) (by omega)]; omega
 have hx : idx args (i : Int) = some q:=qc9 hq
 simp +decide only [go_sem,lb6_0,c6_r7,c6_r8,c6_r9,enA,i1,i3,i4,i5,hx,ps13,k13,he]
theorem lpA {p : List Mono} {args : List (List Mono)} (ta : ∀ q∈args,PolyT q) (hs : args.length≤1048576) : ∀ (d i : Nat),i + d = args.length→qM9 (semA C2 (Lim C2) 18894149675091080052723 lb6_0) ⟨enA p args i i i,[.row false i 1 (rowP (lsD qa9) (args.take i))]⟩ = some (.exit 0,⟨enA p args args.length args.length args.length,[.row false args.length 1 (rowP (lsD qa9) args)]⟩):=by
 intro d
 induction d with
 | zero =>
  intro i hi
  obtain rfl : i = args.length:=by omega
  rw [qbE9,qxo9,List.take_length]
 | succ d ih =>
  intro i hi
  have hq : args[i]? = some (args[i]'(by omega)):=List.getElem?_eq_getElem _
  generalize args[i]'(by omega) = q at hq
  rw [qbE9,qvN9 (ta q (List.mem_of_getElem? hq)) hq (by rw [qgr9,List.length_take]; omega) (by omega)]
  simp only []
  have e : rowP (lsD qa9) (args.take i)++[[.d (.rd (q.map qa9))]] = rowP (lsD qa9) (args.take (i + 1)):=by
   rw [List.take_add_one,hq,qkc9]; rfl
  rw [e]
  exact ih (i + 1) (by omega)
def enB (p : List Mono) (args : List (List Mono)) (pv : PV) (e : Int) (want : List Mono) (j : Nat) : Env:=[(0,.d (.rd (p.map qa9))),(1,.d (.rd (args.map (lsD qa9)))),(4,PB false),(5,PB true),(6,.d (.rd (p.map qa9))),(7,.d (.rd (args.map (lsD qa9)))),(8,PI args.length),(9,pv),(10,PI e),(11,.d (.rd (want.map qa9))),(12,PI e),(13,PI j)]
theorem qwJ9 {p want : List Mono} {args : List (List Mono)} {pv : PV} {e : Int} {h : AHeap} : semA C2 (Lim C2) 18894149675091080052723 lb6_1 ⟨enB p args pv e want args.length,h⟩ = some (.exit 2,⟨enB p args pv e want args.length,h⟩):=by
 simp +decide only [go_sem,lb6_1,qlu9,qll9,qlq9,qkL9,enB,Int.lt_irrefl]
theorem qwT9 {p want q : List Mono} {args : List (List Mono)} {pv : PV} {e : Int} {h : AHeap} {i : Nat} (tq : PolyT q) (hq : args[i]? = some q) (hs : i≤1048576) : semA C2 (Lim C2) 18894149675091080052723 lb6_1 ⟨enB p args pv e want i,h⟩ = some (.normal,⟨enB p args pv e want (i + 1),h⟩):=by
 have hi:=(List.getElem?_eq_some_iff.1 hq).1
 have k16:=fun h=>(qdx9 (qen9 tq)).k rfl rfl rfl h
 have i1 : ((i : Int) < (args.length : Int)) = True:=eq_true (by omega)
 have i5 : w64 ((i : Int) + 1) = ((i + 1 : Nat) : Int):=by rw [qh9 (by omega) (by omega)]; omega
 have hx : idx args (i : Int) = some q:=qc9 hq
 simp only [go_sem] at k16
 simp +decide only [go_sem,lb6_1,qlu9,qll9,qlq9,qkL9,enB,i1,i5,hx,ps16,k16,Bool.not_true]
theorem lpB {p want : List Mono} {args : List (List Mono)} {pv : PV} {e : Int} {h : AHeap} (ta : ∀ q∈args,PolyT q) (hs : args.length≤1048576) : ∀ (d i : Nat),i + d = args.length→qM9 (semA C2 (Lim C2) 18894149675091080052723 lb6_1) ⟨enB p args pv e want i,h⟩ = some (.exit 2,⟨enB p args pv e want args.length,h⟩):=by
 intro d
 induction d with
 | zero =>
  intro i hi
  obtain rfl : i = args.length:=by omega
  rw [qbE9,qwJ9]
 | succ d ih =>
  intro i hi
  have hq : args[i]? = some (args[i]'(by omega)):=List.getElem?_eq_getElem _
  generalize args[i]'(by omega) = q at hq
  rw [qbE9,qwT9 (ta q (List.mem_of_getElem? hq)) hq (by omega)]
  exact ih (i + 1) (by omega)
theorem qqT9 {p : List Mono} {args : List (List Mono)} (tp : PolyT p) (hal : args.length≤1048576) (ta : ∀ q∈args,PolyT q) : ∃ x,qz9 p args = some x∧PolyT x.1:=by
 rcases qhg9 tp hal ta with ⟨e,h1,_⟩ | ⟨vp,va,hel,h1⟩
 ·exact ⟨_,h1,qhR9⟩
 ·rw [h1]
  cases hc : compO (argP args) [] (p.map toM) with
  | none=>exact ⟨_,rfl,qhR9⟩
  | some R =>
   refine ⟨_,rfl,?_⟩
   obtain ⟨_,h3,h4⟩:=qsm9 (qlY9 va) _ _ _ (fun x hx=>by
    obtain ⟨m,hm,rfl⟩:=List.mem_map.1 hx
    exact ⟨qeP9 (vp.fm m hm) (tp.2 m hm).lc,vp.bd.2 _ (List.mem_map.2 ⟨m,hm,rfl⟩)⟩) qdk9 qgn9 hc
   exact (qcb9 h3 h4).2
set_option maxHeartbeats 60000000 in
theorem composes_run {p : List Mono} {args : List (List Mono)} (tp : PolyT p) (hal : args.length≤1048576) (ta : ∀ q∈args,PolyT q) : ∃ H,Lim C2 6 [.d (.rd (p.map qa9)),.d (.rd (args.map (lsD qa9)))] [] = some (resOf [PB true],H):=by
 obtain ⟨x,h1,h2⟩:=qqT9 tp hal ta
 have k12:=fun h=>(qkb9 shown2).k rfl rfl rfl h
 have k13p:=fun h=>qix9 (h:=h) (qgT9 tp)
 have hA:=lpA (p:=p) ta hal args.length 0 (by omega)
 obtain ⟨pv,H1,k26,ho⟩:=qjp9 h1 [.row true args.length 1 (rowP (lsD qa9) args)]
 have k27:=fun h=>(qnu9 ((qpO9 tp hal ta).trans h1)).k rfl rfl rfl h
 have k16:=qgM9 ho (qen9 h2)
 obtain ⟨H2,k23⟩:=qiI9 ho h2
 have hB:=lpB (p:=p) (want:=x.1) (pv:=pv) (e:=x.2) (h:=H2) ta hal args.length 0 (by omega)
 obtain ⟨pv',H3,k26',ho'⟩:=qjp9 h1 H2
 have k16':=qgM9 ho' (qen9 h2)
 have k16p:=fun h=>(qdx9 (qen9 tp)).k rfl rfl rfl h
 clear h1 h2 ho ho'
 simp only [go_sem] at k12 k13p k27 k16p k16 k16'
 simp only [enA,List.take_zero,qkJ9,go_sem] at hA
 simp only [enB,go_sem] at hB
 refine ⟨H3,run_L is6 (nbA rfl) ?_⟩
 simp +decide only [go_sem,decide_not,c6,qlu9,qlq9,qkL9,qll9,c6_r7,c6_r9,c6_r8,c6_r0,c6_r1,c6_r2,c6_r3,c6_r4,c6_r5,c6_r6,quw9,quE9,qui9,quQ9,qvo9,qtT9,qul9,quh9,ps12,ps13,ps16,ps27,k12,k13p,hA,k26,k27,k16,k23,hB,k26',k16',k16p,Bool.not_true,Bool.not_false,bne_self_eq_false,ne_eq,not_true_eq_false]
end Le.K

import Derived.Test.YtmkohpkfeamjiaaE3
import Derived.Test.YtmkohpkfeamjiaaPq6
import Derived.Test.YtmkohpkfeamjiaaPMW6
import Derived.Test.YtmkohpkfeamjiaaAbs28
import Derived.Test.YtmkohpkfeamjiaaU2
import Derived.Test.YtmkohpkfeamjiaaPMW11
import Derived.Test.YtmkohpkfeamjiaaPMW15
set_option maxHeartbeats 400000
set_option linter.unusedVariables false
set_option linter.unusedSimpArgs false
set_option linter.unusedSectionVars false
namespace Le
open Ld Go Go.Proofs Go.Abs
set_option maxRecDepth 8000
def mode2 : FuncId→Nat
 | 24=>2
 | 23=>1
 | _=>0
noncomputable def prim2 : FuncId→Option (List PV→AHeap→Option (PV × AHeap))
 | 12=>some (callP Ld.C (Lim Ld.C) 12)
 | 13=>some (callP Ld.C (Lim Ld.C) 13)
 | 16=>some (callP Ld.C (Lim Ld.C) 16)
 | 25=>some (callP Ld.C (Lim Ld.C) 25)
 | 43=>some (callP Ld.C (Lim Ld.C) 43)
 | 45=>some (callP Ld.C (Lim Ld.C) 45)
 | 46=>some Lt.primTold2
 | 53=>some (callP Ld.C (Lim Ld.C) 53)
 | _=>none
def k5 : Hint:=⟨2199023337459,0,[],[],[],[]⟩
def k23 : Hint:=⟨137440003197,0,[(0,137440003192),(1,137440003192),(2,1049608),(3,1048576),(4,137440003096),(5,137438953472)],[],[],[]⟩
noncomputable def hint2 : FuncId→Hint
 | 5=>k5
 | 23=>k23
 | g=>Ld.hint g
def uses2 : List FuncId:=[5,23,24]
noncomputable def C2 : Cfg:={ P:=Try.prog,mode:=mode2,prim:=prim2,hint:=hint2,use:=fun g=>uses2.contains g,settle:=Ld.C.settle }
theorem C2_P : C2.P = Try.prog:=rfl
theorem qZ9 {W : World} {g : FuncId} : FSound W Try.prog g (callP Ld.C (Lim Ld.C) g):=fun args h r h' ho X m w vs H hv =>
 (qgy9 (Ld.cOk W).toCSound (qbJ9 (Ld.cOk W)) H hv ho).2
theorem qoz9 : Ld.okAll Try.prog hint2 uses2 = true:=by kernel_rfl
theorem cOk2 (W : World) : COk W C2:=by
 have all : ∀ g, C2.use g = true → ∃ fn c, Try.prog.funcs[g]? = some fn ∧ fn.name ≠ "runtime.NumGoroutine" ∧ fn.body = some c ∧ okT (hint2 g) c = true := by
  intro g hg
  have hm : g∈uses2:=by simpa [C2] using hg
  have h1:=List.all_eq_true.1 qoz9 g hm
  cases hf : Try.prog.funcs[g]? with
  | none=>rw [hf] at h1; cases h1
  | some fn =>
   rw [hf] at h1
   simp only [Bool.and_eq_true,decide_eq_true_eq] at h1
   cases hb : fn.body with
   | none=>rw [hb] at h1; cases h1.2
   | some c=>rw [hb] at h1; exact ⟨fn,c,rfl,h1.1,hb,h1.2⟩
 refine { use:=fun g hg=>?_,prim:=fun g p hg=>?_,orders:=?_,hints:=fun g fn c hg hf hc=>?_ }
 ·obtain ⟨fn,c,h1,h2,h3,_⟩:=all g hg
  exact ⟨fn,h1,h2,by rw [h3]; rfl⟩
 ·have hg' : prim2 g = some p:=hg
  unfold prim2 at hg'
  split at hg'
  ·cases hg'; exact ⟨Ld.callable Try.func12 (by kernel_rfl) (by kernel_rfl),qZ9⟩
  ·cases hg'; exact ⟨Ld.callable Try.func13 (by kernel_rfl) (by kernel_rfl),qZ9⟩
  ·cases hg'; exact ⟨Ld.callable Try.func16 (by kernel_rfl) (by kernel_rfl),qZ9⟩
  ·cases hg'; exact ⟨Ld.callable Try.func25 (by kernel_rfl) (by kernel_rfl),qZ9⟩
  ·cases hg'; exact ⟨Ld.callable Try.func43 (by kernel_rfl) (by kernel_rfl),qZ9⟩
  ·cases hg'; exact ⟨Ld.callable Try.func45 (by kernel_rfl) (by kernel_rfl),qZ9⟩
  ·cases hg'; exact ⟨Ld.callable Try.func46 (by kernel_rfl) (by kernel_rfl),Lt.told2_sound Lt.cOk W⟩
  ·cases hg'; exact ⟨Ld.callable Try.func53 (by kernel_rfl) (by kernel_rfl),qZ9⟩
  ·cases hg'
 ·show Try.prog.follows .mixedOrders = true
  kernel_rfl
 ·obtain ⟨fn',c',h1,_,h3,h4⟩:=all g hg
  have e : fn' = fn:=oiA (h1.symm.trans hf)
  subst e
  have e2 : c' = c:=oiA (h3.symm.trans hc)
  subst e2
  exact h4
theorem is23 : IsF C2 23 75 137440003197 c23 []:=⟨⟨Try.f23,_,C2_P ▸ Try.func23,rfl,rfl,rfl,by kernel_rfl,rfl⟩⟩
theorem is24 : IsF C2 24 52 140741578341107 Ld.c24 [.tmp 4,.tmp 5]:=⟨⟨Try.f24,_,C2_P ▸ Try.func24,rfl,rfl,rfl,by kernel_rfl,rfl⟩⟩
section
variable {args : List PV} {h : AHeap}
theorem ps12 : callP C2 (Lim C2) 12 args h = callP Ld.C (Lim Ld.C) 12 args h:=rfl
theorem ps13 : callP C2 (Lim C2) 13 args h = callP Ld.C (Lim Ld.C) 13 args h:=rfl
theorem ps16 : callP C2 (Lim C2) 16 args h = callP Ld.C (Lim Ld.C) 16 args h:=rfl
theorem ps25 : callP C2 (Lim C2) 25 args h = callP Ld.C (Lim Ld.C) 25 args h:=rfl
theorem ps43 : callP C2 (Lim C2) 43 args h = callP Ld.C (Lim Ld.C) 43 args h:=rfl
theorem ps45 : callP C2 (Lim C2) 45 args h = callP Ld.C (Lim Ld.C) 45 args h:=rfl
theorem ps53 : callP C2 (Lim C2) 53 args h = callP Ld.C (Lim Ld.C) 53 args h:=rfl
end
theorem qkG9 {h : AHeap} {id : Nat} {L : List (ByteArray × Mono)} {x : List Mono} (hx : toldP L = some x) (ho : h[id]? = some (.map (mapP keyS qa9 L))) : ∃ pv H,callP C2 (Lim C2) 46 [.mp id] h = some (pv,H)∧OwnP H pv x:=by
 refine ⟨_,_,?_,.inr ⟨h,rfl,rfl⟩⟩
 show Lt.primTold2 [.mp id] h = _
 simp only [Lt.primTold2,ho,qkC9,Option.bind_some,hx,Option.map_some]
def mulS1 (G : AHeap) (s0 : List Mono) (s1 : List Mono) (s4 : List Mono) (s6 : Int) (s22 : List Mono) (s23 : Int) (s24 : Int) (s28 : List Mono) (s29 : Int) (b9_0 : List Int) (b9_1 : List Int) (g1 : AHeap) : Int × (List (ByteArray × Mono))→AHeap→St:=fun (s30,m7) gt=>⟨[(0,.d (.rd (s0.map qa9))),(1,.d (.rd (s1.map qa9))),(4,.d (.rd (s4.map qa9))),(5,PI 0),(6,PI s6),(7,.mp G.length),(9,.ptr (G.length + g1.length + 1) 0 0 0),(22,.d (.rd (s22.map qa9))),(23,PI s23),(24,PI s24),(28,.d (.rd (s28.map qa9))),(29,PI s29),(30,PI s30)],(G++(.map (mapP keyS qa9 m7)::(g1++(.row false 0 2 [[.d (.rd (b9_0.map qb9)),.d (.rd (b9_1.map intD))]]::gt))))⟩
def mulX1 (G : AHeap) (s0 : List Mono) (s1 : List Mono) (s4 : List Mono) (s6 : Int) (s22 : List Mono) (s23 : Int) (s24 : Int) (s28 : List Mono) (s29 : Int) (b9_0 : List Int) (b9_1 : List Int) (g1 : AHeap) : (((List Mono) × Int) ⊕ ((List (ByteArray × Mono))))→AExit × St→Prop
 | .inl r,q=>XL C2 [.tmp 4,.tmp 5] (fun vs _=>vs = [.d (.rd (r.1.map qa9)),PI r.2]∧r.1 = []) q
 | .inr m7,q=>∃ d9 : PV,∃ d28 : PV,∃ d29 : PV,∃ d30 : PV,∃ h1 : AHeap,q = (.exit 2,⟨[(0,.d (.rd (s0.map qa9))),(1,.d (.rd (s1.map qa9))),(4,.d (.rd (s4.map qa9))),(5,PI 0),(6,PI s6),(7,.mp G.length),(9,d9),(22,.d (.rd (s22.map qa9))),(23,PI s23),(24,PI s24),(28,d28),(29,d29),(30,d30)],(G++(.map (mapP keyS qa9 m7)::(g1++(.row false 0 2 [[.d (.rd (b9_0.map qb9)),.d (.rd (b9_1.map intD))]]::h1))))⟩)
set_option maxHeartbeats 60000000 in
theorem qzZ9 {G : AHeap} {s0 : List Mono} {s1 : List Mono} {s4 : List Mono} {s6 : Int} {s22 : List Mono} {s23 : Int} {s24 : Int} {s28 : List Mono} {s29 : Int} {b9_0 : List Int} {b9_1 : List Int} {g1 : AHeap} : Sim C2 140741578341107 qiS9 (qbM9 s0 s1 s4 s6 s22 s23 s24 s28 s29 b9_0 b9_1) (mulS1 G s0 s1 s4 s6 s22 s23 s24 s28 s29 b9_0 b9_1 g1) (mulX1 G s0 s1 s4 s6 s22 s23 s24 s28 s29 b9_0 b9_1 g1):=by
 intro s g r hr
 obtain ⟨s30,m7⟩:=s
 have ⟨gt,hg0⟩ : ∃ y,y = g:=⟨_,rfl⟩
 subst hg0
 simp only [qbM9] at hr
 rcases iteP hr with ⟨h1,hr⟩ | ⟨h1,hr⟩
 obtain ⟨x3,h2,x4,h3,hr⟩:=bs2 hr
 have h3k:=fun h=>(qjx9 h3).o rfl rfl rfl (h:=h) (args:=[.ag [.d (.rd (b9_0.map qb9)),.d (.rd (b9_1.map intD))],.ag [.d (.rd (x3.Coef.map qb9)),.d (.rd (x3.Exps.map intD))]]) rfl
 try simp only [go_sem] at h3k
 rcases iteB hr with ⟨h4,hr⟩ | ⟨h4,hr⟩
 obtain ⟨x5,h5,hr⟩:=bsome hr
 obtain ⟨z6,h5k⟩:=qeY9 (g1:=G) (g2:=(g1++(.row false 0 2 [[.d (.rd (b9_0.map qb9)),.d (.rd (b9_1.map intD))]]::(gt++(.row false 0 2 [[.d (.rd (x3.Coef.map qb9)),.d (.rd (x3.Exps.map intD))]]::(.row false 0 2 [[.d (.rd (x4.1.Coef.map qb9)),.d (.rd (x4.1.Exps.map intD))]]::[])))))) h5
 replace h5k:=qfL9 rfl rfl rfl h5k
 try simp only [go_sem] at h5k
 rcases iteB hr with ⟨h6,hr⟩ | ⟨h6,hr⟩
 obtain rfl:=oiA hr
 refine ⟨(gt++(.row false 0 2 [[.d (.rd (x3.Coef.map qb9)),.d (.rd (x3.Exps.map intD))]]::(.row false 0 2 [[.d (.rd (x4.1.Coef.map qb9)),.d (.rd (x4.1.Exps.map intD))]]::z6))),?_⟩
 rotate_left
 obtain rfl:=oiA hr
 refine xl_of (vs:=[.d (.rd []),PI 2]) (hp:=(G++(.map (mapP keyS qa9 x5.2)::(g1++(.row false 0 2 [[.d (.rd (b9_0.map qb9)),.d (.rd (b9_1.map intD))]]::(gt++(.row false 0 2 [[.d (.rd (x3.Coef.map qb9)),.d (.rd (x3.Exps.map intD))]]::(.row false 0 2 [[.d (.rd (x4.1.Coef.map qb9)),.d (.rd (x4.1.Exps.map intD))]]::z6)))))))) ⟨rfl,rfl⟩ ?_
 rotate_left
 obtain rfl:=oiA hr
 refine xl_of (vs:=[.d (.rd []),PI 2]) (hp:=(G++(.map (mapP keyS qa9 m7)::(g1++(.row false 0 2 [[.d (.rd (b9_0.map qb9)),.d (.rd (b9_1.map intD))]]::(gt++(.row false 0 2 [[.d (.rd (x3.Coef.map qb9)),.d (.rd (x3.Exps.map intD))]]::(.row false 0 2 [[.d (.rd (x4.1.Coef.map qb9)),.d (.rd (x4.1.Exps.map intD))]]::[])))))))) ⟨rfl,rfl⟩ ?_
 rotate_left
 obtain rfl:=oiA hr
 refine xe_of ⟨.ptr (G.length + g1.length + 1) 0 0 0,.d (.rd (s28.map qa9)),PI s29,PI s30,gt,rfl⟩ ?_
 rotate_left
 all_goals (simp +decide only [go_sem,decide_not,mulS1,qiS9,ps45,ps53, *])
def mulS0 (G : AHeap) (s0 : List Mono) (s1 : List Mono) (s4 : List Mono) (s6 : Int) (s22 : List Mono) (s23 : Int) : Int × (List (ByteArray × Mono))→AHeap→St:=fun (s24,m7) gt=>⟨[(0,.d (.rd (s0.map qa9))),(1,.d (.rd (s1.map qa9))),(4,.d (.rd (s4.map qa9))),(5,PI 0),(6,PI s6),(7,.mp G.length),(22,.d (.rd (s22.map qa9))),(23,PI s23),(24,PI s24)],(G++(.map (mapP keyS qa9 m7)::gt))⟩
def mulX0 (G : AHeap) (s0 : List Mono) (s1 : List Mono) (s4 : List Mono) (s6 : Int) (s22 : List Mono) (s23 : Int) : (((List Mono) × Int) ⊕ (Int × (List (ByteArray × Mono))))→AExit × St→Prop
 | .inl r,q=>XL C2 [.tmp 4,.tmp 5] (fun vs _=>vs = [.d (.rd (r.1.map qa9)),PI r.2]∧r.1 = []) q
 | .inr (s24,m7),q=>∃ g,q = (.exit 0,mulS0 G s0 s1 s4 s6 s22 s23 (s24,m7) g)
set_option maxHeartbeats 60000000 in
theorem qzg9 {G : AHeap} {s0 : List Mono} {s1 : List Mono} {s4 : List Mono} {s6 : Int} {s22 : List Mono} {s23 : Int} : Sim C2 140741578341107 qjj9 (qbW9 s0 s1 s4 s6 s22 s23) (mulS0 G s0 s1 s4 s6 s22 s23) (mulX0 G s0 s1 s4 s6 s22 s23):=by
 intro s g r hr
 obtain ⟨s24,m7⟩:=s
 have ⟨gt,hg0⟩ : ∃ y,y = g:=⟨_,rfl⟩
 subst hg0
 simp only [qbW9] at hr
 rcases iteP hr with ⟨h1,hr⟩ | ⟨h1,hr⟩
 obtain ⟨x2,h2,hr⟩:=bsome hr
 obtain ⟨x7,h3,hr⟩:=bsome hr
 obtain ⟨q3,h3L,h3X⟩:=(qzZ9 (G:=G) (g1:=gt)).L (g:=[]) h3
 rcases x7 with x8 | x9
 try dsimp only at hr
 obtain ⟨st3,vs3,hp3,rfl,h3R,hv,hnil⟩:=h3X
 simp only [mulS1,go_sem] at h3L
 obtain rfl:=oiA hr
 rw [hnil] at hv
 subst hv
 refine xl_of (vs:=[.d (.rd []),PI x8.2]) (hp:=hp3) ⟨by rw [hnil]; rfl,hnil⟩ ?_
 rotate_left
 try dsimp only at hr
 obtain ⟨z10,z11,z12,z13,z14,rfl⟩:=h3X
 simp only [mulS1,go_sem] at h3L
 obtain rfl:=oiA hr
 refine ⟨(gt++(.row false 0 2 [[.d (.rd (x2.Coef.map qb9)),.d (.rd (x2.Exps.map intD))]]::z14)),?_⟩
 rotate_left
 obtain rfl:=oiA hr
 refine xe_of ⟨gt,rfl⟩ ?_
 rotate_left
 all_goals (simp +decide only [go_sem,decide_not,mulS0,qjj9, *])
set_option maxHeartbeats 60000000 in
theorem qxs9 {a0 : List Mono} {a1 : List Mono} {r : (List Mono) × Int} (hr : qbv9 a0 a1 = some r) (G : AHeap) : ∃ pv H,Lim C2 24 [.d (.rd (a0.map qa9)),.d (.rd (a1.map qa9))] G = some (resOf [pv,PI r.2],H)∧OwnP H pv r.1:=by
 simp only [qbv9] at hr
 obtain ⟨x1,h1,hr⟩:=bsome hr
 have h1k:=fun h=>(qbu9 h1).o rfl rfl rfl (h:=h) (args:=[.im true [[.d (.rd (a0.map qa9))],[.d (.rd (a1.map qa9))]]]) rfl
 try simp only [go_sem] at h1k
 rcases iteP hr with ⟨h2,hr⟩ | ⟨h2,hr⟩
 obtain ⟨x15,h3,hr⟩:=bsome hr
 obtain ⟨q3,h3L,h3X⟩:=(qzg9 (G:=G)).L (g:=[]) h3
 rcases x15 with x16 | ⟨x17,x18⟩
 try dsimp only at hr
 obtain ⟨st3,vs3,hp3,rfl,h3R,hv,hnil⟩:=h3X
 simp only [mulS0,go_sem] at h3L
 obtain rfl:=oiA hr
 rw [hnil] at hv
 subst hv
 refine ⟨.d (.rd []),hp3,run_L is24 (nbA rfl) ?_,.inl ⟨rfl,hnil⟩⟩
 rotate_left
 try dsimp only at hr
 obtain ⟨z19,rfl⟩:=h3X
 simp only [mulS0,go_sem] at h3L
 obtain ⟨x20,h4,hr⟩:=bsome hr
 obtain ⟨pv,H,h4k,hown⟩:=qkG9 (h:=G++(.map (mapP keyS qa9 x18)::z19)) (id:=G.length) h4 (by rw [List.getElem?_append_right (Nat.le_refl _),Nat.sub_self]; rfl)
 obtain rfl:=oiA hr
 refine ⟨pv,H,run_L is24 (nbA rfl) ?_,hown⟩
 rotate_left
 obtain rfl:=oiA hr
 refine ⟨.d (.rd []),G,run_L is24 (nbA rfl) ?_,.inl ⟨rfl,rfl⟩⟩
 rotate_left
 all_goals (simp +decide only [go_sem,decide_not,Ld.c24,ps43, *])
end Le
namespace Le
open Ld Ld.Law Go Go.Proofs Go.Abs
set_option maxRecDepth 8000
def c5_r0 : ACode:=.reg [] [] [.K 4 (.mv (.const (.bool false)))]
def c5_r1 : ACode:=.reg [] [] [.T 14 (.call 12 []),.N 5 14]
def c5_r2 : ACode:=.reg [] [] [.M 15 5,.K 16 (.not (.tmp 15))]
def c5_r3 : ACode:=.reg [] [] [.K 4 (.mv (.const (.bool false)))]
def c5_r4 : ACode:=.reg [] [] [.M 17 0,.T 18 (.call 13 [.tmp 17]),.N 6 18]
def c5_r5 : ACode:=.reg [] [] [.M 19 1,.T 20 (.call 13 [.tmp 19]),.N 7 20]
def c5_r6 : ACode:=.reg [] [] [.M 22 6,.M 23 7,.T 24 (.call 24 [.tmp 22,.tmp 23]),.M 21 24,.T 25 (.ext (.tmp 21) 0),.T 26 (.ext (.tmp 21) 1),.N 8 25,.N 9 26]
def c5_r7 : ACode:=.reg [] [] [.M 28 0,.M 29 1,.T 30 (.call 25 [.tmp 28,.tmp 29]),.M 27 30,.T 31 (.ext (.tmp 27) 0),.T 32 (.ext (.tmp 27) 1),.N 10 31,.N 11 32]
def c5_r8 : ACode:=.reg [] [] [.M 33 9,.M 34 11,.T 35 (.bin .neq (.tmp 33) (.tmp 34)),.M 36 35,.MG 37 36 false 8,.MG 38 36 false 10,.TG 39 36 false (.call 16 [.tmp 37,.tmp 38]),.TG 40 36 false (.not (.tmp 39)),.K 41 (.pick (.tmp 36) (.const (.bool true)) (.tmp 40))]
def c5_r9 : ACode:=.reg [] [] [.K 4 (.mv (.const (.bool false)))]
def quW9 : ACode:=.reg [] [] [.M 42 8,.T 43 (.call 23 [.tmp 42])]
def quF9 : ACode:=.reg [] [] [.M 45 6,.M 46 7,.T 47 (.call 24 [.tmp 45,.tmp 46]),.M 44 47,.T 48 (.ext (.tmp 44) 0),.T 49 (.ext (.tmp 44) 1),.N 12 48,.N 13 49]
def qtD9 : ACode:=.reg [] [] [.M 50 5,.M 51 50,.MG 52 51 true 6,.MG 53 51 true 0,.TG 54 51 true (.call 16 [.tmp 52,.tmp 53]),.T 55 (.pick (.tmp 51) (.tmp 54) (.const (.bool false))),.M 56 55,.MG 57 56 true 7,.MG 58 56 true 1,.TG 59 56 true (.call 16 [.tmp 57,.tmp 58]),.T 60 (.pick (.tmp 56) (.tmp 59) (.const (.bool false))),.M 61 60,.MG 62 61 true 12,.MG 63 61 true 10,.TG 64 61 true (.call 16 [.tmp 62,.tmp 63]),.T 65 (.pick (.tmp 61) (.tmp 64) (.const (.bool false))),.M 66 65,.MG 67 66 true 13,.MG 68 66 true 11,.TG 69 66 true (.bin .eql (.tmp 67) (.tmp 68)),.T 70 (.pick (.tmp 66) (.tmp 69) (.const (.bool false))),.N 4 70]
def c5 : ACode:=.seq (c5_r0) (.seq (c5_r1) (.seq (.seq (c5_r2) (.cond (.tmp 16) (some 16) (.seq (c5_r3) (.ret)) (.skip))) (.seq (c5_r4) (.seq (c5_r5) (.seq (c5_r6) (.seq (c5_r7) (.seq (.seq (c5_r8) (.cond (.tmp 41) (some 41) (.seq (c5_r9) (.ret)) (.skip))) (.seq (quW9) (.seq (quF9) (.seq (qtD9) (.ret)))))))))))
theorem is5 : IsF C2 5 71 2199023337459 c5 [.tmp 4]:=⟨⟨Try.f5,_,C2_P ▸ Try.func5,rfl,rfl,rfl,by kernel_rfl,rfl⟩⟩
theorem qpo9 {a0 a1 : List Mono} {x : List Mono × Int} (hx : qbv9 a0 a1 = some x) (G : AHeap) : ∃ pv H,callP C2 (Lim C2) 24 [.d (.rd (a0.map qa9)),.d (.rd (a1.map qa9))] G = some (.tp [pv,PI x.2],H)∧OwnP H pv x.1:=by
 obtain ⟨pv,H,h1,h2⟩:=qxs9 hx G
 exact ⟨pv,H,qjm9 (C:=C2) (g:=24) rfl rfl rfl (args:=[.d (.rd (a0.map qa9)),.d (.rd (a1.map qa9))]) (ds:=[.rd (a0.map qa9),.rd (a1.map qa9)]) rfl rfl h1,h2⟩
theorem qgM9 {pv : PV} {H : AHeap} {L M : List Mono} {b : Bool} (ho : OwnP H pv L) (hb : qcH9 L M = some b) : callP Ld.C (Lim Ld.C) 16 [pv,.d (.rd (M.map qa9))] H = some (PB b,H):=by
 have ha : mapO (rs H depth) [pv,.d (.rd (M.map qa9))] = some [.rd (L.map qa9),.rd (M.map qa9)]:=by
  simp only [mapO,qAD9 ho]; rfl
 exact (qdx9 hb).o rfl rfl rfl (h:=H) ha
theorem qiI9 {pv : PV} {H : AHeap} {L : List Mono} (ho : OwnP H pv L) (hT : PolyT L) : ∃ H',callP C2 (Lim C2) 23 [pv] H = some (.tp [],H'):=by
 obtain ⟨H',h⟩:=quR9 is23 ho hT.1 (fun m hm=>⟨(hT.2 m hm).sc,(hT.2 m hm).se⟩)
 exact ⟨H',qfL9 (C:=C2) (g:=23) rfl rfl rfl h⟩
theorem qgT9 {p : List Mono} (tp : PolyT p) : qgp9 p = some p:=by
 unfold qgp9
 refine if_pos ⟨tp.1,fun m hm=>?_⟩
 have:=tp.2 m hm
 exact ⟨this.sc,this.se⟩
set_option maxHeartbeats 60000000 in
theorem products_run {p q : List Mono} (tp : PolyT p) (tq : PolyT q) : ∃ H,Lim C2 5 [.d (.rd (p.map qa9)),.d (.rd (q.map qa9))] [] = some (resOf [PB true],H):=by
 obtain ⟨x,h1,h2,_⟩:=qvS9 tp tq
 have k12:=fun h=>(qkb9 shown2).k rfl rfl rfl h
 have k13p:=fun h=>qix9 (h:=h) (qgT9 tp)
 have k13q:=fun h=>qix9 (h:=h) (qgT9 tq)
 obtain ⟨pv,H1,k24,ho⟩:=qpo9 h1 []
 have k25:=fun h=>(qnf9 ((qoG9 tp tq).trans h1)).k rfl rfl rfl h
 have k16:=qgM9 ho (qen9 h2)
 obtain ⟨H2,k23⟩:=qiI9 ho h2
 obtain ⟨pv',H3,k24',ho'⟩:=qpo9 h1 H2
 have k16':=qgM9 ho' (qen9 h2)
 have k16p:=fun h=>(qdx9 (qen9 tp)).k rfl rfl rfl h
 have k16q:=fun h=>(qdx9 (qen9 tq)).k rfl rfl rfl h
 clear h1 h2 ho ho'
 simp only [go_sem] at k12 k13p k13q k25 k16p k16q k16 k16'
 refine ⟨H3,run_L is5 (nbA rfl) ?_⟩
 simp +decide only [go_sem,decide_not,c5,c5_r0,c5_r1,c5_r2,c5_r3,c5_r4,c5_r5,c5_r6,c5_r7,c5_r8,c5_r9,quW9,quF9,qtD9,ps12,ps13,ps16,ps25,k12,k13p,k13q,k24,k25,k16,k23,k24',k16',k16p,k16q,Bool.not_true,Bool.not_false,bne_self_eq_false,ne_eq,not_true_eq_false]
end Le

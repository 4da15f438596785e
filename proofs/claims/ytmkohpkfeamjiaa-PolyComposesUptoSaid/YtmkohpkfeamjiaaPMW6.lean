import Derived.Test.YtmkohpkfeamjiaaPMW2
import Derived.Test.YtmkohpkfeamjiaaPMW4
import Derived.Test.YtmkohpkfeamjiaaPMW10
set_option maxHeartbeats 60000000
set_option linter.unusedVariables false
set_option linter.unusedSimpArgs false
set_option linter.unusedSectionVars false
namespace Ld
open Go Go.Proofs Go.Abs
set_option maxRecDepth 8000
def qiS9 : ACode:=.seq (.reg [] [] [.K 31 (.bin .lss (.tmp 30) (.tmp 29))]) (.seq (.cond (.tmp 31) (some 31) (.skip) (.exit 2)) (.seq (.block 3 140739635853312 (.seq (.reg [] [] [.T 32 (.ix 2 (.tmp 28) (.tmp 30)),.T 33 (.load (some 2) (.tmp 32)),.K 11 (.alloc [.im true [],.im true []] 2),⟨none,.store 2 (.tmp 11) (.tmp 33),none,false,false⟩]) (.seq (.reg [] [] [.T 35 (.load (some 2) (.tmp 9)),.T 36 (.load (some 2) (.tmp 11)),.T 37 (.call 53 [.tmp 35,.tmp 36]),.M 34 37,.T 38 (.ext (.tmp 34) 0),.T 39 (.ext (.tmp 34) 1),.K 12 (.alloc [.im true [],.im true []] 2),⟨none,.store 2 (.tmp 12) (.tmp 38),none,false,false⟩,.N 13 39]) (.seq (.reg [] [] [.M 40 13,.T 41 (.not (.tmp 40)),.M 42 41,.MG 43 42 false 7,.TG 44 42 false (.load (some 2) (.tmp 12)),.TG 45 42 false (.call 45 [.tmp 43,.tmp 44]),.TG 46 42 false (.not (.tmp 45)),.K 47 (.pick (.tmp 42) (.const (.bool true)) (.tmp 46))]) (.cond (.tmp 47) (some 47) (.seq (.reg [] [(4,0)] [.K 4 (.mv (.const (.slice none 0 0))),.K 5 (.mv (cI 2))]) (.ret)) (.skip)))))) (.reg [] [] [.T 48 (.bin .add (.tmp 30) (cI 1)),.N 30 48])))
def qjj9 : ACode:=.seq (.reg [] [] [.K 25 (.bin .lss (.tmp 24) (.tmp 23))]) (.seq (.cond (.tmp 25) (some 25) (.skip) (.exit 0)) (.seq (.block 1 140741548456448 (.seq (.reg [] [] [.T 26 (.ix 2 (.tmp 22) (.tmp 24)),.T 27 (.load (some 2) (.tmp 26)),.K 9 (.alloc [.im true [],.im true []] 2),⟨none,.store 2 (.tmp 9) (.tmp 27),none,false,false⟩]) (.seq (.reg [] [] [.N 28 1,.K 29 (.len (.tmp 28)),.K 30 (.mv (cI 0))]) (.block 2 140741548456448 (.loop qiS9))))) (.reg [] [] [.T 49 (.bin .add (.tmp 24) (cI 1)),.N 24 49])))
def c24 : ACode:=.seq (.reg [] [(4,0)] [.K 4 (.mv (.const (.slice none 0 0))),.K 5 (.mv (cI 0))]) (.seq (.seq (.reg [] [] [.M 14 0,.M 15 1,.T 16 (.lit 1 [(0,.tmp 14),(1,.tmp 15)]),.T 17 (.call 43 [.tmp 16]),.N 6 17]) (.seq (.reg [] [] [.M 18 6,.K 19 (.bin .neq (.tmp 18) (cI 0))]) (.cond (.tmp 19) (some 19) (.seq (.reg [] [(4,0)] [.M 20 6,.K 4 (.mv (.const (.slice none 0 0))),.N 5 20]) (.ret)) (.skip)))) (.seq (.reg [] [] [.T 21 (.mkMap),.N 7 21]) (.seq (.seq (.reg [] [] [.N 22 0,.K 23 (.len (.tmp 22)),.K 24 (.mv (cI 0))]) (.block 0 140741548456448 (.loop qjj9))) (.seq (.reg [] [] [.M 50 7,.T 51 (.call 46 [.tmp 50]),.N 4 51,.K 5 (.mv (cI 0))]) (.ret)))))
theorem is24 : IsF C 24 52 140741578341107 c24 [.tmp 4,.tmp 5]:=⟨⟨Try.f24,_,C_P ▸ Try.func24,rfl,rfl,rfl,by kernel_rfl,rfl⟩⟩
def qgz9 (s0 : List Mono) (s1 : List Mono) (s4 : List Mono) (s6 : Int) (s22 : List Mono) (s23 : Int) (s24 : Int) (s28 : List Mono) (s29 : Int) (b9_0 : List Int) (b9_1 : List Int) (g1 : AHeap) : Int × (List (ByteArray × Mono))→AHeap→St:=fun (s30,m7) gt=>⟨[(0,.d (.rd (s0.map qa9))),(1,.d (.rd (s1.map qa9))),(4,.d (.rd (s4.map qa9))),(5,PI 0),(6,PI s6),(7,.mp 0),(9,.ptr (g1.length + 1) 0 0 0),(22,.d (.rd (s22.map qa9))),(23,PI s23),(24,PI s24),(28,.d (.rd (s28.map qa9))),(29,PI s29),(30,PI s30)],(.map (mapP keyS qa9 m7)::(g1++(.row false 0 2 [[.d (.rd (b9_0.map qb9)),.d (.rd (b9_1.map intD))]]::gt)))⟩
def qqK9 (s0 : List Mono) (s1 : List Mono) (s4 : List Mono) (s6 : Int) (s22 : List Mono) (s23 : Int) (s24 : Int) (s28 : List Mono) (s29 : Int) (b9_0 : List Int) (b9_1 : List Int) (g1 : AHeap) : (((List Mono) × Int) ⊕ ((List (ByteArray × Mono))))→AExit × St→Prop
 | .inl r,q=>XV C [.tmp 4,.tmp 5] (.tp [.d (.rd (r.1.map qa9)),PI r.2]) q
 | .inr m7,q=>∃ d9 : PV,∃ d28 : PV,∃ d29 : PV,∃ d30 : PV,∃ h1 : AHeap,q = (.exit 2,⟨[(0,.d (.rd (s0.map qa9))),(1,.d (.rd (s1.map qa9))),(4,.d (.rd (s4.map qa9))),(5,PI 0),(6,PI s6),(7,.mp 0),(9,d9),(22,.d (.rd (s22.map qa9))),(23,PI s23),(24,PI s24),(28,d28),(29,d29),(30,d30)],(.map (mapP keyS qa9 m7)::(g1++(.row false 0 2 [[.d (.rd (b9_0.map qb9)),.d (.rd (b9_1.map intD))]]::h1)))⟩)
theorem qqx9 {s0 : List Mono} {s1 : List Mono} {s4 : List Mono} {s6 : Int} {s22 : List Mono} {s23 : Int} {s24 : Int} {s28 : List Mono} {s29 : Int} {b9_0 : List Int} {b9_1 : List Int} {g1 : AHeap} : Sim C 140741578341107 qiS9 (qbM9 s0 s1 s4 s6 s22 s23 s24 s28 s29 b9_0 b9_1) (qgz9 s0 s1 s4 s6 s22 s23 s24 s28 s29 b9_0 b9_1 g1) (qqK9 s0 s1 s4 s6 s22 s23 s24 s28 s29 b9_0 b9_1 g1):=by
 intro s g r hr
 obtain ⟨s30,m7⟩:=s
 have ⟨gt,hg0⟩ : ∃ y,y = g:=⟨_,rfl⟩
 subst hg0
 simp only [qbM9] at hr
 rcases iteP hr with ⟨h1,hr⟩ | ⟨h1,hr⟩
 obtain ⟨x3,h2,x4,h3,hr⟩:=bs2 hr
 have h3k:=fun h=>(qjx9 h3).o rfl rfl rfl (h:=h) (args:=[.ag [.d (.rd (b9_0.map qb9)),.d (.rd (b9_1.map intD))],.ag [.d (.rd (x3.Coef.map qb9)),.d (.rd (x3.Exps.map intD))]]) rfl
 try simp only [go_sem] at h3k
 rcases iteB hr with ⟨h4,hr⟩ | ⟨h4,hr⟩
 obtain ⟨x5,h5,hr⟩:=bsome hr
 obtain ⟨z6,h5k⟩:=qeY9 (g1:=[]) (g2:=(g1++(.row false 0 2 [[.d (.rd (b9_0.map qb9)),.d (.rd (b9_1.map intD))]]::(gt++(.row false 0 2 [[.d (.rd (x3.Coef.map qb9)),.d (.rd (x3.Exps.map intD))]]::(.row false 0 2 [[.d (.rd (x4.1.Coef.map qb9)),.d (.rd (x4.1.Exps.map intD))]]::[])))))) h5
 replace h5k:=qfL9 rfl rfl rfl h5k
 try simp only [go_sem] at h5k
 rcases iteB hr with ⟨h6,hr⟩ | ⟨h6,hr⟩
 obtain rfl:=oiA hr
 refine ⟨(gt++(.row false 0 2 [[.d (.rd (x3.Coef.map qb9)),.d (.rd (x3.Exps.map intD))]]::(.row false 0 2 [[.d (.rd (x4.1.Coef.map qb9)),.d (.rd (x4.1.Exps.map intD))]]::z6))),?_⟩
 rotate_left
 obtain rfl:=oiA hr
 refine xv_of ?_
 rotate_left
 obtain rfl:=oiA hr
 refine xv_of ?_
 rotate_left
 obtain rfl:=oiA hr
 refine xe_of ⟨.ptr (g1.length + 1) 0 0 0,.d (.rd (s28.map qa9)),PI s29,PI s30,gt,rfl⟩ ?_
 rotate_left
 all_goals (simp +decide only [go_sem,decide_not,qgz9,qiS9, *])
def qfi9 (s0 : List Mono) (s1 : List Mono) (s4 : List Mono) (s6 : Int) (s22 : List Mono) (s23 : Int) : Int × (List (ByteArray × Mono))→AHeap→St:=fun (s24,m7) gt=>⟨[(0,.d (.rd (s0.map qa9))),(1,.d (.rd (s1.map qa9))),(4,.d (.rd (s4.map qa9))),(5,PI 0),(6,PI s6),(7,.mp 0),(22,.d (.rd (s22.map qa9))),(23,PI s23),(24,PI s24)],(.map (mapP keyS qa9 m7)::gt)⟩
def qqw9 (s0 : List Mono) (s1 : List Mono) (s4 : List Mono) (s6 : Int) (s22 : List Mono) (s23 : Int) : (((List Mono) × Int) ⊕ (Int × (List (ByteArray × Mono))))→AExit × St→Prop
 | .inl r,q=>XV C [.tmp 4,.tmp 5] (.tp [.d (.rd (r.1.map qa9)),PI r.2]) q
 | .inr (s24,m7),q=>∃ g,q = (.exit 0,qfi9 s0 s1 s4 s6 s22 s23 (s24,m7) g)
theorem qqP9 {s0 : List Mono} {s1 : List Mono} {s4 : List Mono} {s6 : Int} {s22 : List Mono} {s23 : Int} : Sim C 140741578341107 qjj9 (qbW9 s0 s1 s4 s6 s22 s23) (qfi9 s0 s1 s4 s6 s22 s23) (qqw9 s0 s1 s4 s6 s22 s23):=by
 intro s g r hr
 obtain ⟨s24,m7⟩:=s
 have ⟨gt,hg0⟩ : ∃ y,y = g:=⟨_,rfl⟩
 subst hg0
 simp only [qbW9] at hr
 rcases iteP hr with ⟨h1,hr⟩ | ⟨h1,hr⟩
 obtain ⟨x2,h2,hr⟩:=bsome hr
 obtain ⟨x7,h3,hr⟩:=bsome hr
 obtain ⟨q3,h3L,h3X⟩:=(qqx9 (g1:=gt)).L (g:=[]) h3
 rcases x7 with x8 | x9
 try dsimp only at hr
 obtain ⟨st3,rfl,h3R⟩:=h3X
 simp only [qgz9,go_sem] at h3L
 obtain rfl:=oiA hr
 refine xv_of ?_
 rotate_left
 try dsimp only at hr
 obtain ⟨z10,z11,z12,z13,z14,rfl⟩:=h3X
 simp only [qgz9,go_sem] at h3L
 obtain rfl:=oiA hr
 refine ⟨(gt++(.row false 0 2 [[.d (.rd (x2.Coef.map qb9)),.d (.rd (x2.Exps.map intD))]]::z14)),?_⟩
 rotate_left
 obtain rfl:=oiA hr
 refine xe_of ⟨gt,rfl⟩ ?_
 rotate_left
 all_goals (simp +decide only [go_sem,decide_not,qfi9,qjj9, *])
theorem qiJ9 {a0 : List Mono} {a1 : List Mono} {r : (List Mono) × Int} (hr : qbv9 a0 a1 = some r) : Res C 24 [.rd (a0.map qa9),.rd (a1.map qa9)] (.tp [.d (.rd (r.1.map qa9)),PI r.2]):=by
 simp only [qbv9] at hr
 obtain ⟨x1,h1,hr⟩:=bsome hr
 have h1k:=fun h=>(qbu9 h1).o rfl rfl rfl (h:=h) (args:=[.im true [[.d (.rd (a0.map qa9))],[.d (.rd (a1.map qa9))]]]) rfl
 try simp only [go_sem] at h1k
 rcases iteP hr with ⟨h2,hr⟩ | ⟨h2,hr⟩
 obtain ⟨x15,h3,hr⟩:=bsome hr
 obtain ⟨q3,h3L,h3X⟩:=qqP9.L (g:=[]) h3
 rcases x15 with x16 | ⟨x17,x18⟩
 try dsimp only at hr
 obtain ⟨st3,rfl,h3R⟩:=h3X
 simp only [qfi9,go_sem] at h3L
 obtain rfl:=oiA hr
 refine run_V is24 (nbA rfl) ?_
 rotate_left
 try dsimp only at hr
 obtain ⟨z19,rfl⟩:=h3X
 simp only [qfi9,go_sem] at h3L
 obtain ⟨x20,h4,hr⟩:=bsome hr
 have h4k:=fun h id ho=>qtV9 (h:=h) (id:=id) h4 ho
 obtain rfl:=oiA hr
 refine run_V is24 (nbA rfl) ?_
 rotate_left
 obtain rfl:=oiA hr
 refine run_V is24 (nbA rfl) ?_
 rotate_left
 all_goals (simp +decide only [go_sem,decide_not,c24, *])
def qjB9 : ACode:=.seq (.reg [] [] [.K 11 (.bin .lss (.tmp 10) (.tmp 9))]) (.seq (.cond (.tmp 11) (some 11) (.skip) (.exit 0)) (.seq (.block 1 2099296 (.seq (.reg [] [] [.M 12 10,.T 13 (.ix 1 (.tmp 8) (.tmp 10)),.T 14 (.load none (.tmp 13)),.N 5 12,.N 6 14]) (.seq (.reg [] [] [.M 15 6,.T 16 (.bin .gtr (.tmp 15) (cI 0)),.M 17 16,.MG 18 17 true 1,.MG 19 17 true 5,.TG 20 17 true (.callV (.tmp 18) [.tmp 19]),.K 21 (.pick (.tmp 17) (.tmp 20) (.const (.bool false)))]) (.cond (.tmp 21) (some 21) (.seq (.reg [] [] [.K 4 (.mv (.const (.bool true)))]) (.ret)) (.skip))))) (.reg [] [] [.T 22 (.bin .add (.tmp 10) (cI 1)),.N 10 22])))
def c55 : ACode:=.seq (.reg [] [] [.K 2 (.box (.tmp 0)),.K 4 (.mv (.const (.bool false)))]) (.seq (.seq (.reg [] [] [.T 7 (.fa 1 (.tmp 2)),.K 8 (.load none (.tmp 7)),.K 9 (.len (.tmp 8)),.K 10 (.mv (cI 0))]) (.block 0 2099296 (.loop qjB9))) (.seq (.reg [] [] [.K 4 (.mv (.const (.bool false)))]) (.ret)))
theorem is55 : IsF C 55 23 2101111 c55 [.tmp 4]:=⟨⟨Try.f55,_,C_P ▸ Try.func55,rfl,rfl,rfl,by kernel_rfl,rfl⟩⟩
def qT9 (s0 : Mono) (s1_0 : List (List Mono)) (s8 : List Int) (s9 : Int) (b2_0 : List Int) (b2_1 : List Int) : Int→Unit→St:=fun s10 _=>⟨[(0,.d (.ag (qa9 s0))),(1,.d (.fn 56 [.bx ((lsD (lsD qa9)) s1_0)])),(2,.ptr 0 0 0 0),(4,PB false),(8,.d (.rd (s8.map intD))),(9,PI s9),(10,PI s10)],(.row false 0 2 [[.d (.rd (b2_0.map qb9)),.d (.rd (b2_1.map intD))]]::[])⟩
def qfd9 (s0 : Mono) (s1_0 : List (List Mono)) (s8 : List Int) (s9 : Int) (b2_0 : List Int) (b2_1 : List Int) : (Bool ⊕ Int)→AExit × St→Prop
 | .inl r,q=>XV C [.tmp 4] (PB r) q
 | .inr s10,q=>∃ g,q = (.exit 0,qT9 s0 s1_0 s8 s9 b2_0 b2_1 s10 g)
theorem qfe9 {s0 : Mono} {s1_0 : List (List Mono)} {s8 : List Int} {s9 : Int} {b2_0 : List Int} {b2_1 : List Int} : Sim C 2101111 qjB9 (qS9 s0 s1_0 s8 s9 b2_0 b2_1) (qT9 s0 s1_0 s8 s9 b2_0 b2_1) (qfd9 s0 s1_0 s8 s9 b2_0 b2_1):=by
 intro s g r hr
 have ⟨s10,hs0⟩ : ∃ y,y = s:=⟨_,rfl⟩
 subst hs0
 simp only [qS9] at hr
 rcases iteP hr with ⟨h1,hr⟩ | ⟨h1,hr⟩
 obtain ⟨x1,h2,hr⟩:=bsome hr
 rcases iteP hr with ⟨h3,hr⟩ | ⟨h3,hr⟩
 obtain ⟨x2,h4,hr⟩:=bsome hr
 have h4k:=(qjV9 h4).k rfl rfl rfl
 try simp only [go_sem] at h4k
 rcases iteB hr with ⟨h5,hr⟩ | ⟨h5,hr⟩
 obtain rfl:=oiA hr
 refine xv_of ?_
 rotate_left
 obtain rfl:=oiA hr
 refine ⟨(),?_⟩
 rotate_left
 obtain rfl:=oiA hr
 refine ⟨(),?_⟩
 rotate_left
 obtain rfl:=oiA hr
 refine xe_of ⟨(),rfl⟩ ?_
 rotate_left
 all_goals (simp +decide only [go_sem,decide_not,qT9,qjB9, *])
theorem qcN9 {a0 : Mono} {a1_0 : List (List Mono)} {r : Bool} (hr : qbc9 a0 a1_0 = some r) : Res C 55 [.ag (qa9 a0),.fn 56 [.bx ((lsD (lsD qa9)) a1_0)]] (PB r):=by
 simp only [qbc9] at hr
 obtain ⟨x3,h1,hr⟩:=bsome hr
 obtain ⟨q1,h1L,h1X⟩:=qfe9.L (g:=()) h1
 rcases x3 with x4 | x5
 try dsimp only at hr
 obtain ⟨st1,rfl,h1R⟩:=h1X
 simp only [qT9,go_sem] at h1L
 obtain rfl:=oiA hr
 refine run_V is55 (nbA rfl) ?_
 rotate_left
 try dsimp only at hr
 obtain ⟨⟨⟩,rfl⟩:=h1X
 simp only [qT9,go_sem] at h1L
 obtain rfl:=oiA hr
 refine run_V is55 (nbA rfl) ?_
 rotate_left
 all_goals (simp +decide only [go_sem,decide_not,c55, *])
def qoZ9 : ACode:=.seq (.reg [] [] [.K 9 (.bin .lss (.tmp 8) (.tmp 7))]) (.seq (.cond (.tmp 9) (some 9) (.skip) (.exit 0)) (.seq (.block 1 66080 (.seq (.reg [] [] [.M 10 8,.N 5 10]) (.seq (.reg [] [] [.M 11 1,.M 12 0,.M 13 5,.T 14 (.ix 1 (.tmp 12) (.tmp 13)),.T 15 (.load none (.tmp 14)),.K 16 (.callV (.tmp 11) [.tmp 15])]) (.cond (.tmp 16) (some 16) (.seq (.reg [] [] [.M 17 5,.N 4 17]) (.ret)) (.skip))))) (.reg [] [] [.T 18 (.bin .add (.tmp 8) (cI 1)),.N 8 18])))
def c80 : ACode:=.seq (.reg [] [] [.K 4 (.mv (cI 0))]) (.seq (.seq (.reg [] [] [.M 6 0,.K 7 (.len (.tmp 6)),.K 8 (.mv (cI 0))]) (.block 0 66080 (.loop qoZ9))) (.seq (.reg [] [] [.K 4 (.mv (cI (-1)))]) (.ret)))
theorem is80 : IsF C 80 19 66483 c80 [.tmp 4]:=⟨⟨Try.f80,_,C_P ▸ Try.func80,rfl,rfl,rfl,by kernel_rfl,rfl⟩⟩
def qp9 (s0 : List (List Int)) (s7 : Int) : Int→Unit→St:=fun s8 _=>⟨[(0,.d (.rd (s0.map (lsD qb9)))),(1,.d (.fn 58 [])),(4,PI 0),(7,PI s7),(8,PI s8)],[]⟩
def qcq9 (s0 : List (List Int)) (s7 : Int) : (Int ⊕ Int)→AExit × St→Prop
 | .inl r,q=>XV C [.tmp 4] (PI r) q
 | .inr s8,q=>∃ g,q = (.exit 0,qp9 s0 s7 s8 g)
theorem qcs9 {s0 : List (List Int)} {s7 : Int} : Sim C 66483 qoZ9 (qn9 s0 s7) (qp9 s0 s7) (qcq9 s0 s7):=by
 intro s g r hr
 have ⟨s8,hs0⟩ : ∃ y,y = s:=⟨_,rfl⟩
 subst hs0
 simp only [qn9] at hr
 rcases iteP hr with ⟨h1,hr⟩ | ⟨h1,hr⟩
 obtain ⟨x1,h2,x2,h3,hr⟩:=bs2 hr
 have h3k:=(qlB9 h3).k rfl rfl rfl
 try simp only [go_sem] at h3k
 rcases iteB hr with ⟨h4,hr⟩ | ⟨h4,hr⟩
 obtain rfl:=oiA hr
 refine xv_of ?_
 rotate_left
 obtain rfl:=oiA hr
 refine ⟨(),?_⟩
 rotate_left
 obtain rfl:=oiA hr
 refine xe_of ⟨(),rfl⟩ ?_
 rotate_left
 all_goals (simp +decide only [go_sem,decide_not,qp9,qoZ9, *])
theorem qcw9 {a0 : List (List Int)} {r : Int} (hr : qG9 a0 = some r) : Res C 80 [.rd (a0.map (lsD qb9)),.fn 58 []] (PI r):=by
 simp only [qG9] at hr
 obtain ⟨x3,h1,hr⟩:=bsome hr
 obtain ⟨q1,h1L,h1X⟩:=qcs9.L (g:=()) h1
 rcases x3 with x4 | x5
 try dsimp only at hr
 obtain ⟨st1,rfl,h1R⟩:=h1X
 simp only [qp9,go_sem] at h1L
 obtain rfl:=oiA hr
 refine run_V is80 (nbA rfl) ?_
 rotate_left
 try dsimp only at hr
 obtain ⟨⟨⟩,rfl⟩:=h1X
 simp only [qp9,go_sem] at h1L
 obtain rfl:=oiA hr
 refine run_V is80 (nbA rfl) ?_
 rotate_left
 all_goals (simp +decide only [go_sem,decide_not,c80, *])
def c57 : ACode:=.seq (.reg [] [] [.K 4 (.mv (.const (.bool false)))]) (.seq (.reg [] [] [.M 5 0,.M 6 1,.T 7 (.call 80 [.tmp 5,.tmp 6]),.T 8 (.bin .geq (.tmp 7) (cI 0)),.N 4 8]) (.ret))
theorem is57 : IsF C 57 9 19 c57 [.tmp 4]:=⟨⟨Try.f57,_,C_P ▸ Try.func57,rfl,rfl,rfl,by kernel_rfl,rfl⟩⟩
theorem qci9 {a0 : List (List Int)} {r : Bool} (hr : qo9 a0 = some r) : Res C 57 [.rd (a0.map (lsD qb9)),.fn 58 []] (PB r):=by
 simp only [qo9] at hr
 obtain ⟨x1,h1,hr⟩:=bsome hr
 have h1k:=(qcw9 h1).k rfl rfl rfl
 try simp only [go_sem] at h1k
 obtain rfl:=oiA hr
 refine run_V is57 (nbA rfl) ?_
 rotate_left
 all_goals (simp +decide only [go_sem,decide_not,c57, *])
end Ld

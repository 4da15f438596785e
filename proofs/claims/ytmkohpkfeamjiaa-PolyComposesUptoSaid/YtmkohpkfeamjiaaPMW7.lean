import Derived.Test.YtmkohpkfeamjiaaPMW2
import Derived.Test.YtmkohpkfeamjiaaPMW4
import Derived.Test.YtmkohpkfeamjiaaPMW6
set_option maxHeartbeats 60000000
set_option linter.unusedVariables false
set_option linter.unusedSimpArgs false
set_option linter.unusedSectionVars false
namespace Ld
open Go Go.Proofs Go.Abs
set_option maxRecDepth 8000
def qju9 : ACode:=.seq (.reg [] [] [.K 54 (.bin .lss (.tmp 53) (.tmp 52))]) (.seq (.cond (.tmp 54) (some 54) (.skip) (.exit 4)) (.seq (.block 5 36911502545928585216 (.seq (.reg [] [] [.M 56 11,.T 57 (.load none (.tmp 3)),.M 58 13,.T 59 (.ix 1 (.tmp 57) (.tmp 58)),.T 60 (.load none (.tmp 59)),.T 61 (.call 24 [.tmp 56,.tmp 60]),.M 55 61,.T 62 (.ext (.tmp 55) 0),.T 63 (.ext (.tmp 55) 1),.N 11 62,.N 12 63]) (.seq (.reg [] [] [.M 64 12,.K 65 (.bin .neq (.tmp 64) (cI 0))]) (.cond (.tmp 65) (some 65) (.seq (.reg [] [(4,0)] [.M 66 12,.K 4 (.mv (.const (.slice none 0 0))),.N 5 66]) (.ret)) (.skip))))) (.reg [] [] [.T 67 (.bin .add (.tmp 53) (cI 1)),.N 53 67])))
def qiT9 : ACode:=.seq (.reg [] [] [.K 48 (.bin .lss (.tmp 47) (.tmp 46))]) (.seq (.cond (.tmp 48) (some 48) (.skip) (.exit 2)) (.seq (.block 3 36925294819787431936 (.seq (.reg [] [] [.M 49 47,.T 50 (.ix 1 (.tmp 45) (.tmp 47)),.T 51 (.load none (.tmp 50)),.N 13 49,.N 14 51]) (.seq (.reg [] [] [.N 52 14,.K 53 (.mv (cI 0))]) (.block 4 36925294819787431936 (.loop qju9))))) (.reg [] [] [.T 68 (.bin .add (.tmp 47) (cI 1)),.N 47 68])))
def qjf9 : ACode:=.seq (.reg [] [] [.K 34 (.bin .lss (.tmp 33) (.tmp 32))]) (.seq (.cond (.tmp 34) (some 34) (.skip) (.exit 0)) (.seq (.block 1 75594789267591651163136 (.seq (.reg [] [] [.T 35 (.ix 2 (.tmp 31) (.tmp 33)),.T 36 (.load (some 2) (.tmp 35)),.K 10 (.alloc [.im true [],.im true []] 2),⟨none,.store 2 (.tmp 10) (.tmp 36),none,false,false⟩]) (.seq (.seq (.reg [] [] [.T 37 (.load (some 2) (.tmp 10)),.T 38 (.mkF 56 [.tmp 3]),.K 39 (.call 55 [.tmp 37,.tmp 38])]) (.cond (.tmp 39) (some 39) (.exit 1) (.skip))) (.seq (.reg [] [(11,0)] [.T 40 (.fa 0 (.tmp 10)),.T 41 (.load none (.tmp 40)),.T 42 (.build [(0,1),(1,1)] [.im true [],.im true []] [(0,.tmp 41)]),.T 43 (.lit 2 [(0,.tmp 42)]),.N 11 43,.K 12 (.mv (cI 0))]) (.seq (.seq (.reg [] [] [.T 44 (.fa 1 (.tmp 10)),.K 45 (.load none (.tmp 44)),.K 46 (.len (.tmp 45)),.K 47 (.mv (cI 0))]) (.block 2 36925541677327737856 (.loop qiT9))) (.seq (.reg [] [] [.M 70 8,.M 71 11,.T 72 (.call 17 [.tmp 70,.tmp 71]),.M 69 72,.T 73 (.ext (.tmp 69) 0),.T 74 (.ext (.tmp 69) 1),.N 8 73,.N 12 74]) (.seq (.reg [] [] [.M 75 12,.K 76 (.bin .neq (.tmp 75) (cI 0))]) (.cond (.tmp 76) (some 76) (.seq (.reg [] [(4,0)] [.M 77 12,.K 4 (.mv (.const (.slice none 0 0))),.N 5 77]) (.ret)) (.skip))))))))) (.reg [] [] [.T 78 (.bin .add (.tmp 33) (cI 1)),.N 33 78])))
def c26 : ACode:=.seq (.reg [] [(4,0)] [.K 3 (.box (.tmp 1)),.K 4 (.mv (.const (.slice none 0 0))),.K 5 (.mv (cI 0))]) (.seq (.seq (.reg [] [] [.M 15 0,.T 16 (.lit 1 [(0,.tmp 15)]),.T 17 (.call 43 [.tmp 16]),.N 6 17]) (.seq (.reg [] [] [.M 18 6,.K 19 (.bin .neq (.tmp 18) (cI 0))]) (.cond (.tmp 19) (some 19) (.seq (.reg [] [(4,0)] [.M 20 6,.K 4 (.mv (.const (.slice none 0 0))),.N 5 20]) (.ret)) (.skip)))) (.seq (.seq (.reg [] [] [.T 21 (.load none (.tmp 3)),.T 22 (.call 43 [.tmp 21]),.N 7 22]) (.seq (.reg [] [] [.M 23 7,.K 24 (.bin .neq (.tmp 23) (cI 0))]) (.cond (.tmp 24) (some 24) (.seq (.reg [] [(4,0)] [.M 25 7,.K 4 (.mv (.const (.slice none 0 0))),.N 5 25]) (.ret)) (.skip)))) (.seq (.seq (.reg [] [] [.M 26 0,.T 27 (.load none (.tmp 3)),.T 28 (.len (.tmp 27)),.T 29 (.call 14 [.tmp 26,.tmp 28]),.K 30 (.bin .neq (.tmp 29) (cI 0))]) (.cond (.tmp 30) (some 30) (.seq (.reg [] [(4,0)] [.K 4 (.mv (.const (.slice none 0 0))),.K 5 (.mv (cI 21))]) (.ret)) (.skip))) (.seq (.reg [] [(8,0)] [.K 8 (.mv (.const (.slice none 0 0)))]) (.seq (.seq (.reg [] [] [.N 31 0,.K 32 (.len (.tmp 31)),.K 33 (.mv (cI 0))]) (.block 0 75594789267591651163136 (.loop qjf9))) (.seq (.reg [] [] [.M 79 8,.N 4 79,.K 5 (.mv (cI 0))]) (.ret)))))))
theorem is26 : IsF C 26 80 75594789267607774592507 c26 [.tmp 4,.tmp 5]:=⟨⟨Try.f26,_,C_P ▸ Try.func26,rfl,rfl,rfl,by kernel_rfl,rfl⟩⟩
def qes9 (s0 : List Mono) (s1 : List (List Mono)) (s4 : List Mono) (s6 : Int) (s7 : Int) (s8 : List Mono) (s13 : Int) (s14 : Int) (s31 : List Mono) (s32 : Int) (s33 : Int) (s45 : List Int) (s46 : Int) (s47 : Int) (s52 : Int) (b3_0 : List (List Mono)) (b10_0 : List Int) (b10_1 : List Int) (g1 : AHeap) : (List Mono) × Int × Int→Unit→St:=fun (s11,s12,s53) _=>⟨[(0,.d (.rd (s0.map qa9))),(1,.d (.rd (s1.map (lsD qa9)))),(3,.ptr 0 0 0 0),(4,.d (.rd (s4.map qa9))),(5,PI 0),(6,PI s6),(7,PI s7),(8,.d (.rd (s8.map qa9))),(10,.ptr (g1.length + 1) 0 0 0),(11,.d (.rd (s11.map qa9))),(12,PI s12),(13,PI s13),(14,PI s14),(31,.d (.rd (s31.map qa9))),(32,PI s32),(33,PI s33),(45,.d (.rd (s45.map intD))),(46,PI s46),(47,PI s47),(52,PI s52),(53,PI s53)],(.row false 0 1 [[.d (.rd (b3_0.map (lsD qa9)))]]::(g1++(.row false 0 2 [[.d (.rd (b10_0.map qb9)),.d (.rd (b10_1.map intD))]]::[])))⟩
def qlD9 (s0 : List Mono) (s1 : List (List Mono)) (s4 : List Mono) (s6 : Int) (s7 : Int) (s8 : List Mono) (s13 : Int) (s14 : Int) (s31 : List Mono) (s32 : Int) (s33 : Int) (s45 : List Int) (s46 : Int) (s47 : Int) (s52 : Int) (b3_0 : List (List Mono)) (b10_0 : List Int) (b10_1 : List Int) (g1 : AHeap) : (((List Mono) × Int) ⊕ ((List Mono) × Int))→AExit × St→Prop
 | .inl r,q=>XV C [.tmp 4,.tmp 5] (.tp [.d (.rd (r.1.map qa9)),PI r.2]) q
 | .inr (s11,s12),q=>∃ d13 : PV,∃ d14 : PV,∃ d52 : PV,∃ d53 : PV,q = (.exit 4,⟨[(0,.d (.rd (s0.map qa9))),(1,.d (.rd (s1.map (lsD qa9)))),(3,.ptr 0 0 0 0),(4,.d (.rd (s4.map qa9))),(5,PI 0),(6,PI s6),(7,PI s7),(8,.d (.rd (s8.map qa9))),(10,.ptr (g1.length + 1) 0 0 0),(11,.d (.rd (s11.map qa9))),(12,PI s12),(13,d13),(14,d14),(31,.d (.rd (s31.map qa9))),(32,PI s32),(33,PI s33),(45,.d (.rd (s45.map intD))),(46,PI s46),(47,PI s47),(52,d52),(53,d53)],(.row false 0 1 [[.d (.rd (b3_0.map (lsD qa9)))]]::(g1++(.row false 0 2 [[.d (.rd (b10_0.map qb9)),.d (.rd (b10_1.map intD))]]::[])))⟩)
theorem qkX9 {s0 : List Mono} {s1 : List (List Mono)} {s4 : List Mono} {s6 : Int} {s7 : Int} {s8 : List Mono} {s13 : Int} {s14 : Int} {s31 : List Mono} {s32 : Int} {s33 : Int} {s45 : List Int} {s46 : Int} {s47 : Int} {s52 : Int} {b3_0 : List (List Mono)} {b10_0 : List Int} {b10_1 : List Int} {g1 : AHeap} : Sim C 75594789267607774592507 qju9 (qbn9 s0 s1 s4 s6 s7 s8 s13 s14 s31 s32 s33 s45 s46 s47 s52 b3_0 b10_0 b10_1) (qes9 s0 s1 s4 s6 s7 s8 s13 s14 s31 s32 s33 s45 s46 s47 s52 b3_0 b10_0 b10_1 g1) (qlD9 s0 s1 s4 s6 s7 s8 s13 s14 s31 s32 s33 s45 s46 s47 s52 b3_0 b10_0 b10_1 g1):=by
 intro s g r hr
 obtain ⟨s11,s12,s53⟩:=s
 simp only [qbn9] at hr
 rcases iteP hr with ⟨h1,hr⟩ | ⟨h1,hr⟩
 obtain ⟨x7,h2,x8,h3,hr⟩:=bs2 hr
 have h3k:=(qiJ9 h3).k rfl rfl rfl
 try simp only [go_sem] at h3k
 rcases iteP hr with ⟨h4,hr⟩ | ⟨h4,hr⟩
 obtain rfl:=oiA hr
 refine ⟨(),?_⟩
 rotate_left
 obtain rfl:=oiA hr
 refine xv_of ?_
 rotate_left
 obtain rfl:=oiA hr
 refine xe_of ⟨PI s13,PI s14,PI s52,PI s53,rfl⟩ ?_
 rotate_left
 all_goals (simp +decide only [go_sem,decide_not,qes9,qju9, *])
def qeu9 (s0 : List Mono) (s1 : List (List Mono)) (s4 : List Mono) (s6 : Int) (s7 : Int) (s8 : List Mono) (s31 : List Mono) (s32 : Int) (s33 : Int) (s45 : List Int) (s46 : Int) (b3_0 : List (List Mono)) (b10_0 : List Int) (b10_1 : List Int) (g1 : AHeap) : (List Mono) × Int × Int→Unit→St:=fun (s11,s12,s47) _=>⟨[(0,.d (.rd (s0.map qa9))),(1,.d (.rd (s1.map (lsD qa9)))),(3,.ptr 0 0 0 0),(4,.d (.rd (s4.map qa9))),(5,PI 0),(6,PI s6),(7,PI s7),(8,.d (.rd (s8.map qa9))),(10,.ptr (g1.length + 1) 0 0 0),(11,.d (.rd (s11.map qa9))),(12,PI s12),(31,.d (.rd (s31.map qa9))),(32,PI s32),(33,PI s33),(45,.d (.rd (s45.map intD))),(46,PI s46),(47,PI s47)],(.row false 0 1 [[.d (.rd (b3_0.map (lsD qa9)))]]::(g1++(.row false 0 2 [[.d (.rd (b10_0.map qb9)),.d (.rd (b10_1.map intD))]]::[])))⟩
def qlr9 (s0 : List Mono) (s1 : List (List Mono)) (s4 : List Mono) (s6 : Int) (s7 : Int) (s8 : List Mono) (s31 : List Mono) (s32 : Int) (s33 : Int) (s45 : List Int) (s46 : Int) (b3_0 : List (List Mono)) (b10_0 : List Int) (b10_1 : List Int) (g1 : AHeap) : (((List Mono) × Int) ⊕ ((List Mono) × Int))→AExit × St→Prop
 | .inl r,q=>XV C [.tmp 4,.tmp 5] (.tp [.d (.rd (r.1.map qa9)),PI r.2]) q
 | .inr (s11,s12),q=>∃ d10 : PV,∃ d45 : PV,∃ d46 : PV,∃ d47 : PV,q = (.exit 2,⟨[(0,.d (.rd (s0.map qa9))),(1,.d (.rd (s1.map (lsD qa9)))),(3,.ptr 0 0 0 0),(4,.d (.rd (s4.map qa9))),(5,PI 0),(6,PI s6),(7,PI s7),(8,.d (.rd (s8.map qa9))),(10,d10),(11,.d (.rd (s11.map qa9))),(12,PI s12),(31,.d (.rd (s31.map qa9))),(32,PI s32),(33,PI s33),(45,d45),(46,d46),(47,d47)],(.row false 0 1 [[.d (.rd (b3_0.map (lsD qa9)))]]::(g1++(.row false 0 2 [[.d (.rd (b10_0.map qb9)),.d (.rd (b10_1.map intD))]]::[])))⟩)
theorem qlN9 {s0 : List Mono} {s1 : List (List Mono)} {s4 : List Mono} {s6 : Int} {s7 : Int} {s8 : List Mono} {s31 : List Mono} {s32 : Int} {s33 : Int} {s45 : List Int} {s46 : Int} {b3_0 : List (List Mono)} {b10_0 : List Int} {b10_1 : List Int} {g1 : AHeap} : Sim C 75594789267607774592507 qiT9 (qbm9 s0 s1 s4 s6 s7 s8 s31 s32 s33 s45 s46 b3_0 b10_0 b10_1) (qeu9 s0 s1 s4 s6 s7 s8 s31 s32 s33 s45 s46 b3_0 b10_0 b10_1 g1) (qlr9 s0 s1 s4 s6 s7 s8 s31 s32 s33 s45 s46 b3_0 b10_0 b10_1 g1):=by
 intro s g r hr
 obtain ⟨s11,s12,s47⟩:=s
 simp only [qbm9] at hr
 rcases iteP hr with ⟨h1,hr⟩ | ⟨h1,hr⟩
 obtain ⟨x6,h2,hr⟩:=bsome hr
 obtain ⟨x9,h3,hr⟩:=bsome hr
 obtain ⟨q3,h3L,h3X⟩:=(qkX9 (g1:=g1)).L (g:=()) h3
 rcases x9 with x10 | ⟨x11,x12⟩
 try dsimp only at hr
 obtain ⟨st3,rfl,h3R⟩:=h3X
 simp only [qes9,go_sem] at h3L
 obtain rfl:=oiA hr
 refine xv_of ?_
 rotate_left
 try dsimp only at hr
 obtain ⟨z13,z14,z15,z16,rfl⟩:=h3X
 simp only [qes9,go_sem] at h3L
 obtain rfl:=oiA hr
 refine ⟨(),?_⟩
 rotate_left
 obtain rfl:=oiA hr
 refine xe_of ⟨.ptr (g1.length + 1) 0 0 0,.d (.rd (s45.map intD)),PI s46,PI s47,rfl⟩ ?_
 rotate_left
 all_goals (simp +decide only [go_sem,decide_not,qeu9,qiT9, *])
def qdy9 (s0 : List Mono) (s1 : List (List Mono)) (s4 : List Mono) (s6 : Int) (s7 : Int) (s31 : List Mono) (s32 : Int) (b3_0 : List (List Mono)) : (List Mono) × Int→AHeap→St:=fun (s8,s33) gt=>⟨[(0,.d (.rd (s0.map qa9))),(1,.d (.rd (s1.map (lsD qa9)))),(3,.ptr 0 0 0 0),(4,.d (.rd (s4.map qa9))),(5,PI 0),(6,PI s6),(7,PI s7),(8,.d (.rd (s8.map qa9))),(31,.d (.rd (s31.map qa9))),(32,PI s32),(33,PI s33)],(.row false 0 1 [[.d (.rd (b3_0.map (lsD qa9)))]]::gt)⟩
def qkU9 (s0 : List Mono) (s1 : List (List Mono)) (s4 : List Mono) (s6 : Int) (s7 : Int) (s31 : List Mono) (s32 : Int) (b3_0 : List (List Mono)) : (((List Mono) × Int) ⊕ ((List Mono) × Int))→AExit × St→Prop
 | .inl r,q=>XV C [.tmp 4,.tmp 5] (.tp [.d (.rd (r.1.map qa9)),PI r.2]) q
 | .inr (s8,s33),q=>∃ g,q = (.exit 0,qdy9 s0 s1 s4 s6 s7 s31 s32 b3_0 (s8,s33) g)
theorem qkT9 {s0 : List Mono} {s1 : List (List Mono)} {s4 : List Mono} {s6 : Int} {s7 : Int} {s31 : List Mono} {s32 : Int} {b3_0 : List (List Mono)} : Sim C 75594789267607774592507 qjf9 (qW9 s0 s1 s4 s6 s7 s31 s32 b3_0) (qdy9 s0 s1 s4 s6 s7 s31 s32 b3_0) (qkU9 s0 s1 s4 s6 s7 s31 s32 b3_0):=by
 intro s g r hr
 obtain ⟨s8,s33⟩:=s
 have ⟨gt,hg0⟩ : ∃ y,y = g:=⟨_,rfl⟩
 subst hg0
 simp only [qW9] at hr
 rcases iteP hr with ⟨h1,hr⟩ | ⟨h1,hr⟩
 obtain ⟨x4,h2,x5,h3,hr⟩:=bs2 hr
 have h3k:=fun h args=>(qcN9 h3).o rfl rfl rfl (h:=h) (args:=args)
 try simp only [go_sem] at h3k
 rcases iteB hr with ⟨h4,hr⟩ | ⟨h4,hr⟩
 obtain rfl:=oiA hr
 refine ⟨(gt++(.row false 0 2 [[.d (.rd (x4.Coef.map qb9)),.d (.rd (x4.Exps.map intD))]]::[])),?_⟩
 rotate_left
 obtain ⟨x17,h5,hr⟩:=bsome hr
 obtain ⟨q5,h5L,h5X⟩:=(qlN9 (g1:=gt)).L (g:=()) h5
 rcases x17 with x18 | ⟨x19,x20⟩
 try dsimp only at hr
 obtain ⟨st5,rfl,h5R⟩:=h5X
 simp only [qeu9,go_sem] at h5L
 obtain rfl:=oiA hr
 refine xv_of ?_
 rotate_left
 try dsimp only at hr
 obtain ⟨z21,z22,z23,z24,rfl⟩:=h5X
 simp only [qeu9,go_sem] at h5L
 obtain ⟨x25,h6,hr⟩:=bsome hr
 have h6k:=(qiE9 h6).k rfl rfl rfl
 try simp only [go_sem] at h6k
 rcases iteP hr with ⟨h7,hr⟩ | ⟨h7,hr⟩
 obtain rfl:=oiA hr
 refine ⟨(gt++(.row false 0 2 [[.d (.rd (x4.Coef.map qb9)),.d (.rd (x4.Exps.map intD))]]::[])),?_⟩
 rotate_left
 obtain rfl:=oiA hr
 refine xv_of ?_
 rotate_left
 obtain rfl:=oiA hr
 refine xe_of ⟨gt,rfl⟩ ?_
 rotate_left
 all_goals (simp +decide only [go_sem,decide_not,qdy9,qjf9, *])
theorem qgj9 {a0 : List Mono} {a1 : List (List Mono)} {r : (List Mono) × Int} (hr : qz9 a0 a1 = some r) : Res C 26 [.rd (a0.map qa9),.rd (a1.map (lsD qa9))] (.tp [.d (.rd (r.1.map qa9)),PI r.2]):=by
 simp only [qz9] at hr
 obtain ⟨x1,h1,hr⟩:=bsome hr
 have h1k:=fun h=>(qbu9 h1).o rfl rfl rfl (h:=h) (args:=[.im true [[.d (.rd (a0.map qa9))]]]) rfl
 try simp only [go_sem] at h1k
 rcases iteP hr with ⟨h2,hr⟩ | ⟨h2,hr⟩
 obtain ⟨x2,h3,hr⟩:=bsome hr
 have h3k:=(qbu9 h3).k rfl rfl rfl
 try simp only [go_sem] at h3k
 rcases iteP hr with ⟨h4,hr⟩ | ⟨h4,hr⟩
 obtain ⟨x3,h5,hr⟩:=bsome hr
 have h5k:=(qda9 h5).k rfl rfl rfl
 try simp only [go_sem] at h5k
 rcases iteP hr with ⟨h6,hr⟩ | ⟨h6,hr⟩
 obtain ⟨x26,h7,hr⟩:=bsome hr
 obtain ⟨q7,h7L,h7X⟩:=qkT9.L (g:=[]) h7
 rcases x26 with x27 | ⟨x28,x29⟩
 try dsimp only at hr
 obtain ⟨st7,rfl,h7R⟩:=h7X
 simp only [qdy9,go_sem] at h7L
 obtain rfl:=oiA hr
 refine run_V is26 (nbA rfl) ?_
 rotate_left
 try dsimp only at hr
 obtain ⟨z30,rfl⟩:=h7X
 simp only [qdy9,go_sem] at h7L
 obtain rfl:=oiA hr
 refine run_V is26 (nbA rfl) ?_
 rotate_left
 obtain rfl:=oiA hr
 refine run_V is26 (nbA rfl) ?_
 rotate_left
 obtain rfl:=oiA hr
 refine run_V is26 (nbA rfl) ?_
 rotate_left
 obtain rfl:=oiA hr
 refine run_V is26 (nbA rfl) ?_
 rotate_left
 all_goals (simp +decide only [go_sem,decide_not,c26, *])
def qY9 (s0 : Mono) (s1_0 : List (List Int)) (s8 : List Int) (s9 : Int) (b2_0 : List Int) (b2_1 : List Int) : Int→Unit→St:=fun s10 _=>⟨[(0,.d (.ag (qa9 s0))),(1,.d (.fn 60 [.bx ((lsD (lsD qb9)) s1_0)])),(2,.ptr 0 0 0 0),(4,PB false),(8,.d (.rd (s8.map intD))),(9,PI s9),(10,PI s10)],(.row false 0 2 [[.d (.rd (b2_0.map qb9)),.d (.rd (b2_1.map intD))]]::[])⟩
def qfv9 (s0 : Mono) (s1_0 : List (List Int)) (s8 : List Int) (s9 : Int) (b2_0 : List Int) (b2_1 : List Int) : (Bool ⊕ Int)→AExit × St→Prop
 | .inl r,q=>XV C [.tmp 4] (PB r) q
 | .inr s10,q=>∃ g,q = (.exit 0,qY9 s0 s1_0 s8 s9 b2_0 b2_1 s10 g)
theorem qfy9 {s0 : Mono} {s1_0 : List (List Int)} {s8 : List Int} {s9 : Int} {b2_0 : List Int} {b2_1 : List Int} : Sim C 2101111 qjB9 (qX9 s0 s1_0 s8 s9 b2_0 b2_1) (qY9 s0 s1_0 s8 s9 b2_0 b2_1) (qfv9 s0 s1_0 s8 s9 b2_0 b2_1):=by
 intro s g r hr
 have ⟨s10,hs0⟩ : ∃ y,y = s:=⟨_,rfl⟩
 subst hs0
 simp only [qX9] at hr
 rcases iteP hr with ⟨h1,hr⟩ | ⟨h1,hr⟩
 obtain ⟨x1,h2,hr⟩:=bsome hr
 rcases iteP hr with ⟨h3,hr⟩ | ⟨h3,hr⟩
 obtain ⟨x2,h4,hr⟩:=bsome hr
 have h4k:=(qlc9 h4).k rfl rfl rfl
 try simp only [go_sem] at h4k
 rcases iteB hr with ⟨h5,hr⟩ | ⟨h5,hr⟩
 obtain rfl:=oiA hr
 refine xv_of ?_
 rotate_left
 obtain rfl:=oiA hr
 refine ⟨(),?_⟩
 rotate_left
 obtain rfl:=oiA hr
 refine ⟨(),?_⟩
 rotate_left
 obtain rfl:=oiA hr
 refine xe_of ⟨(),rfl⟩ ?_
 rotate_left
 all_goals (simp +decide only [go_sem,decide_not,qY9,qjB9, *])
theorem qfM9 {a0 : Mono} {a1_0 : List (List Int)} {r : Bool} (hr : qbk9 a0 a1_0 = some r) : Res C 55 [.ag (qa9 a0),.fn 60 [.bx ((lsD (lsD qb9)) a1_0)]] (PB r):=by
 simp only [qbk9] at hr
 obtain ⟨x3,h1,hr⟩:=bsome hr
 obtain ⟨q1,h1L,h1X⟩:=qfy9.L (g:=()) h1
 rcases x3 with x4 | x5
 try dsimp only at hr
 obtain ⟨st1,rfl,h1R⟩:=h1X
 simp only [qY9,go_sem] at h1L
 obtain rfl:=oiA hr
 refine run_V is55 (nbA rfl) ?_
 rotate_left
 try dsimp only at hr
 obtain ⟨⟨⟩,rfl⟩:=h1X
 simp only [qY9,go_sem] at h1L
 obtain rfl:=oiA hr
 refine run_V is55 (nbA rfl) ?_
 rotate_left
 all_goals (simp +decide only [go_sem,decide_not,c55, *])
end Ld

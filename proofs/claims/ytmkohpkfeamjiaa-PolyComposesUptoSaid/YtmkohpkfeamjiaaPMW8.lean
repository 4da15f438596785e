import Derived.Test.YtmkohpkfeamjiaaPMW2
import Derived.Test.YtmkohpkfeamjiaaPMW4
import Derived.Test.YtmkohpkfeamjiaaPMW10
import Derived.Test.YtmkohpkfeamjiaaPMW6
import Derived.Test.YtmkohpkfeamjiaaPMW7
set_option maxHeartbeats 60000000
set_option linter.unusedVariables false
set_option linter.unusedSimpArgs false
set_option linter.unusedSectionVars false
namespace Ld
open Go Go.Proofs Go.Abs
set_option maxRecDepth 8000
def qpa9 : ACode:=.seq (.reg [] [] [.K 48 (.bin .lss (.tmp 47) (.tmp 46))]) (.seq (.cond (.tmp 48) (some 48) (.skip) (.exit 4)) (.seq (.block 5 1180609916590897496064 (.seq (.seq (.reg [] [] [.T 49 (.load none (.tmp 3)),.M 50 12,.T 51 (.ix 1 (.tmp 49) (.tmp 50)),.T 52 (.load none (.tmp 51)),.T 53 (.len (.tmp 52)),.K 54 (.bin .gtr (.tmp 53) (cI 64))]) (.cond (.tmp 54) (some 54) (.seq (.reg [] [(4,0)] [.K 4 (.mv (.const (.slice none 0 0))),.K 5 (.mv (cI 2))]) (.ret)) (.skip))) (.seq (.reg [] [] [.M 56 10,.T 57 (.load none (.tmp 3)),.M 58 12,.T 59 (.ix 1 (.tmp 57) (.tmp 58)),.T 60 (.load none (.tmp 59)),.T 61 (.call 33 [.tmp 56,.tmp 60]),.M 55 61,.T 62 (.ext (.tmp 55) 0),.T 63 (.ext (.tmp 55) 1),.N 10 62,.N 11 63]) (.seq (.reg [] [] [.M 64 11,.T 65 (.bin .neq (.tmp 64) (cI 0)),.M 66 65,.MG 67 66 false 10,.TG 68 66 false (.len (.tmp 67)),.TG 69 66 false (.bin .gtr (.tmp 68) (cI 64)),.K 70 (.pick (.tmp 66) (.const (.bool true)) (.tmp 69))]) (.cond (.tmp 70) (some 70) (.seq (.reg [] [(4,0)] [.K 4 (.mv (.const (.slice none 0 0))),.K 5 (.mv (cI 2))]) (.ret)) (.skip)))))) (.reg [] [] [.T 71 (.bin .add (.tmp 47) (cI 1)),.N 47 71])))
def qoD9 : ACode:=.seq (.reg [] [] [.K 42 (.bin .lss (.tmp 41) (.tmp 40))]) (.seq (.cond (.tmp 42) (some 42) (.skip) (.exit 2)) (.seq (.block 3 1180610132095176552448 (.seq (.reg [] [] [.M 43 41,.T 44 (.ix 1 (.tmp 39) (.tmp 41)),.T 45 (.load none (.tmp 44)),.N 12 43,.N 13 45]) (.seq (.reg [] [] [.N 46 13,.K 47 (.mv (cI 0))]) (.block 4 1180610132095176552448 (.loop qpa9))))) (.reg [] [] [.T 72 (.bin .add (.tmp 41) (cI 1)),.N 41 72])))
def qpl9 : ACode:=.seq (.reg [] [] [.K 30 (.bin .lss (.tmp 29) (.tmp 28))]) (.seq (.cond (.tmp 30) (some 30) (.skip) (.exit 0)) (.seq (.block 1 38686806837804112491331072 (.seq (.reg [] [] [.T 31 (.ix 2 (.tmp 27) (.tmp 29)),.T 32 (.load (some 2) (.tmp 31)),.K 9 (.alloc [.im true [],.im true []] 2),⟨none,.store 2 (.tmp 9) (.tmp 32),none,false,false⟩]) (.seq (.seq (.reg [] [] [.T 33 (.load (some 2) (.tmp 9)),.T 34 (.mkF 60 [.tmp 3]),.K 35 (.call 55 [.tmp 33,.tmp 34])]) (.cond (.tmp 35) (some 35) (.exit 1) (.skip))) (.seq (.reg [] [] [.T 36 (.fa 0 (.tmp 9)),.T 37 (.load none (.tmp 36)),.N 10 37,.K 11 (.mv (cI 0))]) (.seq (.seq (.reg [] [] [.T 38 (.fa 1 (.tmp 9)),.K 39 (.load none (.tmp 38)),.K 40 (.len (.tmp 39)),.K 41 (.mv (cI 0))]) (.block 2 1180610135978900730368 (.loop qoD9))) (.seq (.reg [] [] [.M 74 7,.M 75 10,.T 76 (.call 32 [.tmp 74,.tmp 75]),.M 73 76,.T 77 (.ext (.tmp 73) 0),.T 78 (.ext (.tmp 73) 1),.N 7 77,.N 11 78]) (.seq (.reg [] [] [.M 79 11,.T 80 (.bin .neq (.tmp 79) (cI 0)),.M 81 80,.MG 82 81 false 7,.TG 83 81 false (.len (.tmp 82)),.TG 84 81 false (.bin .gtr (.tmp 83) (cI 64)),.K 85 (.pick (.tmp 81) (.const (.bool true)) (.tmp 84))]) (.cond (.tmp 85) (some 85) (.seq (.reg [] [(4,0)] [.K 4 (.mv (.const (.slice none 0 0))),.K 5 (.mv (cI 2))]) (.ret)) (.skip))))))))) (.reg [] [] [.T 86 (.bin .add (.tmp 29) (cI 1)),.N 29 86])))
def c28 : ACode:=.seq (.reg [] [(4,0)] [.K 3 (.box (.tmp 1)),.K 4 (.mv (.const (.slice none 0 0))),.K 5 (.mv (cI 0))]) (.seq (.seq (.reg [] [] [.M 14 0,.T 15 (.lit 1 [(0,.tmp 14)]),.T 16 (.call 43 [.tmp 15]),.N 6 16]) (.seq (.reg [] [] [.M 17 6,.K 18 (.bin .neq (.tmp 17) (cI 0))]) (.cond (.tmp 18) (some 18) (.seq (.reg [] [(4,0)] [.M 19 6,.K 4 (.mv (.const (.slice none 0 0))),.N 5 19]) (.ret)) (.skip)))) (.seq (.seq (.reg [] [] [.M 20 0,.T 21 (.load none (.tmp 3)),.T 22 (.len (.tmp 21)),.T 23 (.call 14 [.tmp 20,.tmp 22]),.K 24 (.bin .neq (.tmp 23) (cI 0))]) (.cond (.tmp 24) (some 24) (.seq (.reg [] [(4,0)] [.K 4 (.mv (.const (.slice none 0 0))),.K 5 (.mv (cI 21))]) (.ret)) (.skip))) (.seq (.seq (.reg [] [] [.T 25 (.load none (.tmp 3)),.K 26 (.call 57 [.tmp 25,.func 58])]) (.cond (.tmp 26) (some 26) (.seq (.reg [] [(4,0)] [.K 4 (.mv (.const (.slice none 0 0))),.K 5 (.mv (cI 10))]) (.ret)) (.skip))) (.seq (.reg [] [(7,0)] [.K 7 (.mv (.const (.slice none 0 0)))]) (.seq (.seq (.reg [] [] [.N 27 0,.K 28 (.len (.tmp 27)),.K 29 (.mv (cI 0))]) (.block 0 38686806837804112491331072 (.loop qpl9))) (.seq (.reg [] [(4,0)] [.M 87 7,.T 88 (.call 61 [.tmp 87]),.N 4 88,.K 5 (.mv (cI 0))]) (.ret)))))))
theorem is28 : IsF C 28 89 38686806837804113515003643 c28 [.tmp 4,.tmp 5]:=⟨⟨Try.f28,_,C_P ▸ Try.func28,rfl,rfl,rfl,by kernel_rfl,rfl⟩⟩
def qfs9 (s0 : List Mono) (s1 : List (List Int)) (s4 : List Int) (s6 : Int) (s7 : List Int) (s12 : Int) (s13 : Int) (s27 : List Mono) (s28 : Int) (s29 : Int) (s39 : List Int) (s40 : Int) (s41 : Int) (s46 : Int) (b3_0 : List (List Int)) (b9_0 : List Int) (b9_1 : List Int) (g1 : AHeap) : (List Int) × Int × Int→Unit→St:=fun (s10,s11,s47) _=>⟨[(0,.d (.rd (s0.map qa9))),(1,.d (.rd (s1.map (lsD qb9)))),(3,.ptr 0 0 0 0),(4,.d (.rd (s4.map qb9))),(5,PI 0),(6,PI s6),(7,.d (.rd (s7.map qb9))),(9,.ptr (g1.length + 1) 0 0 0),(10,.d (.rd (s10.map qb9))),(11,PI s11),(12,PI s12),(13,PI s13),(27,.d (.rd (s27.map qa9))),(28,PI s28),(29,PI s29),(39,.d (.rd (s39.map intD))),(40,PI s40),(41,PI s41),(46,PI s46),(47,PI s47)],(.row false 0 1 [[.d (.rd (b3_0.map (lsD qb9)))]]::(g1++(.row false 0 2 [[.d (.rd (b9_0.map qb9)),.d (.rd (b9_1.map intD))]]::[])))⟩
def qnj9 (s0 : List Mono) (s1 : List (List Int)) (s4 : List Int) (s6 : Int) (s7 : List Int) (s12 : Int) (s13 : Int) (s27 : List Mono) (s28 : Int) (s29 : Int) (s39 : List Int) (s40 : Int) (s41 : Int) (s46 : Int) (b3_0 : List (List Int)) (b9_0 : List Int) (b9_1 : List Int) (g1 : AHeap) : (((List Int) × Int) ⊕ ((List Int) × Int))→AExit × St→Prop
 | .inl r,q=>XV C [.tmp 4,.tmp 5] (.tp [.d (.rd (r.1.map qb9)),PI r.2]) q
 | .inr (s10,s11),q=>∃ d12 : PV,∃ d13 : PV,∃ d46 : PV,∃ d47 : PV,q = (.exit 4,⟨[(0,.d (.rd (s0.map qa9))),(1,.d (.rd (s1.map (lsD qb9)))),(3,.ptr 0 0 0 0),(4,.d (.rd (s4.map qb9))),(5,PI 0),(6,PI s6),(7,.d (.rd (s7.map qb9))),(9,.ptr (g1.length + 1) 0 0 0),(10,.d (.rd (s10.map qb9))),(11,PI s11),(12,d12),(13,d13),(27,.d (.rd (s27.map qa9))),(28,PI s28),(29,PI s29),(39,.d (.rd (s39.map intD))),(40,PI s40),(41,PI s41),(46,d46),(47,d47)],(.row false 0 1 [[.d (.rd (b3_0.map (lsD qb9)))]]::(g1++(.row false 0 2 [[.d (.rd (b9_0.map qb9)),.d (.rd (b9_1.map intD))]]::[])))⟩)
theorem qnx9 {s0 : List Mono} {s1 : List (List Int)} {s4 : List Int} {s6 : Int} {s7 : List Int} {s12 : Int} {s13 : Int} {s27 : List Mono} {s28 : Int} {s29 : Int} {s39 : List Int} {s40 : Int} {s41 : Int} {s46 : Int} {b3_0 : List (List Int)} {b9_0 : List Int} {b9_1 : List Int} {g1 : AHeap} : Sim C 38686806837804113515003643 qpa9 (qcg9 s0 s1 s4 s6 s7 s12 s13 s27 s28 s29 s39 s40 s41 s46 b3_0 b9_0 b9_1) (qfs9 s0 s1 s4 s6 s7 s12 s13 s27 s28 s29 s39 s40 s41 s46 b3_0 b9_0 b9_1 g1) (qnj9 s0 s1 s4 s6 s7 s12 s13 s27 s28 s29 s39 s40 s41 s46 b3_0 b9_0 b9_1 g1):=by
 intro s g r hr
 obtain ⟨s10,s11,s47⟩:=s
 simp only [qcg9] at hr
 rcases iteP hr with ⟨h1,hr⟩ | ⟨h1,hr⟩
 obtain ⟨x7,h2,hr⟩:=bsome hr
 rcases iteP hr with ⟨h3,hr⟩ | ⟨h3,hr⟩
 obtain rfl:=oiA hr
 refine xv_of ?_
 rotate_left
 obtain ⟨x8,h4,hr⟩:=bsome hr
 have h4k:=(qne9 h4).k rfl rfl rfl
 try simp only [go_sem] at h4k
 rcases iteP hr with ⟨h5,hr⟩ | ⟨h5,hr⟩
 rcases iteP hr with ⟨h6,hr⟩ | ⟨h6,hr⟩
 obtain rfl:=oiA hr
 refine xv_of ?_
 rotate_left
 obtain rfl:=oiA hr
 refine ⟨(),?_⟩
 rotate_left
 obtain rfl:=oiA hr
 refine xv_of ?_
 rotate_left
 obtain rfl:=oiA hr
 refine xe_of ⟨PI s12,PI s13,PI s46,PI s47,rfl⟩ ?_
 rotate_left
 all_goals (simp +decide only [go_sem,decide_not,qfs9,qpa9, *])
def qfq9 (s0 : List Mono) (s1 : List (List Int)) (s4 : List Int) (s6 : Int) (s7 : List Int) (s27 : List Mono) (s28 : Int) (s29 : Int) (s39 : List Int) (s40 : Int) (b3_0 : List (List Int)) (b9_0 : List Int) (b9_1 : List Int) (g1 : AHeap) : (List Int) × Int × Int→Unit→St:=fun (s10,s11,s41) _=>⟨[(0,.d (.rd (s0.map qa9))),(1,.d (.rd (s1.map (lsD qb9)))),(3,.ptr 0 0 0 0),(4,.d (.rd (s4.map qb9))),(5,PI 0),(6,PI s6),(7,.d (.rd (s7.map qb9))),(9,.ptr (g1.length + 1) 0 0 0),(10,.d (.rd (s10.map qb9))),(11,PI s11),(27,.d (.rd (s27.map qa9))),(28,PI s28),(29,PI s29),(39,.d (.rd (s39.map intD))),(40,PI s40),(41,PI s41)],(.row false 0 1 [[.d (.rd (b3_0.map (lsD qb9)))]]::(g1++(.row false 0 2 [[.d (.rd (b9_0.map qb9)),.d (.rd (b9_1.map intD))]]::[])))⟩
def qnr9 (s0 : List Mono) (s1 : List (List Int)) (s4 : List Int) (s6 : Int) (s7 : List Int) (s27 : List Mono) (s28 : Int) (s29 : Int) (s39 : List Int) (s40 : Int) (b3_0 : List (List Int)) (b9_0 : List Int) (b9_1 : List Int) (g1 : AHeap) : (((List Int) × Int) ⊕ ((List Int) × Int))→AExit × St→Prop
 | .inl r,q=>XV C [.tmp 4,.tmp 5] (.tp [.d (.rd (r.1.map qb9)),PI r.2]) q
 | .inr (s10,s11),q=>∃ d9 : PV,∃ d39 : PV,∃ d40 : PV,∃ d41 : PV,q = (.exit 2,⟨[(0,.d (.rd (s0.map qa9))),(1,.d (.rd (s1.map (lsD qb9)))),(3,.ptr 0 0 0 0),(4,.d (.rd (s4.map qb9))),(5,PI 0),(6,PI s6),(7,.d (.rd (s7.map qb9))),(9,d9),(10,.d (.rd (s10.map qb9))),(11,PI s11),(27,.d (.rd (s27.map qa9))),(28,PI s28),(29,PI s29),(39,d39),(40,d40),(41,d41)],(.row false 0 1 [[.d (.rd (b3_0.map (lsD qb9)))]]::(g1++(.row false 0 2 [[.d (.rd (b9_0.map qb9)),.d (.rd (b9_1.map intD))]]::[])))⟩)
theorem qnk9 {s0 : List Mono} {s1 : List (List Int)} {s4 : List Int} {s6 : Int} {s7 : List Int} {s27 : List Mono} {s28 : Int} {s29 : Int} {s39 : List Int} {s40 : Int} {b3_0 : List (List Int)} {b9_0 : List Int} {b9_1 : List Int} {g1 : AHeap} : Sim C 38686806837804113515003643 qoD9 (qce9 s0 s1 s4 s6 s7 s27 s28 s29 s39 s40 b3_0 b9_0 b9_1) (qfq9 s0 s1 s4 s6 s7 s27 s28 s29 s39 s40 b3_0 b9_0 b9_1 g1) (qnr9 s0 s1 s4 s6 s7 s27 s28 s29 s39 s40 b3_0 b9_0 b9_1 g1):=by
 intro s g r hr
 obtain ⟨s10,s11,s41⟩:=s
 simp only [qce9] at hr
 rcases iteP hr with ⟨h1,hr⟩ | ⟨h1,hr⟩
 obtain ⟨x6,h2,hr⟩:=bsome hr
 obtain ⟨x9,h3,hr⟩:=bsome hr
 obtain ⟨q3,h3L,h3X⟩:=(qnx9 (g1:=g1)).L (g:=()) h3
 rcases x9 with x10 | ⟨x11,x12⟩
 try dsimp only at hr
 obtain ⟨st3,rfl,h3R⟩:=h3X
 simp only [qfs9,go_sem] at h3L
 obtain rfl:=oiA hr
 refine xv_of ?_
 rotate_left
 try dsimp only at hr
 obtain ⟨z13,z14,z15,z16,rfl⟩:=h3X
 simp only [qfs9,go_sem] at h3L
 obtain rfl:=oiA hr
 refine ⟨(),?_⟩
 rotate_left
 obtain rfl:=oiA hr
 refine xe_of ⟨.ptr (g1.length + 1) 0 0 0,.d (.rd (s39.map intD)),PI s40,PI s41,rfl⟩ ?_
 rotate_left
 all_goals (simp +decide only [go_sem,decide_not,qfq9,qoD9, *])
def qei9 (s0 : List Mono) (s1 : List (List Int)) (s4 : List Int) (s6 : Int) (s27 : List Mono) (s28 : Int) (b3_0 : List (List Int)) : (List Int) × Int→AHeap→St:=fun (s7,s29) gt=>⟨[(0,.d (.rd (s0.map qa9))),(1,.d (.rd (s1.map (lsD qb9)))),(3,.ptr 0 0 0 0),(4,.d (.rd (s4.map qb9))),(5,PI 0),(6,PI s6),(7,.d (.rd (s7.map qb9))),(27,.d (.rd (s27.map qa9))),(28,PI s28),(29,PI s29)],(.row false 0 1 [[.d (.rd (b3_0.map (lsD qb9)))]]::gt)⟩
def qns9 (s0 : List Mono) (s1 : List (List Int)) (s4 : List Int) (s6 : Int) (s27 : List Mono) (s28 : Int) (b3_0 : List (List Int)) : (((List Int) × Int) ⊕ ((List Int) × Int))→AExit × St→Prop
 | .inl r,q=>XV C [.tmp 4,.tmp 5] (.tp [.d (.rd (r.1.map qb9)),PI r.2]) q
 | .inr (s7,s29),q=>∃ g,q = (.exit 0,qei9 s0 s1 s4 s6 s27 s28 b3_0 (s7,s29) g)
theorem qny9 {s0 : List Mono} {s1 : List (List Int)} {s4 : List Int} {s6 : Int} {s27 : List Mono} {s28 : Int} {b3_0 : List (List Int)} : Sim C 38686806837804113515003643 qpl9 (qbC9 s0 s1 s4 s6 s27 s28 b3_0) (qei9 s0 s1 s4 s6 s27 s28 b3_0) (qns9 s0 s1 s4 s6 s27 s28 b3_0):=by
 intro s g r hr
 obtain ⟨s7,s29⟩:=s
 have ⟨gt,hg0⟩ : ∃ y,y = g:=⟨_,rfl⟩
 subst hg0
 simp only [qbC9] at hr
 rcases iteP hr with ⟨h1,hr⟩ | ⟨h1,hr⟩
 obtain ⟨x4,h2,x5,h3,hr⟩:=bs2 hr
 have h3k:=fun h args=>(qfM9 h3).o rfl rfl rfl (h:=h) (args:=args)
 try simp only [go_sem] at h3k
 rcases iteB hr with ⟨h4,hr⟩ | ⟨h4,hr⟩
 obtain rfl:=oiA hr
 refine ⟨(gt++(.row false 0 2 [[.d (.rd (x4.Coef.map qb9)),.d (.rd (x4.Exps.map intD))]]::[])),?_⟩
 rotate_left
 obtain ⟨x17,h5,hr⟩:=bsome hr
 obtain ⟨q5,h5L,h5X⟩:=(qnk9 (g1:=gt)).L (g:=()) h5
 rcases x17 with x18 | ⟨x19,x20⟩
 try dsimp only at hr
 obtain ⟨st5,rfl,h5R⟩:=h5X
 simp only [qfq9,go_sem] at h5L
 obtain rfl:=oiA hr
 refine xv_of ?_
 rotate_left
 try dsimp only at hr
 obtain ⟨z21,z22,z23,z24,rfl⟩:=h5X
 simp only [qfq9,go_sem] at h5L
 obtain ⟨x25,h6,hr⟩:=bsome hr
 have h6k:=(qmS9 h6).k rfl rfl rfl
 try simp only [go_sem] at h6k
 rcases iteP hr with ⟨h7,hr⟩ | ⟨h7,hr⟩
 rcases iteP hr with ⟨h8,hr⟩ | ⟨h8,hr⟩
 obtain rfl:=oiA hr
 refine xv_of ?_
 rotate_left
 obtain rfl:=oiA hr
 refine ⟨(gt++(.row false 0 2 [[.d (.rd (x4.Coef.map qb9)),.d (.rd (x4.Exps.map intD))]]::[])),?_⟩
 rotate_left
 obtain rfl:=oiA hr
 refine xv_of ?_
 rotate_left
 obtain rfl:=oiA hr
 refine xe_of ⟨gt,rfl⟩ ?_
 rotate_left
 all_goals (simp +decide only [go_sem,decide_not,qei9,qpl9, *])
theorem qpP9 {a0 : List Mono} {a1 : List (List Int)} {r : (List Int) × Int} (hr : qea9 a0 a1 = some r) : Res C 28 [.rd (a0.map qa9),.rd (a1.map (lsD qb9))] (.tp [.d (.rd (r.1.map qb9)),PI r.2]):=by
 simp only [qea9] at hr
 obtain ⟨x1,h1,hr⟩:=bsome hr
 have h1k:=fun h=>(qbu9 h1).o rfl rfl rfl (h:=h) (args:=[.im true [[.d (.rd (a0.map qa9))]]]) rfl
 try simp only [go_sem] at h1k
 rcases iteP hr with ⟨h2,hr⟩ | ⟨h2,hr⟩
 obtain ⟨x2,h3,hr⟩:=bsome hr
 have h3k:=(qda9 h3).k rfl rfl rfl
 try simp only [go_sem] at h3k
 rcases iteP hr with ⟨h4,hr⟩ | ⟨h4,hr⟩
 obtain ⟨x3,h5,hr⟩:=bsome hr
 have h5k:=fun h=>(qci9 h5).o rfl rfl rfl (h:=h) (args:=[.d (.rd (a1.map (lsD qb9))),.fn 58 []]) rfl
 try simp only [go_sem] at h5k
 rcases iteB hr with ⟨h6,hr⟩ | ⟨h6,hr⟩
 obtain rfl:=oiA hr
 refine run_V is28 (nbA rfl) ?_
 rotate_left
 obtain ⟨x26,h7,hr⟩:=bsome hr
 obtain ⟨q7,h7L,h7X⟩:=qny9.L (g:=[]) h7
 rcases x26 with x27 | ⟨x28,x29⟩
 try dsimp only at hr
 obtain ⟨st7,rfl,h7R⟩:=h7X
 simp only [qei9,go_sem] at h7L
 obtain rfl:=oiA hr
 refine run_V is28 (nbA rfl) ?_
 rotate_left
 try dsimp only at hr
 obtain ⟨z30,rfl⟩:=h7X
 simp only [qei9,go_sem] at h7L
 obtain ⟨h8,hr⟩:=gsome hr
 obtain rfl:=oiA hr
 refine run_V is28 (nbA rfl) ?_
 rotate_left
 obtain rfl:=oiA hr
 refine run_V is28 (nbA rfl) ?_
 rotate_left
 obtain rfl:=oiA hr
 refine run_V is28 (nbA rfl) ?_
 rotate_left
 all_goals (simp +decide only [go_sem,decide_not,c28, *])
def qnZ9 : ACode:=.seq (.seq (.reg [] [] [.M 11 5,.M 12 0,.T 13 (.len (.tmp 12)),.K 14 (.bin .lss (.tmp 11) (.tmp 13))]) (.cond (.tmp 14) (some 14) (.skip) (.exit 0))) (.seq (.block 1 33570816 (.seq (.reg [] [] [.M 17 0,.M 18 5,⟨some (19,false),.ix 1 (.tmp 17) (.tmp 18),none,true,false⟩,⟨some (20,false),.load none (.tmp 19),none,true,false⟩,.M 21 1,.M 22 5,⟨some (23,false),.ix 1 (.tmp 21) (.tmp 22),none,true,false⟩,⟨some (24,false),.load none (.tmp 23),none,true,false⟩,.K 25 (.bin .neq (.tmp 20) (.tmp 24))]) (.cond (.tmp 25) (some 25) (.seq (.reg [] [] [.K 4 (.mv (.const (.bool false)))]) (.ret)) (.skip)))) (.reg [] [] [.M 15 5,.T 16 (.bin .add (.tmp 15) (cI 1)),.N 5 16]))
def c30 : ACode:=.seq (.reg [] [] [.K 4 (.mv (.const (.bool false)))]) (.seq (.seq (.reg [] [] [.M 6 0,.T 7 (.len (.tmp 6)),.M 8 1,.T 9 (.len (.tmp 8)),.K 10 (.bin .neq (.tmp 7) (.tmp 9))]) (.cond (.tmp 10) (some 10) (.seq (.reg [] [] [.K 4 (.mv (.const (.bool false)))]) (.ret)) (.skip))) (.seq (.seq (.reg [] [] [.K 5 (.mv (cI 0))]) (.block 0 33570816 (.loop qnZ9))) (.seq (.reg [] [] [.K 4 (.mv (.const (.bool true)))]) (.ret))))
theorem is30 : IsF C 30 26 33571891 c30 [.tmp 4]:=⟨⟨Try.f30,_,C_P ▸ Try.func30,rfl,rfl,rfl,by kernel_rfl,rfl⟩⟩
def qdQ9 (s0 : List Int) (s1 : List Int) : Int→Unit→St:=fun s5 _=>⟨[(0,.d (.rd (s0.map qb9))),(1,.d (.rd (s1.map qb9))),(4,PB false),(5,PI s5)],[]⟩
def qlP9 (s0 : List Int) (s1 : List Int) : (Bool ⊕ Int)→AExit × St→Prop
 | .inl r,q=>XV C [.tmp 4] (PB r) q
 | .inr s5,q=>∃ g,q = (.exit 0,qdQ9 s0 s1 s5 g)
theorem qlZ9 {s0 : List Int} {s1 : List Int} : Sim C 33571891 qnZ9 (qcm9 s0 s1) (qdQ9 s0 s1) (qlP9 s0 s1):=by
 intro s g r hr
 have ⟨s5,hs0⟩ : ∃ y,y = s:=⟨_,rfl⟩
 subst hs0
 simp only [qcm9] at hr
 rcases iteP hr with ⟨h1,hr⟩ | ⟨h1,hr⟩
 obtain ⟨x1,h2,x2,h3,hr⟩:=bs2 hr
 rcases iteP hr with ⟨h4,hr⟩ | ⟨h4,hr⟩
 obtain rfl:=oiA hr
 refine ⟨(),?_⟩
 rotate_left
 obtain rfl:=oiA hr
 refine xv_of ?_
 rotate_left
 obtain rfl:=oiA hr
 refine xe_of ⟨(),rfl⟩ ?_
 rotate_left
 all_goals (simp +decide only [go_sem,decide_not,qdQ9,qnZ9, *])
theorem qiP9 {a0 : List Int} {a1 : List Int} {r : Bool} (hr : qdF9 a0 a1 = some r) : Res C 30 [.rd (a0.map qb9),.rd (a1.map qb9)] (PB r):=by
 simp only [qdF9] at hr
 rcases iteP hr with ⟨h1,hr⟩ | ⟨h1,hr⟩
 obtain ⟨x3,h2,hr⟩:=bsome hr
 obtain ⟨q2,h2L,h2X⟩:=qlZ9.L (g:=()) h2
 rcases x3 with x4 | x5
 try dsimp only at hr
 obtain ⟨st2,rfl,h2R⟩:=h2X
 simp only [qdQ9,go_sem] at h2L
 obtain rfl:=oiA hr
 refine run_V is30 (nbA rfl) ?_
 rotate_left
 try dsimp only at hr
 obtain ⟨⟨⟩,rfl⟩:=h2X
 simp only [qdQ9,go_sem] at h2L
 obtain rfl:=oiA hr
 refine run_V is30 (nbA rfl) ?_
 rotate_left
 obtain rfl:=oiA hr
 refine run_V is30 (nbA rfl) ?_
 rotate_left
 all_goals (simp +decide only [go_sem,decide_not,c30, *])
end Ld

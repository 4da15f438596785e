import Derived.Test.YtmkohpkfeamjiaaPMW10
import Derived.Test.YtmkohpkfeamjiaaPMW8
set_option maxHeartbeats 60000000
set_option linter.unusedVariables false
set_option linter.unusedSimpArgs false
set_option linter.unusedSectionVars false
namespace Ld
open Go Go.Proofs Go.Abs
set_option maxRecDepth 8000
def qqc9 : ACode:=.seq (.seq (.reg [] [] [.M 45 6,.M 46 0,.M 47 5,.T 48 (.ix 2 (.tmp 46) (.tmp 47)),.T 49 (.fa 1 (.tmp 48)),.T 50 (.load none (.tmp 49)),.T 51 (.len (.tmp 50)),.K 52 (.bin .lss (.tmp 45) (.tmp 51))]) (.cond (.tmp 52) (some 52) (.skip) (.exit 2))) (.seq (.block 3 2361187745034449977344 (.seq (.reg [] [] [.M 55 0,.M 56 5,⟨some (57,false),.ix 2 (.tmp 55) (.tmp 56),none,true,false⟩,.T 58 (.fa 1 (.tmp 57)),⟨some (59,false),.load none (.tmp 58),none,true,false⟩,.M 60 6,⟨some (61,false),.ix 1 (.tmp 59) (.tmp 60),none,true,false⟩,⟨some (62,false),.load none (.tmp 61),none,true,false⟩,.M 63 1,.M 64 5,⟨some (65,false),.ix 2 (.tmp 63) (.tmp 64),none,true,false⟩,.T 66 (.fa 1 (.tmp 65)),⟨some (67,false),.load none (.tmp 66),none,true,false⟩,.M 68 6,⟨some (69,false),.ix 1 (.tmp 67) (.tmp 68),none,true,false⟩,⟨some (70,false),.load none (.tmp 69),none,true,false⟩,.K 71 (.bin .neq (.tmp 62) (.tmp 70))]) (.cond (.tmp 71) (some 71) (.seq (.reg [] [] [.K 4 (.mv (.const (.bool false)))]) (.ret)) (.skip)))) (.reg [] [] [.M 53 6,.T 54 (.bin .add (.tmp 53) (cI 1)),.N 6 54]))
def qpR9 : ACode:=.seq (.seq (.reg [] [] [.M 12 5,.M 13 0,.T 14 (.len (.tmp 13)),.K 15 (.bin .lss (.tmp 12) (.tmp 14))]) (.cond (.tmp 15) (some 15) (.skip) (.exit 0))) (.seq (.block 1 2361187762626636054592 (.seq (.seq (.reg [] [] [.M 18 0,.M 19 5,⟨some (20,false),.ix 2 (.tmp 18) (.tmp 19),none,true,false⟩,.T 21 (.fa 0 (.tmp 20)),⟨some (22,false),.load none (.tmp 21),none,true,false⟩,.M 23 1,.M 24 5,⟨some (25,false),.ix 2 (.tmp 23) (.tmp 24),none,true,false⟩,.T 26 (.fa 0 (.tmp 25)),⟨some (27,false),.load none (.tmp 26),none,true,false⟩,⟨some (28,false),.call 30 [.tmp 22,.tmp 27],none,true,false⟩,.T 29 (.not (.tmp 28)),.M 30 29,.MG 31 30 false 0,.MG 32 30 false 5,⟨some (33,false),.ix 2 (.tmp 31) (.tmp 32),some (30,false),true,false⟩,.TG 34 30 false (.fa 1 (.tmp 33)),⟨some (35,false),.load none (.tmp 34),some (30,false),true,false⟩,⟨some (36,false),.len (.tmp 35),some (30,false),true,false⟩,.MG 37 30 false 1,.MG 38 30 false 5,⟨some (39,false),.ix 2 (.tmp 37) (.tmp 38),some (30,false),true,false⟩,.TG 40 30 false (.fa 1 (.tmp 39)),⟨some (41,false),.load none (.tmp 40),some (30,false),true,false⟩,⟨some (42,false),.len (.tmp 41),some (30,false),true,false⟩,.TG 43 30 false (.bin .neq (.tmp 36) (.tmp 42)),.K 44 (.pick (.tmp 30) (.const (.bool true)) (.tmp 43))]) (.cond (.tmp 44) (some 44) (.seq (.reg [] [] [.K 4 (.mv (.const (.bool false)))]) (.ret)) (.skip))) (.seq (.reg [] [] [.K 6 (.mv (cI 0))]) (.block 2 2361187762626636054592 (.loop qqc9))))) (.reg [] [] [.M 16 5,.T 17 (.bin .add (.tmp 16) (cI 1)),.N 5 17]))
def c16 : ACode:=.seq (.reg [] [] [.K 4 (.mv (.const (.bool false)))]) (.seq (.seq (.reg [] [] [.M 7 0,.T 8 (.len (.tmp 7)),.M 9 1,.T 10 (.len (.tmp 9)),.K 11 (.bin .neq (.tmp 8) (.tmp 10))]) (.cond (.tmp 11) (some 11) (.seq (.reg [] [] [.K 4 (.mv (.const (.bool false)))]) (.ret)) (.skip))) (.seq (.seq (.reg [] [] [.K 5 (.mv (cI 0))]) (.block 0 2361187762626636054592 (.loop qpR9))) (.seq (.reg [] [] [.K 4 (.mv (.const (.bool true)))]) (.ret))))
theorem is16 : IsF C 16 72 2361187762626636056691 c16 [.tmp 4]:=⟨⟨Try.f16,_,C_P ▸ Try.func16,rfl,rfl,rfl,by kernel_rfl,rfl⟩⟩
def qgF9 (s0 : List Mono) (s1 : List Mono) (s5 : Int) : Int→Unit→St:=fun s6 _=>⟨[(0,.d (.rd (s0.map qa9))),(1,.d (.rd (s1.map qa9))),(4,PB false),(5,PI s5),(6,PI s6)],[]⟩
def qqL9 (s0 : List Mono) (s1 : List Mono) (s5 : Int) : (Bool ⊕ Unit)→AExit × St→Prop
 | .inl r,q=>XV C [.tmp 4] (PB r) q
 | .inr _,q=>∃ d6 : PV,q = (.exit 2,⟨[(0,.d (.rd (s0.map qa9))),(1,.d (.rd (s1.map qa9))),(4,PB false),(5,PI s5),(6,d6)],[]⟩)
theorem qqz9 {s0 : List Mono} {s1 : List Mono} {s5 : Int} : Sim C 2361187762626636056691 qqc9 (qcv9 s0 s1 s5) (qgF9 s0 s1 s5) (qqL9 s0 s1 s5):=by
 intro s g r hr
 have ⟨s6,hs0⟩ : ∃ y,y = s:=⟨_,rfl⟩
 subst hs0
 simp only [qcv9] at hr
 obtain ⟨x4,h1,hr⟩:=bsome hr
 rcases iteP hr with ⟨h2,hr⟩ | ⟨h2,hr⟩
 obtain ⟨x5,h3,x6,h4,x7,h5,hr⟩:=bs3 hr
 rcases iteP hr with ⟨h6,hr⟩ | ⟨h6,hr⟩
 obtain rfl:=oiA hr
 refine ⟨(),?_⟩
 rotate_left
 obtain rfl:=oiA hr
 refine xv_of ?_
 rotate_left
 obtain rfl:=oiA hr
 refine xe_of ⟨PI s6,rfl⟩ ?_
 rotate_left
 all_goals (simp +decide only [go_sem,decide_not,qgF9,qqc9, *])
def qfm9 (s0 : List Mono) (s1 : List Mono) : Int→Unit→St:=fun s5 _=>⟨[(0,.d (.rd (s0.map qa9))),(1,.d (.rd (s1.map qa9))),(4,PB false),(5,PI s5)],[]⟩
def qqZ9 (s0 : List Mono) (s1 : List Mono) : (Bool ⊕ Int)→AExit × St→Prop
 | .inl r,q=>XV C [.tmp 4] (PB r) q
 | .inr s5,q=>∃ g,q = (.exit 0,qfm9 s0 s1 s5 g)
theorem qqI9 {s0 : List Mono} {s1 : List Mono} : Sim C 2361187762626636056691 qpR9 (qbY9 s0 s1) (qfm9 s0 s1) (qqZ9 s0 s1):=by
 intro s g r hr
 have ⟨s5,hs0⟩ : ∃ y,y = s:=⟨_,rfl⟩
 subst hs0
 simp only [qbY9] at hr
 rcases iteP hr with ⟨h1,hr⟩ | ⟨h1,hr⟩
 obtain ⟨x1,h2,x2,h3,x3,h4,hr⟩:=bs3 hr
 have h4k:=(qiP9 h4).k rfl rfl rfl
 try simp only [go_sem] at h4k
 rcases iteB hr with ⟨h5,hr⟩ | ⟨h5,hr⟩
 rcases iteP hr with ⟨h6,hr⟩ | ⟨h6,hr⟩
 obtain ⟨x8,h7,hr⟩:=bsome hr
 obtain ⟨q7,h7L,h7X⟩:=qqz9.L (g:=()) h7
 rcases x8 with x9 | ⟨⟩
 try dsimp only at hr
 obtain ⟨st7,rfl,h7R⟩:=h7X
 simp only [qgF9,go_sem] at h7L
 obtain rfl:=oiA hr
 refine xv_of ?_
 rotate_left
 try dsimp only at hr
 obtain ⟨z10,rfl⟩:=h7X
 simp only [qgF9,go_sem] at h7L
 obtain rfl:=oiA hr
 refine ⟨(),?_⟩
 rotate_left
 obtain rfl:=oiA hr
 refine xv_of ?_
 rotate_left
 obtain rfl:=oiA hr
 refine xv_of ?_
 rotate_left
 obtain rfl:=oiA hr
 refine xe_of ⟨(),rfl⟩ ?_
 rotate_left
 all_goals (simp +decide only [go_sem,decide_not,qfm9,qpR9, *])
theorem qdx9 {a0 : List Mono} {a1 : List Mono} {r : Bool} (hr : qcH9 a0 a1 = some r) : Res C 16 [.rd (a0.map qa9),.rd (a1.map qa9)] (PB r):=by
 simp only [qcH9] at hr
 rcases iteP hr with ⟨h1,hr⟩ | ⟨h1,hr⟩
 obtain ⟨x11,h2,hr⟩:=bsome hr
 obtain ⟨q2,h2L,h2X⟩:=qqI9.L (g:=()) h2
 rcases x11 with x12 | x13
 try dsimp only at hr
 obtain ⟨st2,rfl,h2R⟩:=h2X
 simp only [qfm9,go_sem] at h2L
 obtain rfl:=oiA hr
 refine run_V is16 (nbA rfl) ?_
 rotate_left
 try dsimp only at hr
 obtain ⟨⟨⟩,rfl⟩:=h2X
 simp only [qfm9,go_sem] at h2L
 obtain rfl:=oiA hr
 refine run_V is16 (nbA rfl) ?_
 rotate_left
 obtain rfl:=oiA hr
 refine run_V is16 (nbA rfl) ?_
 rotate_left
 all_goals (simp +decide only [go_sem,decide_not,c16, *])
def qnC9 : ACode:=.seq (.seq (.reg [] [] [.M 28 7,.K 29 (.bin .geq (.tmp 28) (cI 0))]) (.cond (.tmp 29) (some 29) (.skip) (.exit 0))) (.seq (.block 1 4398583382272 (.seq (.reg [] [] [.M 32 0,.M 33 7,⟨some (34,false),.ix 1 (.tmp 32) (.tmp 33),none,true,false⟩,⟨some (35,false),.load none (.tmp 34),none,true,false⟩,.M 36 1,.M 37 7,⟨some (38,false),.ix 1 (.tmp 36) (.tmp 37),none,true,false⟩,⟨some (39,false),.load none (.tmp 38),none,true,false⟩,⟨some (40,false),.call 67 [.tmp 35,.tmp 39],none,true,false⟩,.N 8 40]) (.seq (.reg [] [] [.M 41 8,.K 42 (.bin .neq (.tmp 41) (cI 0))]) (.cond (.tmp 42) (some 42) (.seq (.reg [] [] [.M 43 8,.N 4 43,.K 5 (.mv (cI 0))]) (.ret)) (.skip))))) (.reg [] [] [.M 30 7,.T 31 (.bin .sub (.tmp 30) (cI 1)),.N 7 31]))
def c34 : ACode:=.seq (.reg [] [] [.K 4 (.mv (cI 0)),.K 5 (.mv (cI 0))]) (.seq (.seq (.reg [] [] [.M 9 0,.T 10 (.call 59 [.tmp 9]),.T 11 (.not (.tmp 10)),.M 12 11,.MG 13 12 false 1,.TG 14 12 false (.call 59 [.tmp 13]),.TG 15 12 false (.not (.tmp 14)),.K 16 (.pick (.tmp 12) (.const (.bool true)) (.tmp 15))]) (.cond (.tmp 16) (some 16) (.seq (.reg [] [] [.K 4 (.mv (cI 0)),.K 5 (.mv (cI 10))]) (.ret)) (.skip))) (.seq (.seq (.reg [] [] [.M 17 0,.T 18 (.len (.tmp 17)),.M 19 1,.T 20 (.len (.tmp 19)),.T 21 (.call 66 [.tmp 18,.tmp 20]),.N 6 21]) (.seq (.reg [] [] [.M 22 6,.K 23 (.bin .neq (.tmp 22) (cI 0))]) (.cond (.tmp 23) (some 23) (.seq (.reg [] [] [.M 24 6,.N 4 24,.K 5 (.mv (cI 0))]) (.ret)) (.skip)))) (.seq (.seq (.reg [] [] [.M 25 0,.T 26 (.len (.tmp 25)),.T 27 (.bin .sub (.tmp 26) (cI 1)),.N 7 27]) (.block 0 4398583382272 (.loop qnC9))) (.seq (.reg [] [] [.K 4 (.mv (cI 0)),.K 5 (.mv (cI 0))]) (.ret)))))
theorem is34 : IsF C 34 44 4398591836659 c34 [.tmp 4,.tmp 5]:=⟨⟨Try.f34,_,C_P ▸ Try.func34,rfl,rfl,rfl,by kernel_rfl,rfl⟩⟩
def qfW9 (s0 : List Int) (s1 : List Int) (s6 : Int) : Int→Unit→St:=fun s7 _=>⟨[(0,.d (.rd (s0.map qb9))),(1,.d (.rd (s1.map qb9))),(4,PI 0),(5,PI 0),(6,PI s6),(7,PI s7)],[]⟩
def qsg9 (s0 : List Int) (s1 : List Int) (s6 : Int) : ((Int × Int) ⊕ Int)→AExit × St→Prop
 | .inl r,q=>XV C [.tmp 4,.tmp 5] (.tp [PI r.1,PI r.2]) q
 | .inr s7,q=>∃ g,q = (.exit 0,qfW9 s0 s1 s6 s7 g)
theorem qsw9 {s0 : List Int} {s1 : List Int} {s6 : Int} : Sim C 4398591836659 qnC9 (qdw9 s0 s1 s6) (qfW9 s0 s1 s6) (qsg9 s0 s1 s6):=by
 intro s g r hr
 have ⟨s7,hs0⟩ : ∃ y,y = s:=⟨_,rfl⟩
 subst hs0
 simp only [qdw9] at hr
 rcases iteP hr with ⟨h1,hr⟩ | ⟨h1,hr⟩
 obtain ⟨x4,h2,x5,h3,x6,h4,hr⟩:=bs3 hr
 have h4k:=(qiC9 h4).k rfl rfl rfl
 try simp only [go_sem] at h4k
 rcases iteP hr with ⟨h5,hr⟩ | ⟨h5,hr⟩
 obtain rfl:=oiA hr
 refine ⟨(),?_⟩
 rotate_left
 obtain rfl:=oiA hr
 refine xv_of ?_
 rotate_left
 obtain rfl:=oiA hr
 refine xe_of ⟨(),rfl⟩ ?_
 rotate_left
 all_goals (simp +decide only [go_sem,decide_not,qfW9,qnC9, *])
theorem qmF9 {a0 : List Int} {a1 : List Int} {r : Int × Int} (hr : qhk9 a0 a1 = some r) : Res C 34 [.rd (a0.map qb9),.rd (a1.map qb9)] (.tp [PI r.1,PI r.2]):=by
 simp only [qhk9] at hr
 obtain ⟨x1,h1,hr⟩:=bsome hr
 have h1k:=(qcO9 h1).k rfl rfl rfl
 try simp only [go_sem] at h1k
 rcases iteB hr with ⟨h2,hr⟩ | ⟨h2,hr⟩
 obtain ⟨x2,h3,hr⟩:=bsome hr
 have h3k:=(qcO9 h3).k rfl rfl rfl
 try simp only [go_sem] at h3k
 rcases iteB hr with ⟨h4,hr⟩ | ⟨h4,hr⟩
 obtain ⟨x3,h5,hr⟩:=bsome hr
 have h5k:=(qjX9 h5).k rfl rfl rfl
 try simp only [go_sem] at h5k
 rcases iteP hr with ⟨h6,hr⟩ | ⟨h6,hr⟩
 obtain ⟨x7,h7,hr⟩:=bsome hr
 obtain ⟨q7,h7L,h7X⟩:=qsw9.L (g:=()) h7
 rcases x7 with x8 | x9
 try dsimp only at hr
 obtain ⟨st7,rfl,h7R⟩:=h7X
 simp only [qfW9,go_sem] at h7L
 obtain rfl:=oiA hr
 refine run_V is34 (nbA rfl) ?_
 rotate_left
 try dsimp only at hr
 obtain ⟨⟨⟩,rfl⟩:=h7X
 simp only [qfW9,go_sem] at h7L
 obtain rfl:=oiA hr
 refine run_V is34 (nbA rfl) ?_
 rotate_left
 obtain rfl:=oiA hr
 refine run_V is34 (nbA rfl) ?_
 rotate_left
 obtain rfl:=oiA hr
 refine run_V is34 (nbA rfl) ?_
 rotate_left
 obtain rfl:=oiA hr
 refine run_V is34 (nbA rfl) ?_
 rotate_left
 all_goals (simp +decide only [go_sem,decide_not,c34, *])
def c49 : ACode:=.seq (.reg [] [] [.K 2 (.box (.tmp 0)),.K 3 (.mv (.const (.bool false)))]) (.seq (.reg [] [] [⟨some (7,false),.load none (.tmp 1),none,true,false⟩,.T 8 (.fa 1 (.tmp 2)),⟨some (9,false),.load none (.tmp 8),none,true,false⟩,⟨some (10,false),.call 50 [.tmp 7,.tmp 9],none,true,false⟩,.T 11 (.fa 0 (.tmp 2)),⟨some (12,false),.load none (.tmp 11),none,true,false⟩,⟨some (13,false),.call 34 [.tmp 10,.tmp 12],none,true,false⟩,.M 6 13,.T 14 (.ext (.tmp 6) 0),.T 15 (.ext (.tmp 6) 1),.N 4 14,.M 5 15]) (.seq (.reg [] [] [.M 16 4,.T 17 (.bin .lss (.tmp 16) (cI 0)),.N 3 17]) (.ret)))
theorem is49 : IsF C 49 18 31 c49 [.tmp 3]:=⟨⟨Try.f49,_,C_P ▸ Try.func49,rfl,rfl,rfl,by kernel_rfl,rfl⟩⟩
theorem qjW9 {a0 : Mono} {a1 : List Mono} {r : Bool} (hr : qet9 a0 a1 = some r) : Res C 49 [.ag (qa9 a0),.bx ((lsD qa9) a1)] (PB r):=by
 simp only [qet9] at hr
 obtain ⟨x1,h1,x2,h2,hr⟩:=bs2 hr
 have h1k:=(qhV9 h1).k rfl rfl rfl
 try simp only [go_sem] at h1k
 have h2k:=(qmF9 h2).k rfl rfl rfl
 try simp only [go_sem] at h2k
 obtain rfl:=oiA hr
 refine run_V is49 (nbA rfl) ?_
 rotate_left
 all_goals (simp +decide only [go_sem,decide_not,c49, *])
def qpY9 : ACode:=.seq (.reg [] [] [.K 9 (.bin .lss (.tmp 8) (.tmp 7))]) (.seq (.cond (.tmp 9) (some 9) (.skip) (.exit 0)) (.seq (.block 1 66080 (.seq (.reg [] [] [.M 10 8,.N 5 10]) (.seq (.reg [] [] [.M 11 1,.M 12 0,.M 13 5,.T 14 (.ix 2 (.tmp 12) (.tmp 13)),.T 15 (.load (some 2) (.tmp 14)),.K 16 (.callV (.tmp 11) [.tmp 15])]) (.cond (.tmp 16) (some 16) (.seq (.reg [] [] [.M 17 5,.N 4 17]) (.ret)) (.skip))))) (.reg [] [] [.T 18 (.bin .add (.tmp 8) (cI 1)),.N 8 18])))
def c77 : ACode:=.seq (.reg [] [] [.K 4 (.mv (cI 0))]) (.seq (.seq (.reg [] [] [.M 6 0,.K 7 (.len (.tmp 6)),.K 8 (.mv (cI 0))]) (.block 0 66080 (.loop qpY9))) (.seq (.reg [] [] [.K 4 (.mv (cI (-1)))]) (.ret)))
theorem is77 : IsF C 77 19 66483 c77 [.tmp 4]:=⟨⟨Try.f77,_,C_P ▸ Try.func77,rfl,rfl,rfl,by kernel_rfl,rfl⟩⟩
def qj9 (s0 : List Mono) (s1_0 : List Mono) (s7 : Int) : Int→Unit→St:=fun s8 _=>⟨[(0,.d (.rd (s0.map qa9))),(1,.d (.fn 49 [.bx ((lsD qa9) s1_0)])),(4,PI 0),(7,PI s7),(8,PI s8)],[]⟩
def qck9 (s0 : List Mono) (s1_0 : List Mono) (s7 : Int) : (Int ⊕ Int)→AExit × St→Prop
 | .inl r,q=>XV C [.tmp 4] (PI r) q
 | .inr s8,q=>∃ g,q = (.exit 0,qj9 s0 s1_0 s7 s8 g)
theorem qcj9 {s0 : List Mono} {s1_0 : List Mono} {s7 : Int} : Sim C 66483 qpY9 (qk9 s0 s1_0 s7) (qj9 s0 s1_0 s7) (qck9 s0 s1_0 s7):=by
 intro s g r hr
 have ⟨s8,hs0⟩ : ∃ y,y = s:=⟨_,rfl⟩
 subst hs0
 simp only [qk9] at hr
 rcases iteP hr with ⟨h1,hr⟩ | ⟨h1,hr⟩
 obtain ⟨x1,h2,x2,h3,hr⟩:=bs2 hr
 have h3k:=fun h=>(qjW9 h3).o rfl rfl rfl (h:=h) (args:=[.ag [.d (.rd (x1.Coef.map qb9)),.d (.rd (x1.Exps.map intD))],.d (.bx ((lsD qa9) s1_0))]) rfl
 try simp only [go_sem] at h3k
 rcases iteB hr with ⟨h4,hr⟩ | ⟨h4,hr⟩
 obtain rfl:=oiA hr
 refine xv_of ?_
 rotate_left
 obtain rfl:=oiA hr
 refine ⟨(),?_⟩
 rotate_left
 obtain rfl:=oiA hr
 refine xe_of ⟨(),rfl⟩ ?_
 rotate_left
 all_goals (simp +decide only [go_sem,decide_not,qj9,qpY9, *])
theorem qcl9 {a0 : List Mono} {a1_0 : List Mono} {r : Int} (hr : qA9 a0 a1_0 = some r) : Res C 77 [.rd (a0.map qa9),.fn 49 [.bx ((lsD qa9) a1_0)]] (PI r):=by
 simp only [qA9] at hr
 obtain ⟨x3,h1,hr⟩:=bsome hr
 obtain ⟨q1,h1L,h1X⟩:=qcj9.L (g:=()) h1
 rcases x3 with x4 | x5
 try dsimp only at hr
 obtain ⟨st1,rfl,h1R⟩:=h1X
 simp only [qj9,go_sem] at h1L
 obtain rfl:=oiA hr
 refine run_V is77 (nbA rfl) ?_
 rotate_left
 try dsimp only at hr
 obtain ⟨⟨⟩,rfl⟩:=h1X
 simp only [qj9,go_sem] at h1L
 obtain rfl:=oiA hr
 refine run_V is77 (nbA rfl) ?_
 rotate_left
 all_goals (simp +decide only [go_sem,decide_not,c77, *])
def c48 : ACode:=.seq (.reg [] [] [.K 4 (.mv (.const (.bool false)))]) (.seq (.reg [] [] [.M 5 0,.M 6 1,.T 7 (.call 77 [.tmp 5,.tmp 6]),.T 8 (.bin .geq (.tmp 7) (cI 0)),.N 4 8]) (.ret))
theorem is48 : IsF C 48 9 19 c48 [.tmp 4]:=⟨⟨Try.f48,_,C_P ▸ Try.func48,rfl,rfl,rfl,by kernel_rfl,rfl⟩⟩
theorem qca9 {a0 : List Mono} {a1_0 : List Mono} {r : Bool} (hr : qi9 a0 a1_0 = some r) : Res C 48 [.rd (a0.map qa9),.fn 49 [.bx ((lsD qa9) a1_0)]] (PB r):=by
 simp only [qi9] at hr
 obtain ⟨x1,h1,hr⟩:=bsome hr
 have h1k:=(qcl9 h1).k rfl rfl rfl
 try simp only [go_sem] at h1k
 obtain rfl:=oiA hr
 refine run_V is48 (nbA rfl) ?_
 rotate_left
 all_goals (simp +decide only [go_sem,decide_not,c48, *])
end Ld

import Derived.Test.YtmkohpkfeamjiaaPMC
set_option maxHeartbeats 60000000
set_option linter.unusedVariables false
set_option linter.unusedSimpArgs false
set_option linter.unusedSectionVars false
namespace Ld
open Go Go.Proofs Go.Abs
set_option maxRecDepth 8000
def c62 : ACode:=.seq (.reg [] [] [.K 2 (.mv (.const (.bool false)))]) (.seq (.reg [] [] [.M 3 0,.T 4 (.len (.tmp 3)),.T 5 (.bin .leq (.tmp 4) (cI 64)),.M 6 5,.MG 7 6 true 0,.TG 8 6 true (.len (.tmp 7)),.TG 9 6 true (.bin .eql (.tmp 8) (cI 0)),.MG 10 6 true 9,.MG 11 10 false 0,.MG 12 10 false 0,.TG 13 10 false (.len (.tmp 12)),.TG 14 10 false (.bin .sub (.tmp 13) (cI 1)),.TG 15 10 false (.ix 1 (.tmp 11) (.tmp 14)),.TG 16 10 false (.load none (.tmp 15)),.TG 17 10 false (.bin .neq (.tmp 16) (.const (.int .u32 0))),.TG 18 6 true (.pick (.tmp 10) (.const (.bool true)) (.tmp 17)),.T 19 (.pick (.tmp 6) (.tmp 18) (.const (.bool false))),.N 2 19]) (.ret))
theorem is62 : IsF C 62 20 5 c62 [.tmp 2]:=⟨⟨Try.f62,_,C_P ▸ Try.func62,rfl,rfl,rfl,by kernel_rfl,rfl⟩⟩
theorem qfn9 {a0 : List Int} {r : Bool} (hr : qds9 a0 = some r) : Res C 62 [.rd (a0.map qb9)] (PB r):=by
 simp only [qds9] at hr
 rcases iteP hr with ⟨h1,hr⟩ | ⟨h1,hr⟩
 rcases iteP hr with ⟨h2,hr⟩ | ⟨h2,hr⟩
 obtain rfl:=oiA hr
 refine run_V is62 (nbA rfl) ?_
 rotate_left
 obtain ⟨x1,h3,hr⟩:=bsome hr
 obtain rfl:=oiA hr
 refine run_V is62 (nbA rfl) ?_
 rotate_left
 obtain rfl:=oiA hr
 refine run_V is62 (nbA rfl) ?_
 rotate_left
 all_goals (simp +decide only [go_sem,decide_not,c62, *])
def qpL9 : ACode:=.seq (.seq (.reg [] [] [.M 14 3,.T 15 (.fa 1 (.tmp 1)),.T 16 (.load none (.tmp 15)),.T 17 (.len (.tmp 16)),.K 18 (.bin .lss (.tmp 14) (.tmp 17))]) (.cond (.tmp 18) (some 18) (.skip) (.exit 0))) (.seq (.block 1 67371008 (.seq (.reg [] [] [.T 21 (.fa 1 (.tmp 1)),.T 22 (.load none (.tmp 21)),.M 23 3,.T 24 (.ix 1 (.tmp 22) (.tmp 23)),.T 25 (.load none (.tmp 24)),.K 26 (.bin .lss (.tmp 25) (cI 0))]) (.cond (.tmp 26) (some 26) (.seq (.reg [] [] [.K 2 (.mv (.const (.bool false)))]) (.ret)) (.skip)))) (.reg [] [] [.M 19 3,.T 20 (.bin .add (.tmp 19) (cI 1)),.N 3 20]))
def c40 : ACode:=.seq (.reg [] [] [.K 1 (.box (.tmp 0)),.K 2 (.mv (.const (.bool false)))]) (.seq (.seq (.reg [] [] [.T 4 (.fa 0 (.tmp 1)),.T 5 (.load none (.tmp 4)),.T 6 (.call 62 [.tmp 5]),.T 7 (.not (.tmp 6)),.M 8 7,.TG 9 8 false (.fa 0 (.tmp 1)),.TG 10 8 false (.load none (.tmp 9)),.TG 11 8 false (.len (.tmp 10)),.TG 12 8 false (.bin .eql (.tmp 11) (cI 0)),.K 13 (.pick (.tmp 8) (.const (.bool true)) (.tmp 12))]) (.cond (.tmp 13) (some 13) (.seq (.reg [] [] [.K 2 (.mv (.const (.bool false)))]) (.ret)) (.skip))) (.seq (.seq (.reg [] [] [.K 3 (.mv (cI 0))]) (.block 0 67371008 (.loop qpL9))) (.seq (.reg [] [] [.T 27 (.fa 1 (.tmp 1)),.T 28 (.load none (.tmp 27)),.T 29 (.len (.tmp 28)),.T 30 (.bin .eql (.tmp 29) (cI 0)),.M 31 30,.TG 32 31 false (.fa 1 (.tmp 1)),.TG 33 31 false (.load none (.tmp 32)),.TG 34 31 false (.fa 1 (.tmp 1)),.TG 35 31 false (.load none (.tmp 34)),.TG 36 31 false (.len (.tmp 35)),.TG 37 31 false (.bin .sub (.tmp 36) (cI 1)),.TG 38 31 false (.ix 1 (.tmp 33) (.tmp 37)),.TG 39 31 false (.load none (.tmp 38)),.TG 40 31 false (.bin .neq (.tmp 39) (cI 0)),.T 41 (.pick (.tmp 31) (.const (.bool true)) (.tmp 40)),.N 2 41]) (.ret))))
theorem is40 : IsF C 40 42 67379215 c40 [.tmp 2]:=⟨⟨Try.f40,_,C_P ▸ Try.func40,rfl,rfl,rfl,by kernel_rfl,rfl⟩⟩
def qfo9 (s0 : Mono) (b1_0 : List Int) (b1_1 : List Int) : Int→Unit→St:=fun s3 _=>⟨[(0,.d (.ag (qa9 s0))),(1,.ptr 0 0 0 0),(2,PB false),(3,PI s3)],(.row false 0 2 [[.d (.rd (b1_0.map qb9)),.d (.rd (b1_1.map intD))]]::[])⟩
def qqB9 (s0 : Mono) (b1_0 : List Int) (b1_1 : List Int) : (Bool ⊕ Int)→AExit × St→Prop
 | .inl r,q=>XV C [.tmp 2] (PB r) q
 | .inr s3,q=>∃ g,q = (.exit 0,qfo9 s0 b1_0 b1_1 s3 g)
theorem qqg9 {s0 : Mono} {b1_0 : List Int} {b1_1 : List Int} : Sim C 67379215 qpL9 (qdD9 s0 b1_0 b1_1) (qfo9 s0 b1_0 b1_1) (qqB9 s0 b1_0 b1_1):=by
 intro s g r hr
 have ⟨s3,hs0⟩ : ∃ y,y = s:=⟨_,rfl⟩
 subst hs0
 simp only [qdD9] at hr
 rcases iteP hr with ⟨h1,hr⟩ | ⟨h1,hr⟩
 obtain ⟨x2,h2,hr⟩:=bsome hr
 rcases iteP hr with ⟨h3,hr⟩ | ⟨h3,hr⟩
 obtain rfl:=oiA hr
 refine xv_of ?_
 rotate_left
 obtain rfl:=oiA hr
 refine ⟨(),?_⟩
 rotate_left
 obtain rfl:=oiA hr
 refine xe_of ⟨(),rfl⟩ ?_
 rotate_left
 all_goals (simp +decide only [go_sem,decide_not,qfo9,qpL9, *])
theorem qsi9 {a0 : Mono} {r : Bool} (hr : qhB9 a0 = some r) : Res C 40 [.ag (qa9 a0)] (PB r):=by
 simp only [qhB9] at hr
 obtain ⟨x1,h1,hr⟩:=bsome hr
 have h1k:=(qfn9 h1).k rfl rfl rfl
 try simp only [go_sem] at h1k
 rcases iteB hr with ⟨h2,hr⟩ | ⟨h2,hr⟩
 rcases iteP hr with ⟨h3,hr⟩ | ⟨h3,hr⟩
 obtain rfl:=oiA hr
 refine run_V is40 (nbA rfl) ?_
 rotate_left
 obtain ⟨x3,h4,hr⟩:=bsome hr
 obtain ⟨q4,h4L,h4X⟩:=qqg9.L (g:=()) h4
 rcases x3 with x4 | x5
 try dsimp only at hr
 obtain ⟨st4,rfl,h4R⟩:=h4X
 simp only [qfo9,go_sem] at h4L
 obtain rfl:=oiA hr
 refine run_V is40 (nbA rfl) ?_
 rotate_left
 try dsimp only at hr
 obtain ⟨⟨⟩,rfl⟩:=h4X
 simp only [qfo9,go_sem] at h4L
 rcases iteP hr with ⟨h5,hr⟩ | ⟨h5,hr⟩
 obtain rfl:=oiA hr
 refine run_V is40 (nbA rfl) ?_
 rotate_left
 obtain ⟨x6,h6,hr⟩:=bsome hr
 obtain rfl:=oiA hr
 refine run_V is40 (nbA rfl) ?_
 rotate_left
 obtain rfl:=oiA hr
 refine run_V is40 (nbA rfl) ?_
 rotate_left
 all_goals (simp +decide only [go_sem,decide_not,c40, *])
def c71 : ACode:=.seq (.reg [] [] [.K 4 (.mv (cI 0))]) (.seq (.seq (.reg [] [] [.M 5 1,.M 6 0,.T 7 (.len (.tmp 6)),.K 8 (.bin .lss (.tmp 5) (.tmp 7))]) (.cond (.tmp 8) (some 8) (.seq (.reg [] [] [.M 9 0,.M 10 1,.T 11 (.ix 1 (.tmp 9) (.tmp 10)),.T 12 (.load none (.tmp 11)),.N 4 12]) (.ret)) (.skip))) (.seq (.reg [] [] [.K 4 (.mv (cI 0))]) (.ret)))
theorem is71 : IsF C 71 13 275 c71 [.tmp 4]:=⟨⟨Try.f71,_,C_P ▸ Try.func71,rfl,rfl,rfl,by kernel_rfl,rfl⟩⟩
theorem qdW9 {a0 : List Int} {a1 : Int} {r : Int} (hr : qdh9 a0 a1 = some r) : Res C 71 [.rd (a0.map intD),.v (.int .i64 a1)] (PI r):=by
 simp only [qdh9] at hr
 rcases iteP hr with ⟨h1,hr⟩ | ⟨h1,hr⟩
 obtain ⟨x1,h2,hr⟩:=bsome hr
 obtain rfl:=oiA hr
 refine run_V is71 (nbA rfl) ?_
 rotate_left
 obtain rfl:=oiA hr
 refine run_V is71 (nbA rfl) ?_
 rotate_left
 all_goals (simp +decide only [go_sem,decide_not,c71, *])
def qnY9 : ACode:=.seq (.seq (.reg [] [] [.M 8 5,.M 9 0,.T 10 (.len (.tmp 9)),.T 11 (.bin .lss (.tmp 8) (.tmp 10)),.M 12 11,.MG 13 12 false 5,.MG 14 12 false 1,.TG 15 12 false (.len (.tmp 14)),.TG 16 12 false (.bin .lss (.tmp 13) (.tmp 15)),.K 17 (.pick (.tmp 12) (.const (.bool true)) (.tmp 16))]) (.cond (.tmp 17) (some 17) (.skip) (.exit 0))) (.seq (.block 1 2416050368 (.seq (.reg [] [] [.M 20 0,.M 21 5,.T 22 (.call 71 [.tmp 20,.tmp 21]),.N 6 22]) (.seq (.reg [] [] [.M 23 1,.M 24 5,.T 25 (.call 71 [.tmp 23,.tmp 24]),.N 7 25]) (.seq (.seq (.reg [] [] [.M 26 6,.M 27 7,.K 28 (.bin .lss (.tmp 26) (.tmp 27))]) (.cond (.tmp 28) (some 28) (.seq (.reg [] [] [.K 4 (.mv (cI (-1)))]) (.ret)) (.skip))) (.seq (.reg [] [] [.M 29 6,.M 30 7,.K 31 (.bin .gtr (.tmp 29) (.tmp 30))]) (.cond (.tmp 31) (some 31) (.seq (.reg [] [] [.K 4 (.mv (cI 1))]) (.ret)) (.skip))))))) (.reg [] [] [.M 18 5,.T 19 (.bin .add (.tmp 18) (cI 1)),.N 5 19]))
def c41 : ACode:=.seq (.reg [] [] [.K 4 (.mv (cI 0))]) (.seq (.seq (.reg [] [] [.K 5 (.mv (cI 0))]) (.block 0 2416050368 (.loop qnY9))) (.seq (.reg [] [] [.K 4 (.mv (cI 0))]) (.ret)))
theorem is41 : IsF C 41 32 2416050419 c41 [.tmp 4]:=⟨⟨Try.f41,_,C_P ▸ Try.func41,rfl,rfl,rfl,by kernel_rfl,rfl⟩⟩
def qeG9 (s0 : List Int) (s1 : List Int) : Int→Unit→St:=fun s5 _=>⟨[(0,.d (.rd (s0.map intD))),(1,.d (.rd (s1.map intD))),(4,PI 0),(5,PI s5)],[]⟩
def qoF9 (s0 : List Int) (s1 : List Int) : (Int ⊕ Int)→AExit × St→Prop
 | .inl r,q=>XV C [.tmp 4] (PI r) q
 | .inr s5,q=>∃ g,q = (.exit 0,qeG9 s0 s1 s5 g)
theorem qox9 {s0 : List Int} {s1 : List Int} : Sim C 2416050419 qnY9 (qbz9 s0 s1) (qeG9 s0 s1) (qoF9 s0 s1):=by
 intro s g r hr
 have ⟨s5,hs0⟩ : ∃ y,y = s:=⟨_,rfl⟩
 subst hs0
 simp only [qbz9] at hr
 rcases iteP hr with ⟨h1,hr⟩ | ⟨h1,hr⟩
 obtain ⟨x1,h2,x2,h3,hr⟩:=bs2 hr
 have h2k:=(qdW9 h2).k rfl rfl rfl
 try simp only [go_sem] at h2k
 have h3k:=(qdW9 h3).k rfl rfl rfl
 try simp only [go_sem] at h3k
 rcases iteP hr with ⟨h4,hr⟩ | ⟨h4,hr⟩
 obtain rfl:=oiA hr
 refine xv_of ?_
 rotate_left
 rcases iteP hr with ⟨h5,hr⟩ | ⟨h5,hr⟩
 obtain rfl:=oiA hr
 refine xv_of ?_
 rotate_left
 obtain rfl:=oiA hr
 refine ⟨(),?_⟩
 rotate_left
 rcases iteP hr with ⟨h6,hr⟩ | ⟨h6,hr⟩
 obtain ⟨x3,h7,x4,h8,hr⟩:=bs2 hr
 have h7k:=(qdW9 h7).k rfl rfl rfl
 try simp only [go_sem] at h7k
 have h8k:=(qdW9 h8).k rfl rfl rfl
 try simp only [go_sem] at h8k
 rcases iteP hr with ⟨h9,hr⟩ | ⟨h9,hr⟩
 obtain rfl:=oiA hr
 refine xv_of ?_
 rotate_left
 rcases iteP hr with ⟨h10,hr⟩ | ⟨h10,hr⟩
 obtain rfl:=oiA hr
 refine xv_of ?_
 rotate_left
 obtain rfl:=oiA hr
 refine ⟨(),?_⟩
 rotate_left
 obtain rfl:=oiA hr
 refine xe_of ⟨(),rfl⟩ ?_
 rotate_left
 all_goals (simp +decide only [go_sem,decide_not,qeG9,qnY9, *])
theorem qks9 {a0 : List Int} {a1 : List Int} {r : Int} (hr : qdV9 a0 a1 = some r) : Res C 41 [.rd (a0.map intD),.rd (a1.map intD)] (PI r):=by
 simp only [qdV9] at hr
 obtain ⟨x5,h1,hr⟩:=bsome hr
 obtain ⟨q1,h1L,h1X⟩:=qox9.L (g:=()) h1
 rcases x5 with x6 | x7
 try dsimp only at hr
 obtain ⟨st1,rfl,h1R⟩:=h1X
 simp only [qeG9,go_sem] at h1L
 obtain rfl:=oiA hr
 refine run_V is41 (nbA rfl) ?_
 rotate_left
 try dsimp only at hr
 obtain ⟨⟨⟩,rfl⟩:=h1X
 simp only [qeG9,go_sem] at h1L
 obtain rfl:=oiA hr
 refine run_V is41 (nbA rfl) ?_
 rotate_left
 all_goals (simp +decide only [go_sem,decide_not,c41, *])
def qpI9 : ACode:=.seq (.seq (.reg [] [] [.M 4 3,.T 5 (.fa 1 (.tmp 1)),.T 6 (.load none (.tmp 5)),.T 7 (.len (.tmp 6)),.K 8 (.bin .lss (.tmp 4) (.tmp 7))]) (.cond (.tmp 8) (some 8) (.skip) (.exit 0))) (.seq (.block 1 65792 (.seq (.reg [] [] [.T 11 (.fa 1 (.tmp 1)),.T 12 (.load none (.tmp 11)),.M 13 3,.T 14 (.ix 1 (.tmp 12) (.tmp 13)),.T 15 (.load none (.tmp 14)),.K 16 (.bin .gtr (.tmp 15) (cI 64))]) (.cond (.tmp 16) (some 16) (.seq (.reg [] [] [.K 2 (.mv (.const (.bool false)))]) (.ret)) (.skip)))) (.reg [] [] [.M 9 3,.T 10 (.bin .add (.tmp 9) (cI 1)),.N 3 10]))
def c42 : ACode:=.seq (.reg [] [] [.K 1 (.box (.tmp 0)),.K 2 (.mv (.const (.bool false)))]) (.seq (.seq (.reg [] [] [.K 3 (.mv (cI 0))]) (.block 0 65792 (.loop qpI9))) (.seq (.reg [] [] [.T 17 (.fa 0 (.tmp 1)),.T 18 (.load none (.tmp 17)),.T 19 (.len (.tmp 18)),.T 20 (.bin .leq (.tmp 19) (cI 64)),.M 21 20,.TG 22 21 true (.fa 1 (.tmp 1)),.TG 23 21 true (.load none (.tmp 22)),.TG 24 21 true (.len (.tmp 23)),.TG 25 21 true (.bin .leq (.tmp 24) (cI 512)),.T 26 (.pick (.tmp 21) (.tmp 25) (.const (.bool false))),.N 2 26]) (.ret)))
theorem is42 : IsF C 42 27 65807 c42 [.tmp 2]:=⟨⟨Try.f42,_,C_P ▸ Try.func42,rfl,rfl,rfl,by kernel_rfl,rfl⟩⟩
def qeH9 (s0 : Mono) (b1_0 : List Int) (b1_1 : List Int) : Int→Unit→St:=fun s3 _=>⟨[(0,.d (.ag (qa9 s0))),(1,.ptr 0 0 0 0),(2,PB false),(3,PI s3)],(.row false 0 2 [[.d (.rd (b1_0.map qb9)),.d (.rd (b1_1.map intD))]]::[])⟩
def qnL9 (s0 : Mono) (b1_0 : List Int) (b1_1 : List Int) : (Bool ⊕ Int)→AExit × St→Prop
 | .inl r,q=>XV C [.tmp 2] (PB r) q
 | .inr s3,q=>∃ g,q = (.exit 0,qeH9 s0 b1_0 b1_1 s3 g)
theorem qnD9 {s0 : Mono} {b1_0 : List Int} {b1_1 : List Int} : Sim C 65807 qpI9 (qcZ9 s0 b1_0 b1_1) (qeH9 s0 b1_0 b1_1) (qnL9 s0 b1_0 b1_1):=by
 intro s g r hr
 have ⟨s3,hs0⟩ : ∃ y,y = s:=⟨_,rfl⟩
 subst hs0
 simp only [qcZ9] at hr
 rcases iteP hr with ⟨h1,hr⟩ | ⟨h1,hr⟩
 obtain ⟨x1,h2,hr⟩:=bsome hr
 rcases iteP hr with ⟨h3,hr⟩ | ⟨h3,hr⟩
 obtain rfl:=oiA hr
 refine xv_of ?_
 rotate_left
 obtain rfl:=oiA hr
 refine ⟨(),?_⟩
 rotate_left
 obtain rfl:=oiA hr
 refine xe_of ⟨(),rfl⟩ ?_
 rotate_left
 all_goals (simp +decide only [go_sem,decide_not,qeH9,qpI9, *])
theorem qhS9 {a0 : Mono} {r : Bool} (hr : qeU9 a0 = some r) : Res C 42 [.ag (qa9 a0)] (PB r):=by
 simp only [qeU9] at hr
 obtain ⟨x2,h1,hr⟩:=bsome hr
 obtain ⟨q1,h1L,h1X⟩:=qnD9.L (g:=()) h1
 rcases x2 with x3 | x4
 try dsimp only at hr
 obtain ⟨st1,rfl,h1R⟩:=h1X
 simp only [qeH9,go_sem] at h1L
 obtain rfl:=oiA hr
 refine run_V is42 (nbA rfl) ?_
 rotate_left
 try dsimp only at hr
 obtain ⟨⟨⟩,rfl⟩:=h1X
 simp only [qeH9,go_sem] at h1L
 rcases iteP hr with ⟨h2,hr⟩ | ⟨h2,hr⟩
 obtain rfl:=oiA hr
 refine run_V is42 (nbA rfl) ?_
 rotate_left
 obtain rfl:=oiA hr
 refine run_V is42 (nbA rfl) ?_
 rotate_left
 all_goals (simp +decide only [go_sem,decide_not,c42, *])
def qoI9 : ACode:=.seq (.seq (.reg [] [] [.M 3 0,.T 4 (.len (.tmp 3)),.T 5 (.bin .gtr (.tmp 4) (cI 0)),.M 6 5,.MG 7 6 true 0,.MG 8 6 true 0,.TG 9 6 true (.len (.tmp 8)),.TG 10 6 true (.bin .sub (.tmp 9) (cI 1)),.TG 11 6 true (.ix 1 (.tmp 7) (.tmp 10)),.TG 12 6 true (.load none (.tmp 11)),.TG 13 6 true (.bin .eql (.tmp 12) (.const (.int .u32 0))),.K 14 (.pick (.tmp 6) (.tmp 13) (.const (.bool false)))]) (.cond (.tmp 14) (some 14) (.skip) (.exit 0))) (.block 1 16384 (.reg [] [] [.M 15 0,.M 16 0,.T 17 (.len (.tmp 16)),.T 18 (.bin .sub (.tmp 17) (cI 1)),.T 19 (.cut 1 (.tmp 15) none (some (.tmp 18))),.N 0 19]))
def c88 : ACode:=.seq (.reg [] [(2,0)] [.K 2 (.mv (.const (.slice none 0 0)))]) (.seq (.block 0 16384 (.loop qoI9)) (.seq (.reg [] [] [.M 20 0,.N 2 20]) (.ret)))
theorem is88 : IsF C 88 21 16389 c88 [.tmp 2]:=⟨⟨Try.f88,_,C_P ▸ Try.func88,rfl,rfl,rfl,by kernel_rfl,rfl⟩⟩
def qgA9 (s2 : List Int) : (List Int)→Unit→St:=fun s0 _=>⟨[(0,.d (.rd (s0.map qb9))),(2,.d (.rd (s2.map qb9)))],[]⟩
def qqX9 (s2 : List Int) : ((List Int))→AExit × St→Prop:=fun s0 q=>∃ g,q = (.exit 0,qgA9 s2 s0 g)
theorem qqD9 {s2 : List Int} : Sim C 16389 qoI9 (qdH9 s2) (qgA9 s2) (qqX9 s2):=by
 intro s g r hr
 have ⟨s0,hs0⟩ : ∃ y,y = s:=⟨_,rfl⟩
 subst hs0
 simp only [qdH9] at hr
 rcases iteP hr with ⟨h1,hr⟩ | ⟨h1,hr⟩
 obtain ⟨x1,h2,hr⟩:=bsome hr
 rcases iteP hr with ⟨h3,hr⟩ | ⟨h3,hr⟩
 obtain ⟨x2,h4,hr⟩:=bsome hr
 obtain rfl:=oiA hr
 refine ⟨(),?_⟩
 rotate_left
 obtain rfl:=oiA hr
 refine xe_of ⟨(),rfl⟩ ?_
 rotate_left
 obtain rfl:=oiA hr
 refine xe_of ⟨(),rfl⟩ ?_
 rotate_left
 all_goals (simp +decide only [go_sem,decide_not,qgA9,qoI9, *])
theorem qtg9 {a0 : List Int} {r : (List Int)} (hr : qiA9 a0 = some r) : Res C 88 [.rd (a0.map qb9)] (.d (.rd (r.map qb9))):=by
 simp only [qiA9] at hr
 obtain ⟨x3,h1,hr⟩:=bsome hr
 obtain ⟨q1,h1L,h1X⟩:=qqD9.L (g:=()) h1
 have ⟨x4,hq1⟩ : ∃ y,y = x3:=⟨_,rfl⟩
 subst hq1
 try dsimp only at hr
 obtain ⟨⟨⟩,rfl⟩:=h1X
 simp only [qgA9,go_sem] at h1L
 obtain rfl:=oiA hr
 refine run_V is88 (nbA rfl) ?_
 rotate_left
 all_goals (simp +decide only [go_sem,decide_not,c88, *])
def c81 : ACode:=.seq (.reg [] [(2,0)] [.K 2 (.mv (.const (.slice none 0 0))),.K 3 (.mv (cI 0))]) (.seq (.reg [] [] [.M 4 0,.T 5 (.call 88 [.tmp 4]),.N 0 5]) (.seq (.seq (.reg [] [] [.M 6 0,.T 7 (.len (.tmp 6)),.K 8 (.bin .gtr (.tmp 7) (cI 64))]) (.cond (.tmp 8) (some 8) (.seq (.reg [] [(2,0)] [.K 2 (.mv (.const (.slice none 0 0))),.K 3 (.mv (cI 2))]) (.ret)) (.skip))) (.seq (.reg [] [] [.M 9 0,.N 2 9,.K 3 (.mv (cI 0))]) (.ret))))
theorem is81 : IsF C 81 10 269 c81 [.tmp 2,.tmp 3]:=⟨⟨Try.f81,_,C_P ▸ Try.func81,rfl,rfl,rfl,by kernel_rfl,rfl⟩⟩
theorem qkV9 {a0 : List Int} {r : (List Int) × Int} (hr : qgq9 a0 = some r) : Res C 81 [.rd (a0.map qb9)] (.tp [.d (.rd (r.1.map qb9)),PI r.2]):=by
 simp only [qgq9] at hr
 obtain ⟨x1,h1,hr⟩:=bsome hr
 have h1k:=(qtg9 h1).k rfl rfl rfl
 try simp only [go_sem] at h1k
 rcases iteP hr with ⟨h2,hr⟩ | ⟨h2,hr⟩
 obtain rfl:=oiA hr
 refine run_V is81 (nbA rfl) ?_
 rotate_left
 obtain rfl:=oiA hr
 refine run_V is81 (nbA rfl) ?_
 rotate_left
 all_goals (simp +decide only [go_sem,decide_not,c81, *])
end Ld

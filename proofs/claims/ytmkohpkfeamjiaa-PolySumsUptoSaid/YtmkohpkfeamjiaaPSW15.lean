import Derived.Test.YtmkohpkfeamjiaaPSW13
import Derived.Test.YtmkohpkfeamjiaaPSW14
set_option maxHeartbeats 60000000
set_option linter.unusedVariables false
set_option linter.unusedSimpArgs false
set_option linter.unusedSectionVars false
namespace Ld
open Go Go.Proofs Go.Abs
set_option maxRecDepth 8000
def qqY9 : ACode:=.seq (.seq (.reg [] [] [.M 16 5,.M 17 1,.T 18 (.len (.tmp 17)),.K 19 (.bin .lss (.tmp 16) (.tmp 18))]) (.cond (.tmp 19) (some 19) (.skip) (.exit 0))) (.seq (.block 1 549756338240 (.seq (.reg [] [] [.M 23 0,.M 24 1,.M 25 5,⟨some (26,false),.ix 2 (.tmp 24) (.tmp 25),none,true,false⟩,.T 27 (.fa 1 (.tmp 26)),⟨some (28,false),.load none (.tmp 27),none,true,false⟩,⟨some (29,false),.call 52 [.tmp 23,.tmp 28],none,true,false⟩,.M 30 1,.M 31 5,⟨some (32,false),.ix 2 (.tmp 30) (.tmp 31),none,true,false⟩,.T 33 (.fa 0 (.tmp 32)),⟨some (34,false),.load none (.tmp 33),none,true,false⟩,⟨some (35,false),.call 51 [.tmp 29,.tmp 34],none,true,false⟩,.M 22 35,.T 36 (.ext (.tmp 22) 0),.T 37 (.ext (.tmp 22) 1),.N 6 36,.M 7 37]) (.seq (.reg [] [] [.M 38 6,.K 39 (.bin .lss (.tmp 38) (cI 0))]) (.cond (.tmp 39) (some 39) (.seq (.reg [] [] [.K 4 (.mv (.const (.bool false)))]) (.ret)) (.skip))))) (.reg [] [] [.M 20 5,.T 21 (.bin .add (.tmp 20) (cI 1)),.N 5 21]))
def c20 : ACode:=.seq (.reg [] [] [.K 4 (.mv (.const (.bool false)))]) (.seq (.seq (.reg [] [] [.M 8 0,.T 9 (.call 15 [.tmp 8,.const (.int .i64 4611686018427387904)]),.T 10 (.bin .neq (.tmp 9) (cI 0)),.M 11 10,.MG 12 11 false 1,.TG 13 11 false (.call 15 [.tmp 12,.const (.int .i64 4611686018427387904)]),.TG 14 11 false (.bin .neq (.tmp 13) (cI 0)),.K 15 (.pick (.tmp 11) (.const (.bool true)) (.tmp 14))]) (.cond (.tmp 15) (some 15) (.seq (.reg [] [] [.K 4 (.mv (.const (.bool false)))]) (.ret)) (.skip))) (.seq (.seq (.reg [] [] [.K 5 (.mv (cI 0))]) (.block 0 549756338240 (.loop qqY9))) (.seq (.reg [] [] [.K 4 (.mv (.const (.bool true)))]) (.ret))))
theorem is20 : IsF C 20 40 549756371059 c20 [.tmp 4]:=⟨⟨Try.f20,_,C_P ▸ Try.func20,rfl,rfl,rfl,by kernel_rfl,rfl⟩⟩
def qge9 (s0 : List Mono) (s1 : List Mono) : Int→Unit→St:=fun s5 _=>⟨[(0,.d (.rd (s0.map qa9))),(1,.d (.rd (s1.map qa9))),(4,PB false),(5,PI s5)],[]⟩
def qog9 (s0 : List Mono) (s1 : List Mono) : (Bool ⊕ Int)→AExit × St→Prop
 | .inl r,q=>XV C [.tmp 4] (PB r) q
 | .inr s5,q=>∃ g,q = (.exit 0,qge9 s0 s1 s5 g)
theorem qnV9 {s0 : List Mono} {s1 : List Mono} : Sim C 549756371059 qqY9 (qek9 s0 s1) (qge9 s0 s1) (qog9 s0 s1):=by
 intro s g r hr
 have ⟨s5,hs0⟩ : ∃ y,y = s:=⟨_,rfl⟩
 subst hs0
 simp only [qek9] at hr
 rcases iteP hr with ⟨h1,hr⟩ | ⟨h1,hr⟩
 obtain ⟨x3,h2,x4,h3,x5,h4,hr⟩:=bs3 hr
 have h3k:=(qkT9 h3).k rfl rfl rfl
 try simp only [go_sem] at h3k
 have h4k:=(qop9 h4).k rfl rfl rfl
 try simp only [go_sem] at h4k
 rcases iteP hr with ⟨h5,hr⟩ | ⟨h5,hr⟩
 obtain rfl:=oiA hr
 refine xv_of ?_
 rotate_left
 obtain rfl:=oiA hr
 refine ⟨(),?_⟩
 rotate_left
 obtain rfl:=oiA hr
 refine xe_of ⟨(),rfl⟩ ?_
 rotate_left
 all_goals (simp +decide only [go_sem,decide_not,qge9,qqY9, *])
theorem qkZ9 {a0 : List Mono} {a1 : List Mono} {r : Bool} (hr : qhs9 a0 a1 = some r) : Res C 20 [.rd (a0.map qa9),.rd (a1.map qa9)] (PB r):=by
 simp only [qhs9] at hr
 obtain ⟨x1,h1,hr⟩:=bsome hr
 have h1k:=(qiH9 h1).k rfl rfl rfl
 try simp only [go_sem] at h1k
 rcases iteP hr with ⟨h2,hr⟩ | ⟨h2,hr⟩
 obtain ⟨x2,h3,hr⟩:=bsome hr
 have h3k:=(qiH9 h3).k rfl rfl rfl
 try simp only [go_sem] at h3k
 rcases iteP hr with ⟨h4,hr⟩ | ⟨h4,hr⟩
 obtain ⟨x6,h5,hr⟩:=bsome hr
 obtain ⟨q5,h5L,h5X⟩:=qnV9.L (g:=()) h5
 rcases x6 with x7 | x8
 try dsimp only at hr
 obtain ⟨st5,rfl,h5R⟩:=h5X
 simp only [qge9,go_sem] at h5L
 obtain rfl:=oiA hr
 refine run_V is20 (nbA rfl) ?_
 rotate_left
 try dsimp only at hr
 obtain ⟨⟨⟩,rfl⟩:=h5X
 simp only [qge9,go_sem] at h5L
 obtain rfl:=oiA hr
 refine run_V is20 (nbA rfl) ?_
 rotate_left
 obtain rfl:=oiA hr
 refine run_V is20 (nbA rfl) ?_
 rotate_left
 obtain rfl:=oiA hr
 refine run_V is20 (nbA rfl) ?_
 rotate_left
 all_goals (simp +decide only [go_sem,decide_not,c20, *])
def c22 : ACode:=.seq (.reg [] [] [.K 4 (.mv (.const (.bool false)))]) (.seq (.reg [] [] [.M 8 0,.T 9 (.lit 1 []),.T 10 (.call 52 [.tmp 8,.tmp 9]),.M 11 1,.T 12 (.lit 1 []),.T 13 (.call 52 [.tmp 11,.tmp 12]),.T 14 (.call 51 [.tmp 10,.tmp 13]),.M 7 14,.T 15 (.ext (.tmp 7) 0),.T 16 (.ext (.tmp 7) 1),.N 5 15,.M 6 16]) (.seq (.reg [] [] [.M 17 0,.M 18 1,.T 19 (.call 20 [.tmp 17,.tmp 18]),.M 20 19,.MG 21 20 true 5,.TG 22 20 true (.bin .gtr (.tmp 21) (cI 0)),.T 23 (.pick (.tmp 20) (.tmp 22) (.const (.bool false))),.N 4 23]) (.ret)))
theorem is22 : IsF C 22 24 51 c22 [.tmp 4]:=⟨⟨Try.f22,_,C_P ▸ Try.func22,rfl,rfl,rfl,by kernel_rfl,rfl⟩⟩
theorem qpm9 {a0 : List Mono} {a1 : List Mono} {r : Bool} (hr : qiO9 a0 a1 = some r) : Res C 22 [.rd (a0.map qa9),.rd (a1.map qa9)] (PB r):=by
 simp only [qiO9] at hr
 obtain ⟨x1,h1,x2,h2,x3,h3,x4,h4,hr⟩:=bs4 hr
 have h1k:=fun h=>(qkT9 h1).o rfl rfl rfl (h:=h) (args:=[.d (.rd (a0.map qa9)),.im true []]) rfl
 try simp only [go_sem] at h1k
 have h2k:=fun h=>(qkT9 h2).o rfl rfl rfl (h:=h) (args:=[.d (.rd (a1.map qa9)),.im true []]) rfl
 try simp only [go_sem] at h2k
 have h3k:=(qop9 h3).k rfl rfl rfl
 try simp only [go_sem] at h3k
 have h4k:=(qkZ9 h4).k rfl rfl rfl
 try simp only [go_sem] at h4k
 rcases iteB hr with ⟨h5,hr⟩ | ⟨h5,hr⟩
 obtain rfl:=oiA hr
 refine run_V is22 (nbA rfl) ?_
 rotate_left
 obtain rfl:=oiA hr
 refine run_V is22 (nbA rfl) ?_
 rotate_left
 all_goals (simp +decide only [go_sem,decide_not,c22, *])
end Ld

import Derived.Test.YtmkohpkfeamjiaaPMW13
import Derived.Test.YtmkohpkfeamjiaaPMW15
set_option maxHeartbeats 60000000
set_option linter.unusedVariables false
set_option linter.unusedSimpArgs false
set_option linter.unusedSectionVars false
namespace Ld
open Go Go.Proofs Go.Abs
set_option maxRecDepth 8000
def qnM9 : ACode:=.seq (.seq (.reg [] [] [.M 22 8,.M 23 1,.T 24 (.len (.tmp 23)),.K 25 (.bin .lss (.tmp 22) (.tmp 24))]) (.cond (.tmp 25) (some 25) (.skip) (.exit 0))) (.seq (.block 1 274911462912 (.seq (.reg [] [] [.M 29 7,.M 30 1,.M 31 8,.T 32 (.ix 2 (.tmp 30) (.tmp 31)),.T 33 (.load (some 2) (.tmp 32)),.T 34 (.call 47 [.tmp 29,.tmp 33]),.M 28 34,.T 35 (.ext (.tmp 28) 0),.T 36 (.ext (.tmp 28) 1),.N 9 35,.N 10 36]) (.seq (.seq (.reg [] [] [.M 37 10,.K 38 (.not (.tmp 37))]) (.cond (.tmp 38) (some 38) (.seq (.reg [] [(4,0)] [.K 4 (.mv (.const (.slice none 0 0))),.K 5 (.mv (cI 2))]) (.ret)) (.skip))) (.reg [] [] [.M 39 9,.N 7 39])))) (.reg [] [] [.M 26 8,.T 27 (.bin .add (.tmp 26) (cI 1)),.N 8 27]))
def c18 : ACode:=.seq (.reg [] [(4,0)] [.K 4 (.mv (.const (.slice none 0 0))),.K 5 (.mv (cI 0))]) (.seq (.reg [] [] [.M 11 0,.T 12 (.call 15 [.tmp 11,.const (.int .i64 4611686018427387904)]),.N 6 12]) (.seq (.seq (.reg [] [] [.M 13 6,.K 14 (.bin .neq (.tmp 13) (cI 0))]) (.cond (.tmp 14) (some 14) (.seq (.reg [] [(4,0)] [.M 15 6,.K 4 (.mv (.const (.slice none 0 0))),.N 5 15]) (.ret)) (.skip))) (.seq (.reg [] [] [.M 16 1,.T 17 (.call 15 [.tmp 16,.const (.int .i64 4611686018427387904)]),.N 6 17]) (.seq (.seq (.reg [] [] [.M 18 6,.K 19 (.bin .neq (.tmp 18) (cI 0))]) (.cond (.tmp 19) (some 19) (.seq (.reg [] [(4,0)] [.M 20 6,.K 4 (.mv (.const (.slice none 0 0))),.N 5 20]) (.ret)) (.skip))) (.seq (.reg [] [] [.M 21 0,.N 7 21]) (.seq (.seq (.reg [] [] [.K 8 (.mv (cI 0))]) (.block 0 274911462912 (.loop qnM9))) (.seq (.reg [] [] [.M 40 7,.N 4 40,.K 5 (.mv (cI 0))]) (.ret))))))))
theorem is18 : IsF C 18 41 274912004083 c18 [.tmp 4,.tmp 5]:=⟨⟨Try.f18,_,C_P ▸ Try.func18,rfl,rfl,rfl,by kernel_rfl,rfl⟩⟩
def qfY9 (s0 : List Mono) (s1 : List Mono) (s4 : List Mono) (s6 : Int) : (List Mono) × Int→Unit→St:=fun (s7,s8) _=>⟨[(0,.d (.rd (s0.map qa9))),(1,.d (.rd (s1.map qa9))),(4,.d (.rd (s4.map qa9))),(5,PI 0),(6,PI s6),(7,.d (.rd (s7.map qa9))),(8,PI s8)],[]⟩
def qsN9 (s0 : List Mono) (s1 : List Mono) (s4 : List Mono) (s6 : Int) : (((List Mono) × Int) ⊕ ((List Mono) × Int))→AExit × St→Prop
 | .inl r,q=>XV C [.tmp 4,.tmp 5] (.tp [.d (.rd (r.1.map qa9)),PI r.2]) q
 | .inr (s7,s8),q=>∃ g,q = (.exit 0,qfY9 s0 s1 s4 s6 (s7,s8) g)
theorem qsr9 {s0 : List Mono} {s1 : List Mono} {s4 : List Mono} {s6 : Int} : Sim C 274912004083 qnM9 (qcK9 s0 s1 s4 s6) (qfY9 s0 s1 s4 s6) (qsN9 s0 s1 s4 s6):=by
 intro s g r hr
 obtain ⟨s7,s8⟩:=s
 simp only [qcK9] at hr
 rcases iteP hr with ⟨h1,hr⟩ | ⟨h1,hr⟩
 obtain ⟨x3,h2,x4,h3,hr⟩:=bs2 hr
 have h3k:=fun h=>(qld9 h3).o rfl rfl rfl (h:=h) (args:=[.d (.rd (s7.map qa9)),.ag [.d (.rd (x3.Coef.map qb9)),.d (.rd (x3.Exps.map intD))]]) rfl
 try simp only [go_sem] at h3k
 rcases iteB hr with ⟨h4,hr⟩ | ⟨h4,hr⟩
 obtain rfl:=oiA hr
 refine ⟨(),?_⟩
 rotate_left
 obtain rfl:=oiA hr
 refine xv_of ?_
 rotate_left
 obtain rfl:=oiA hr
 refine xe_of ⟨(),rfl⟩ ?_
 rotate_left
 all_goals (simp +decide only [go_sem,decide_not,qfY9,qnM9, *])
theorem qux9 {a0 : List Mono} {a1 : List Mono} {r : (List Mono) × Int} (hr : qgo9 a0 a1 = some r) : Res C 18 [.rd (a0.map qa9),.rd (a1.map qa9)] (.tp [.d (.rd (r.1.map qa9)),PI r.2]):=by
 simp only [qgo9] at hr
 obtain ⟨x1,h1,hr⟩:=bsome hr
 have h1k:=(qdE9 h1).k rfl rfl rfl
 try simp only [go_sem] at h1k
 rcases iteP hr with ⟨h2,hr⟩ | ⟨h2,hr⟩
 obtain ⟨x2,h3,hr⟩:=bsome hr
 have h3k:=(qdE9 h3).k rfl rfl rfl
 try simp only [go_sem] at h3k
 rcases iteP hr with ⟨h4,hr⟩ | ⟨h4,hr⟩
 obtain ⟨x5,h5,hr⟩:=bsome hr
 obtain ⟨q5,h5L,h5X⟩:=qsr9.L (g:=()) h5
 rcases x5 with x6 | ⟨x7,x8⟩
 try dsimp only at hr
 obtain ⟨st5,rfl,h5R⟩:=h5X
 simp only [qfY9,go_sem] at h5L
 obtain rfl:=oiA hr
 refine run_V is18 (nbA rfl) ?_
 rotate_left
 try dsimp only at hr
 obtain ⟨⟨⟩,rfl⟩:=h5X
 simp only [qfY9,go_sem] at h5L
 obtain rfl:=oiA hr
 refine run_V is18 (nbA rfl) ?_
 rotate_left
 obtain rfl:=oiA hr
 refine run_V is18 (nbA rfl) ?_
 rotate_left
 obtain rfl:=oiA hr
 refine run_V is18 (nbA rfl) ?_
 rotate_left
 all_goals (simp +decide only [go_sem,decide_not,c18, *])
end Ld

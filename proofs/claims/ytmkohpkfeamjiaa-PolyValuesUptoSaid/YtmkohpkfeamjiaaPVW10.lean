import Derived.Test.YtmkohpkfeamjiaaPVW5
set_option maxHeartbeats 60000000
set_option linter.unusedVariables false
set_option linter.unusedSimpArgs false
set_option linter.unusedSectionVars false
namespace Ld
open Go Go.Proofs Go.Abs
set_option maxRecDepth 8000
def qqf9 : ACode:=.seq (.seq (.reg [] [] [.M 15 9,.M 16 10,.K 17 (.bin .lss (.tmp 15) (.tmp 16))]) (.cond (.tmp 17) (some 17) (.skip) (.exit 0))) (.block 1 2147616768 (.seq (.reg [] [] [.M 18 9,.M 19 10,.T 20 (.bin .add (.tmp 18) (.tmp 19)),.T 21 (.wrap .u64 (.tmp 20)),.T 22 (.sh .shr (.tmp 21) (.const (.int .u64 1))),.T 23 (.wrap .i64 (.tmp 22)),.N 11 23]) (.seq (.reg [] [] [.M 24 2,.M 25 0,.M 26 11,.T 27 (.ix 2 (.tmp 25) (.tmp 26)),.T 28 (.load (some 2) (.tmp 27)),.M 29 1,.T 30 (.callV (.tmp 24) [.tmp 28,.tmp 29]),.K 31 (.bin .lss (.tmp 30) (cI 0))]) (.cond (.tmp 31) (some 31) (.reg [] [] [.M 32 11,.T 33 (.bin .add (.tmp 32) (cI 1)),.N 9 33]) (.reg [] [] [.M 34 11,.N 10 34])))))
def c78 : ACode:=.seq (.reg [] [] [.K 6 (.mv (cI 0)),.K 7 (.mv (.const (.bool false)))]) (.seq (.reg [] [] [.M 12 0,.T 13 (.len (.tmp 12)),.N 8 13]) (.seq (.reg [] [] [.M 14 8,.K 9 (.mv (cI 0)),.N 10 14]) (.seq (.block 0 2147616768 (.loop qqf9)) (.seq (.reg [] [] [.M 35 9,.M 36 9,.M 37 8,.T 38 (.bin .lss (.tmp 36) (.tmp 37)),.M 39 38,.MG 40 39 true 2,.MG 41 39 true 0,.MG 42 39 true 9,.TG 43 39 true (.ix 2 (.tmp 41) (.tmp 42)),.TG 44 39 true (.load (some 2) (.tmp 43)),.MG 45 39 true 1,.TG 46 39 true (.callV (.tmp 40) [.tmp 44,.tmp 45]),.TG 47 39 true (.bin .eql (.tmp 46) (cI 0)),.T 48 (.pick (.tmp 39) (.tmp 47) (.const (.bool false))),.N 6 35,.N 7 48]) (.ret)))))
theorem is78 : IsF C 78 49 2147618759 c78 [.tmp 6,.tmp 7]:=⟨⟨Try.f78,_,C_P ▸ Try.func78,rfl,rfl,rfl,by kernel_rfl,rfl⟩⟩
def qQ9 (s0 : List Mono) (s1 : List Int) (s8 : Int) : Int × Int→Unit→St:=fun (s9,s10) _=>⟨[(0,.d (.rd (s0.map qa9))),(1,.d (.rd (s1.map intD))),(2,.d (.fn 79 [])),(6,PI 0),(7,PB false),(8,PI s8),(9,PI s9),(10,PI s10)],[]⟩
def qdf9 (s0 : List Mono) (s1 : List Int) (s8 : Int) : (Int × Int)→AExit × St→Prop:=fun (s9,s10) q=>∃ g,q = (.exit 0,qQ9 s0 s1 s8 (s9,s10) g)
theorem qdg9 {s0 : List Mono} {s1 : List Int} {s8 : Int} : Sim C 2147618759 qqf9 (qk9 s0 s1 s8) (qQ9 s0 s1 s8) (qdf9 s0 s1 s8):=by
 intro s g r hr
 obtain ⟨s9,s10⟩:=s
 simp only [qk9] at hr
 rcases iteP hr with ⟨h1,hr⟩ | ⟨h1,hr⟩
 obtain ⟨x1,h2,x2,h3,x3,h4,hr⟩:=bs3 hr
 have h4k:=fun h=>(qjZ9 h4).o rfl rfl rfl (h:=h) (args:=[.ag [.d (.rd (x2.Coef.map qc9)),.d (.rd (x2.Exps.map intD))],.d (.rd (s1.map intD))]) rfl
 try simp only [go_sem] at h4k
 rcases iteP hr with ⟨h5,hr⟩ | ⟨h5,hr⟩
 obtain rfl:=oiA hr
 refine ⟨(),?_⟩
 rotate_left
 obtain rfl:=oiA hr
 refine ⟨(),?_⟩
 rotate_left
 obtain rfl:=oiA hr
 refine xe_of ⟨(),rfl⟩ ?_
 rotate_left
 all_goals (simp +decide only [go_sem,decide_not,qQ9,qqf9, *])
theorem qdk9 {a0 : List Mono} {a1 : List Int} {r : Int × Bool} (hr : qbd9 a0 a1 = some r) : Res C 78 [.rd (a0.map qa9),.rd (a1.map intD),.fn 79 []] (.tp [PI r.1,PB r.2]):=by
 simp only [qbd9] at hr
 obtain ⟨x4,h1,hr⟩:=bsome hr
 obtain ⟨q1,h1L,h1X⟩:=qdg9.L (g:=()) h1
 obtain ⟨x5,x6⟩:=x4
 try dsimp only at hr
 obtain ⟨⟨⟩,rfl⟩:=h1X
 simp only [qQ9,go_sem] at h1L
 rcases iteP hr with ⟨h2,hr⟩ | ⟨h2,hr⟩
 obtain ⟨x7,h3,x8,h4,hr⟩:=bs2 hr
 have h4k:=fun h=>(qjZ9 h4).o rfl rfl rfl (h:=h) (args:=[.ag [.d (.rd (x7.Coef.map qc9)),.d (.rd (x7.Exps.map intD))],.d (.rd (a1.map intD))]) rfl
 try simp only [go_sem] at h4k
 obtain rfl:=oiA hr
 refine run_V is78 (nbA rfl) ?_
 rotate_left
 obtain rfl:=oiA hr
 refine run_V is78 (nbA rfl) ?_
 rotate_left
 all_goals (simp +decide only [go_sem,decide_not,c78, *])
def c50 : ACode:=.seq (.reg [] [(4,0)] [.K 4 (.mv (.const (.slice none 0 0)))]) (.seq (.reg [] [] [.M 8 0,.M 9 1,.T 10 (.call 78 [.tmp 8,.tmp 9,.func 79]),.M 7 10,.T 11 (.ext (.tmp 7) 0),.T 12 (.ext (.tmp 7) 1),.N 5 11,.N 6 12]) (.seq (.seq (.reg [] [] [.M 13 6,.K 14 (.not (.tmp 13))]) (.cond (.tmp 14) (some 14) (.seq (.reg [] [(4,0)] [.K 4 (.mv (.const (.slice none 0 0)))]) (.ret)) (.skip))) (.seq (.reg [] [] [.M 15 0,.M 16 5,.T 17 (.ix 2 (.tmp 15) (.tmp 16)),.T 18 (.fa 0 (.tmp 17)),.T 19 (.load none (.tmp 18)),.N 4 19]) (.ret))))
theorem is50 : IsF C 50 20 16499 c50 [.tmp 4]:=⟨⟨Try.f50,_,C_P ▸ Try.func50,rfl,rfl,rfl,by kernel_rfl,rfl⟩⟩
theorem qjF9 {a0 : List Mono} {a1 : List Int} {r : (List Int)} (hr : qgB9 a0 a1 = some r) : Res C 50 [.rd (a0.map qa9),.rd (a1.map intD)] (.d (.rd (r.map qc9))):=by
 simp only [qgB9] at hr
 obtain ⟨x1,h1,hr⟩:=bsome hr
 have h1k:=fun h=>(qdk9 h1).o rfl rfl rfl (h:=h) (args:=[.d (.rd (a0.map qa9)),.d (.rd (a1.map intD)),.fn 79 []]) rfl
 try simp only [go_sem] at h1k
 rcases iteB hr with ⟨h2,hr⟩ | ⟨h2,hr⟩
 obtain ⟨x2,h3,hr⟩:=bsome hr
 obtain rfl:=oiA hr
 refine run_V is50 (nbA rfl) ?_
 rotate_left
 obtain rfl:=oiA hr
 refine run_V is50 (nbA rfl) ?_
 rotate_left
 all_goals (simp +decide only [go_sem,decide_not,c50, *])
end Ld

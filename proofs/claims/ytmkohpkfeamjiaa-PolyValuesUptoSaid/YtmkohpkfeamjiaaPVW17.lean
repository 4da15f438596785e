import Derived.Test.YtmkohpkfeamjiaaPVW11
import Derived.Test.YtmkohpkfeamjiaaPVW16
import Derived.Test.YtmkohpkfeamjiaaPVW8
set_option maxHeartbeats 60000000
set_option linter.unusedVariables false
set_option linter.unusedSimpArgs false
set_option linter.unusedSectionVars false
namespace Ld
open Go Go.Proofs Go.Abs
set_option maxRecDepth 8000
def c7 : ACode:=.seq (.reg [] [] [.K 4 (.mv (.const (.bool false)))]) (.seq (.reg [] [] [.T 10 (.call 12 []),.N 5 10]) (.seq (.seq (.reg [] [] [.M 11 5,.K 12 (.not (.tmp 11))]) (.cond (.tmp 12) (some 12) (.seq (.reg [] [] [.K 4 (.mv (.const (.bool false)))]) (.ret)) (.skip))) (.seq (.reg [] [] [.M 14 0,.M 15 1,.T 16 (.call 28 [.tmp 14,.tmp 15]),.M 13 16,.T 17 (.ext (.tmp 13) 0),.T 18 (.ext (.tmp 13) 1),.N 6 17,.N 7 18]) (.seq (.reg [] [] [.M 20 0,.M 21 1,.T 22 (.call 29 [.tmp 20,.tmp 21]),.M 19 22,.T 23 (.ext (.tmp 19) 0),.T 24 (.ext (.tmp 19) 1),.N 8 23,.N 9 24]) (.seq (.reg [] [] [.M 25 5,.M 26 25,.MG 27 26 true 7,.MG 28 26 true 9,.TG 29 26 true (.bin .eql (.tmp 27) (.tmp 28)),.T 30 (.pick (.tmp 26) (.tmp 29) (.const (.bool false))),.M 31 30,.MG 32 31 true 6,.MG 33 31 true 8,.TG 34 31 true (.call 30 [.tmp 32,.tmp 33]),.T 35 (.pick (.tmp 31) (.tmp 34) (.const (.bool false))),.N 4 35]) (.ret))))))
theorem is7 : IsF C 7 36 5107 c7 [.tmp 4]:=⟨⟨Try.f7,_,C_P ▸ Try.func7,rfl,rfl,rfl,by kernel_rfl,rfl⟩⟩
theorem qlI9 {a0 : List Mono} {a1 : List (List Int)} {r : Bool} (hr : qhf9 a0 a1 = some r) : Res C 7 [.rd (a0.map qa9),.rd (a1.map (lsD qc9))] (PB r):=by
 simp only [qhf9] at hr
 obtain ⟨x1,h1,hr⟩:=bsome hr
 have h1k:=(qrs9 h1).k rfl rfl rfl
 try simp only [go_sem] at h1k
 rcases iteB hr with ⟨h2,hr⟩ | ⟨h2,hr⟩
 obtain ⟨x2,h3,x3,h4,hr⟩:=bs2 hr
 have h3k:=(qkO9 h3).k rfl rfl rfl
 try simp only [go_sem] at h3k
 have h4k:=(qrI9 h4).k rfl rfl rfl
 try simp only [go_sem] at h4k
 rcases iteP hr with ⟨h5,hr⟩ | ⟨h5,hr⟩
 obtain ⟨x4,h6,hr⟩:=bsome hr
 have h6k:=(qiL9 h6).k rfl rfl rfl
 try simp only [go_sem] at h6k
 obtain rfl:=oiA hr
 refine run_V is7 (nbA rfl) ?_
 rotate_left
 obtain rfl:=oiA hr
 refine run_V is7 (nbA rfl) ?_
 rotate_left
 obtain rfl:=oiA hr
 refine run_V is7 (nbA rfl) ?_
 rotate_left
 all_goals (simp +decide only [go_sem,decide_not,c7, *])
end Ld

import Derived.Test.YtmkohpkfeamjiaaTSW2
import Derived.Test.YtmkohpkfeamjiaaTSW6
set_option maxHeartbeats 60000000
set_option linter.unusedVariables false
set_option linter.unusedSimpArgs false
set_option linter.unusedSectionVars false
namespace Lt
open Ld Go Go.Proofs Go.Abs
set_option maxRecDepth 8000
def c75 : ACode:=.seq (.reg [] [] [.M 5 0,.T 6 (.len (.tmp 5)),.N 4 6]) (.reg [] [] [.M 7 0,.M 8 4,.M 9 4,.T 10 (.wrap .u64 (.tmp 9)),.T 11 (.call 87 [.tmp 10]),.M 12 1,.T 13 (.call 86 [.tmp 7,.const (.int .i64 0),.tmp 8,.tmp 11,.tmp 12])])
theorem is75 : IsF C 75 14 19 c75 []:=⟨⟨Try.f75,_,C_P ▸ Try.func75,rfl,rfl,rfl,by kernel_rfl,rfl⟩⟩
theorem qef9 {o0 : List Mono} {v0 : Nat} {n0 : Nat} (hln0 : o0.length = n0) {r : (List Mono)} (hr : qbb9 o0 = some r) : ∃ hz : AHeap,Lim C 75 [.ref 0 v0 0 n0,.fn 76 []] (.row false v0 2 (rowP qa9 o0)::[]) = some (resOf [],(.row false v0 2 (rowP qa9 r)::hz))∧r.length = n0:=by
 simp only [qbb9] at hr
 obtain ⟨x1,h1,x2,h2,hr⟩:=bs2 hr
 have h1k:=fun h=>qjC9 (h:=h) h1
 try simp only [go_sem] at h1k
 try simp only [hln0] at h1k
 obtain ⟨z3,h2k,h2l0⟩:=qeV9 (g1:=[]) (v0:=v0) (n0:=n0) (g2:=[]) (show o0.length = n0 by first | assumption | (simp only [llA,lrA]; first | done | assumption | omega) | omega) h2
 replace h2k:=qD9 rfl rfl rfl h2k
 try simp only [go_sem] at h2k
 try simp only [hln0] at h2k
 obtain rfl:=oiA hr
 refine ⟨z3,run_L is75 (nbA rfl) ?_,(show x2.length = n0 by first | assumption | (simp only [llA,lrA]; first | done | assumption | omega) | omega)⟩
 rotate_left
 all_goals (simp +decide only [go_sem,decide_not,c75, *])
end Lt

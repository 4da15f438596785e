import Derived.Test.YtmkohpkfeamjiaaPMC
set_option maxHeartbeats 60000000
set_option linter.unusedVariables false
set_option linter.unusedSimpArgs false
set_option linter.unusedSectionVars false
namespace Ld
open Go Go.Proofs Go.Abs
set_option maxRecDepth 8000
def c35 : ACode:=.seq (.reg [] [(0,0)] [.K 0 (.mv (.const (.slice none 0 0)))]) (.seq (.reg [] [(0,0)] [⟨some (1,false),.lit 1 [(0,.const (.int .u32 1))],none,false,true⟩,⟨some (2,false),.lit 1 [(0,.const (.int .i64 1))],none,false,true⟩,.T 3 (.build [(0,1),(1,1)] [.im true [],.im true []] [(0,.tmp 1),(1,.tmp 2)]),.T 4 (.lit 2 [(0,.tmp 3)]),.N 0 4]) (.ret))
theorem is35 : IsF C 35 5 1 c35 [.tmp 0]:=⟨⟨Try.f35,_,C_P ▸ Try.func35,rfl,rfl,rfl,by kernel_rfl,rfl⟩⟩
theorem qyM9  {r : (List Mono)} (hr : qnA9 = some r) : Res C 35 [] (.d (.rd (r.map qa9))):=by
 simp only [qnA9] at hr
 obtain rfl:=oiA hr
 refine run_V is35 (nbA rfl) ?_
 rotate_left
 all_goals (simp +decide only [go_sem,decide_not,c35, *])
def c31 : ACode:=.seq (.reg [] [(0,0)] [.K 0 (.mv (.const (.slice none 0 0)))]) (.seq (.reg [] [(0,0)] [⟨some (1,false),.lit 1 [(0,.const (.int .u32 1))],none,false,true⟩,.T 2 (.build [(0,1),(1,1)] [.im true [],.im true []] [(0,.tmp 1)]),.T 3 (.lit 2 [(0,.tmp 2)]),.N 0 3]) (.ret))
theorem is31 : IsF C 31 4 1 c31 [.tmp 0]:=⟨⟨Try.f31,_,C_P ▸ Try.func31,rfl,rfl,rfl,by kernel_rfl,rfl⟩⟩
theorem qvv9  {r : (List Mono)} (hr : qjP9 = some r) : Res C 31 [] (.d (.rd (r.map qa9))):=by
 simp only [qjP9] at hr
 obtain rfl:=oiA hr
 refine run_V is31 (nbA rfl) ?_
 rotate_left
 all_goals (simp +decide only [go_sem,decide_not,c31, *])
def c59 : ACode:=.seq (.reg [] [] [.K 2 (.mv (.const (.bool false)))]) (.seq (.reg [] [] [.M 4 0,.T 5 (.len (.tmp 4)),.N 3 5]) (.seq (.reg [] [] [.M 6 3,.T 7 (.bin .leq (.tmp 6) (cI 64)),.M 8 7,.MG 9 8 true 3,.TG 10 8 true (.bin .eql (.tmp 9) (cI 0)),.MG 11 8 true 10,.MG 12 11 false 0,.MG 13 11 false 3,.TG 14 11 false (.bin .sub (.tmp 13) (cI 1)),.TG 15 11 false (.ix 1 (.tmp 12) (.tmp 14)),.TG 16 11 false (.load none (.tmp 15)),.TG 17 11 false (.bin .neq (.tmp 16) (.const (.int .u32 0))),.TG 18 8 true (.pick (.tmp 11) (.const (.bool true)) (.tmp 17)),.T 19 (.pick (.tmp 8) (.tmp 18) (.const (.bool false))),.N 2 19]) (.ret)))
theorem is59 : IsF C 59 20 13 c59 [.tmp 2]:=⟨⟨Try.f59,_,C_P ▸ Try.func59,rfl,rfl,rfl,by kernel_rfl,rfl⟩⟩
theorem qcO9 {a0 : List Int} {r : Bool} (hr : qbU9 a0 = some r) : Res C 59 [.rd (a0.map qb9)] (PB r):=by
 simp only [qbU9] at hr
 rcases iteP hr with ⟨h1,hr⟩ | ⟨h1,hr⟩
 rcases iteP hr with ⟨h2,hr⟩ | ⟨h2,hr⟩
 obtain rfl:=oiA hr
 refine run_V is59 (nbA rfl) ?_
 rotate_left
 obtain ⟨x1,h3,hr⟩:=bsome hr
 obtain rfl:=oiA hr
 refine run_V is59 (nbA rfl) ?_
 rotate_left
 obtain rfl:=oiA hr
 refine run_V is59 (nbA rfl) ?_
 rotate_left
 all_goals (simp +decide only [go_sem,decide_not,c59, *])
def c69 : ACode:=.seq (.reg [] [] [.K 2 (.mv (.const (.bool false)))]) (.seq (.reg [] [] [.M 3 0,.T 4 (.bin .lss (.tmp 3) (cI 0)),.N 2 4]) (.ret))
theorem is69 : IsF C 69 5 5 c69 [.tmp 2]:=⟨⟨Try.f69,_,C_P ▸ Try.func69,rfl,rfl,rfl,by kernel_rfl,rfl⟩⟩
theorem qlW9 {a0 : Int} {r : Bool} (hr : qga9 a0 = some r) : Res C 69 [.v (.int .i64 a0)] (PB r):=by
 simp only [qga9] at hr
 obtain rfl:=oiA hr
 refine run_V is69 (nbA rfl) ?_
 rotate_left
 all_goals (simp +decide only [go_sem,decide_not,c69, *])
def qji9 : ACode:=.seq (.reg [] [] [.K 9 (.bin .lss (.tmp 8) (.tmp 7))]) (.seq (.cond (.tmp 9) (some 9) (.skip) (.exit 0)) (.seq (.block 1 66080 (.seq (.reg [] [] [.M 10 8,.N 5 10]) (.seq (.reg [] [] [.M 11 1,.M 12 0,.M 13 5,.T 14 (.ix 1 (.tmp 12) (.tmp 13)),.T 15 (.load none (.tmp 14)),.K 16 (.callV (.tmp 11) [.tmp 15])]) (.cond (.tmp 16) (some 16) (.seq (.reg [] [] [.M 17 5,.N 4 17]) (.ret)) (.skip))))) (.reg [] [] [.T 18 (.bin .add (.tmp 8) (cI 1)),.N 8 18])))
def c85 : ACode:=.seq (.reg [] [] [.K 4 (.mv (cI 0))]) (.seq (.seq (.reg [] [] [.M 6 0,.K 7 (.len (.tmp 6)),.K 8 (.mv (cI 0))]) (.block 0 66080 (.loop qji9))) (.seq (.reg [] [] [.K 4 (.mv (cI (-1)))]) (.ret)))
theorem is85 : IsF C 85 19 66483 c85 [.tmp 4]:=⟨⟨Try.f85,_,C_P ▸ Try.func85,rfl,rfl,rfl,by kernel_rfl,rfl⟩⟩
def qB9 (s0 : List Int) (s7 : Int) : Int→Unit→St:=fun s8 _=>⟨[(0,.d (.rd (s0.map intD))),(1,.d (.fn 69 [])),(4,PI 0),(7,PI s7),(8,PI s8)],[]⟩
def qdm9 (s0 : List Int) (s7 : Int) : (Int ⊕ Int)→AExit × St→Prop
 | .inl r,q=>XV C [.tmp 4] (PI r) q
 | .inr s8,q=>∃ g,q = (.exit 0,qB9 s0 s7 s8 g)
theorem qdu9 {s0 : List Int} {s7 : Int} : Sim C 66483 qji9 (qD9 s0 s7) (qB9 s0 s7) (qdm9 s0 s7):=by
 intro s g r hr
 have ⟨s8,hs0⟩ : ∃ y,y = s:=⟨_,rfl⟩
 subst hs0
 simp only [qD9] at hr
 rcases iteP hr with ⟨h1,hr⟩ | ⟨h1,hr⟩
 obtain ⟨x1,h2,x2,h3,hr⟩:=bs2 hr
 have h3k:=(qlW9 h3).k rfl rfl rfl
 try simp only [go_sem] at h3k
 rcases iteB hr with ⟨h4,hr⟩ | ⟨h4,hr⟩
 obtain rfl:=oiA hr
 refine xv_of ?_
 rotate_left
 obtain rfl:=oiA hr
 refine ⟨(),?_⟩
 rotate_left
 obtain rfl:=oiA hr
 refine xe_of ⟨(),rfl⟩ ?_
 rotate_left
 all_goals (simp +decide only [go_sem,decide_not,qB9,qji9, *])
theorem qdC9 {a0 : List Int} {r : Int} (hr : qQ9 a0 = some r) : Res C 85 [.rd (a0.map intD),.fn 69 []] (PI r):=by
 simp only [qQ9] at hr
 obtain ⟨x3,h1,hr⟩:=bsome hr
 obtain ⟨q1,h1L,h1X⟩:=qdu9.L (g:=()) h1
 rcases x3 with x4 | x5
 try dsimp only at hr
 obtain ⟨st1,rfl,h1R⟩:=h1X
 simp only [qB9,go_sem] at h1L
 obtain rfl:=oiA hr
 refine run_V is85 (nbA rfl) ?_
 rotate_left
 try dsimp only at hr
 obtain ⟨⟨⟩,rfl⟩:=h1X
 simp only [qB9,go_sem] at h1L
 obtain rfl:=oiA hr
 refine run_V is85 (nbA rfl) ?_
 rotate_left
 all_goals (simp +decide only [go_sem,decide_not,c85, *])
def c68 : ACode:=.seq (.reg [] [] [.K 4 (.mv (.const (.bool false)))]) (.seq (.reg [] [] [.M 5 0,.M 6 1,.T 7 (.call 85 [.tmp 5,.tmp 6]),.T 8 (.bin .geq (.tmp 7) (cI 0)),.N 4 8]) (.ret))
theorem is68 : IsF C 68 9 19 c68 [.tmp 4]:=⟨⟨Try.f68,_,C_P ▸ Try.func68,rfl,rfl,rfl,by kernel_rfl,rfl⟩⟩
theorem qde9 {a0 : List Int} {r : Bool} (hr : qE9 a0 = some r) : Res C 68 [.rd (a0.map intD),.fn 69 []] (PB r):=by
 simp only [qE9] at hr
 obtain ⟨x1,h1,hr⟩:=bsome hr
 have h1k:=(qdC9 h1).k rfl rfl rfl
 try simp only [go_sem] at h1k
 obtain rfl:=oiA hr
 refine run_V is68 (nbA rfl) ?_
 rotate_left
 all_goals (simp +decide only [go_sem,decide_not,c68, *])
def c37 : ACode:=.seq (.reg [] [] [.K 1 (.box (.tmp 0)),.K 2 (.mv (.const (.bool false)))]) (.seq (.reg [] [] [.T 3 (.fa 0 (.tmp 1)),.T 4 (.load none (.tmp 3)),.T 5 (.call 59 [.tmp 4]),.M 6 5,.TG 7 6 true (.fa 0 (.tmp 1)),.TG 8 6 true (.load none (.tmp 7)),.TG 9 6 true (.len (.tmp 8)),.TG 10 6 true (.bin .gtr (.tmp 9) (cI 0)),.T 11 (.pick (.tmp 6) (.tmp 10) (.const (.bool false))),.M 12 11,.TG 13 12 true (.fa 1 (.tmp 1)),.TG 14 12 true (.load none (.tmp 13)),.TG 15 12 true (.call 68 [.tmp 14,.func 69]),.TG 16 12 true (.not (.tmp 15)),.T 17 (.pick (.tmp 12) (.tmp 16) (.const (.bool false))),.M 18 17,.TG 19 18 true (.fa 1 (.tmp 1)),.TG 20 18 true (.load none (.tmp 19)),.TG 21 18 true (.len (.tmp 20)),.TG 22 18 true (.bin .eql (.tmp 21) (cI 0)),.MG 23 18 true 22,.TG 24 23 false (.fa 1 (.tmp 1)),.TG 25 23 false (.load none (.tmp 24)),.TG 26 23 false (.fa 1 (.tmp 1)),.TG 27 23 false (.load none (.tmp 26)),.TG 28 23 false (.len (.tmp 27)),.TG 29 23 false (.bin .sub (.tmp 28) (cI 1)),.TG 30 23 false (.ix 1 (.tmp 25) (.tmp 29)),.TG 31 23 false (.load none (.tmp 30)),.TG 32 23 false (.bin .gtr (.tmp 31) (cI 0)),.TG 33 18 true (.pick (.tmp 23) (.const (.bool true)) (.tmp 32)),.T 34 (.pick (.tmp 18) (.tmp 33) (.const (.bool false))),.N 2 34]) (.ret))
theorem is37 : IsF C 37 35 7 c37 [.tmp 2]:=⟨⟨Try.f37,_,C_P ▸ Try.func37,rfl,rfl,rfl,by kernel_rfl,rfl⟩⟩
theorem qqS9 {a0 : Mono} {r : Bool} (hr : qgL9 a0 = some r) : Res C 37 [.ag (qa9 a0)] (PB r):=by
 simp only [qgL9] at hr
 obtain ⟨x1,h1,hr⟩:=bsome hr
 have h1k:=(qcO9 h1).k rfl rfl rfl
 try simp only [go_sem] at h1k
 rcases iteB hr with ⟨h2,hr⟩ | ⟨h2,hr⟩
 rcases iteP hr with ⟨h3,hr⟩ | ⟨h3,hr⟩
 obtain ⟨x2,h4,hr⟩:=bsome hr
 have h4k:=fun h=>(qde9 h4).o rfl rfl rfl (h:=h) (args:=[.d (.rd (a0.Exps.map intD)),.fn 69 []]) rfl
 try simp only [go_sem] at h4k
 rcases iteB hr with ⟨h5,hr⟩ | ⟨h5,hr⟩
 obtain rfl:=oiA hr
 refine run_V is37 (nbA rfl) ?_
 rotate_left
 rcases iteP hr with ⟨h6,hr⟩ | ⟨h6,hr⟩
 obtain rfl:=oiA hr
 refine run_V is37 (nbA rfl) ?_
 rotate_left
 obtain ⟨x3,h7,hr⟩:=bsome hr
 obtain rfl:=oiA hr
 refine run_V is37 (nbA rfl) ?_
 rotate_left
 obtain rfl:=oiA hr
 refine run_V is37 (nbA rfl) ?_
 rotate_left
 obtain rfl:=oiA hr
 refine run_V is37 (nbA rfl) ?_
 rotate_left
 all_goals (simp +decide only [go_sem,decide_not,c37, *])
def qhx9 : ACode:=.seq (.reg [] [] [.K 12 (.bin .lss (.tmp 11) (.tmp 10))]) (.seq (.cond (.tmp 12) (some 12) (.skip) (.exit 0)) (.seq (.block 1 4198432 (.seq (.reg [] [] [.M 13 11,.N 5 13]) (.seq (.reg [] [] [.M 14 0,.M 15 5,⟨some (16,false),.ix 1 (.tmp 14) (.tmp 15),none,true,false⟩,⟨some (17,false),.load none (.tmp 16),none,true,false⟩,.M 18 1,.M 19 5,⟨some (20,false),.ix 1 (.tmp 18) (.tmp 19),none,true,false⟩,⟨some (21,false),.load none (.tmp 20),none,true,false⟩,.K 22 (.bin .neq (.tmp 17) (.tmp 21))]) (.cond (.tmp 22) (some 22) (.seq (.reg [] [] [.M 23 0,.M 24 5,⟨some (25,false),.ix 1 (.tmp 23) (.tmp 24),none,true,false⟩,⟨some (26,false),.load none (.tmp 25),none,true,false⟩,.M 27 1,.M 28 5,⟨some (29,false),.ix 1 (.tmp 27) (.tmp 28),none,true,false⟩,⟨some (30,false),.load none (.tmp 29),none,true,false⟩,.T 31 (.bin .sub (.tmp 26) (.tmp 30)),.N 4 31]) (.ret)) (.skip))))) (.reg [] [] [.T 32 (.bin .add (.tmp 11) (cI 1)),.N 11 32])))
def c38 : ACode := .seq (.reg [] [] [.K 4 (.mv (cI 0))]) (.seq (.seq (.reg [] [] [.M 6 0, .T 7 (.len (.tmp 6)), .M 8 1, .T 9 (.len (.tmp 8)), .K 10 (.raw ({ dst := some 10, op := Go.Op.call { callee := Go.Callee.builtin Go.Builtin.min, args := #[.tmp 7, .tmp 9], argTypes := #[3, 3] }, type := 3, pos := "poly.go:13", after := #[{ on := 1, ground := Go.Ground.data }, { on := 3, ground := Go.Ground.data }], guard := none })), .K 11 (.mv (cI 0))]) (.block 0 4198432 (.loop qhx9))) (.seq (.reg [] [] [.M 33 0, .T 34 (.len (.tmp 33)), .M 35 1, .T 36 (.len (.tmp 35)), .T 37 (.bin .sub (.tmp 34) (.tmp 36)), .N 4 37]) (.ret)))
theorem is38 : IsF C 38 38 4201523 c38 [.tmp 4]:=⟨⟨Try.f38,_,C_P ▸ Try.func38,rfl,rfl,rfl,by kernel_rfl,rfl⟩⟩
def qbp9 (s0 : List Int) (s1 : List Int) (s10 : Int) : Int→Unit→St:=fun s11 _=>⟨[(0,.d (.rd (s0.map intD))),(1,.d (.rd (s1.map intD))),(4,PI 0),(10,PI s10),(11,PI s11)],[]⟩
def qgW9 (s0 : List Int) (s1 : List Int) (s10 : Int) : (Int ⊕ Int)→AExit × St→Prop
 | .inl r,q=>XV C [.tmp 4] (PI r) q
 | .inr s11,q=>∃ g,q = (.exit 0,qbp9 s0 s1 s10 s11 g)
theorem qgV9 {s0 : List Int} {s1 : List Int} {s10 : Int} : Sim C 4201523 qhx9 (qbl9 s0 s1 s10) (qbp9 s0 s1 s10) (qgW9 s0 s1 s10):=by
 intro s g r hr
 have ⟨s11,hs0⟩ : ∃ y,y = s:=⟨_,rfl⟩
 subst hs0
 simp only [qbl9] at hr
 rcases iteP hr with ⟨h1,hr⟩ | ⟨h1,hr⟩
 obtain ⟨x1,h2,x2,h3,hr⟩:=bs2 hr
 rcases iteP hr with ⟨h4,hr⟩ | ⟨h4,hr⟩
 obtain rfl:=oiA hr
 refine ⟨(),?_⟩
 rotate_left
 obtain rfl:=oiA hr
 refine xv_of ?_
 rotate_left
 obtain rfl:=oiA hr
 refine xe_of ⟨(),rfl⟩ ?_
 rotate_left
 all_goals (simp +decide only [go_sem,decide_not,qbp9,qhx9, *])
theorem qfV9 {a0 : List Int} {a1 : List Int} {r : Int} (hr : poly_order a0 a1 = some r) : Res C 38 [.rd (a0.map intD),.rd (a1.map intD)] (PI r):=by
 simp only [poly_order] at hr
 obtain ⟨x3,h1,hr⟩:=bsome hr
 obtain ⟨q1,h1L,h1X⟩:=qgV9.L (g:=()) h1
 rcases x3 with x4 | x5
 try dsimp only at hr
 obtain ⟨st1,rfl,h1R⟩:=h1X
 simp only [qbp9,go_sem] at h1L
 obtain rfl:=oiA hr
 refine run_V is38 (nbA rfl) ?_
 rotate_left
 try dsimp only at hr
 obtain ⟨⟨⟩,rfl⟩:=h1X
 simp only [qbp9,go_sem] at h1L
 obtain rfl:=oiA hr
 refine run_V is38 (nbA rfl) ?_
 rotate_left
 all_goals (simp +decide only [go_sem,decide_not,c38, *])
def c70 : ACode:=.seq (.reg [] [] [.K 2 (.mv (.const (.bool false)))]) (.seq (.reg [] [] [.M 3 0,.T 4 (.bin .gtr (.tmp 3) (cI 64)),.N 2 4]) (.ret))
theorem is70 : IsF C 70 5 5 c70 [.tmp 2]:=⟨⟨Try.f70,_,C_P ▸ Try.func70,rfl,rfl,rfl,by kernel_rfl,rfl⟩⟩
theorem qiV9 {a0 : Int} {r : Bool} (hr : qee9 a0 = some r) : Res C 70 [.v (.int .i64 a0)] (PB r):=by
 simp only [qee9] at hr
 obtain rfl:=oiA hr
 refine run_V is70 (nbA rfl) ?_
 rotate_left
 all_goals (simp +decide only [go_sem,decide_not,c70, *])
def qv9 (s0 : List Int) (s7 : Int) : Int→Unit→St:=fun s8 _=>⟨[(0,.d (.rd (s0.map intD))),(1,.d (.fn 70 [])),(4,PI 0),(7,PI s7),(8,PI s8)],[]⟩
def qcQ9 (s0 : List Int) (s7 : Int) : (Int ⊕ Int)→AExit × St→Prop
 | .inl r,q=>XV C [.tmp 4] (PI r) q
 | .inr s8,q=>∃ g,q = (.exit 0,qv9 s0 s7 s8 g)
theorem qcR9 {s0 : List Int} {s7 : Int} : Sim C 66483 qji9 (qu9 s0 s7) (qv9 s0 s7) (qcQ9 s0 s7):=by
 intro s g r hr
 have ⟨s8,hs0⟩ : ∃ y,y = s:=⟨_,rfl⟩
 subst hs0
 simp only [qu9] at hr
 rcases iteP hr with ⟨h1,hr⟩ | ⟨h1,hr⟩
 obtain ⟨x1,h2,x2,h3,hr⟩:=bs2 hr
 have h3k:=(qiV9 h3).k rfl rfl rfl
 try simp only [go_sem] at h3k
 rcases iteB hr with ⟨h4,hr⟩ | ⟨h4,hr⟩
 obtain rfl:=oiA hr
 refine xv_of ?_
 rotate_left
 obtain rfl:=oiA hr
 refine ⟨(),?_⟩
 rotate_left
 obtain rfl:=oiA hr
 refine xe_of ⟨(),rfl⟩ ?_
 rotate_left
 all_goals (simp +decide only [go_sem,decide_not,qv9,qji9, *])
theorem qcW9 {a0 : List Int} {r : Int} (hr : qJ9 a0 = some r) : Res C 85 [.rd (a0.map intD),.fn 70 []] (PI r):=by
 simp only [qJ9] at hr
 obtain ⟨x3,h1,hr⟩:=bsome hr
 obtain ⟨q1,h1L,h1X⟩:=qcR9.L (g:=()) h1
 rcases x3 with x4 | x5
 try dsimp only at hr
 obtain ⟨st1,rfl,h1R⟩:=h1X
 simp only [qv9,go_sem] at h1L
 obtain rfl:=oiA hr
 refine run_V is85 (nbA rfl) ?_
 rotate_left
 try dsimp only at hr
 obtain ⟨⟨⟩,rfl⟩:=h1X
 simp only [qv9,go_sem] at h1L
 obtain rfl:=oiA hr
 refine run_V is85 (nbA rfl) ?_
 rotate_left
 all_goals (simp +decide only [go_sem,decide_not,c85, *])
theorem qcI9 {a0 : List Int} {r : Bool} (hr : qw9 a0 = some r) : Res C 68 [.rd (a0.map intD),.fn 70 []] (PB r):=by
 simp only [qw9] at hr
 obtain ⟨x1,h1,hr⟩:=bsome hr
 have h1k:=(qcW9 h1).k rfl rfl rfl
 try simp only [go_sem] at h1k
 obtain rfl:=oiA hr
 refine run_V is68 (nbA rfl) ?_
 rotate_left
 all_goals (simp +decide only [go_sem,decide_not,c68, *])
def c39 : ACode:=.seq (.reg [] [] [.K 1 (.box (.tmp 0)),.K 2 (.mv (.const (.bool false)))]) (.seq (.reg [] [] [.T 3 (.fa 0 (.tmp 1)),.T 4 (.load none (.tmp 3)),.T 5 (.len (.tmp 4)),.T 6 (.bin .leq (.tmp 5) (cI 64)),.M 7 6,.TG 8 7 true (.fa 1 (.tmp 1)),.TG 9 7 true (.load none (.tmp 8)),.TG 10 7 true (.len (.tmp 9)),.TG 11 7 true (.bin .leq (.tmp 10) (cI 512)),.T 12 (.pick (.tmp 7) (.tmp 11) (.const (.bool false))),.M 13 12,.TG 14 13 true (.fa 1 (.tmp 1)),.TG 15 13 true (.load none (.tmp 14)),.TG 16 13 true (.call 68 [.tmp 15,.func 70]),.TG 17 13 true (.not (.tmp 16)),.T 18 (.pick (.tmp 13) (.tmp 17) (.const (.bool false))),.N 2 18]) (.ret))
theorem is39 : IsF C 39 19 7 c39 [.tmp 2]:=⟨⟨Try.f39,_,C_P ▸ Try.func39,rfl,rfl,rfl,by kernel_rfl,rfl⟩⟩
theorem qgd9 {a0 : Mono} {r : Bool} (hr : qcd9 a0 = some r) : Res C 39 [.ag (qa9 a0)] (PB r):=by
 simp only [qcd9] at hr
 rcases iteP hr with ⟨h1,hr⟩ | ⟨h1,hr⟩
 rcases iteP hr with ⟨h2,hr⟩ | ⟨h2,hr⟩
 obtain ⟨x1,h3,hr⟩:=bsome hr
 have h3k:=fun h=>(qcI9 h3).o rfl rfl rfl (h:=h) (args:=[.d (.rd (a0.Exps.map intD)),.fn 70 []]) rfl
 try simp only [go_sem] at h3k
 obtain rfl:=oiA hr
 refine run_V is39 (nbA rfl) ?_
 rotate_left
 obtain rfl:=oiA hr
 refine run_V is39 (nbA rfl) ?_
 rotate_left
 obtain rfl:=oiA hr
 refine run_V is39 (nbA rfl) ?_
 rotate_left
 all_goals (simp +decide only [go_sem,decide_not,c39, *])
end Ld

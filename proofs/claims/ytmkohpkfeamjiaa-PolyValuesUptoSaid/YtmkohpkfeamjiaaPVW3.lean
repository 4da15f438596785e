import Derived.Test.YtmkohpkfeamjiaaPVC
set_option maxHeartbeats 60000000
set_option linter.unusedVariables false
set_option linter.unusedSimpArgs false
set_option linter.unusedSectionVars false
namespace Ld
open Go Go.Proofs Go.Abs
set_option maxRecDepth 8000
def qpm9 : ACode:=.seq (.reg [] [] [.K 28 (.bin .lss (.tmp 27) (.tmp 26))]) (.seq (.cond (.tmp 28) (some 28) (.skip) (.exit 2)) (.seq (.block 3 268435712 (.seq (.reg [] [] [.T 29 (.ix 1 (.tmp 25) (.tmp 27)),.T 30 (.load none (.tmp 29)),.N 8 30]) (.reg [] [] [.M 31 6,.M 32 8,.T 33 (.app 2 48 (.tmp 31) (.tmp 32)),.N 6 33]))) (.reg [] [] [.T 34 (.bin .add (.tmp 27) (cI 1)),.N 27 34])))
def qqn9 : ACode := .seq (.reg [] [] [.K 12 (.bin .lss (.tmp 11) (.tmp 10))]) (.seq (.cond (.tmp 12) (some 12) (.skip) (.exit 0)) (.seq (.block 1 1052704 (.seq (.reg [] [] [.T 13 (.ix 1 (.tmp 9) (.tmp 11)), .T 14 (.load none (.tmp 13)), .N 5 14]) (.seq (.reg [] [] [.M 15 3, .M 16 5, .T 17 (.len (.tmp 16)), .T 18 (.bin .add (.tmp 15) (.tmp 17)), .N 3 18]) (.seq (.reg [] [] [.M 19 3, .K 20 (.bin .lss (.tmp 19) (cI 0))]) (.cond (.tmp 20) (some 20) (.reg [] [] [.T 21 (.mkI 9 (.const (.string { data := #[108, 101, 110, 32, 111, 117, 116, 32, 111, 102, 32, 114, 97, 110, 103, 101] }))), ⟨none, .raw ({ dst := none, op := Go.Op.panic (.tmp 21), type := 0, pos := "slices.go:496", after := #[{ on := 0, ground := Go.Ground.data }], guard := none }), none, false, false⟩]) (.skip)))))) (.reg [] [] [.T 22 (.bin .add (.tmp 11) (cI 1)), .N 11 22])))
def c44 : ACode:=.seq (.reg [] [(2,0)] [.K 2 (.mv (.const (.slice none 0 0)))]) (.seq (.reg [] [] [.K 3 (.mv (cI 0))]) (.seq (.seq (.reg [] [] [.N 9 0,.K 10 (.len (.tmp 9)),.K 11 (.mv (cI 0))]) (.block 0 1052704 (.loop qqn9))) (.seq (.reg [] [] [.M 23 3,.T 24 (.call 72 [.const (.slice none 0 0),.tmp 23]),.N 6 24]) (.seq (.seq (.reg [] [] [.N 25 0,.K 26 (.len (.tmp 25)),.K 27 (.mv (cI 0))]) (.block 2 268435712 (.loop qpm9))) (.seq (.reg [] [(2,0)] [.M 35 6,.N 2 35]) (.ret))))))
theorem is44 : IsF C 44 36 504373101 c44 [.tmp 2]:=⟨⟨Try.f44,_,C_P ▸ Try.func44,rfl,rfl,rfl,by kernel_rfl,rfl⟩⟩
def qcr9 (s0 : List (List Mono)) (s2 : List Mono) (s3 : Int) (s9 : List (List Mono)) (s10 : Int) (s11 : Int) (s25 : List (List Mono)) (s26 : Int) : Int × (List Mono)→Nat→St:=fun (s27,o6) v6=>⟨[(0,.d (.rd (s0.map (lsD qa9)))),(2,.d (.rd (s2.map qa9))),(3,PI s3),(6,.ref 0 v6 0 o6.length),(9,.d (.rd (s9.map (lsD qa9)))),(10,PI s10),(11,PI s11),(25,.d (.rd (s25.map (lsD qa9)))),(26,PI s26),(27,PI s27)],(.row false v6 2 (rowP qa9 o6)::[])⟩
def qgC9 (s0 : List (List Mono)) (s2 : List Mono) (s3 : Int) (s9 : List (List Mono)) (s10 : Int) (s11 : Int) (s25 : List (List Mono)) (s26 : Int) : (Int × (List Mono))→AExit × St→Prop:=fun (s27,o6) q=>∃ g,q = (.exit 2,qcr9 s0 s2 s3 s9 s10 s11 s25 s26 (s27,o6) g)
theorem qgG9 {s0 : List (List Mono)} {s2 : List Mono} {s3 : Int} {s9 : List (List Mono)} {s10 : Int} {s11 : Int} {s25 : List (List Mono)} {s26 : Int} : Sim C 504373101 qpm9 (qbr9 s0 s2 s3 s9 s10 s11 s25 s26) (qcr9 s0 s2 s3 s9 s10 s11 s25 s26) (qgC9 s0 s2 s3 s9 s10 s11 s25 s26):=by
 intro s g r hr
 obtain ⟨s27,o6⟩:=s
 have ⟨v6,hg0⟩ : ∃ y,y = g:=⟨_,rfl⟩
 subst hg0
 simp only [qbr9] at hr
 rcases iteP hr with ⟨h1,hr⟩ | ⟨h1,hr⟩
 obtain ⟨x5,h2,hr⟩:=bsome hr
 obtain ⟨h3,hr⟩:=gsome hr
 obtain rfl:=oiA hr
 refine ⟨(v6 + 1),?_⟩
 rotate_left
 obtain rfl:=oiA hr
 refine xe_of ⟨v6,rfl⟩ ?_
 rotate_left
 all_goals (simp +decide only [go_sem,decide_not,qcr9,qpm9, *])
def qcn9 (s0 : List (List Mono)) (s2 : List Mono) (s9 : List (List Mono)) (s10 : Int) : Int × Int→Unit→St:=fun (s3,s11) _=>⟨[(0,.d (.rd (s0.map (lsD qa9)))),(2,.d (.rd (s2.map qa9))),(3,PI s3),(9,.d (.rd (s9.map (lsD qa9)))),(10,PI s10),(11,PI s11)],[]⟩
def qgT9 (s0 : List (List Mono)) (s2 : List Mono) (s9 : List (List Mono)) (s10 : Int) : (Int × Int)→AExit × St→Prop:=fun (s3,s11) q=>∃ g,q = (.exit 0,qcn9 s0 s2 s9 s10 (s3,s11) g)
theorem qgE9 {s0 : List (List Mono)} {s2 : List Mono} {s9 : List (List Mono)} {s10 : Int} : Sim C 504373101 qqn9 (qbs9 s0 s2 s9 s10) (qcn9 s0 s2 s9 s10) (qgT9 s0 s2 s9 s10):=by
 intro s g r hr
 obtain ⟨s3,s11⟩:=s
 simp only [qbs9] at hr
 rcases iteP hr with ⟨h1,hr⟩ | ⟨h1,hr⟩
 obtain ⟨x1,h2,hr⟩:=bsome hr
 rcases iteP hr with ⟨h3,hr⟩ | ⟨h3,hr⟩
 cases hr
 obtain rfl:=oiA hr
 refine ⟨(),?_⟩
 rotate_left
 obtain rfl:=oiA hr
 refine xe_of ⟨(),rfl⟩ ?_
 rotate_left
 all_goals (simp +decide only [go_sem,decide_not,qcn9,qqn9, *])
theorem qhc9 {a0 : List (List Mono)} {r : (List Mono)} (hr : qch9 a0 = some r) : Res C 44 [.rd (a0.map (lsD qa9))] (.d (.rd (r.map qa9))):=by
 simp only [qch9] at hr
 obtain ⟨x2,h1,hr⟩:=bsome hr
 obtain ⟨q1,h1L,h1X⟩:=qgE9.L (g:=()) h1
 obtain ⟨x3,x4⟩:=x2
 try dsimp only at hr
 obtain ⟨⟨⟩,rfl⟩:=h1X
 simp only [qcn9,go_sem] at h1L
 obtain ⟨h2,hr⟩:=gsome hr
 obtain ⟨x6,h3,hr⟩:=bsome hr
 obtain ⟨q3,h3L,h3X⟩:=qgG9.L (g:=1) h3
 obtain ⟨x7,x8⟩:=x6
 try dsimp only at hr
 obtain ⟨z9,rfl⟩:=h3X
 simp only [qcr9,go_sem] at h3L
 obtain rfl:=oiA hr
 refine run_V is44 (nbA rfl) ?_
 rotate_left
 all_goals (simp +decide only [go_sem,decide_not,c44, *])
def c83 : ACode:=.seq (.reg [] [] [.K 2 (.mv (.const (.bool false)))]) (.seq (.reg [] [] [.M 3 0,.M 4 0,.T 5 (.bin .neq (.tmp 3) (.tmp 4)),.N 2 5]) (.ret))
theorem is83 : IsF C 83 6 5 c83 [.tmp 2]:=⟨⟨Try.f83,_,C_P ▸ Try.func83,rfl,rfl,rfl,by kernel_rfl,rfl⟩⟩
theorem qjr9 {a0 : Int} {r : Bool} (hr : qgr9 a0 = some r) : Res C 83 [.v (.int .i64 a0)] (PB r):=by
 simp only [qgr9] at hr
 obtain rfl:=oiA hr
 refine run_V is83 (nbA rfl) ?_
 rotate_left
 all_goals (simp +decide only [go_sem,decide_not,c83, *])
def c66 : ACode:=.seq (.reg [] [] [.K 4 (.mv (cI 0))]) (.seq (.reg [] [] [.M 7 0,.T 8 (.call 83 [.tmp 7]),.N 5 8]) (.seq (.reg [] [] [.M 9 1,.T 10 (.call 83 [.tmp 9]),.N 6 10]) (.seq (.seq (.reg [] [] [.N 11 5]) (.cond (.tmp 11) (some 11) (.seq (.seq (.reg [] [] [.N 12 6]) (.cond (.tmp 12) (some 12) (.seq (.reg [] [] [.K 4 (.mv (cI 0))]) (.ret)) (.skip))) (.seq (.reg [] [] [.K 4 (.mv (cI (-1)))]) (.ret))) (.skip))) (.seq (.seq (.reg [] [] [.N 13 6]) (.cond (.tmp 13) (some 13) (.seq (.reg [] [] [.K 4 (.mv (cI 1))]) (.ret)) (.skip))) (.seq (.seq (.reg [] [] [.M 14 0,.M 15 1,.K 16 (.bin .lss (.tmp 14) (.tmp 15))]) (.cond (.tmp 16) (some 16) (.seq (.reg [] [] [.K 4 (.mv (cI (-1)))]) (.ret)) (.skip))) (.seq (.seq (.reg [] [] [.M 17 0,.M 18 1,.K 19 (.bin .gtr (.tmp 17) (.tmp 18))]) (.cond (.tmp 19) (some 19) (.seq (.reg [] [] [.K 4 (.mv (cI 1))]) (.ret)) (.skip))) (.seq (.reg [] [] [.K 4 (.mv (cI 0))]) (.ret))))))))
theorem is66 : IsF C 66 20 604275 c66 [.tmp 4]:=⟨⟨Try.f66,_,C_P ▸ Try.func66,rfl,rfl,rfl,by kernel_rfl,rfl⟩⟩
theorem qll9 {a0 : Int} {a1 : Int} {r : Int} (hr : qfO9 a0 a1 = some r) : Res C 66 [.v (.int .i64 a0),.v (.int .i64 a1)] (PI r):=by
 simp only [qfO9] at hr
 obtain ⟨x1,h1,x2,h2,hr⟩:=bs2 hr
 have h1k:=(qjr9 h1).k rfl rfl rfl
 try simp only [go_sem] at h1k
 have h2k:=(qjr9 h2).k rfl rfl rfl
 try simp only [go_sem] at h2k
 rcases iteB hr with ⟨h3,hr⟩ | ⟨h3,hr⟩
 rcases iteB hr with ⟨h4,hr⟩ | ⟨h4,hr⟩
 obtain rfl:=oiA hr
 refine run_V is66 (nbA rfl) ?_
 rotate_left
 obtain rfl:=oiA hr
 refine run_V is66 (nbA rfl) ?_
 rotate_left
 rcases iteB hr with ⟨h5,hr⟩ | ⟨h5,hr⟩
 obtain rfl:=oiA hr
 refine run_V is66 (nbA rfl) ?_
 rotate_left
 rcases iteP hr with ⟨h6,hr⟩ | ⟨h6,hr⟩
 obtain rfl:=oiA hr
 refine run_V is66 (nbA rfl) ?_
 rotate_left
 rcases iteP hr with ⟨h7,hr⟩ | ⟨h7,hr⟩
 obtain rfl:=oiA hr
 refine run_V is66 (nbA rfl) ?_
 rotate_left
 obtain rfl:=oiA hr
 refine run_V is66 (nbA rfl) ?_
 rotate_left
 all_goals (simp +decide only [go_sem,decide_not,c66, *])
def c84 : ACode:=.seq (.reg [] [] [.K 2 (.mv (.const (.bool false)))]) (.seq (.reg [] [] [.M 3 0,.M 4 0,.T 5 (.bin .neq (.tmp 3) (.tmp 4)),.N 2 5]) (.ret))
theorem is84 : IsF C 84 6 5 c84 [.tmp 2]:=⟨⟨Try.f84,_,C_P ▸ Try.func84,rfl,rfl,rfl,by kernel_rfl,rfl⟩⟩
theorem qiB9 {a0 : Int} {r : Bool} (hr : qfx9 a0 = some r) : Res C 84 [.v (.int .u32 a0)] (PB r):=by
 simp only [qfx9] at hr
 obtain rfl:=oiA hr
 refine run_V is84 (nbA rfl) ?_
 rotate_left
 all_goals (simp +decide only [go_sem,decide_not,c84, *])
def c67 : ACode:=.seq (.reg [] [] [.K 4 (.mv (cI 0))]) (.seq (.reg [] [] [.M 7 0,.T 8 (.call 84 [.tmp 7]),.N 5 8]) (.seq (.reg [] [] [.M 9 1,.T 10 (.call 84 [.tmp 9]),.N 6 10]) (.seq (.seq (.reg [] [] [.N 11 5]) (.cond (.tmp 11) (some 11) (.seq (.seq (.reg [] [] [.N 12 6]) (.cond (.tmp 12) (some 12) (.seq (.reg [] [] [.K 4 (.mv (cI 0))]) (.ret)) (.skip))) (.seq (.reg [] [] [.K 4 (.mv (cI (-1)))]) (.ret))) (.skip))) (.seq (.seq (.reg [] [] [.N 13 6]) (.cond (.tmp 13) (some 13) (.seq (.reg [] [] [.K 4 (.mv (cI 1))]) (.ret)) (.skip))) (.seq (.seq (.reg [] [] [.M 14 0,.M 15 1,.K 16 (.bin .lss (.tmp 14) (.tmp 15))]) (.cond (.tmp 16) (some 16) (.seq (.reg [] [] [.K 4 (.mv (cI (-1)))]) (.ret)) (.skip))) (.seq (.seq (.reg [] [] [.M 17 0,.M 18 1,.K 19 (.bin .gtr (.tmp 17) (.tmp 18))]) (.cond (.tmp 19) (some 19) (.seq (.reg [] [] [.K 4 (.mv (cI 1))]) (.ret)) (.skip))) (.seq (.reg [] [] [.K 4 (.mv (cI 0))]) (.ret))))))))
theorem is67 : IsF C 67 20 604275 c67 [.tmp 4]:=⟨⟨Try.f67,_,C_P ▸ Try.func67,rfl,rfl,rfl,by kernel_rfl,rfl⟩⟩
theorem qkm9 {a0 : Int} {a1 : Int} {r : Int} (hr : qeL9 a0 a1 = some r) : Res C 67 [.v (.int .u32 a0),.v (.int .u32 a1)] (PI r):=by
 simp only [qeL9] at hr
 obtain ⟨x1,h1,x2,h2,hr⟩:=bs2 hr
 have h1k:=(qiB9 h1).k rfl rfl rfl
 try simp only [go_sem] at h1k
 have h2k:=(qiB9 h2).k rfl rfl rfl
 try simp only [go_sem] at h2k
 rcases iteB hr with ⟨h3,hr⟩ | ⟨h3,hr⟩
 rcases iteB hr with ⟨h4,hr⟩ | ⟨h4,hr⟩
 obtain rfl:=oiA hr
 refine run_V is67 (nbA rfl) ?_
 rotate_left
 obtain rfl:=oiA hr
 refine run_V is67 (nbA rfl) ?_
 rotate_left
 rcases iteB hr with ⟨h5,hr⟩ | ⟨h5,hr⟩
 obtain rfl:=oiA hr
 refine run_V is67 (nbA rfl) ?_
 rotate_left
 rcases iteP hr with ⟨h6,hr⟩ | ⟨h6,hr⟩
 obtain rfl:=oiA hr
 refine run_V is67 (nbA rfl) ?_
 rotate_left
 rcases iteP hr with ⟨h7,hr⟩ | ⟨h7,hr⟩
 obtain rfl:=oiA hr
 refine run_V is67 (nbA rfl) ?_
 rotate_left
 obtain rfl:=oiA hr
 refine run_V is67 (nbA rfl) ?_
 rotate_left
 all_goals (simp +decide only [go_sem,decide_not,c67, *])
end Ld

import Derived.Test.YtmkohpkfeamjiaaPMC
import Derived.Test.YtmkohpkfeamjiaaPMW1
import Derived.Test.YtmkohpkfeamjiaaPMW2
set_option maxHeartbeats 60000000
set_option linter.unusedVariables false
set_option linter.unusedSimpArgs false
set_option linter.unusedSectionVars false
namespace Ld
open Go Go.Proofs Go.Abs
set_option maxRecDepth 8000
def qoo9 : ACode:=.seq (.reg [] [] [.K 28 (.bin .lss (.tmp 27) (.tmp 26))]) (.seq (.cond (.tmp 28) (some 28) (.skip) (.exit 2)) (.seq (.block 3 268435712 (.seq (.reg [] [] [.T 29 (.ix 1 (.tmp 25) (.tmp 27)),.T 30 (.load none (.tmp 29)),.N 8 30]) (.reg [] [] [.M 31 6,.M 32 8,.T 33 (.app 2 48 (.tmp 31) (.tmp 32)),.N 6 33]))) (.reg [] [] [.T 34 (.bin .add (.tmp 27) (cI 1)),.N 27 34])))
def qpv9 : ACode := .seq (.reg [] [] [.K 12 (.bin .lss (.tmp 11) (.tmp 10))]) (.seq (.cond (.tmp 12) (some 12) (.skip) (.exit 0)) (.seq (.block 1 1052704 (.seq (.reg [] [] [.T 13 (.ix 1 (.tmp 9) (.tmp 11)), .T 14 (.load none (.tmp 13)), .N 5 14]) (.seq (.reg [] [] [.M 15 3, .M 16 5, .T 17 (.len (.tmp 16)), .T 18 (.bin .add (.tmp 15) (.tmp 17)), .N 3 18]) (.seq (.reg [] [] [.M 19 3, .K 20 (.bin .lss (.tmp 19) (cI 0))]) (.cond (.tmp 20) (some 20) (.reg [] [] [.T 21 (.mkI 9 (.const (.string { data := #[108, 101, 110, 32, 111, 117, 116, 32, 111, 102, 32, 114, 97, 110, 103, 101] }))), ⟨none, .raw ({ dst := none, op := Go.Op.panic (.tmp 21), type := 0, pos := "slices.go:496", after := #[{ on := 0, ground := Go.Ground.data }], guard := none }), none, false, false⟩]) (.skip)))))) (.reg [] [] [.T 22 (.bin .add (.tmp 11) (cI 1)), .N 11 22])))
def c44 : ACode:=.seq (.reg [] [(2,0)] [.K 2 (.mv (.const (.slice none 0 0)))]) (.seq (.reg [] [] [.K 3 (.mv (cI 0))]) (.seq (.seq (.reg [] [] [.N 9 0,.K 10 (.len (.tmp 9)),.K 11 (.mv (cI 0))]) (.block 0 1052704 (.loop qpv9))) (.seq (.reg [] [] [.M 23 3,.T 24 (.call 72 [.const (.slice none 0 0),.tmp 23]),.N 6 24]) (.seq (.seq (.reg [] [] [.N 25 0,.K 26 (.len (.tmp 25)),.K 27 (.mv (cI 0))]) (.block 2 268435712 (.loop qoo9))) (.seq (.reg [] [(2,0)] [.M 35 6,.N 2 35]) (.ret))))))
theorem is44 : IsF C 44 36 504373101 c44 [.tmp 2]:=⟨⟨Try.f44,_,C_P ▸ Try.func44,rfl,rfl,rfl,by kernel_rfl,rfl⟩⟩
def qbg9 (s0 : List (List Mono)) (s2 : List Mono) (s3 : Int) (s9 : List (List Mono)) (s10 : Int) (s11 : Int) (s25 : List (List Mono)) (s26 : Int) : Int × (List Mono)→Nat→St:=fun (s27,o6) v6=>⟨[(0,.d (.rd (s0.map (lsD qa9)))),(2,.d (.rd (s2.map qa9))),(3,PI s3),(6,.ref 0 v6 0 o6.length),(9,.d (.rd (s9.map (lsD qa9)))),(10,PI s10),(11,PI s11),(25,.d (.rd (s25.map (lsD qa9)))),(26,PI s26),(27,PI s27)],(.row false v6 2 (rowP qa9 o6)::[])⟩
def qex9 (s0 : List (List Mono)) (s2 : List Mono) (s3 : Int) (s9 : List (List Mono)) (s10 : Int) (s11 : Int) (s25 : List (List Mono)) (s26 : Int) : (Int × (List Mono))→AExit × St→Prop:=fun (s27,o6) q=>∃ g,q = (.exit 2,qbg9 s0 s2 s3 s9 s10 s11 s25 s26 (s27,o6) g)
theorem qeC9 {s0 : List (List Mono)} {s2 : List Mono} {s3 : Int} {s9 : List (List Mono)} {s10 : Int} {s11 : Int} {s25 : List (List Mono)} {s26 : Int} : Sim C 504373101 qoo9 (qx9 s0 s2 s3 s9 s10 s11 s25 s26) (qbg9 s0 s2 s3 s9 s10 s11 s25 s26) (qex9 s0 s2 s3 s9 s10 s11 s25 s26):=by
 intro s g r hr
 obtain ⟨s27,o6⟩:=s
 have ⟨v6,hg0⟩ : ∃ y,y = g:=⟨_,rfl⟩
 subst hg0
 simp only [qx9] at hr
 rcases iteP hr with ⟨h1,hr⟩ | ⟨h1,hr⟩
 obtain ⟨x5,h2,hr⟩:=bsome hr
 obtain ⟨h3,hr⟩:=gsome hr
 obtain rfl:=oiA hr
 refine ⟨(v6 + 1),?_⟩
 rotate_left
 obtain rfl:=oiA hr
 refine xe_of ⟨v6,rfl⟩ ?_
 rotate_left
 all_goals (simp +decide only [go_sem,decide_not,qbg9,qoo9, *])
def qbf9 (s0 : List (List Mono)) (s2 : List Mono) (s9 : List (List Mono)) (s10 : Int) : Int × Int→Unit→St:=fun (s3,s11) _=>⟨[(0,.d (.rd (s0.map (lsD qa9)))),(2,.d (.rd (s2.map qa9))),(3,PI s3),(9,.d (.rd (s9.map (lsD qa9)))),(10,PI s10),(11,PI s11)],[]⟩
def qeR9 (s0 : List (List Mono)) (s2 : List Mono) (s9 : List (List Mono)) (s10 : Int) : (Int × Int)→AExit × St→Prop:=fun (s3,s11) q=>∃ g,q = (.exit 0,qbf9 s0 s2 s9 s10 (s3,s11) g)
theorem qeA9 {s0 : List (List Mono)} {s2 : List Mono} {s9 : List (List Mono)} {s10 : Int} : Sim C 504373101 qpv9 (qy9 s0 s2 s9 s10) (qbf9 s0 s2 s9 s10) (qeR9 s0 s2 s9 s10):=by
 intro s g r hr
 obtain ⟨s3,s11⟩:=s
 simp only [qy9] at hr
 rcases iteP hr with ⟨h1,hr⟩ | ⟨h1,hr⟩
 obtain ⟨x1,h2,hr⟩:=bsome hr
 rcases iteP hr with ⟨h3,hr⟩ | ⟨h3,hr⟩
 cases hr
 obtain rfl:=oiA hr
 refine ⟨(),?_⟩
 rotate_left
 obtain rfl:=oiA hr
 refine xe_of ⟨(),rfl⟩ ?_
 rotate_left
 all_goals (simp +decide only [go_sem,decide_not,qbf9,qpv9, *])
theorem qcF9 {a0 : List (List Mono)} {r : (List Mono)} (hr : qV9 a0 = some r) : Res C 44 [.rd (a0.map (lsD qa9))] (.d (.rd (r.map qa9))):=by
 simp only [qV9] at hr
 obtain ⟨x2,h1,hr⟩:=bsome hr
 obtain ⟨q1,h1L,h1X⟩:=qeA9.L (g:=()) h1
 obtain ⟨x3,x4⟩:=x2
 try dsimp only at hr
 obtain ⟨⟨⟩,rfl⟩:=h1X
 simp only [qbf9,go_sem] at h1L
 obtain ⟨h2,hr⟩:=gsome hr
 obtain ⟨x6,h3,hr⟩:=bsome hr
 obtain ⟨q3,h3L,h3X⟩:=qeC9.L (g:=1) h3
 obtain ⟨x7,x8⟩:=x6
 try dsimp only at hr
 obtain ⟨z9,rfl⟩:=h3X
 simp only [qbg9,go_sem] at h3L
 obtain rfl:=oiA hr
 refine run_V is44 (nbA rfl) ?_
 rotate_left
 all_goals (simp +decide only [go_sem,decide_not,c44, *])
def c83 : ACode:=.seq (.reg [] [] [.K 2 (.mv (.const (.bool false)))]) (.seq (.reg [] [] [.M 3 0,.M 4 0,.T 5 (.bin .neq (.tmp 3) (.tmp 4)),.N 2 5]) (.ret))
theorem is83 : IsF C 83 6 5 c83 [.tmp 2]:=⟨⟨Try.f83,_,C_P ▸ Try.func83,rfl,rfl,rfl,by kernel_rfl,rfl⟩⟩
theorem qhI9 {a0 : Int} {r : Bool} (hr : qek9 a0 = some r) : Res C 83 [.v (.int .i64 a0)] (PB r):=by
 simp only [qek9] at hr
 obtain rfl:=oiA hr
 refine run_V is83 (nbA rfl) ?_
 rotate_left
 all_goals (simp +decide only [go_sem,decide_not,c83, *])
def c66 : ACode:=.seq (.reg [] [] [.K 4 (.mv (cI 0))]) (.seq (.reg [] [] [.M 7 0,.T 8 (.call 83 [.tmp 7]),.N 5 8]) (.seq (.reg [] [] [.M 9 1,.T 10 (.call 83 [.tmp 9]),.N 6 10]) (.seq (.seq (.reg [] [] [.N 11 5]) (.cond (.tmp 11) (some 11) (.seq (.seq (.reg [] [] [.N 12 6]) (.cond (.tmp 12) (some 12) (.seq (.reg [] [] [.K 4 (.mv (cI 0))]) (.ret)) (.skip))) (.seq (.reg [] [] [.K 4 (.mv (cI (-1)))]) (.ret))) (.skip))) (.seq (.seq (.reg [] [] [.N 13 6]) (.cond (.tmp 13) (some 13) (.seq (.reg [] [] [.K 4 (.mv (cI 1))]) (.ret)) (.skip))) (.seq (.seq (.reg [] [] [.M 14 0,.M 15 1,.K 16 (.bin .lss (.tmp 14) (.tmp 15))]) (.cond (.tmp 16) (some 16) (.seq (.reg [] [] [.K 4 (.mv (cI (-1)))]) (.ret)) (.skip))) (.seq (.seq (.reg [] [] [.M 17 0,.M 18 1,.K 19 (.bin .gtr (.tmp 17) (.tmp 18))]) (.cond (.tmp 19) (some 19) (.seq (.reg [] [] [.K 4 (.mv (cI 1))]) (.ret)) (.skip))) (.seq (.reg [] [] [.K 4 (.mv (cI 0))]) (.ret))))))))
theorem is66 : IsF C 66 20 604275 c66 [.tmp 4]:=⟨⟨Try.f66,_,C_P ▸ Try.func66,rfl,rfl,rfl,by kernel_rfl,rfl⟩⟩
theorem qjX9 {a0 : Int} {a1 : Int} {r : Int} (hr : qdz9 a0 a1 = some r) : Res C 66 [.v (.int .i64 a0),.v (.int .i64 a1)] (PI r):=by
 simp only [qdz9] at hr
 obtain ⟨x1,h1,x2,h2,hr⟩:=bs2 hr
 have h1k:=(qhI9 h1).k rfl rfl rfl
 try simp only [go_sem] at h1k
 have h2k:=(qhI9 h2).k rfl rfl rfl
 try simp only [go_sem] at h2k
 rcases iteB hr with ⟨h3,hr⟩ | ⟨h3,hr⟩
 rcases iteB hr with ⟨h4,hr⟩ | ⟨h4,hr⟩
 obtain rfl:=oiA hr
 refine run_V is66 (nbA rfl) ?_
 rotate_left
 obtain rfl:=oiA hr
 refine run_V is66 (nbA rfl) ?_
 rotate_left
 rcases iteB hr with ⟨h5,hr⟩ | ⟨h5,hr⟩
 obtain rfl:=oiA hr
 refine run_V is66 (nbA rfl) ?_
 rotate_left
 rcases iteP hr with ⟨h6,hr⟩ | ⟨h6,hr⟩
 obtain rfl:=oiA hr
 refine run_V is66 (nbA rfl) ?_
 rotate_left
 rcases iteP hr with ⟨h7,hr⟩ | ⟨h7,hr⟩
 obtain rfl:=oiA hr
 refine run_V is66 (nbA rfl) ?_
 rotate_left
 obtain rfl:=oiA hr
 refine run_V is66 (nbA rfl) ?_
 rotate_left
 all_goals (simp +decide only [go_sem,decide_not,c66, *])
def c84 : ACode:=.seq (.reg [] [] [.K 2 (.mv (.const (.bool false)))]) (.seq (.reg [] [] [.M 3 0,.M 4 0,.T 5 (.bin .neq (.tmp 3) (.tmp 4)),.N 2 5]) (.ret))
theorem is84 : IsF C 84 6 5 c84 [.tmp 2]:=⟨⟨Try.f84,_,C_P ▸ Try.func84,rfl,rfl,rfl,by kernel_rfl,rfl⟩⟩
theorem qgN9 {a0 : Int} {r : Bool} (hr : qdd9 a0 = some r) : Res C 84 [.v (.int .u32 a0)] (PB r):=by
 simp only [qdd9] at hr
 obtain rfl:=oiA hr
 refine run_V is84 (nbA rfl) ?_
 rotate_left
 all_goals (simp +decide only [go_sem,decide_not,c84, *])
def c67 : ACode:=.seq (.reg [] [] [.K 4 (.mv (cI 0))]) (.seq (.reg [] [] [.M 7 0,.T 8 (.call 84 [.tmp 7]),.N 5 8]) (.seq (.reg [] [] [.M 9 1,.T 10 (.call 84 [.tmp 9]),.N 6 10]) (.seq (.seq (.reg [] [] [.N 11 5]) (.cond (.tmp 11) (some 11) (.seq (.seq (.reg [] [] [.N 12 6]) (.cond (.tmp 12) (some 12) (.seq (.reg [] [] [.K 4 (.mv (cI 0))]) (.ret)) (.skip))) (.seq (.reg [] [] [.K 4 (.mv (cI (-1)))]) (.ret))) (.skip))) (.seq (.seq (.reg [] [] [.N 13 6]) (.cond (.tmp 13) (some 13) (.seq (.reg [] [] [.K 4 (.mv (cI 1))]) (.ret)) (.skip))) (.seq (.seq (.reg [] [] [.M 14 0,.M 15 1,.K 16 (.bin .lss (.tmp 14) (.tmp 15))]) (.cond (.tmp 16) (some 16) (.seq (.reg [] [] [.K 4 (.mv (cI (-1)))]) (.ret)) (.skip))) (.seq (.seq (.reg [] [] [.M 17 0,.M 18 1,.K 19 (.bin .gtr (.tmp 17) (.tmp 18))]) (.cond (.tmp 19) (some 19) (.seq (.reg [] [] [.K 4 (.mv (cI 1))]) (.ret)) (.skip))) (.seq (.reg [] [] [.K 4 (.mv (cI 0))]) (.ret))))))))
theorem is67 : IsF C 67 20 604275 c67 [.tmp 4]:=⟨⟨Try.f67,_,C_P ▸ Try.func67,rfl,rfl,rfl,by kernel_rfl,rfl⟩⟩
theorem qiC9 {a0 : Int} {a1 : Int} {r : Int} (hr : qcC9 a0 a1 = some r) : Res C 67 [.v (.int .u32 a0),.v (.int .u32 a1)] (PI r):=by
 simp only [qcC9] at hr
 obtain ⟨x1,h1,x2,h2,hr⟩:=bs2 hr
 have h1k:=(qgN9 h1).k rfl rfl rfl
 try simp only [go_sem] at h1k
 have h2k:=(qgN9 h2).k rfl rfl rfl
 try simp only [go_sem] at h2k
 rcases iteB hr with ⟨h3,hr⟩ | ⟨h3,hr⟩
 rcases iteB hr with ⟨h4,hr⟩ | ⟨h4,hr⟩
 obtain rfl:=oiA hr
 refine run_V is67 (nbA rfl) ?_
 rotate_left
 obtain rfl:=oiA hr
 refine run_V is67 (nbA rfl) ?_
 rotate_left
 rcases iteB hr with ⟨h5,hr⟩ | ⟨h5,hr⟩
 obtain rfl:=oiA hr
 refine run_V is67 (nbA rfl) ?_
 rotate_left
 rcases iteP hr with ⟨h6,hr⟩ | ⟨h6,hr⟩
 obtain rfl:=oiA hr
 refine run_V is67 (nbA rfl) ?_
 rotate_left
 rcases iteP hr with ⟨h7,hr⟩ | ⟨h7,hr⟩
 obtain rfl:=oiA hr
 refine run_V is67 (nbA rfl) ?_
 rotate_left
 obtain rfl:=oiA hr
 refine run_V is67 (nbA rfl) ?_
 rotate_left
 all_goals (simp +decide only [go_sem,decide_not,c67, *])
end Ld
namespace Ld
open Go Go.Proofs Go.Abs
set_option maxRecDepth 8000
def qov9 : ACode:=.seq (.reg [] [] [.K 32 (.bin .lss (.tmp 31) (.tmp 30))]) (.seq (.cond (.tmp 32) (some 32) (.skip) (.exit 0)) (.seq (.block 1 8800387990272 (.seq (.reg [] [] [.M 33 31,.T 34 (.ix 1 (.tmp 29) (.tmp 31)),.T 35 (.load none (.tmp 34)),.N 8 33,.N 9 35]) (.seq (.reg [] [] [.M 36 7,.M 37 9,.T 38 (.wrap .u64 (.tmp 37)),.T 39 (.bin .add (.tmp 36) (.tmp 38)),.N 7 39]) (.seq (.seq (.reg [] [] [.M 40 8,.M 41 1,.T 42 (.len (.tmp 41)),.K 43 (.bin .lss (.tmp 40) (.tmp 42))]) (.cond (.tmp 43) (some 43) (.reg [] [] [.M 44 7,.M 45 1,.M 46 8,.T 47 (.ix 1 (.tmp 45) (.tmp 46)),.T 48 (.load none (.tmp 47)),.T 49 (.wrap .u64 (.tmp 48)),.T 50 (.bin .add (.tmp 44) (.tmp 49)),.N 7 50]) (.skip))) (.seq (.reg [] [] [.M 51 6,.M 52 8,.M 53 7,.T 54 (.wrap .u32 (.tmp 53)),.T 55 (.ix 1 (.tmp 51) (.tmp 52)),⟨none,.store 1 (.tmp 55) (.tmp 54),none,false,false⟩]) (.reg [] [] [.M 56 7,.T 57 (.sh .shr (.tmp 56) (.const (.int .u64 32))),.N 7 57])))))) (.reg [] [] [.T 58 (.bin .add (.tmp 31) (cI 1)),.N 31 58])))
def c32 : ACode:=.seq (.reg [] [(4,0)] [.K 4 (.mv (.const (.slice none 0 0))),.K 5 (.mv (cI 0))]) (.seq (.seq (.reg [] [] [.M 10 0,.T 11 (.call 59 [.tmp 10]),.T 12 (.not (.tmp 11)),.M 13 12,.MG 14 13 false 1,.TG 15 13 false (.call 59 [.tmp 14]),.TG 16 13 false (.not (.tmp 15)),.K 17 (.pick (.tmp 13) (.const (.bool true)) (.tmp 16))]) (.cond (.tmp 17) (some 17) (.seq (.reg [] [(4,0)] [.K 4 (.mv (.const (.slice none 0 0))),.K 5 (.mv (cI 10))]) (.ret)) (.skip))) (.seq (.seq (.reg [] [] [.M 18 0,.T 19 (.len (.tmp 18)),.M 20 1,.T 21 (.len (.tmp 20)),.K 22 (.bin .lss (.tmp 19) (.tmp 21))]) (.cond (.tmp 22) (some 22) (.reg [] [] [.M 23 1,.M 24 0,.N 0 23,.N 1 24]) (.skip))) (.seq (.reg [] [] [.M 25 0,.T 26 (.len (.tmp 25)),.T 27 (.bin .add (.tmp 26) (cI 1)),.T 28 (.mkSl [.d (.v (.int .u32 0))] 1 4 (.tmp 27) (.tmp 27)),.N 6 28]) (.seq (.reg [] [] [.K 7 (.mv (.const (.int .u64 0)))]) (.seq (.seq (.reg [] [] [.N 29 0,.K 30 (.len (.tmp 29)),.K 31 (.mv (cI 0))]) (.block 0 8800387990272 (.loop qov9))) (.seq (.reg [] [] [.M 59 6,.M 60 0,.T 61 (.len (.tmp 60)),.M 62 7,.T 63 (.wrap .u32 (.tmp 62)),.T 64 (.ix 1 (.tmp 59) (.tmp 61)),⟨none,.store 1 (.tmp 64) (.tmp 63),none,false,false⟩]) (.seq (.reg [] [] [.M 65 6,.T 66 (.call 65 [.tmp 65]),.T 67 (.ext (.tmp 66) 0),.T 68 (.ext (.tmp 66) 1),.N 4 67,.N 5 68]) (.ret))))))))
theorem is32 : IsF C 32 69 8804150412275 c32 [.tmp 4,.tmp 5]:=⟨⟨Try.f32,_,C_P ▸ Try.func32,rfl,rfl,rfl,by kernel_rfl,rfl⟩⟩
def qgb9 (s0 : List Int) (s1 : List Int) (s4 : List Int) (s29 : List Int) (s30 : Int) (v6 : Nat) (n6 : Nat) : Int × Int × (List Int)→Unit→St:=fun (s7,s31,o6) _=>⟨[(0,.d (.rd (s0.map qb9))),(1,.d (.rd (s1.map qb9))),(4,.d (.rd (s4.map qb9))),(5,PI 0),(6,.ref 0 v6 0 n6),(7,.d (.v (.int .u64 s7))),(29,.d (.rd (s29.map qb9))),(30,PI s30),(31,PI s31)],(.row false v6 1 (rowP qb9 o6)::[])⟩
def qlI9 (s0 : List Int) (s1 : List Int) (s4 : List Int) (s29 : List Int) (s30 : Int) (v6 : Nat) (n6 : Nat) : Int × Int × (List Int)→Prop:=fun (s7,s31,o6)=>o6.length = n6
def qsV9 (s0 : List Int) (s1 : List Int) (s4 : List Int) (s29 : List Int) (s30 : Int) (v6 : Nat) (n6 : Nat) : (Int × Int × (List Int))→AExit × St→Prop:=fun (s7,s31,o6) q=>∃ g,q = (.exit 0,qgb9 s0 s1 s4 s29 s30 v6 n6 (s7,s31,o6) g)∧o6.length = n6
theorem qlF9 {s0 : List Int} {s1 : List Int} {s4 : List Int} {s29 : List Int} {s30 : Int} {v6 : Nat} {n6 : Nat} : SimI C 8804150412275 qov9 (qlI9 s0 s1 s4 s29 s30 v6 n6) (qbN9 s0 s1 s4 s29 s30) (qgb9 s0 s1 s4 s29 s30 v6 n6) (qsV9 s0 s1 s4 s29 s30 v6 n6):=by
 intro s g r hI hr
 obtain ⟨s7,s31,o6⟩:=s
 simp only [qlI9] at hI
 have hI0:=hI
 simp only [qbN9] at hr
 rcases iteP hr with ⟨h1,hr⟩ | ⟨h1,hr⟩
 obtain ⟨x15,h2,hr⟩:=bsome hr
 rcases iteP hr with ⟨h3,hr⟩ | ⟨h3,hr⟩
 obtain ⟨x16,h4,x17,h5,x18,h6,hr⟩:=bs3 hr
 have h5a:=eq_true (ql9 h5).1
 have h5b : (s31 < (n6 : Int)) = True:=eq_true (by have hb : s31 < (o6.length : Int):=(ql9 h5).2.1; omega)
 have h5c:=(ql9 h5).2.2
 obtain rfl:=oiA hr
 refine ⟨⟨(),?_⟩,(show (o6.set (s31).toNat (IntKind.u32.wrap (IntKind.u64.wrap ((IntKind.u64.wrap (s7 + (IntKind.u64.wrap x15))) + (IntKind.u64.wrap x16))))).length = n6 by first | assumption | (simp only [llA,lrA]; first | done | assumption | omega) | omega)⟩
 rotate_left
 obtain ⟨x19,h7,x20,h8,hr⟩:=bs2 hr
 have h7a:=eq_true (ql9 h7).1
 have h7b : (s31 < (n6 : Int)) = True:=eq_true (by have hb : s31 < (o6.length : Int):=(ql9 h7).2.1; omega)
 have h7c:=(ql9 h7).2.2
 obtain rfl:=oiA hr
 refine ⟨⟨(),?_⟩,(show (o6.set (s31).toNat (IntKind.u32.wrap (IntKind.u64.wrap (s7 + (IntKind.u64.wrap x15))))).length = n6 by first | assumption | (simp only [llA,lrA]; first | done | assumption | omega) | omega)⟩
 rotate_left
 obtain rfl:=oiA hr
 refine xe_of ⟨(),rfl,(show o6.length = n6 by first | assumption | (simp only [llA,lrA]; first | done | assumption | omega) | omega)⟩ ?_
 rotate_left
 all_goals (simp +decide only [go_sem,decide_not,qgb9,qov9, *])
theorem qmS9 {a0 : List Int} {a1 : List Int} {r : (List Int) × Int} (hr : qhm9 a0 a1 = some r) : Res C 32 [.rd (a0.map qb9),.rd (a1.map qb9)] (.tp [.d (.rd (r.1.map qb9)),PI r.2]):=by
 simp only [qhm9] at hr
 obtain ⟨x1,h1,hr⟩:=bsome hr
 have h1k:=(qcO9 h1).k rfl rfl rfl
 try simp only [go_sem] at h1k
 rcases iteB hr with ⟨h2,hr⟩ | ⟨h2,hr⟩
 obtain ⟨x2,h3,hr⟩:=bsome hr
 have h3k:=(qcO9 h3).k rfl rfl rfl
 try simp only [go_sem] at h3k
 rcases iteB hr with ⟨h4,hr⟩ | ⟨h4,hr⟩
 rcases iteP hr with ⟨h5,hr⟩ | ⟨h5,hr⟩
 obtain ⟨h6,hr⟩:=gsome hr
 obtain ⟨h7,hr⟩:=gsome hr
 obtain ⟨x9,h8,hr⟩:=bsome hr
 obtain ⟨q8,h8L,h8X⟩:=(qlF9 (v6:=0) (n6:=(List.replicate (w64 ((a1.length : Int) + 1)).toNat (0 : Int)).length)).L (g:=()) h8 rfl
 obtain ⟨x10,x11,x12⟩:=x9
 try dsimp only at hr
 obtain ⟨⟨⟩,rfl,h8l0⟩:=h8X
 simp only [qgb9,go_sem] at h8L
 obtain ⟨x13,h9,x14,h10,hr⟩:=bs2 hr
 have h9a:=eq_true (ql9 h9).1
 have h9b : ((a1.length : Int) < (((List.replicate (w64 ((a1.length : Int) + 1)).toNat (0 : Int)).length) : Int)) = True:=eq_true (by have hb : (a1.length : Int) < (x12.length : Int):=(ql9 h9).2.1; omega)
 try simp only [List.length_replicate] at h9b
 have h9c:=(ql9 h9).2.2
 have h10k:=fun h args=>(qjo9 h10).o rfl rfl rfl (h:=h) (args:=args)
 try simp only [go_sem] at h10k
 obtain rfl:=oiA hr
 refine run_V is32 (nbA rfl) ?_
 rotate_left
 obtain ⟨h11,hr⟩:=gsome hr
 obtain ⟨h12,hr⟩:=gsome hr
 obtain ⟨x21,h13,hr⟩:=bsome hr
 obtain ⟨q13,h13L,h13X⟩:=(qlF9 (v6:=0) (n6:=(List.replicate (w64 ((a0.length : Int) + 1)).toNat (0 : Int)).length)).L (g:=()) h13 rfl
 obtain ⟨x22,x23,x24⟩:=x21
 try dsimp only at hr
 obtain ⟨⟨⟩,rfl,h13l0⟩:=h13X
 simp only [qgb9,go_sem] at h13L
 obtain ⟨x25,h14,x26,h15,hr⟩:=bs2 hr
 have h14a:=eq_true (ql9 h14).1
 have h14b : ((a0.length : Int) < (((List.replicate (w64 ((a0.length : Int) + 1)).toNat (0 : Int)).length) : Int)) = True:=eq_true (by have hb : (a0.length : Int) < (x24.length : Int):=(ql9 h14).2.1; omega)
 try simp only [List.length_replicate] at h14b
 have h14c:=(ql9 h14).2.2
 have h15k:=fun h args=>(qjo9 h15).o rfl rfl rfl (h:=h) (args:=args)
 try simp only [go_sem] at h15k
 obtain rfl:=oiA hr
 refine run_V is32 (nbA rfl) ?_
 rotate_left
 obtain rfl:=oiA hr
 refine run_V is32 (nbA rfl) ?_
 rotate_left
 obtain rfl:=oiA hr
 refine run_V is32 (nbA rfl) ?_
 rotate_left
 all_goals (simp +decide only [go_sem,decide_not,c32, *])
def c45 : ACode:=.seq (.reg [] [] [.K 3 (.box (.tmp 1)),.K 4 (.mv (.const (.bool false)))]) (.seq (.seq (.reg [] [] [.T 10 (.load (some 2) (.tmp 3)),.T 11 (.call 39 [.tmp 10]),.K 12 (.not (.tmp 11))]) (.cond (.tmp 12) (some 12) (.seq (.reg [] [] [.K 4 (.mv (.const (.bool false)))]) (.ret)) (.skip))) (.seq (.reg [] [] [.T 13 (.fa 1 (.tmp 3)),.T 14 (.load none (.tmp 13)),.T 15 (.call 73 [.tmp 14]),.N 5 15]) (.seq (.seq (.reg [] [] [.M 17 0,.M 18 5,.T 19 (.look (Go.TypeDesc.string) (.ag [.im true [],.im true []]) (.tmp 17) (.tmp 18) true),.M 16 19,.T 20 (.ext (.tmp 16) 0),.T 21 (.ext (.tmp 16) 1),.K 6 (.alloc [.im true [],.im true []] 2),⟨none,.store 2 (.tmp 6) (.tmp 20),none,false,false⟩,.N 7 21]) (.seq (.reg [] [] [.N 22 7]) (.cond (.tmp 22) (some 22) (.seq (.reg [] [] [.T 24 (.fa 0 (.tmp 6)),.T 25 (.load none (.tmp 24)),.T 26 (.fa 0 (.tmp 3)),.T 27 (.load none (.tmp 26)),.T 28 (.call 32 [.tmp 25,.tmp 27]),.M 23 28,.T 29 (.ext (.tmp 23) 0),.T 30 (.ext (.tmp 23) 1),.N 8 29,.N 9 30]) (.seq (.seq (.reg [] [] [.M 31 9,.T 32 (.bin .neq (.tmp 31) (cI 0)),.M 33 32,.MG 34 33 false 8,.TG 35 33 false (.len (.tmp 34)),.TG 36 33 false (.bin .gtr (.tmp 35) (cI 64)),.K 37 (.pick (.tmp 33) (.const (.bool true)) (.tmp 36))]) (.cond (.tmp 37) (some 37) (.seq (.reg [] [] [.K 4 (.mv (.const (.bool false)))]) (.ret)) (.skip))) (.reg [] [] [.M 38 8,.T 39 (.fa 0 (.tmp 3)),⟨none,.store 1 (.tmp 39) (.tmp 38),none,false,false⟩]))) (.skip)))) (.seq (.reg [] [] [.M 40 0,.M 41 5,.T 42 (.load (some 2) (.tmp 3)),⟨none,.mput (Go.TypeDesc.string) (.tmp 40) (.tmp 41) (.tmp 42),none,false,false⟩]) (.seq (.reg [] [] [.M 43 0,.T 44 (.mlen (.tmp 43)),.T 45 (.bin .leq (.tmp 44) (cI 256)),.N 4 45]) (.ret))))))
theorem is45 : IsF C 45 46 137443152891 c45 [.tmp 4]:=⟨⟨Try.f45,_,C_P ▸ Try.func45,rfl,rfl,rfl,by kernel_rfl,rfl⟩⟩
theorem qeY9 {s1_0 : List Int} {s1_1 : List Int} {m0 : List (ByteArray × Mono)} {g1 : AHeap} {g2 : AHeap} {r : Bool × (List (ByteArray × Mono))} (hr : qdS9 s1_0 s1_1 m0 = some r) : ∃ hz : AHeap,Lim C 45 [.mp g1.length,.ag [.d (.rd (s1_0.map qb9)),.d (.rd (s1_1.map intD))]] (g1++(.map (mapP keyS qa9 m0)::g2)) = some (resOf [PB r.1],(g1++(.map (mapP keyS qa9 r.2)::(g2++hz)))):=by
 simp only [qdS9] at hr
 obtain ⟨x1,h1,hr⟩:=bsome hr
 have h1k:=fun h=>(qgd9 h1).o rfl rfl rfl (h:=h) (args:=[.ag [.d (.rd (s1_0.map qb9)),.d (.rd (s1_1.map intD))]]) rfl
 try simp only [go_sem] at h1k
 rcases iteB hr with ⟨h2,hr⟩ | ⟨h2,hr⟩
 obtain ⟨x2,h3,hr⟩:=bsome hr
 have h3k:=(qqk9 h3).k rfl rfl rfl
 try simp only [go_sem] at h3k
 rcases h4 : mget m0 x2 with _ | x3
 simp only [h4] at hr
 obtain rfl:=oiA hr
 refine ⟨(.row false 0 2 [[.d (.rd (s1_0.map qb9)),.d (.rd (s1_1.map intD))]]::(.row false 0 2 [[.im true [],.im true []]]::[])),run_L is45 (nbA rfl) ?_⟩
 rotate_left
 simp only [h4] at hr
 obtain ⟨x4,h5,hr⟩:=bsome hr
 have h5k:=(qmS9 h5).k rfl rfl rfl
 try simp only [go_sem] at h5k
 rcases iteP hr with ⟨h6,hr⟩ | ⟨h6,hr⟩
 rcases iteP hr with ⟨h7,hr⟩ | ⟨h7,hr⟩
 obtain rfl:=oiA hr
 refine ⟨(.row false 0 2 [[.d (.rd (s1_0.map qb9)),.d (.rd (s1_1.map intD))]]::(.row false 0 2 [[.d (.rd (x3.Coef.map qb9)),.d (.rd (x3.Exps.map intD))]]::[])),run_L is45 (nbA rfl) ?_⟩
 rotate_left
 obtain rfl:=oiA hr
 refine ⟨(.row false 0 2 [[.d (.rd (x4.1.map qb9)),.d (.rd (s1_1.map intD))]]::(.row false 0 2 [[.d (.rd (x3.Coef.map qb9)),.d (.rd (x3.Exps.map intD))]]::[])),run_L is45 (nbA rfl) ?_⟩
 rotate_left
 obtain rfl:=oiA hr
 refine ⟨(.row false 0 2 [[.d (.rd (s1_0.map qb9)),.d (.rd (s1_1.map intD))]]::(.row false 0 2 [[.d (.rd (x3.Coef.map qb9)),.d (.rd (x3.Exps.map intD))]]::[])),run_L is45 (nbA rfl) ?_⟩
 rotate_left
 obtain rfl:=oiA hr
 refine ⟨(.row false 0 2 [[.d (.rd (s1_0.map qb9)),.d (.rd (s1_1.map intD))]]::[]),run_L is45 (nbA rfl) ?_⟩
 rotate_left
 all_goals (simp +decide only [go_sem,decide_not,c45, *])
def qjD9 : ACode:=.seq (.reg [] [] [.K 24 (.bin .lss (.tmp 23) (.tmp 22))]) (.seq (.cond (.tmp 24) (some 24) (.skip) (.exit 0)) (.seq (.block 1 1090519552 (.seq (.reg [] [] [.T 25 (.ix 2 (.tmp 21) (.tmp 23)),.T 26 (.load (some 2) (.tmp 25)),.K 9 (.alloc [.im true [],.im true []] 2),⟨none,.store 2 (.tmp 9) (.tmp 26),none,false,false⟩]) (.seq (.reg [] [] [.M 27 7,.T 28 (.load (some 2) (.tmp 9)),.T 29 (.call 45 [.tmp 27,.tmp 28]),.K 30 (.not (.tmp 29))]) (.cond (.tmp 30) (some 30) (.seq (.reg [] [(4,0)] [.K 4 (.mv (.const (.slice none 0 0))),.K 5 (.mv (cI 2))]) (.ret)) (.skip))))) (.reg [] [] [.T 31 (.bin .add (.tmp 23) (cI 1)),.N 23 31])))
def c17 : ACode:=.seq (.reg [] [(4,0)] [.K 4 (.mv (.const (.slice none 0 0))),.K 5 (.mv (cI 0))]) (.seq (.seq (.reg [] [] [.M 10 0,.M 11 1,.T 12 (.lit 1 [(0,.tmp 10),(1,.tmp 11)]),.T 13 (.call 43 [.tmp 12]),.N 6 13]) (.seq (.reg [] [] [.M 14 6,.K 15 (.bin .neq (.tmp 14) (cI 0))]) (.cond (.tmp 15) (some 15) (.seq (.reg [] [(4,0)] [.M 16 6,.K 4 (.mv (.const (.slice none 0 0))),.N 5 16]) (.ret)) (.skip)))) (.seq (.reg [] [] [.T 17 (.mkMap),.N 7 17]) (.seq (.seq (.reg [] [] [.M 18 0,.M 19 1,.T 20 (.lit 1 [(0,.tmp 18),(1,.tmp 19)]),.K 21 (.call 44 [.tmp 20]),.K 22 (.len (.tmp 21)),.K 23 (.mv (cI 0))]) (.block 0 1090519552 (.loop qjD9))) (.seq (.reg [] [] [.M 32 7,.T 33 (.call 46 [.tmp 32]),.N 4 33,.K 5 (.mv (cI 0))]) (.ret)))))
theorem is17 : IsF C 17 34 1105232627 c17 [.tmp 4,.tmp 5]:=⟨⟨Try.f17,_,C_P ▸ Try.func17,rfl,rfl,rfl,by kernel_rfl,rfl⟩⟩
def qfg9 (s0 : List Mono) (s1 : List Mono) (s4 : List Mono) (s6 : Int) (s21 : List Mono) (s22 : Int) : Int × (List (ByteArray × Mono))→AHeap→St:=fun (s23,m7) gt=>⟨[(0,.d (.rd (s0.map qa9))),(1,.d (.rd (s1.map qa9))),(4,.d (.rd (s4.map qa9))),(5,PI 0),(6,PI s6),(7,.mp 0),(21,.d (.rd (s21.map qa9))),(22,PI s22),(23,PI s23)],(.map (mapP keyS qa9 m7)::gt)⟩
def qqU9 (s0 : List Mono) (s1 : List Mono) (s4 : List Mono) (s6 : Int) (s21 : List Mono) (s22 : Int) : (((List Mono) × Int) ⊕ (Int × (List (ByteArray × Mono))))→AExit × St→Prop
 | .inl r,q=>XV C [.tmp 4,.tmp 5] (.tp [.d (.rd (r.1.map qa9)),PI r.2]) q
 | .inr (s23,m7),q=>∃ g,q = (.exit 0,qfg9 s0 s1 s4 s6 s21 s22 (s23,m7) g)
theorem qqY9 {s0 : List Mono} {s1 : List Mono} {s4 : List Mono} {s6 : Int} {s21 : List Mono} {s22 : Int} : Sim C 1105232627 qjD9 (qbX9 s0 s1 s4 s6 s21 s22) (qfg9 s0 s1 s4 s6 s21 s22) (qqU9 s0 s1 s4 s6 s21 s22):=by
 intro s g r hr
 obtain ⟨s23,m7⟩:=s
 have ⟨gt,hg0⟩ : ∃ y,y = g:=⟨_,rfl⟩
 subst hg0
 simp only [qbX9] at hr
 rcases iteP hr with ⟨h1,hr⟩ | ⟨h1,hr⟩
 obtain ⟨x3,h2,x4,h3,hr⟩:=bs2 hr
 obtain ⟨z5,h3k⟩:=qeY9 (g1:=[]) (g2:=(gt++(.row false 0 2 [[.d (.rd (x3.Coef.map qb9)),.d (.rd (x3.Exps.map intD))]]::[]))) h3
 replace h3k:=qfL9 rfl rfl rfl h3k
 try simp only [go_sem] at h3k
 rcases iteB hr with ⟨h4,hr⟩ | ⟨h4,hr⟩
 obtain rfl:=oiA hr
 refine ⟨(gt++(.row false 0 2 [[.d (.rd (x3.Coef.map qb9)),.d (.rd (x3.Exps.map intD))]]::z5)),?_⟩
 rotate_left
 obtain rfl:=oiA hr
 refine xv_of ?_
 rotate_left
 obtain rfl:=oiA hr
 refine xe_of ⟨gt,rfl⟩ ?_
 rotate_left
 all_goals (simp +decide only [go_sem,decide_not,qfg9,qjD9, *])
theorem qiE9 {a0 : List Mono} {a1 : List Mono} {r : (List Mono) × Int} (hr : qbA9 a0 a1 = some r) : Res C 17 [.rd (a0.map qa9),.rd (a1.map qa9)] (.tp [.d (.rd (r.1.map qa9)),PI r.2]):=by
 simp only [qbA9] at hr
 obtain ⟨x1,h1,hr⟩:=bsome hr
 have h1k:=fun h=>(qbu9 h1).o rfl rfl rfl (h:=h) (args:=[.im true [[.d (.rd (a0.map qa9))],[.d (.rd (a1.map qa9))]]]) rfl
 try simp only [go_sem] at h1k
 rcases iteP hr with ⟨h2,hr⟩ | ⟨h2,hr⟩
 obtain ⟨x2,h3,hr⟩:=bsome hr
 have h3k:=fun h=>(qcF9 h3).o rfl rfl rfl (h:=h) (args:=[.im true [[.d (.rd (a0.map qa9))],[.d (.rd (a1.map qa9))]]]) rfl
 try simp only [go_sem] at h3k
 obtain ⟨x6,h4,hr⟩:=bsome hr
 obtain ⟨q4,h4L,h4X⟩:=qqY9.L (g:=[]) h4
 rcases x6 with x7 | ⟨x8,x9⟩
 try dsimp only at hr
 obtain ⟨st4,rfl,h4R⟩:=h4X
 simp only [qfg9,go_sem] at h4L
 obtain rfl:=oiA hr
 refine run_V is17 (nbA rfl) ?_
 rotate_left
 try dsimp only at hr
 obtain ⟨z10,rfl⟩:=h4X
 simp only [qfg9,go_sem] at h4L
 obtain ⟨x11,h5,hr⟩:=bsome hr
 have h5k:=fun h id ho=>qtV9 (h:=h) (id:=id) h5 ho
 obtain rfl:=oiA hr
 refine run_V is17 (nbA rfl) ?_
 rotate_left
 obtain rfl:=oiA hr
 refine run_V is17 (nbA rfl) ?_
 rotate_left
 all_goals (simp +decide only [go_sem,decide_not,c17, *])
def c58 : ACode:=.seq (.reg [] [] [.K 2 (.mv (.const (.bool false)))]) (.seq (.reg [] [] [.M 3 0,.T 4 (.call 59 [.tmp 3]),.T 5 (.not (.tmp 4)),.N 2 5]) (.ret))
theorem is58 : IsF C 58 6 5 c58 [.tmp 2]:=⟨⟨Try.f58,_,C_P ▸ Try.func58,rfl,rfl,rfl,by kernel_rfl,rfl⟩⟩
theorem qlB9 {a0 : List Int} {r : Bool} (hr : qft9 a0 = some r) : Res C 58 [.rd (a0.map qb9)] (PB r):=by
 simp only [qft9] at hr
 obtain ⟨x1,h1,hr⟩:=bsome hr
 have h1k:=(qcO9 h1).k rfl rfl rfl
 try simp only [go_sem] at h1k
 obtain rfl:=oiA hr
 refine run_V is58 (nbA rfl) ?_
 rotate_left
 all_goals (simp +decide only [go_sem,decide_not,c58, *])
def c60 : ACode:=.seq (.reg [] [] [.K 3 (.mv (.const (.bool false)))]) (.seq (.reg [] [] [.T 4 (.load none (.tmp 1)),.M 5 0,.T 6 (.ix 1 (.tmp 4) (.tmp 5)),.T 7 (.load none (.tmp 6)),.T 8 (.len (.tmp 7)),.T 9 (.bin .eql (.tmp 8) (cI 0)),.N 3 9]) (.ret))
theorem is60 : IsF C 60 10 11 c60 [.tmp 3]:=⟨⟨Try.f60,_,C_P ▸ Try.func60,rfl,rfl,rfl,by kernel_rfl,rfl⟩⟩
theorem qlc9 {a0 : Int} {a1 : List (List Int)} {r : Bool} (hr : qfr9 a0 a1 = some r) : Res C 60 [.v (.int .i64 a0),.bx ((lsD (lsD qb9)) a1)] (PB r):=by
 simp only [qfr9] at hr
 obtain ⟨x1,h1,hr⟩:=bsome hr
 obtain rfl:=oiA hr
 refine run_V is60 (nbA rfl) ?_
 rotate_left
 all_goals (simp +decide only [go_sem,decide_not,c60, *])
end Ld

import Derived.Test.YtmkohpkfeamjiaaPMW1
import Derived.Test.YtmkohpkfeamjiaaPMW2
set_option maxHeartbeats 60000000
set_option linter.unusedVariables false
set_option linter.unusedSimpArgs false
set_option linter.unusedSectionVars false
namespace Ld
open Go Go.Proofs Go.Abs
set_option maxRecDepth 8000
def qoi9 : ACode:=.seq (.reg [] [] [.K 36 (.bin .lss (.tmp 35) (.tmp 34))]) (.seq (.cond (.tmp 36) (some 36) (.skip) (.exit 2)) (.seq (.block 3 68719479808 (.seq (.reg [] [] [.M 37 35,.T 38 (.ix 1 (.tmp 33) (.tmp 35)),.T 39 (.load none (.tmp 38)),.N 10 37,.N 11 39]) (.seq (.reg [] [] [.M 40 9,.M 41 8,.T 42 (.wrap .u64 (.tmp 41)),.M 43 11,.T 44 (.wrap .u64 (.tmp 43)),.T 45 (.bin .mul (.tmp 42) (.tmp 44)),.M 46 6,.M 47 7,.M 48 10,.T 49 (.bin .add (.tmp 47) (.tmp 48)),.T 50 (.ix 1 (.tmp 46) (.tmp 49)),.T 51 (.load none (.tmp 50)),.T 52 (.wrap .u64 (.tmp 51)),.T 53 (.bin .add (.tmp 45) (.tmp 52)),.T 54 (.bin .add (.tmp 40) (.tmp 53)),.N 9 54]) (.seq (.reg [] [] [.M 55 6,.M 56 7,.M 57 10,.T 58 (.bin .add (.tmp 56) (.tmp 57)),.M 59 9,.T 60 (.wrap .u32 (.tmp 59)),.T 61 (.ix 1 (.tmp 55) (.tmp 58)),⟨none,.store 1 (.tmp 61) (.tmp 60),none,false,false⟩]) (.reg [] [] [.M 62 9,.T 63 (.sh .shr (.tmp 62) (.const (.int .u64 32))),.N 9 63]))))) (.reg [] [] [.T 64 (.bin .add (.tmp 35) (cI 1)),.N 35 64])))
def qpK9 : ACode:=.seq (.reg [] [] [.K 29 (.bin .lss (.tmp 28) (.tmp 27))]) (.seq (.cond (.tmp 29) (some 29) (.skip) (.exit 0)) (.seq (.block 1 129385893760 (.seq (.reg [] [] [.M 30 28,.T 31 (.ix 1 (.tmp 26) (.tmp 28)),.T 32 (.load none (.tmp 31)),.N 7 30,.N 8 32]) (.seq (.reg [] [] [.K 9 (.mv (.const (.int .u64 0)))]) (.seq (.seq (.reg [] [] [.N 33 1,.K 34 (.len (.tmp 33)),.K 35 (.mv (cI 0))]) (.block 2 129385893120 (.loop qoi9))) (.reg [] [] [.M 65 6,.M 66 7,.M 67 1,.T 68 (.len (.tmp 67)),.T 69 (.bin .add (.tmp 66) (.tmp 68)),.M 70 9,.T 71 (.wrap .u32 (.tmp 70)),.T 72 (.ix 1 (.tmp 65) (.tmp 69)),⟨none,.store 1 (.tmp 72) (.tmp 71),none,false,false⟩]))))) (.reg [] [] [.T 73 (.bin .add (.tmp 28) (cI 1)),.N 28 73])))
def c33 : ACode:=.seq (.reg [] [(4,0)] [.K 4 (.mv (.const (.slice none 0 0))),.K 5 (.mv (cI 0))]) (.seq (.seq (.reg [] [] [.M 12 0,.T 13 (.call 59 [.tmp 12]),.T 14 (.not (.tmp 13)),.M 15 14,.MG 16 15 false 1,.TG 17 15 false (.call 59 [.tmp 16]),.TG 18 15 false (.not (.tmp 17)),.K 19 (.pick (.tmp 15) (.const (.bool true)) (.tmp 18))]) (.cond (.tmp 19) (some 19) (.seq (.reg [] [(4,0)] [.K 4 (.mv (.const (.slice none 0 0))),.K 5 (.mv (cI 10))]) (.ret)) (.skip))) (.seq (.reg [] [] [.M 20 0,.T 21 (.len (.tmp 20)),.M 22 1,.T 23 (.len (.tmp 22)),.T 24 (.bin .add (.tmp 21) (.tmp 23)),.T 25 (.mkSl [.d (.v (.int .u32 0))] 1 4 (.tmp 24) (.tmp 24)),.N 6 25]) (.seq (.seq (.reg [] [] [.N 26 0,.K 27 (.len (.tmp 26)),.K 28 (.mv (cI 0))]) (.block 0 129385893760 (.loop qpK9))) (.seq (.reg [] [] [.M 74 6,.T 75 (.call 65 [.tmp 74]),.T 76 (.ext (.tmp 75) 0),.T 77 (.ext (.tmp 75) 1),.N 4 76,.N 5 77]) (.ret)))))
theorem is33 : IsF C 33 78 129856180211 c33 [.tmp 4,.tmp 5]:=⟨⟨Try.f33,_,C_P ▸ Try.func33,rfl,rfl,rfl,by kernel_rfl,rfl⟩⟩
def qiH9 (s0 : List Int) (s1 : List Int) (s4 : List Int) (s7 : Int) (s8 : Int) (s26 : List Int) (s27 : Int) (s28 : Int) (s33 : List Int) (s34 : Int) (v6 : Nat) (n6 : Nat) : Int × Int × (List Int)→Unit→St:=fun (s9,s35,o6) _=>⟨[(0,.d (.rd (s0.map qb9))),(1,.d (.rd (s1.map qb9))),(4,.d (.rd (s4.map qb9))),(5,PI 0),(6,.ref 0 v6 0 n6),(7,PI s7),(8,.d (.v (.int .u32 s8))),(9,.d (.v (.int .u64 s9))),(26,.d (.rd (s26.map qb9))),(27,PI s27),(28,PI s28),(33,.d (.rd (s33.map qb9))),(34,PI s34),(35,PI s35)],(.row false v6 1 (rowP qb9 o6)::[])⟩
def qlj9 (s0 : List Int) (s1 : List Int) (s4 : List Int) (s7 : Int) (s8 : Int) (s26 : List Int) (s27 : Int) (s28 : Int) (s33 : List Int) (s34 : Int) (v6 : Nat) (n6 : Nat) : Int × Int × (List Int)→Prop:=fun (s9,s35,o6)=>o6.length = n6
def qtl9 (s0 : List Int) (s1 : List Int) (s4 : List Int) (s7 : Int) (s8 : Int) (s26 : List Int) (s27 : Int) (s28 : Int) (s33 : List Int) (s34 : Int) (v6 : Nat) (n6 : Nat) : (Int × (List Int))→AExit × St→Prop:=fun (s9,o6) q=>∃ d8 : PV,∃ d33 : PV,∃ d34 : PV,∃ d35 : PV,q = (.exit 2,⟨[(0,.d (.rd (s0.map qb9))),(1,.d (.rd (s1.map qb9))),(4,.d (.rd (s4.map qb9))),(5,PI 0),(6,.ref 0 v6 0 n6),(7,PI s7),(8,d8),(9,.d (.v (.int .u64 s9))),(26,.d (.rd (s26.map qb9))),(27,PI s27),(28,PI s28),(33,d33),(34,d34),(35,d35)],(.row false v6 1 (rowP qb9 o6)::[])⟩)∧o6.length = n6
theorem qrJ9 {s0 : List Int} {s1 : List Int} {s4 : List Int} {s7 : Int} {s8 : Int} {s26 : List Int} {s27 : Int} {s28 : Int} {s33 : List Int} {s34 : Int} {v6 : Nat} {n6 : Nat} : SimI C 129856180211 qoi9 (qlj9 s0 s1 s4 s7 s8 s26 s27 s28 s33 s34 v6 n6) (qdp9 s0 s1 s4 s7 s8 s26 s27 s28 s33 s34) (qiH9 s0 s1 s4 s7 s8 s26 s27 s28 s33 s34 v6 n6) (qtl9 s0 s1 s4 s7 s8 s26 s27 s28 s33 s34 v6 n6):=by
 intro s g r hI hr
 obtain ⟨s9,s35,o6⟩:=s
 simp only [qlj9] at hI
 have hI0:=hI
 simp only [qdp9] at hr
 rcases iteP hr with ⟨h1,hr⟩ | ⟨h1,hr⟩
 obtain ⟨x4,h2,x5,h3,x6,h4,hr⟩:=bs3 hr
 have h3a:=eq_true (ql9 h3).1
 have h3b : ((w64 (s7 + s35)) < (n6 : Int)) = True:=eq_true (by have hb : (w64 (s7 + s35)) < (o6.length : Int):=(ql9 h3).2.1; omega)
 have h3c:=(ql9 h3).2.2
 obtain rfl:=oiA hr
 refine ⟨⟨(),?_⟩,(show (o6.set (w64 (s7 + s35)).toNat (IntKind.u32.wrap (IntKind.u64.wrap (s9 + (IntKind.u64.wrap ((IntKind.u64.wrap ((IntKind.u64.wrap s8) * (IntKind.u64.wrap x4))) + (IntKind.u64.wrap x5))))))).length = n6 by first | assumption | (simp only [llA,lrA]; first | done | assumption | omega) | omega)⟩
 rotate_left
 obtain rfl:=oiA hr
 refine xe_of ⟨.d (.v (.int .u32 s8)),.d (.rd (s33.map qb9)),PI s34,PI s35,rfl,(show o6.length = n6 by first | assumption | (simp only [llA,lrA]; first | done | assumption | omega) | omega)⟩ ?_
 rotate_left
 all_goals (simp +decide only [go_sem,decide_not,qiH9,qoi9, *])
def qha9 (s0 : List Int) (s1 : List Int) (s4 : List Int) (s26 : List Int) (s27 : Int) (v6 : Nat) (n6 : Nat) : Int × (List Int)→Unit→St:=fun (s28,o6) _=>⟨[(0,.d (.rd (s0.map qb9))),(1,.d (.rd (s1.map qb9))),(4,.d (.rd (s4.map qb9))),(5,PI 0),(6,.ref 0 v6 0 n6),(26,.d (.rd (s26.map qb9))),(27,PI s27),(28,PI s28)],(.row false v6 1 (rowP qb9 o6)::[])⟩
def qlh9 (s0 : List Int) (s1 : List Int) (s4 : List Int) (s26 : List Int) (s27 : Int) (v6 : Nat) (n6 : Nat) : Int × (List Int)→Prop:=fun (s28,o6)=>o6.length = n6
def qsW9 (s0 : List Int) (s1 : List Int) (s4 : List Int) (s26 : List Int) (s27 : Int) (v6 : Nat) (n6 : Nat) : (Int × (List Int))→AExit × St→Prop:=fun (s28,o6) q=>∃ g,q = (.exit 0,qha9 s0 s1 s4 s26 s27 v6 n6 (s28,o6) g)∧o6.length = n6
theorem qsv9 {s0 : List Int} {s1 : List Int} {s4 : List Int} {s26 : List Int} {s27 : Int} {v6 : Nat} {n6 : Nat} : SimI C 129856180211 qpK9 (qlh9 s0 s1 s4 s26 s27 v6 n6) (qdl9 s0 s1 s4 s26 s27) (qha9 s0 s1 s4 s26 s27 v6 n6) (qsW9 s0 s1 s4 s26 s27 v6 n6):=by
 intro s g r hI hr
 obtain ⟨s28,o6⟩:=s
 simp only [qlh9] at hI
 have hI0:=hI
 simp only [qdl9] at hr
 rcases iteP hr with ⟨h1,hr⟩ | ⟨h1,hr⟩
 obtain ⟨x3,h2,hr⟩:=bsome hr
 obtain ⟨x7,h3,hr⟩:=bsome hr
 obtain ⟨q3,h3L,h3X⟩:=(qrJ9 (v6:=v6) (n6:=n6)).L (g:=()) h3 (show o6.length = n6 by first | assumption | (simp only [llA,lrA]; first | done | assumption | omega) | omega)
 obtain ⟨x8,x9⟩:=x7
 try dsimp only at hr
 obtain ⟨z10,z11,z12,z13,rfl,h3l0⟩:=h3X
 simp only [qiH9,go_sem] at h3L
 try simp only [hI0] at h3L
 obtain ⟨x14,h4,hr⟩:=bsome hr
 have h4a:=eq_true (ql9 h4).1
 have h4b : ((w64 (s28 + (s1.length : Int))) < (n6 : Int)) = True:=eq_true (by have hb : (w64 (s28 + (s1.length : Int))) < (x9.length : Int):=(ql9 h4).2.1; omega)
 have h4c:=(ql9 h4).2.2
 obtain rfl:=oiA hr
 refine ⟨⟨(),?_⟩,(show (x9.set (w64 (s28 + (s1.length : Int))).toNat (IntKind.u32.wrap x8)).length = n6 by first | assumption | (simp only [llA,lrA]; first | done | assumption | omega) | omega)⟩
 rotate_left
 obtain rfl:=oiA hr
 refine xe_of ⟨(),rfl,(show o6.length = n6 by first | assumption | (simp only [llA,lrA]; first | done | assumption | omega) | omega)⟩ ?_
 rotate_left
 all_goals (simp +decide only [go_sem,decide_not,qha9,qpK9, *])
theorem qne9 {a0 : List Int} {a1 : List Int} {r : (List Int) × Int} (hr : qho9 a0 a1 = some r) : Res C 33 [.rd (a0.map qb9),.rd (a1.map qb9)] (.tp [.d (.rd (r.1.map qb9)),PI r.2]):=by
 simp only [qho9] at hr
 obtain ⟨x1,h1,hr⟩:=bsome hr
 have h1k:=(qcO9 h1).k rfl rfl rfl
 try simp only [go_sem] at h1k
 rcases iteB hr with ⟨h2,hr⟩ | ⟨h2,hr⟩
 obtain ⟨x2,h3,hr⟩:=bsome hr
 have h3k:=(qcO9 h3).k rfl rfl rfl
 try simp only [go_sem] at h3k
 rcases iteB hr with ⟨h4,hr⟩ | ⟨h4,hr⟩
 obtain ⟨h5,hr⟩:=gsome hr
 obtain ⟨h6,hr⟩:=gsome hr
 obtain ⟨x15,h7,hr⟩:=bsome hr
 obtain ⟨q7,h7L,h7X⟩:=(qsv9 (v6:=0) (n6:=(List.replicate (w64 ((a0.length : Int) + (a1.length : Int))).toNat (0 : Int)).length)).L (g:=()) h7 rfl
 obtain ⟨x16,x17⟩:=x15
 try dsimp only at hr
 obtain ⟨⟨⟩,rfl,h7l0⟩:=h7X
 simp only [qha9,go_sem] at h7L
 obtain ⟨x18,h8,hr⟩:=bsome hr
 have h8k:=fun h args=>(qjo9 h8).o rfl rfl rfl (h:=h) (args:=args)
 try simp only [go_sem] at h8k
 obtain rfl:=oiA hr
 refine run_V is33 (nbA rfl) ?_
 rotate_left
 obtain rfl:=oiA hr
 refine run_V is33 (nbA rfl) ?_
 rotate_left
 obtain rfl:=oiA hr
 refine run_V is33 (nbA rfl) ?_
 rotate_left
 all_goals (simp +decide only [go_sem,decide_not,c33, *])
def qoC9 : ACode:=.seq (.reg [] [] [.K 35 (.bin .lss (.tmp 34) (.tmp 33))]) (.seq (.cond (.tmp 35) (some 35) (.skip) (.exit 0)) (.seq (.block 1 34359739904 (.seq (.reg [] [] [.M 36 34,.T 37 (.ix 1 (.tmp 32) (.tmp 34)),.T 38 (.load none (.tmp 37)),.N 9 36,.N 10 38]) (.reg [] [] [.M 39 8,.M 40 9,.T 41 (.ix 1 (.tmp 39) (.tmp 40)),.T 42 (.load none (.tmp 41)),.M 43 10,.T 44 (.bin .add (.tmp 42) (.tmp 43)),.T 45 (.ix 1 (.tmp 39) (.tmp 40)),⟨none,.store 1 (.tmp 45) (.tmp 44),none,false,false⟩]))) (.reg [] [] [.T 46 (.bin .add (.tmp 34) (cI 1)),.N 34 46])))
def c53 : ACode:=.seq (.reg [] [(4,4095)] [.K 2 (.box (.tmp 0)),.K 3 (.box (.tmp 1)),.K 4 (.alloc [.im true [],.im true []] 2),.K 5 (.mv (.const (.bool false)))]) (.seq (.reg [] [] [.T 12 (.fa 0 (.tmp 2)),.T 13 (.load none (.tmp 12)),.T 14 (.fa 0 (.tmp 3)),.T 15 (.load none (.tmp 14)),.T 16 (.call 33 [.tmp 13,.tmp 15]),.M 11 16,.T 17 (.ext (.tmp 11) 0),.T 18 (.ext (.tmp 11) 1),.N 6 17,.N 7 18]) (.seq (.seq (.reg [] [] [.T 19 (.fa 1 (.tmp 2)),.T 20 (.load none (.tmp 19)),.T 21 (.len (.tmp 20)),.T 22 (.fa 1 (.tmp 3)),.T 23 (.load none (.tmp 22)),.T 24 (.len (.tmp 23)),.K 25 (.bin .lss (.tmp 21) (.tmp 24))]) (.cond (.tmp 25) (some 25) (.reg [] [] [.T 26 (.load (some 2) (.tmp 3)),.T 27 (.load (some 2) (.tmp 2)),⟨none,.store 2 (.tmp 2) (.tmp 26),none,false,false⟩,⟨none,.store 2 (.tmp 3) (.tmp 27),none,false,false⟩]) (.skip))) (.seq (.reg [] [] [.T 28 (.fa 1 (.tmp 2)),.T 29 (.load none (.tmp 28)),.T 30 (.call 74 [.tmp 29]),.N 8 30]) (.seq (.seq (.reg [] [] [.T 31 (.fa 1 (.tmp 3)),.K 32 (.load none (.tmp 31)),.K 33 (.len (.tmp 32)),.K 34 (.mv (cI 0))]) (.block 0 34359739904 (.loop qoC9))) (.seq (.reg [] [] [.M 47 6,⟨some (48,false),.mv (.tmp 8),none,false,true⟩,.T 49 (.build [(0,1),(1,1)] [.im true [],.im true []] [(0,.tmp 47),(1,.tmp 48)]),.M 50 7,.T 51 (.bin .eql (.tmp 50) (cI 0)),⟨none,.store 2 (.tmp 4) (.tmp 49),none,false,false⟩,.N 5 51]) (.ret))))))
theorem is53 : IsF C 53 52 64458065919 c53 [.cell 4 51,.tmp 5]:=⟨⟨Try.f53,_,C_P ▸ Try.func53,rfl,rfl,rfl,by kernel_rfl,rfl⟩⟩
def qej9 (s0 : Mono) (s1 : Mono) (s6 : List Int) (s7 : Int) (s32 : List Int) (s33 : Int) (b2_0 : List Int) (b2_1 : List Int) (b3_0 : List Int) (b3_1 : List Int) (b4_0 : List Int) (b4_1 : List Int) (v8 : Nat) (n8 : Nat) : Int × (List Int)→Unit→St:=fun (s34,o8) _=>⟨[(0,.d (.ag (qa9 s0))),(1,.d (.ag (qa9 s1))),(2,.ptr 0 0 0 0),(3,.ptr 1 0 0 0),(4,.ptr 2 0 0 0),(5,PB false),(6,.d (.rd (s6.map qb9))),(7,PI s7),(8,.ref 3 v8 0 n8),(32,.d (.rd (s32.map intD))),(33,PI s33),(34,PI s34)],(.row false 0 2 [[.d (.rd (b2_0.map qb9)),.d (.rd (b2_1.map intD))]]::(.row false 0 2 [[.d (.rd (b3_0.map qb9)),.d (.rd (b3_1.map intD))]]::(.row false 0 2 [[.d (.rd (b4_0.map qb9)),.d (.rd (b4_1.map intD))]]::(.row false v8 1 (rowP intD o8)::[]))))⟩
def qiL9 (s0 : Mono) (s1 : Mono) (s6 : List Int) (s7 : Int) (s32 : List Int) (s33 : Int) (b2_0 : List Int) (b2_1 : List Int) (b3_0 : List Int) (b3_1 : List Int) (b4_0 : List Int) (b4_1 : List Int) (v8 : Nat) (n8 : Nat) : Int × (List Int)→Prop:=fun (s34,o8)=>o8.length = n8
def qnp9 (s0 : Mono) (s1 : Mono) (s6 : List Int) (s7 : Int) (s32 : List Int) (s33 : Int) (b2_0 : List Int) (b2_1 : List Int) (b3_0 : List Int) (b3_1 : List Int) (b4_0 : List Int) (b4_1 : List Int) (v8 : Nat) (n8 : Nat) : (Int × (List Int))→AExit × St→Prop:=fun (s34,o8) q=>∃ g,q = (.exit 0,qej9 s0 s1 s6 s7 s32 s33 b2_0 b2_1 b3_0 b3_1 b4_0 b4_1 v8 n8 (s34,o8) g)∧o8.length = n8
theorem qiM9 {s0 : Mono} {s1 : Mono} {s6 : List Int} {s7 : Int} {s32 : List Int} {s33 : Int} {b2_0 : List Int} {b2_1 : List Int} {b3_0 : List Int} {b3_1 : List Int} {b4_0 : List Int} {b4_1 : List Int} {v8 : Nat} {n8 : Nat} : SimI C 64458065919 qoC9 (qiL9 s0 s1 s6 s7 s32 s33 b2_0 b2_1 b3_0 b3_1 b4_0 b4_1 v8 n8) (qcf9 s0 s1 s6 s7 s32 s33 b2_0 b2_1 b3_0 b3_1 b4_0 b4_1) (qej9 s0 s1 s6 s7 s32 s33 b2_0 b2_1 b3_0 b3_1 b4_0 b4_1 v8 n8) (qnp9 s0 s1 s6 s7 s32 s33 b2_0 b2_1 b3_0 b3_1 b4_0 b4_1 v8 n8):=by
 intro s g r hI hr
 obtain ⟨s34,o8⟩:=s
 simp only [qiL9] at hI
 have hI0:=hI
 simp only [qcf9] at hr
 rcases iteP hr with ⟨h1,hr⟩ | ⟨h1,hr⟩
 obtain ⟨x7,h2,x8,h3,hr⟩:=bs2 hr
 have h3a:=eq_true (ql9 h3).1
 have h3b : (s34 < (n8 : Int)) = True:=eq_true (by have hb : s34 < (o8.length : Int):=(ql9 h3).2.1; omega)
 have h3c:=(ql9 h3).2.2
 obtain rfl:=oiA hr
 refine ⟨⟨(),?_⟩,(show (o8.set (s34).toNat (w64 (x8 + x7))).length = n8 by first | assumption | (simp only [llA,lrA]; first | done | assumption | omega) | omega)⟩
 rotate_left
 obtain rfl:=oiA hr
 refine xe_of ⟨(),rfl,(show o8.length = n8 by first | assumption | (simp only [llA,lrA]; first | done | assumption | omega) | omega)⟩ ?_
 rotate_left
 all_goals (simp +decide only [go_sem,decide_not,qej9,qoC9, *])
theorem qjx9 {a0 : Mono} {a1 : Mono} {r : Mono × Bool} (hr : qfO9 a0 a1 = some r) : Res C 53 [.ag (qa9 a0),.ag (qa9 a1)] (.tp [.d (.ag (qa9 r.1)),PB r.2]):=by
 simp only [qfO9] at hr
 obtain ⟨x1,h1,hr⟩:=bsome hr
 have h1k:=(qne9 h1).k rfl rfl rfl
 try simp only [go_sem] at h1k
 rcases iteP hr with ⟨h2,hr⟩ | ⟨h2,hr⟩
 obtain ⟨h3,hr⟩:=gsome hr
 obtain ⟨x4,h4,hr⟩:=bsome hr
 obtain ⟨q4,h4L,h4X⟩:=(qiM9 (v8:=0) (n8:=a1.Exps.length)).L (g:=()) h4 rfl
 obtain ⟨x5,x6⟩:=x4
 try dsimp only at hr
 obtain ⟨⟨⟩,rfl,h4l0⟩:=h4X
 simp only [qej9,go_sem] at h4L
 obtain rfl:=oiA hr
 refine run_V is53 (nbA rfl) ?_
 rotate_left
 obtain ⟨h5,hr⟩:=gsome hr
 obtain ⟨x9,h6,hr⟩:=bsome hr
 obtain ⟨q6,h6L,h6X⟩:=(qiM9 (v8:=0) (n8:=a0.Exps.length)).L (g:=()) h6 rfl
 obtain ⟨x10,x11⟩:=x9
 try dsimp only at hr
 obtain ⟨⟨⟩,rfl,h6l0⟩:=h6X
 simp only [qej9,go_sem] at h6L
 obtain rfl:=oiA hr
 refine run_V is53 (nbA rfl) ?_
 rotate_left
 all_goals (simp +decide only [go_sem,decide_not,c53, *])
def c79 : ACode:=.seq (.reg [] [] [.K 2 (.box (.tmp 0)),.K 4 (.mv (cI 0))]) (.seq (.reg [] [] [.T 5 (.fa 1 (.tmp 2)),.T 6 (.load none (.tmp 5)),.M 7 1,.T 8 (.call 38 [.tmp 6,.tmp 7]),.N 4 8]) (.ret))
theorem is79 : IsF C 79 9 23 c79 [.tmp 4]:=⟨⟨Try.f79,_,C_P ▸ Try.func79,rfl,rfl,rfl,by kernel_rfl,rfl⟩⟩
theorem qin9 {a0 : Mono} {a1 : List Int} {r : Int} (hr : qdM9 a0 a1 = some r) : Res C 79 [.ag (qa9 a0),.rd (a1.map intD)] (PI r):=by
 simp only [qdM9] at hr
 obtain ⟨x1,h1,hr⟩:=bsome hr
 have h1k:=(qfV9 h1).k rfl rfl rfl
 try simp only [go_sem] at h1k
 obtain rfl:=oiA hr
 refine run_V is79 (nbA rfl) ?_
 rotate_left
 all_goals (simp +decide only [go_sem,decide_not,c79, *])
end Ld
namespace Ld
open Go Go.Proofs Go.Abs
set_option maxRecDepth 8000
def qpn9 : ACode:=.seq (.seq (.reg [] [] [.M 15 9,.M 16 10,.K 17 (.bin .lss (.tmp 15) (.tmp 16))]) (.cond (.tmp 17) (some 17) (.skip) (.exit 0))) (.block 1 2147616768 (.seq (.reg [] [] [.M 18 9,.M 19 10,.T 20 (.bin .add (.tmp 18) (.tmp 19)),.T 21 (.wrap .u64 (.tmp 20)),.T 22 (.sh .shr (.tmp 21) (.const (.int .u64 1))),.T 23 (.wrap .i64 (.tmp 22)),.N 11 23]) (.seq (.reg [] [] [.M 24 2,.M 25 0,.M 26 11,.T 27 (.ix 2 (.tmp 25) (.tmp 26)),.T 28 (.load (some 2) (.tmp 27)),.M 29 1,.T 30 (.callV (.tmp 24) [.tmp 28,.tmp 29]),.K 31 (.bin .lss (.tmp 30) (cI 0))]) (.cond (.tmp 31) (some 31) (.reg [] [] [.M 32 11,.T 33 (.bin .add (.tmp 32) (cI 1)),.N 9 33]) (.reg [] [] [.M 34 11,.N 10 34])))))
def c78 : ACode:=.seq (.reg [] [] [.K 6 (.mv (cI 0)),.K 7 (.mv (.const (.bool false)))]) (.seq (.reg [] [] [.M 12 0,.T 13 (.len (.tmp 12)),.N 8 13]) (.seq (.reg [] [] [.M 14 8,.K 9 (.mv (cI 0)),.N 10 14]) (.seq (.block 0 2147616768 (.loop qpn9)) (.seq (.reg [] [] [.M 35 9,.M 36 9,.M 37 8,.T 38 (.bin .lss (.tmp 36) (.tmp 37)),.M 39 38,.MG 40 39 true 2,.MG 41 39 true 0,.MG 42 39 true 9,.TG 43 39 true (.ix 2 (.tmp 41) (.tmp 42)),.TG 44 39 true (.load (some 2) (.tmp 43)),.MG 45 39 true 1,.TG 46 39 true (.callV (.tmp 40) [.tmp 44,.tmp 45]),.TG 47 39 true (.bin .eql (.tmp 46) (cI 0)),.T 48 (.pick (.tmp 39) (.tmp 47) (.const (.bool false))),.N 6 35,.N 7 48]) (.ret)))))
theorem is78 : IsF C 78 49 2147618759 c78 [.tmp 6,.tmp 7]:=⟨⟨Try.f78,_,C_P ▸ Try.func78,rfl,rfl,rfl,by kernel_rfl,rfl⟩⟩
def qm9 (s0 : List Mono) (s1 : List Int) (s8 : Int) : Int × Int→Unit→St:=fun (s9,s10) _=>⟨[(0,.d (.rd (s0.map qa9))),(1,.d (.rd (s1.map intD))),(2,.d (.fn 79 [])),(6,PI 0),(7,PB false),(8,PI s8),(9,PI s9),(10,PI s10)],[]⟩
def qbG9 (s0 : List Mono) (s1 : List Int) (s8 : Int) : (Int × Int)→AExit × St→Prop:=fun (s9,s10) q=>∃ g,q = (.exit 0,qm9 s0 s1 s8 (s9,s10) g)
theorem qbH9 {s0 : List Mono} {s1 : List Int} {s8 : Int} : Sim C 2147618759 qpn9 (qd9 s0 s1 s8) (qm9 s0 s1 s8) (qbG9 s0 s1 s8):=by
 intro s g r hr
 obtain ⟨s9,s10⟩:=s
 simp only [qd9] at hr
 rcases iteP hr with ⟨h1,hr⟩ | ⟨h1,hr⟩
 obtain ⟨x1,h2,x2,h3,x3,h4,hr⟩:=bs3 hr
 have h4k:=fun h=>(qin9 h4).o rfl rfl rfl (h:=h) (args:=[.ag [.d (.rd (x2.Coef.map qb9)),.d (.rd (x2.Exps.map intD))],.d (.rd (s1.map intD))]) rfl
 try simp only [go_sem] at h4k
 rcases iteP hr with ⟨h5,hr⟩ | ⟨h5,hr⟩
 obtain rfl:=oiA hr
 refine ⟨(),?_⟩
 rotate_left
 obtain rfl:=oiA hr
 refine ⟨(),?_⟩
 rotate_left
 obtain rfl:=oiA hr
 refine xe_of ⟨(),rfl⟩ ?_
 rotate_left
 all_goals (simp +decide only [go_sem,decide_not,qm9,qpn9, *])
theorem qbK9 {a0 : List Mono} {a1 : List Int} {r : Int × Bool} (hr : qr9 a0 a1 = some r) : Res C 78 [.rd (a0.map qa9),.rd (a1.map intD),.fn 79 []] (.tp [PI r.1,PB r.2]):=by
 simp only [qr9] at hr
 obtain ⟨x4,h1,hr⟩:=bsome hr
 obtain ⟨q1,h1L,h1X⟩:=qbH9.L (g:=()) h1
 obtain ⟨x5,x6⟩:=x4
 try dsimp only at hr
 obtain ⟨⟨⟩,rfl⟩:=h1X
 simp only [qm9,go_sem] at h1L
 rcases iteP hr with ⟨h2,hr⟩ | ⟨h2,hr⟩
 obtain ⟨x7,h3,x8,h4,hr⟩:=bs2 hr
 have h4k:=fun h=>(qin9 h4).o rfl rfl rfl (h:=h) (args:=[.ag [.d (.rd (x7.Coef.map qb9)),.d (.rd (x7.Exps.map intD))],.d (.rd (a1.map intD))]) rfl
 try simp only [go_sem] at h4k
 obtain rfl:=oiA hr
 refine run_V is78 (nbA rfl) ?_
 rotate_left
 obtain rfl:=oiA hr
 refine run_V is78 (nbA rfl) ?_
 rotate_left
 all_goals (simp +decide only [go_sem,decide_not,c78, *])
def c50 : ACode:=.seq (.reg [] [(4,0)] [.K 4 (.mv (.const (.slice none 0 0)))]) (.seq (.reg [] [] [.M 8 0,.M 9 1,.T 10 (.call 78 [.tmp 8,.tmp 9,.func 79]),.M 7 10,.T 11 (.ext (.tmp 7) 0),.T 12 (.ext (.tmp 7) 1),.N 5 11,.N 6 12]) (.seq (.seq (.reg [] [] [.M 13 6,.K 14 (.not (.tmp 13))]) (.cond (.tmp 14) (some 14) (.seq (.reg [] [(4,0)] [.K 4 (.mv (.const (.slice none 0 0)))]) (.ret)) (.skip))) (.seq (.reg [] [] [.M 15 0,.M 16 5,.T 17 (.ix 2 (.tmp 15) (.tmp 16)),.T 18 (.fa 0 (.tmp 17)),.T 19 (.load none (.tmp 18)),.N 4 19]) (.ret))))
theorem is50 : IsF C 50 20 16499 c50 [.tmp 4]:=⟨⟨Try.f50,_,C_P ▸ Try.func50,rfl,rfl,rfl,by kernel_rfl,rfl⟩⟩
theorem qhV9 {a0 : List Mono} {a1 : List Int} {r : (List Int)} (hr : qew9 a0 a1 = some r) : Res C 50 [.rd (a0.map qa9),.rd (a1.map intD)] (.d (.rd (r.map qb9))):=by
 simp only [qew9] at hr
 obtain ⟨x1,h1,hr⟩:=bsome hr
 have h1k:=fun h=>(qbK9 h1).o rfl rfl rfl (h:=h) (args:=[.d (.rd (a0.map qa9)),.d (.rd (a1.map intD)),.fn 79 []]) rfl
 try simp only [go_sem] at h1k
 rcases iteB hr with ⟨h2,hr⟩ | ⟨h2,hr⟩
 obtain ⟨x2,h3,hr⟩:=bsome hr
 obtain rfl:=oiA hr
 refine run_V is50 (nbA rfl) ?_
 rotate_left
 obtain rfl:=oiA hr
 refine run_V is50 (nbA rfl) ?_
 rotate_left
 all_goals (simp +decide only [go_sem,decide_not,c50, *])
end Ld

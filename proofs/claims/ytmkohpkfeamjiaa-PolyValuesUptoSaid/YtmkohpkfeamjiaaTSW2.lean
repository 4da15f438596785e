import Derived.Test.YtmkohpkfeamjiaaTSC
set_option maxHeartbeats 60000000
set_option linter.unusedVariables false
set_option linter.unusedSimpArgs false
set_option linter.unusedSectionVars false
namespace Lt
open Ld Go Go.Proofs Go.Abs
set_option maxRecDepth 8000
def qji9 : ACode:=.seq (.reg [] [] [.K 12 (.bin .lss (.tmp 11) (.tmp 10))]) (.seq (.cond (.tmp 12) (some 12) (.skip) (.exit 0)) (.seq (.block 1 4198432 (.seq (.reg [] [] [.M 13 11,.N 5 13]) (.seq (.reg [] [] [.M 14 0,.M 15 5,⟨some (16,false),.ix 1 (.tmp 14) (.tmp 15),none,true,false⟩,⟨some (17,false),.load none (.tmp 16),none,true,false⟩,.M 18 1,.M 19 5,⟨some (20,false),.ix 1 (.tmp 18) (.tmp 19),none,true,false⟩,⟨some (21,false),.load none (.tmp 20),none,true,false⟩,.K 22 (.bin .neq (.tmp 17) (.tmp 21))]) (.cond (.tmp 22) (some 22) (.seq (.reg [] [] [.M 23 0,.M 24 5,⟨some (25,false),.ix 1 (.tmp 23) (.tmp 24),none,true,false⟩,⟨some (26,false),.load none (.tmp 25),none,true,false⟩,.M 27 1,.M 28 5,⟨some (29,false),.ix 1 (.tmp 27) (.tmp 28),none,true,false⟩,⟨some (30,false),.load none (.tmp 29),none,true,false⟩,.T 31 (.bin .sub (.tmp 26) (.tmp 30)),.N 4 31]) (.ret)) (.skip))))) (.reg [] [] [.T 32 (.bin .add (.tmp 11) (cI 1)),.N 11 32])))
def c38 : ACode := .seq (.reg [] [] [.K 4 (.mv (cI 0))]) (.seq (.seq (.reg [] [] [.M 6 0, .T 7 (.len (.tmp 6)), .M 8 1, .T 9 (.len (.tmp 8)), .K 10 (.raw ({ dst := some 10, op := Go.Op.call { callee := Go.Callee.builtin Go.Builtin.min, args := #[.tmp 7, .tmp 9], argTypes := #[3, 3] }, type := 3, pos := "poly.go:13", after := #[{ on := 1, ground := Go.Ground.data }, { on := 3, ground := Go.Ground.data }], guard := none })), .K 11 (.mv (cI 0))]) (.block 0 4198432 (.loop qji9))) (.seq (.reg [] [] [.M 33 0, .T 34 (.len (.tmp 33)), .M 35 1, .T 36 (.len (.tmp 35)), .T 37 (.bin .sub (.tmp 34) (.tmp 36)), .N 4 37]) (.ret)))
theorem is38 : IsF C 38 38 4201523 c38 [.tmp 4]:=⟨⟨Try.f38,_,C_P ▸ Try.func38,rfl,rfl,rfl,by kernel_rfl,rfl⟩⟩
def qcR9 (s0 : List Int) (s1 : List Int) (s10 : Int) : Int→Unit→St:=fun s11 _=>⟨[(0,.d (.rd (s0.map intD))),(1,.d (.rd (s1.map intD))),(4,PI 0),(10,PI s10),(11,PI s11)],[]⟩
def qiK9 (s0 : List Int) (s1 : List Int) (s10 : Int) : (Int ⊕ Int)→AExit × St→Prop
 | .inl r,q=>XV C [.tmp 4] (PI r) q
 | .inr s11,q=>∃ g,q = (.exit 0,qcR9 s0 s1 s10 s11 g)
theorem qiJ9 {s0 : List Int} {s1 : List Int} {s10 : Int} : Sim C 4201523 qji9 (qcD9 s0 s1 s10) (qcR9 s0 s1 s10) (qiK9 s0 s1 s10):=by
 intro s g r hr
 have ⟨s11,hs0⟩ : ∃ y,y = s:=⟨_,rfl⟩
 subst hs0
 simp only [qcD9] at hr
 rcases iteP hr with ⟨h1,hr⟩ | ⟨h1,hr⟩
 obtain ⟨x1,h2,x2,h3,hr⟩:=bs2 hr
 rcases iteP hr with ⟨h4,hr⟩ | ⟨h4,hr⟩
 obtain rfl:=oiA hr
 refine ⟨(),?_⟩
 rotate_left
 obtain rfl:=oiA hr
 refine xv_of ?_
 rotate_left
 obtain rfl:=oiA hr
 refine xe_of ⟨(),rfl⟩ ?_
 rotate_left
 all_goals (simp +decide only [go_sem,decide_not,qcR9,qji9, *])
theorem qhW9 {a0 : List Int} {a1 : List Int} {r : Int} (hr : qdv9 a0 a1 = some r) : Res C 38 [.rd (a0.map intD),.rd (a1.map intD)] (PI r):=by
 simp only [qdv9] at hr
 obtain ⟨x3,h1,hr⟩:=bsome hr
 obtain ⟨q1,h1L,h1X⟩:=qiJ9.L (g:=()) h1
 rcases x3 with x4 | x5
 try dsimp only at hr
 obtain ⟨st1,rfl,h1R⟩:=h1X
 simp only [qcR9,go_sem] at h1L
 obtain rfl:=oiA hr
 refine run_V is38 (nbA rfl) ?_
 rotate_left
 try dsimp only at hr
 obtain ⟨⟨⟩,rfl⟩:=h1X
 simp only [qcR9,go_sem] at h1L
 obtain rfl:=oiA hr
 refine run_V is38 (nbA rfl) ?_
 rotate_left
 all_goals (simp +decide only [go_sem,decide_not,c38, *])
def c76 : ACode:=.seq (.reg [] [] [.K 2 (.box (.tmp 0)),.K 3 (.box (.tmp 1)),.K 4 (.mv (cI 0))]) (.seq (.reg [] [] [.T 5 (.fa 1 (.tmp 2)),.T 6 (.load none (.tmp 5)),.T 7 (.fa 1 (.tmp 3)),.T 8 (.load none (.tmp 7)),.T 9 (.call 38 [.tmp 6,.tmp 8]),.N 4 9]) (.ret))
theorem is76 : IsF C 76 10 31 c76 [.tmp 4]:=⟨⟨Try.f76,_,C_P ▸ Try.func76,rfl,rfl,rfl,by kernel_rfl,rfl⟩⟩
theorem qF9 {a0 : Mono} {a1 : Mono} {r : Int} (hr : qt9 a0 a1 = some r) : Res C 76 [.ag (qa9 a0),.ag (qa9 a1)] (PI r):=by
 simp only [qt9] at hr
 obtain ⟨x1,h1,hr⟩:=bsome hr
 have h1k:=(qhW9 h1).k rfl rfl rfl
 try simp only [go_sem] at h1k
 obtain rfl:=oiA hr
 refine run_V is76 (nbA rfl) ?_
 rotate_left
 all_goals (simp +decide only [go_sem,decide_not,c76, *])
def qrl9 : ACode:=.seq (.seq (.reg [] [] [.M 18 9,.M 19 1,.T 20 (.bin .gtr (.tmp 18) (.tmp 19)),.M 21 20,.MG 22 21 true 3,.MG 23 21 true 0,.MG 24 21 true 9,⟨some (25,false),.ix 2 (.tmp 23) (.tmp 24),some (21,true),true,false⟩,⟨some (26,false),.load (some 2) (.tmp 25),some (21,true),true,false⟩,.MG 27 21 true 0,.MG 28 21 true 9,.TG 29 21 true (.bin .sub (.tmp 28) (cI 1)),⟨some (30,false),.ix 2 (.tmp 27) (.tmp 29),some (21,true),true,false⟩,⟨some (31,false),.load (some 2) (.tmp 30),some (21,true),true,false⟩,⟨some (32,false),.callV (.tmp 22) [.tmp 26,.tmp 31],some (21,true),true,false⟩,.TG 33 21 true (.bin .lss (.tmp 32) (cI 0)),.K 34 (.pick (.tmp 21) (.tmp 33) (.const (.bool false)))]) (.cond (.tmp 34) (some 34) (.skip) (.exit 2))) (.seq (.block 3 17179869184 (.reg [] [] [.M 37 0,.M 38 9,.M 39 0,.M 40 9,.T 41 (.bin .sub (.tmp 40) (cI 1)),.M 42 0,.M 43 9,.T 44 (.bin .sub (.tmp 43) (cI 1)),⟨some (45,false),.ix 2 (.tmp 42) (.tmp 44),none,true,false⟩,⟨some (46,false),.load (some 2) (.tmp 45),none,true,false⟩,.M 47 0,.M 48 9,⟨some (49,false),.ix 2 (.tmp 47) (.tmp 48),none,true,false⟩,⟨some (50,false),.load (some 2) (.tmp 49),none,true,false⟩,⟨some (51,false),.ix 2 (.tmp 37) (.tmp 38),none,true,false⟩,⟨none,.store 2 (.tmp 51) (.tmp 46),none,false,false⟩,⟨some (52,false),.ix 2 (.tmp 39) (.tmp 41),none,true,false⟩,⟨none,.store 2 (.tmp 52) (.tmp 50),none,false,false⟩])) (.reg [] [] [.M 35 9,.T 36 (.bin .sub (.tmp 35) (cI 1)),.N 9 36]))
def qoV9 : ACode:=.seq (.seq (.reg [] [] [.M 12 8,.M 13 2,.K 14 (.bin .lss (.tmp 12) (.tmp 13))]) (.cond (.tmp 14) (some 14) (.skip) (.exit 0))) (.seq (.block 1 17179886080 (.seq (.reg [] [] [.M 17 8,.N 9 17]) (.block 2 17179886080 (.loop qrl9)))) (.reg [] [] [.M 15 8,.T 16 (.bin .add (.tmp 15) (cI 1)),.N 8 16]))
def c89 : ACode:=.seq (.reg [] [] [.M 10 1,.T 11 (.bin .add (.tmp 10) (cI 1)),.N 8 11]) (.block 0 17179886080 (.loop qoV9))
theorem is89 : IsF C 89 53 17179886351 c89 []:=⟨⟨Try.f89,_,C_P ▸ Try.func89,rfl,rfl,rfl,by kernel_rfl,rfl⟩⟩
def qbP9 (s1 : Int) (s2 : Int) (s8 : Int) (g1 : AHeap) (v0 : Nat) (n0 : Nat) (g2 : AHeap) : Int × (List Mono)→AHeap→St:=fun (s9,o0) gt=>⟨[(0,.ref g1.length v0 0 n0),(1,PI s1),(2,PI s2),(3,.fn 76 []),(8,PI s8),(9,PI s9)],(g1++(.row false v0 2 (rowP qa9 o0)::(g2++gt)))⟩
def qcv9 (s1 : Int) (s2 : Int) (s8 : Int) (g1 : AHeap) (v0 : Nat) (n0 : Nat) (g2 : AHeap) : Int × (List Mono)→Prop:=fun (s9,o0)=>o0.length = n0
def qdP9 (s1 : Int) (s2 : Int) (s8 : Int) (g1 : AHeap) (v0 : Nat) (n0 : Nat) (g2 : AHeap) : ((List Mono))→AExit × St→Prop:=fun o0 q=>∃ d9 : PV,∃ h1 : AHeap,q = (.exit 2,⟨[(0,.ref g1.length v0 0 n0),(1,PI s1),(2,PI s2),(3,.fn 76 []),(8,PI s8),(9,d9)],(g1++(.row false v0 2 (rowP qa9 o0)::(g2++h1)))⟩)∧o0.length = n0
theorem qdN9 {s1 : Int} {s2 : Int} {s8 : Int} {g1 : AHeap} {v0 : Nat} {n0 : Nat} {g2 : AHeap} : SimI C 17179886351 qrl9 (qcv9 s1 s2 s8 g1 v0 n0 g2) (qw9 s1 s2 s8) (qbP9 s1 s2 s8 g1 v0 n0 g2) (qdP9 s1 s2 s8 g1 v0 n0 g2):=by
 intro s g r hI hr
 obtain ⟨s9,o0⟩:=s
 have ⟨gt,hg0⟩ : ∃ y,y = g:=⟨_,rfl⟩
 subst hg0
 simp only [qcv9] at hI
 have hI0:=hI
 simp only [qw9] at hr
 rcases iteP hr with ⟨h1,hr⟩ | ⟨h1,hr⟩
 obtain ⟨x1,h2,x2,h3,x3,h4,hr⟩:=bs3 hr
 have h2a:=eq_true (qb9 h2).1
 have h2b : (s9 < (n0 : Int)) = True:=eq_true (by have hb : s9 < (o0.length : Int):=(qb9 h2).2.1; omega)
 have h2c:=(qb9 h2).2.2
 have h3a:=eq_true (qb9 h3).1
 have h3b : ((w64 (s9 - 1)) < (n0 : Int)) = True:=eq_true (by have hb : (w64 (s9 - 1)) < (o0.length : Int):=(qb9 h3).2.1; omega)
 have h3c:=(qb9 h3).2.2
 have h4k:=fun h=>(qF9 h4).o rfl rfl rfl (h:=h) (args:=[.ag [.d (.rd (x1.Coef.map qc9)),.d (.rd (x1.Exps.map intD))],.ag [.d (.rd (x2.Coef.map qc9)),.d (.rd (x2.Exps.map intD))]]) rfl
 try simp only [go_sem] at h4k
 rcases iteP hr with ⟨h5,hr⟩ | ⟨h5,hr⟩
 obtain ⟨x4,h6,hr⟩:=bsome hr
 have h6a:=eq_true (qb9 h6).1
 have h6b : ((w64 (s9 - 1)) < (n0 : Int)) = True:=eq_true (by have hb : (w64 (s9 - 1)) < ((o0.set (s9).toNat x2).length : Int):=(qb9 h6).2.1; simp only [llA,lrA] at hb; omega)
 have h6c:=(qb9 h6).2.2
 obtain rfl:=oiA hr
 refine ⟨⟨gt,?_⟩,(show ((o0.set (s9).toNat x2).set (w64 (s9 - 1)).toNat x1).length = n0 by first | assumption | (simp only [llA,lrA]; first | done | assumption | omega) | omega)⟩
 rotate_left
 obtain rfl:=oiA hr
 refine xe_of ⟨PI s9,gt,rfl,(show o0.length = n0 by first | assumption | (simp only [llA,lrA]; first | done | assumption | omega) | omega)⟩ ?_
 rotate_left
 obtain rfl:=oiA hr
 refine xe_of ⟨PI s9,gt,rfl,(show o0.length = n0 by first | assumption | (simp only [llA,lrA]; first | done | assumption | omega) | omega)⟩ ?_
 rotate_left
 all_goals (simp +decide only [go_sem,decide_not,qbP9,qrl9, *])
def qbm9 (s1 : Int) (s2 : Int) (g1 : AHeap) (v0 : Nat) (n0 : Nat) (g2 : AHeap) : Int × (List Mono)→AHeap→St:=fun (s8,o0) gt=>⟨[(0,.ref g1.length v0 0 n0),(1,PI s1),(2,PI s2),(3,.fn 76 []),(8,PI s8)],(g1++(.row false v0 2 (rowP qa9 o0)::(g2++gt)))⟩
def qcu9 (s1 : Int) (s2 : Int) (g1 : AHeap) (v0 : Nat) (n0 : Nat) (g2 : AHeap) : Int × (List Mono)→Prop:=fun (s8,o0)=>o0.length = n0
def qdO9 (s1 : Int) (s2 : Int) (g1 : AHeap) (v0 : Nat) (n0 : Nat) (g2 : AHeap) : (Int × (List Mono))→AExit × St→Prop:=fun (s8,o0) q=>∃ g,q = (.exit 0,qbm9 s1 s2 g1 v0 n0 g2 (s8,o0) g)∧o0.length = n0
theorem qdQ9 {s1 : Int} {s2 : Int} {g1 : AHeap} {v0 : Nat} {n0 : Nat} {g2 : AHeap} : SimI C 17179886351 qoV9 (qcu9 s1 s2 g1 v0 n0 g2) (qp9 s1 s2) (qbm9 s1 s2 g1 v0 n0 g2) (qdO9 s1 s2 g1 v0 n0 g2):=by
 intro s g r hI hr
 obtain ⟨s8,o0⟩:=s
 have ⟨gt,hg0⟩ : ∃ y,y = g:=⟨_,rfl⟩
 subst hg0
 simp only [qcu9] at hI
 have hI0:=hI
 simp only [qp9] at hr
 rcases iteP hr with ⟨h1,hr⟩ | ⟨h1,hr⟩
 obtain ⟨x5,h2,hr⟩:=bsome hr
 obtain ⟨q2,h2L,h2X⟩:=(qdN9 (g1:=g1) (v0:=v0) (n0:=n0) (g2:=(g2++gt))).L (g:=[]) h2 (show o0.length = n0 by first | assumption | (simp only [llA,lrA]; first | done | assumption | omega) | omega)
 have ⟨x6,hq2⟩ : ∃ y,y = x5:=⟨_,rfl⟩
 subst hq2
 try dsimp only at hr
 obtain ⟨z7,z8,rfl,h2l0⟩:=h2X
 simp only [qbP9,go_sem] at h2L
 try simp only [hI0] at h2L
 obtain rfl:=oiA hr
 refine ⟨⟨(gt++z8),?_⟩,(show x6.length = n0 by first | assumption | (simp only [llA,lrA]; first | done | assumption | omega) | omega)⟩
 rotate_left
 obtain rfl:=oiA hr
 refine xe_of ⟨gt,rfl,(show o0.length = n0 by first | assumption | (simp only [llA,lrA]; first | done | assumption | omega) | omega)⟩ ?_
 rotate_left
 all_goals (simp +decide only [go_sem,decide_not,qbm9,qoV9, *])
theorem qed9 {s1 : Int} {s2 : Int} {o0 : List Mono} {g1 : AHeap} {v0 : Nat} {n0 : Nat} {g2 : AHeap} (hln0 : o0.length = n0) {r : (List Mono)} (hr : qS9 s1 s2 o0 = some r) : ∃ hz : AHeap,Lim C 89 [.ref g1.length v0 0 n0,PI s1,PI s2,.fn 76 []] (g1++(.row false v0 2 (rowP qa9 o0)::g2)) = some (resOf [],(g1++(.row false v0 2 (rowP qa9 r)::(g2++hz))))∧r.length = n0:=by
 simp only [qS9] at hr
 obtain ⟨x9,h1,hr⟩:=bsome hr
 obtain ⟨q1,h1L,h1X⟩:=(qdQ9 (g1:=g1) (v0:=v0) (n0:=n0) (g2:=g2)).L (g:=[]) h1 (show o0.length = n0 by first | assumption | (simp only [llA,lrA]; first | done | assumption | omega) | omega)
 obtain ⟨x10,x11⟩:=x9
 try dsimp only at hr
 obtain ⟨z12,rfl,h1l0⟩:=h1X
 simp only [qbm9,go_sem] at h1L
 try simp only [hln0] at h1L
 obtain rfl:=oiA hr
 refine ⟨z12,run_L is89 (nbA rfl) ?_,(show x11.length = n0 by first | assumption | (simp only [llA,lrA]; first | done | assumption | omega) | omega)⟩
 rotate_left
 all_goals (simp +decide only [go_sem,decide_not,c89, *])
def qqF9 : ACode:=.block 1 288231475663603712 (.seq (.reg [] [] [.M 13 10,.T 14 (.bin .mul (cI 2) (.tmp 13)),.T 15 (.bin .add (.tmp 14) (cI 1)),.N 11 15]) (.seq (.seq (.reg [] [] [.M 16 11,.M 17 2,.K 18 (.bin .geq (.tmp 16) (.tmp 17))]) (.cond (.tmp 18) (some 18) (.exit 0) (.skip))) (.seq (.seq (.reg [] [] [.M 19 11,.T 20 (.bin .add (.tmp 19) (cI 1)),.M 21 2,.T 22 (.bin .lss (.tmp 20) (.tmp 21)),.M 23 22,.MG 24 23 true 4,.MG 25 23 true 0,.MG 26 23 true 3,.MG 27 23 true 11,.TG 28 23 true (.bin .add (.tmp 26) (.tmp 27)),⟨some (29,false),.ix 2 (.tmp 25) (.tmp 28),some (23,true),true,false⟩,⟨some (30,false),.load (some 2) (.tmp 29),some (23,true),true,false⟩,.MG 31 23 true 0,.MG 32 23 true 3,.MG 33 23 true 11,.TG 34 23 true (.bin .add (.tmp 32) (.tmp 33)),.TG 35 23 true (.bin .add (.tmp 34) (cI 1)),⟨some (36,false),.ix 2 (.tmp 31) (.tmp 35),some (23,true),true,false⟩,⟨some (37,false),.load (some 2) (.tmp 36),some (23,true),true,false⟩,⟨some (38,false),.callV (.tmp 24) [.tmp 30,.tmp 37],some (23,true),true,false⟩,.TG 39 23 true (.bin .lss (.tmp 38) (cI 0)),.K 40 (.pick (.tmp 23) (.tmp 39) (.const (.bool false)))]) (.cond (.tmp 40) (some 40) (.reg [] [] [.M 41 11,.T 42 (.bin .add (.tmp 41) (cI 1)),.N 11 42]) (.skip))) (.seq (.seq (.reg [] [] [.M 43 4,.M 44 0,.M 45 3,.M 46 10,.T 47 (.bin .add (.tmp 45) (.tmp 46)),⟨some (48,false),.ix 2 (.tmp 44) (.tmp 47),none,true,false⟩,⟨some (49,false),.load (some 2) (.tmp 48),none,true,false⟩,.M 50 0,.M 51 3,.M 52 11,.T 53 (.bin .add (.tmp 51) (.tmp 52)),⟨some (54,false),.ix 2 (.tmp 50) (.tmp 53),none,true,false⟩,⟨some (55,false),.load (some 2) (.tmp 54),none,true,false⟩,⟨some (56,false),.callV (.tmp 43) [.tmp 49,.tmp 55],none,true,false⟩,.T 57 (.bin .lss (.tmp 56) (cI 0)),.K 58 (.not (.tmp 57))]) (.cond (.tmp 58) (some 58) (.ret) (.skip))) (.seq (.reg [] [] [.M 59 0,.M 60 3,.M 61 10,.T 62 (.bin .add (.tmp 60) (.tmp 61)),.M 63 0,.M 64 3,.M 65 11,.T 66 (.bin .add (.tmp 64) (.tmp 65)),.M 67 0,.M 68 3,.M 69 11,.T 70 (.bin .add (.tmp 68) (.tmp 69)),⟨some (71,false),.ix 2 (.tmp 67) (.tmp 70),none,true,false⟩,⟨some (72,false),.load (some 2) (.tmp 71),none,true,false⟩,.M 73 0,.M 74 3,.M 75 10,.T 76 (.bin .add (.tmp 74) (.tmp 75)),⟨some (77,false),.ix 2 (.tmp 73) (.tmp 76),none,true,false⟩,⟨some (78,false),.load (some 2) (.tmp 77),none,true,false⟩,⟨some (79,false),.ix 2 (.tmp 59) (.tmp 62),none,true,false⟩,⟨none,.store 2 (.tmp 79) (.tmp 72),none,false,false⟩,⟨some (80,false),.ix 2 (.tmp 63) (.tmp 66),none,true,false⟩,⟨none,.store 2 (.tmp 80) (.tmp 78),none,false,false⟩]) (.reg [] [] [.M 81 11,.N 10 81]))))))
def c99 : ACode:=.seq (.reg [] [] [.M 12 1,.N 10 12]) (.block 0 288231475663603712 (.loop qqF9))
theorem is99 : IsF C 99 82 288231475663604767 c99 []:=⟨⟨Try.f99,_,C_P ▸ Try.func99,rfl,rfl,rfl,by kernel_rfl,rfl⟩⟩
def qbG9 (s1 : Int) (s2 : Int) (s3 : Int) (g1 : AHeap) (v0 : Nat) (n0 : Nat) (g2 : AHeap) : Int × (List Mono)→AHeap→St:=fun (s10,o0) gt=>⟨[(0,.ref g1.length v0 0 n0),(1,PI s1),(2,PI s2),(3,PI s3),(4,.fn 76 []),(10,PI s10)],(g1++(.row false v0 2 (rowP qa9 o0)::(g2++gt)))⟩
def qcO9 (s1 : Int) (s2 : Int) (s3 : Int) (g1 : AHeap) (v0 : Nat) (n0 : Nat) (g2 : AHeap) : Int × (List Mono)→Prop:=fun (s10,o0)=>o0.length = n0
def qeA9 (s1 : Int) (s2 : Int) (s3 : Int) (g1 : AHeap) (v0 : Nat) (n0 : Nat) (g2 : AHeap) : ((Int × (List Mono)) ⊕ ((List Mono)))→AExit × St→Prop
 | .inl (s10,o0),q=>∃ d11 : PV,∃ h1 : AHeap,q = (.exit 0,⟨[(0,.ref g1.length v0 0 n0),(1,PI s1),(2,PI s2),(3,PI s3),(4,.fn 76 []),(10,PI s10),(11,d11)],(g1++(.row false v0 2 (rowP qa9 o0)::(g2++h1)))⟩)∧o0.length = n0
 | .inr r,q=>XL C [] (fun vs hp=>∃ hz : AHeap,vs = []∧hp = (g1++(.row false v0 2 (rowP qa9 r)::(g2++hz)))∧r.length = n0) q
theorem qeC9 {s1 : Int} {s2 : Int} {s3 : Int} {g1 : AHeap} {v0 : Nat} {n0 : Nat} {g2 : AHeap} : SimI C 288231475663604767 qqF9 (qcO9 s1 s2 s3 g1 v0 n0 g2) (qj9 s1 s2 s3) (qbG9 s1 s2 s3 g1 v0 n0 g2) (qeA9 s1 s2 s3 g1 v0 n0 g2):=by
 intro s g r hI hr
 obtain ⟨s10,o0⟩:=s
 have ⟨gt,hg0⟩ : ∃ y,y = g:=⟨_,rfl⟩
 subst hg0
 simp only [qcO9] at hI
 have hI0:=hI
 simp only [qj9] at hr
 rcases iteP hr with ⟨h1,hr⟩ | ⟨h1,hr⟩
 obtain rfl:=oiA hr
 refine xe_of ⟨PI (w64 ((w64 (2 * s10)) + 1)),gt,rfl,(show o0.length = n0 by first | assumption | (simp only [llA,lrA]; first | done | assumption | omega) | omega)⟩ ?_
 rotate_left
 rcases iteP hr with ⟨h2,hr⟩ | ⟨h2,hr⟩
 obtain ⟨x1,h3,x2,h4,x3,h5,hr⟩:=bs3 hr
 have h3a:=eq_true (qb9 h3).1
 have h3b : ((w64 (s3 + (w64 ((w64 (2 * s10)) + 1)))) < (n0 : Int)) = True:=eq_true (by have hb : (w64 (s3 + (w64 ((w64 (2 * s10)) + 1)))) < (o0.length : Int):=(qb9 h3).2.1; omega)
 have h3c:=(qb9 h3).2.2
 have h4a:=eq_true (qb9 h4).1
 have h4b : ((w64 ((w64 (s3 + (w64 ((w64 (2 * s10)) + 1)))) + 1)) < (n0 : Int)) = True:=eq_true (by have hb : (w64 ((w64 (s3 + (w64 ((w64 (2 * s10)) + 1)))) + 1)) < (o0.length : Int):=(qb9 h4).2.1; omega)
 have h4c:=(qb9 h4).2.2
 have h5k:=fun h=>(qF9 h5).o rfl rfl rfl (h:=h) (args:=[.ag [.d (.rd (x1.Coef.map qc9)),.d (.rd (x1.Exps.map intD))],.ag [.d (.rd (x2.Coef.map qc9)),.d (.rd (x2.Exps.map intD))]]) rfl
 try simp only [go_sem] at h5k
 rcases iteP hr with ⟨h6,hr⟩ | ⟨h6,hr⟩
 obtain ⟨x4,h7,x5,h8,x6,h9,hr⟩:=bs3 hr
 have h7a:=eq_true (qb9 h7).1
 have h7b : ((w64 (s3 + s10)) < (n0 : Int)) = True:=eq_true (by have hb : (w64 (s3 + s10)) < (o0.length : Int):=(qb9 h7).2.1; omega)
 have h7c:=(qb9 h7).2.2
 have h8a:=eq_true (qb9 h8).1
 have h8b : ((w64 (s3 + (w64 ((w64 ((w64 (2 * s10)) + 1)) + 1)))) < (n0 : Int)) = True:=eq_true (by have hb : (w64 (s3 + (w64 ((w64 ((w64 (2 * s10)) + 1)) + 1)))) < (o0.length : Int):=(qb9 h8).2.1; omega)
 have h8c:=(qb9 h8).2.2
 have h9k:=fun h=>(qF9 h9).o rfl rfl rfl (h:=h) (args:=[.ag [.d (.rd (x4.Coef.map qc9)),.d (.rd (x4.Exps.map intD))],.ag [.d (.rd (x5.Coef.map qc9)),.d (.rd (x5.Exps.map intD))]]) rfl
 try simp only [go_sem] at h9k
 rcases iteP hr with ⟨h10,hr⟩ | ⟨h10,hr⟩
 obtain ⟨x7,h11,hr⟩:=bsome hr
 have h11a:=eq_true (qb9 h11).1
 have h11b : ((w64 (s3 + (w64 ((w64 ((w64 (2 * s10)) + 1)) + 1)))) < (n0 : Int)) = True:=eq_true (by have hb : (w64 (s3 + (w64 ((w64 ((w64 (2 * s10)) + 1)) + 1)))) < ((o0.set (w64 (s3 + s10)).toNat x5).length : Int):=(qb9 h11).2.1; simp only [llA,lrA] at hb; omega)
 have h11c:=(qb9 h11).2.2
 obtain rfl:=oiA hr
 refine ⟨⟨gt,?_⟩,(show ((o0.set (w64 (s3 + s10)).toNat x5).set (w64 (s3 + (w64 ((w64 ((w64 (2 * s10)) + 1)) + 1)))).toNat x4).length = n0 by first | assumption | (simp only [llA,lrA]; first | done | assumption | omega) | omega)⟩
 rotate_left
 obtain rfl:=oiA hr
 refine xl_of ⟨gt,rfl,rfl,(show o0.length = n0 by first | assumption | (simp only [llA,lrA]; first | done | assumption | omega) | omega)⟩ ?_
 rotate_left
 obtain ⟨x8,h12,x9,h13,hr⟩:=bs2 hr
 have h12a:=eq_true (qb9 h12).1
 have h12b : ((w64 (s3 + s10)) < (n0 : Int)) = True:=eq_true (by have hb : (w64 (s3 + s10)) < (o0.length : Int):=(qb9 h12).2.1; omega)
 have h12c:=(qb9 h12).2.2
 have h13k:=fun h=>(qF9 h13).o rfl rfl rfl (h:=h) (args:=[.ag [.d (.rd (x8.Coef.map qc9)),.d (.rd (x8.Exps.map intD))],.ag [.d (.rd (x1.Coef.map qc9)),.d (.rd (x1.Exps.map intD))]]) rfl
 try simp only [go_sem] at h13k
 rcases iteP hr with ⟨h14,hr⟩ | ⟨h14,hr⟩
 obtain ⟨x10,h15,hr⟩:=bsome hr
 have h15a:=eq_true (qb9 h15).1
 have h15b : ((w64 (s3 + (w64 ((w64 (2 * s10)) + 1)))) < (n0 : Int)) = True:=eq_true (by have hb : (w64 (s3 + (w64 ((w64 (2 * s10)) + 1)))) < ((o0.set (w64 (s3 + s10)).toNat x1).length : Int):=(qb9 h15).2.1; simp only [llA,lrA] at hb; omega)
 have h15c:=(qb9 h15).2.2
 obtain rfl:=oiA hr
 refine ⟨⟨gt,?_⟩,(show ((o0.set (w64 (s3 + s10)).toNat x1).set (w64 (s3 + (w64 ((w64 (2 * s10)) + 1)))).toNat x8).length = n0 by first | assumption | (simp only [llA,lrA]; first | done | assumption | omega) | omega)⟩
 rotate_left
 obtain rfl:=oiA hr
 refine xl_of ⟨gt,rfl,rfl,(show o0.length = n0 by first | assumption | (simp only [llA,lrA]; first | done | assumption | omega) | omega)⟩ ?_
 rotate_left
 obtain ⟨x11,h16,x12,h17,x13,h18,hr⟩:=bs3 hr
 have h16a:=eq_true (qb9 h16).1
 have h16b : ((w64 (s3 + s10)) < (n0 : Int)) = True:=eq_true (by have hb : (w64 (s3 + s10)) < (o0.length : Int):=(qb9 h16).2.1; omega)
 have h16c:=(qb9 h16).2.2
 have h17a:=eq_true (qb9 h17).1
 have h17b : ((w64 (s3 + (w64 ((w64 (2 * s10)) + 1)))) < (n0 : Int)) = True:=eq_true (by have hb : (w64 (s3 + (w64 ((w64 (2 * s10)) + 1)))) < (o0.length : Int):=(qb9 h17).2.1; omega)
 have h17c:=(qb9 h17).2.2
 have h18k:=fun h=>(qF9 h18).o rfl rfl rfl (h:=h) (args:=[.ag [.d (.rd (x11.Coef.map qc9)),.d (.rd (x11.Exps.map intD))],.ag [.d (.rd (x12.Coef.map qc9)),.d (.rd (x12.Exps.map intD))]]) rfl
 try simp only [go_sem] at h18k
 rcases iteP hr with ⟨h19,hr⟩ | ⟨h19,hr⟩
 obtain ⟨x14,h20,hr⟩:=bsome hr
 have h20a:=eq_true (qb9 h20).1
 have h20b : ((w64 (s3 + (w64 ((w64 (2 * s10)) + 1)))) < (n0 : Int)) = True:=eq_true (by have hb : (w64 (s3 + (w64 ((w64 (2 * s10)) + 1)))) < ((o0.set (w64 (s3 + s10)).toNat x12).length : Int):=(qb9 h20).2.1; simp only [llA,lrA] at hb; omega)
 have h20c:=(qb9 h20).2.2
 obtain rfl:=oiA hr
 refine ⟨⟨gt,?_⟩,(show ((o0.set (w64 (s3 + s10)).toNat x12).set (w64 (s3 + (w64 ((w64 (2 * s10)) + 1)))).toNat x11).length = n0 by first | assumption | (simp only [llA,lrA]; first | done | assumption | omega) | omega)⟩
 rotate_left
 obtain rfl:=oiA hr
 refine xl_of ⟨gt,rfl,rfl,(show o0.length = n0 by first | assumption | (simp only [llA,lrA]; first | done | assumption | omega) | omega)⟩ ?_
 rotate_left
 all_goals (simp +decide only [go_sem,decide_not,qbG9,qqF9, *])
theorem qcP9 {s1 : Int} {s2 : Int} {s3 : Int} {o0 : List Mono} {g1 : AHeap} {v0 : Nat} {n0 : Nat} {g2 : AHeap} (hln0 : o0.length = n0) {r : (List Mono)} (hr : qG9 s1 s2 s3 o0 = some r) : ∃ hz : AHeap,Lim C 99 [.ref g1.length v0 0 n0,PI s1,PI s2,PI s3,.fn 76 []] (g1++(.row false v0 2 (rowP qa9 o0)::g2)) = some (resOf [],(g1++(.row false v0 2 (rowP qa9 r)::(g2++hz))))∧r.length = n0:=by
 simp only [qG9] at hr
 obtain ⟨x15,h1,hr⟩:=bsome hr
 obtain ⟨q1,h1L,h1X⟩:=(qeC9 (g1:=g1) (v0:=v0) (n0:=n0) (g2:=g2)).L (g:=[]) h1 (show o0.length = n0 by first | assumption | (simp only [llA,lrA]; first | done | assumption | omega) | omega)
 rcases x15 with ⟨x16,x17⟩ | x20
 try dsimp only at hr
 obtain ⟨z18,z19,rfl,h1l0⟩:=h1X
 simp only [qbG9,go_sem] at h1L
 try simp only [hln0] at h1L
 obtain rfl:=oiA hr
 refine ⟨z19,run_L is99 (nbA rfl) ?_,(show x17.length = n0 by first | assumption | (simp only [llA,lrA]; first | done | assumption | omega) | omega)⟩
 rotate_left
 try dsimp only at hr
 obtain ⟨st1,_,_,rfl,h1R,y1,rfl,rfl,h1f0⟩:=h1X
 simp only [qbG9,go_sem] at h1L
 try simp only [hln0] at h1L
 obtain rfl:=oiA hr
 refine ⟨y1,run_L is99 (nbA rfl) ?_,h1f0⟩
 rotate_left
 all_goals (simp +decide only [go_sem,decide_not,c99, *])
def qqZ9 : ACode:=.seq (.seq (.reg [] [] [.M 32 12,.K 33 (.bin .geq (.tmp 32) (cI 0))]) (.cond (.tmp 33) (some 33) (.skip) (.exit 2))) (.seq (.block 3 8589934592 (.seq (.reg [] [] [.M 36 0,.M 37 8,.M 38 0,.M 39 8,.M 40 12,.T 41 (.bin .add (.tmp 39) (.tmp 40)),.M 42 0,.M 43 8,.M 44 12,.T 45 (.bin .add (.tmp 43) (.tmp 44)),⟨some (46,false),.ix 2 (.tmp 42) (.tmp 45),none,true,false⟩,⟨some (47,false),.load (some 2) (.tmp 46),none,true,false⟩,.M 48 0,.M 49 8,⟨some (50,false),.ix 2 (.tmp 48) (.tmp 49),none,true,false⟩,⟨some (51,false),.load (some 2) (.tmp 50),none,true,false⟩,⟨some (52,false),.ix 2 (.tmp 36) (.tmp 37),none,true,false⟩,⟨none,.store 2 (.tmp 52) (.tmp 47),none,false,false⟩,⟨some (53,false),.ix 2 (.tmp 38) (.tmp 41),none,true,false⟩,⟨none,.store 2 (.tmp 53) (.tmp 51),none,false,false⟩]) (.reg [] [] [.M 54 0,.M 55 9,.M 56 12,.M 57 8,.M 58 3,.T 59 (.call 99 [.tmp 54,.tmp 55,.tmp 56,.tmp 57,.tmp 58])]))) (.reg [] [] [.M 34 12,.T 35 (.bin .sub (.tmp 34) (cI 1)),.N 12 35]))
def qqt9 : ACode:=.seq (.seq (.reg [] [] [.M 20 11,.K 21 (.bin .geq (.tmp 20) (cI 0))]) (.cond (.tmp 21) (some 21) (.skip) (.exit 0))) (.seq (.block 1 2097152 (.reg [] [] [.M 24 0,.M 25 11,.M 26 10,.M 27 8,.M 28 3,.T 29 (.call 99 [.tmp 24,.tmp 25,.tmp 26,.tmp 27,.tmp 28])])) (.reg [] [] [.M 22 11,.T 23 (.bin .sub (.tmp 22) (cI 1)),.N 11 23]))
def c90 : ACode:=.seq (.reg [] [] [.M 13 1,.N 8 13]) (.seq (.reg [] [] [.K 9 (.mv (cI 0))]) (.seq (.reg [] [] [.M 14 2,.M 15 1,.T 16 (.bin .sub (.tmp 14) (.tmp 15)),.N 10 16]) (.seq (.seq (.reg [] [] [.M 17 10,.T 18 (.bin .sub (.tmp 17) (cI 1)),.T 19 (.binM .quo (.tmp 18) (cI 2)),.N 11 19]) (.block 0 2097152 (.loop qqt9))) (.seq (.reg [] [] [.M 30 10,.T 31 (.bin .sub (.tmp 30) (cI 1)),.N 12 31]) (.block 2 8589934592 (.loop qqZ9))))))
theorem is90 : IsF C 90 60 8592039695 c90 []:=⟨⟨Try.f90,_,C_P ▸ Try.func90,rfl,rfl,rfl,by kernel_rfl,rfl⟩⟩
def qbF9 (s1 : Int) (s2 : Int) (s8 : Int) (s10 : Int) (s11 : Int) (g1 : AHeap) (v0 : Nat) (n0 : Nat) (g2 : AHeap) : Int × (List Mono)→AHeap→St:=fun (s12,o0) gt=>⟨[(0,.ref g1.length v0 0 n0),(1,PI s1),(2,PI s2),(3,.fn 76 []),(8,PI s8),(9,PI 0),(10,PI s10),(11,PI s11),(12,PI s12)],(g1++(.row false v0 2 (rowP qa9 o0)::(g2++gt)))⟩
def qcM9 (s1 : Int) (s2 : Int) (s8 : Int) (s10 : Int) (s11 : Int) (g1 : AHeap) (v0 : Nat) (n0 : Nat) (g2 : AHeap) : Int × (List Mono)→Prop:=fun (s12,o0)=>o0.length = n0
def qeE9 (s1 : Int) (s2 : Int) (s8 : Int) (s10 : Int) (s11 : Int) (g1 : AHeap) (v0 : Nat) (n0 : Nat) (g2 : AHeap) : (Int × (List Mono))→AExit × St→Prop:=fun (s12,o0) q=>∃ g,q = (.exit 2,qbF9 s1 s2 s8 s10 s11 g1 v0 n0 g2 (s12,o0) g)∧o0.length = n0
theorem qeJ9 {s1 : Int} {s2 : Int} {s8 : Int} {s10 : Int} {s11 : Int} {g1 : AHeap} {v0 : Nat} {n0 : Nat} {g2 : AHeap} : SimI C 8592039695 qqZ9 (qcM9 s1 s2 s8 s10 s11 g1 v0 n0 g2) (qB9 s1 s2 s8 s10 s11) (qbF9 s1 s2 s8 s10 s11 g1 v0 n0 g2) (qeE9 s1 s2 s8 s10 s11 g1 v0 n0 g2):=by
 intro s g r hI hr
 obtain ⟨s12,o0⟩:=s
 have ⟨gt,hg0⟩ : ∃ y,y = g:=⟨_,rfl⟩
 subst hg0
 simp only [qcM9] at hI
 have hI0:=hI
 simp only [qB9] at hr
 rcases iteP hr with ⟨h1,hr⟩ | ⟨h1,hr⟩
 obtain ⟨x8,h2,x9,h3,x10,h4,x11,h5,hr⟩:=bs4 hr
 have h2a:=eq_true (qb9 h2).1
 have h2b : ((w64 (s8 + s12)) < (n0 : Int)) = True:=eq_true (by have hb : (w64 (s8 + s12)) < (o0.length : Int):=(qb9 h2).2.1; omega)
 have h2c:=(qb9 h2).2.2
 have h3a:=eq_true (qb9 h3).1
 have h3b : (s8 < (n0 : Int)) = True:=eq_true (by have hb : s8 < (o0.length : Int):=(qb9 h3).2.1; omega)
 have h3c:=(qb9 h3).2.2
 have h4a:=eq_true (qb9 h4).1
 have h4b : ((w64 (s8 + s12)) < (n0 : Int)) = True:=eq_true (by have hb : (w64 (s8 + s12)) < ((o0.set (s8).toNat x8).length : Int):=(qb9 h4).2.1; simp only [llA,lrA] at hb; omega)
 have h4c:=(qb9 h4).2.2
 obtain ⟨z12,h5k,h5l0⟩:=qcP9 (g1:=g1) (v0:=v0) (n0:=n0) (g2:=(g2++gt)) (show ((o0.set (s8).toNat x8).set (w64 (s8 + s12)).toNat x9).length = n0 by first | assumption | (simp only [llA,lrA]; first | done | assumption | omega) | omega) h5
 replace h5k:=qD9 rfl rfl rfl h5k
 try simp only [go_sem] at h5k
 obtain rfl:=oiA hr
 refine ⟨⟨(gt++z12),?_⟩,(show x11.length = n0 by first | assumption | (simp only [llA,lrA]; first | done | assumption | omega) | omega)⟩
 rotate_left
 obtain rfl:=oiA hr
 refine xe_of ⟨gt,rfl,(show o0.length = n0 by first | assumption | (simp only [llA,lrA]; first | done | assumption | omega) | omega)⟩ ?_
 rotate_left
 all_goals (simp +decide only [go_sem,decide_not,qbF9,qqZ9, *])
def qbB9 (s1 : Int) (s2 : Int) (s8 : Int) (s10 : Int) (g1 : AHeap) (v0 : Nat) (n0 : Nat) (g2 : AHeap) : Int × (List Mono)→AHeap→St:=fun (s11,o0) gt=>⟨[(0,.ref g1.length v0 0 n0),(1,PI s1),(2,PI s2),(3,.fn 76 []),(8,PI s8),(9,PI 0),(10,PI s10),(11,PI s11)],(g1++(.row false v0 2 (rowP qa9 o0)::(g2++gt)))⟩
def qcN9 (s1 : Int) (s2 : Int) (s8 : Int) (s10 : Int) (g1 : AHeap) (v0 : Nat) (n0 : Nat) (g2 : AHeap) : Int × (List Mono)→Prop:=fun (s11,o0)=>o0.length = n0
def qeD9 (s1 : Int) (s2 : Int) (s8 : Int) (s10 : Int) (g1 : AHeap) (v0 : Nat) (n0 : Nat) (g2 : AHeap) : (Int × (List Mono))→AExit × St→Prop:=fun (s11,o0) q=>∃ g,q = (.exit 0,qbB9 s1 s2 s8 s10 g1 v0 n0 g2 (s11,o0) g)∧o0.length = n0
theorem qeG9 {s1 : Int} {s2 : Int} {s8 : Int} {s10 : Int} {g1 : AHeap} {v0 : Nat} {n0 : Nat} {g2 : AHeap} : SimI C 8592039695 qqt9 (qcN9 s1 s2 s8 s10 g1 v0 n0 g2) (qC9 s1 s2 s8 s10) (qbB9 s1 s2 s8 s10 g1 v0 n0 g2) (qeD9 s1 s2 s8 s10 g1 v0 n0 g2):=by
 intro s g r hI hr
 obtain ⟨s11,o0⟩:=s
 have ⟨gt,hg0⟩ : ∃ y,y = g:=⟨_,rfl⟩
 subst hg0
 simp only [qcN9] at hI
 have hI0:=hI
 simp only [qC9] at hr
 rcases iteP hr with ⟨h1,hr⟩ | ⟨h1,hr⟩
 obtain ⟨x2,h2,hr⟩:=bsome hr
 obtain ⟨z3,h2k,h2l0⟩:=qcP9 (g1:=g1) (v0:=v0) (n0:=n0) (g2:=(g2++gt)) (show o0.length = n0 by first | assumption | (simp only [llA,lrA]; first | done | assumption | omega) | omega) h2
 replace h2k:=qD9 rfl rfl rfl h2k
 try simp only [go_sem] at h2k
 obtain rfl:=oiA hr
 refine ⟨⟨(gt++z3),?_⟩,(show x2.length = n0 by first | assumption | (simp only [llA,lrA]; first | done | assumption | omega) | omega)⟩
 rotate_left
 obtain rfl:=oiA hr
 refine xe_of ⟨gt,rfl,(show o0.length = n0 by first | assumption | (simp only [llA,lrA]; first | done | assumption | omega) | omega)⟩ ?_
 rotate_left
 all_goals (simp +decide only [go_sem,decide_not,qbB9,qqt9, *])
theorem qeR9 {s1 : Int} {s2 : Int} {o0 : List Mono} {g1 : AHeap} {v0 : Nat} {n0 : Nat} {g2 : AHeap} (hln0 : o0.length = n0) {r : (List Mono)} (hr : qbg9 s1 s2 o0 = some r) : ∃ hz : AHeap,Lim C 90 [.ref g1.length v0 0 n0,PI s1,PI s2,.fn 76 []] (g1++(.row false v0 2 (rowP qa9 o0)::g2)) = some (resOf [],(g1++(.row false v0 2 (rowP qa9 r)::(g2++hz))))∧r.length = n0:=by
 simp only [qbg9] at hr
 obtain ⟨x1,h1,hr⟩:=bsome hr
 obtain ⟨x4,h2,hr⟩:=bsome hr
 obtain ⟨q2,h2L,h2X⟩:=(qeG9 (g1:=g1) (v0:=v0) (n0:=n0) (g2:=g2)).L (g:=[]) h2 (show o0.length = n0 by first | assumption | (simp only [llA,lrA]; first | done | assumption | omega) | omega)
 obtain ⟨x5,x6⟩:=x4
 try dsimp only at hr
 obtain ⟨z7,rfl,h2l0⟩:=h2X
 simp only [qbB9,go_sem] at h2L
 try simp only [hln0] at h2L
 obtain ⟨x13,h3,hr⟩:=bsome hr
 obtain ⟨q3,h3L,h3X⟩:=(qeJ9 (g1:=g1) (v0:=v0) (n0:=n0) (g2:=(g2++z7))).L (g:=[]) h3 (show x6.length = n0 by first | assumption | (simp only [llA,lrA]; first | done | assumption | omega) | omega)
 obtain ⟨x14,x15⟩:=x13
 try dsimp only at hr
 obtain ⟨z16,rfl,h3l0⟩:=h3X
 simp only [qbF9,go_sem] at h3L
 try simp only [hln0] at h3L
 obtain rfl:=oiA hr
 refine ⟨(z7++z16),run_L is90 (nbA rfl) ?_,(show x15.length = n0 by first | assumption | (simp only [llA,lrA]; first | done | assumption | omega) | omega)⟩
 rotate_left
 all_goals (simp +decide only [go_sem,decide_not,c90, *])
end Lt
namespace Lt
open Ld Go Go.Proofs Go.Abs
set_option maxRecDepth 8000
theorem qjC9 {a0 r : Int} (hr : qfA9 a0 = some r) {h : AHeap} : callP C (Lim C) 87 [.d (.v (.int .u64 a0))] h = some (.d (.v (.int .i64 r)),h):=by
 have e : C.prim 87 = some qeH9:=rfl
 obtain ⟨h1,h2⟩:=gsome hr
 simp only [callP,e,qeH9]
 rw [if_pos (of_eq_true h1)]
 rw [← oiA h2]

def qqG9 : ACode:=.seq (.seq (.reg [] [] [.M 13 8,.M 14 9,.K 15 (.bin .lss (.tmp 13) (.tmp 14))]) (.cond (.tmp 15) (some 15) (.skip) (.exit 0))) (.block 1 32768 (.seq (.reg [] [] [.M 16 0,.M 17 8,.M 18 0,.M 19 9,.M 20 0,.M 21 9,⟨some (22,false),.ix 2 (.tmp 20) (.tmp 21),none,true,false⟩,⟨some (23,false),.load (some 2) (.tmp 22),none,true,false⟩,.M 24 0,.M 25 8,⟨some (26,false),.ix 2 (.tmp 24) (.tmp 25),none,true,false⟩,⟨some (27,false),.load (some 2) (.tmp 26),none,true,false⟩,⟨some (28,false),.ix 2 (.tmp 16) (.tmp 17),none,true,false⟩,⟨none,.store 2 (.tmp 28) (.tmp 23),none,false,false⟩,⟨some (29,false),.ix 2 (.tmp 18) (.tmp 19),none,true,false⟩,⟨none,.store 2 (.tmp 29) (.tmp 27),none,false,false⟩]) (.seq (.reg [] [] [.M 30 8,.T 31 (.bin .add (.tmp 30) (cI 1)),.N 8 31]) (.reg [] [] [.M 32 9,.T 33 (.bin .sub (.tmp 32) (cI 1)),.N 9 33]))))
def c93 : ACode:=.seq (.reg [] [] [.M 10 1,.N 8 10]) (.seq (.reg [] [] [.M 11 2,.T 12 (.bin .sub (.tmp 11) (cI 1)),.N 9 12]) (.block 0 32768 (.loop qqG9)))
theorem is93 : IsF C 93 34 33543 c93 []:=⟨⟨Try.f93,_,C_P ▸ Try.func93,rfl,rfl,rfl,by kernel_rfl,rfl⟩⟩
def qbq9 (s1 : Int) (s2 : Int) (g1 : AHeap) (v0 : Nat) (n0 : Nat) (g2 : AHeap) : Int × Int × (List Mono)→Unit→St:=fun (s8,s9,o0) _=>⟨[(0,.ref g1.length v0 0 n0),(1,PI s1),(2,PI s2),(8,PI s8),(9,PI s9)],(g1++(.row false v0 2 (rowP qa9 o0)::g2))⟩
def qcA9 (s1 : Int) (s2 : Int) (g1 : AHeap) (v0 : Nat) (n0 : Nat) (g2 : AHeap) : Int × Int × (List Mono)→Prop:=fun (s8,s9,o0)=>o0.length = n0
def qdY9 (s1 : Int) (s2 : Int) (g1 : AHeap) (v0 : Nat) (n0 : Nat) (g2 : AHeap) : (Int × Int × (List Mono))→AExit × St→Prop:=fun (s8,s9,o0) q=>∃ g,q = (.exit 0,qbq9 s1 s2 g1 v0 n0 g2 (s8,s9,o0) g)∧o0.length = n0
theorem qea9 {s1 : Int} {s2 : Int} {g1 : AHeap} {v0 : Nat} {n0 : Nat} {g2 : AHeap} : SimI C 33543 qqG9 (qcA9 s1 s2 g1 v0 n0 g2) (qs9 s1 s2) (qbq9 s1 s2 g1 v0 n0 g2) (qdY9 s1 s2 g1 v0 n0 g2):=by
 intro s g r hI hr
 obtain ⟨s8,s9,o0⟩:=s
 simp only [qcA9] at hI
 have hI0:=hI
 simp only [qs9] at hr
 rcases iteP hr with ⟨h1,hr⟩ | ⟨h1,hr⟩
 obtain ⟨x1,h2,x2,h3,x3,h4,hr⟩:=bs3 hr
 have h2a:=eq_true (qb9 h2).1
 have h2b : (s9 < (n0 : Int)) = True:=eq_true (by have hb : s9 < (o0.length : Int):=(qb9 h2).2.1; omega)
 have h2c:=(qb9 h2).2.2
 have h3a:=eq_true (qb9 h3).1
 have h3b : (s8 < (n0 : Int)) = True:=eq_true (by have hb : s8 < (o0.length : Int):=(qb9 h3).2.1; omega)
 have h3c:=(qb9 h3).2.2
 have h4a:=eq_true (qb9 h4).1
 have h4b : (s9 < (n0 : Int)) = True:=eq_true (by have hb : s9 < ((o0.set (s8).toNat x1).length : Int):=(qb9 h4).2.1; simp only [llA,lrA] at hb; omega)
 have h4c:=(qb9 h4).2.2
 obtain rfl:=oiA hr
 refine ⟨⟨(),?_⟩,(show ((o0.set (s8).toNat x1).set (s9).toNat x2).length = n0 by first | assumption | (simp only [llA,lrA]; first | done | assumption | omega) | omega)⟩
 rotate_left
 obtain rfl:=oiA hr
 refine xe_of ⟨(),rfl,(show o0.length = n0 by first | assumption | (simp only [llA,lrA]; first | done | assumption | omega) | omega)⟩ ?_
 rotate_left
 all_goals (simp +decide only [go_sem,decide_not,qbq9,qqG9, *])
theorem qcB9 {s1 : Int} {s2 : Int} {o0 : List Mono} {g1 : AHeap} {v0 : Nat} {n0 : Nat} {g2 : AHeap} (hln0 : o0.length = n0) {r : (List Mono)} (hr : qA9 s1 s2 o0 = some r) : Lim C 93 [.ref g1.length v0 0 n0,PI s1,PI s2,.fn 76 []] (g1++(.row false v0 2 (rowP qa9 o0)::g2)) = some (resOf [],(g1++(.row false v0 2 (rowP qa9 r)::g2)))∧r.length = n0:=by
 simp only [qA9] at hr
 obtain ⟨x4,h1,hr⟩:=bsome hr
 obtain ⟨q1,h1L,h1X⟩:=(qea9 (g1:=g1) (v0:=v0) (n0:=n0) (g2:=g2)).L (g:=()) h1 (show o0.length = n0 by first | assumption | (simp only [llA,lrA]; first | done | assumption | omega) | omega)
 obtain ⟨x5,x6,x7⟩:=x4
 try dsimp only at hr
 obtain ⟨⟨⟩,rfl,h1l0⟩:=h1X
 simp only [qbq9,go_sem] at h1L
 try simp only [hln0] at h1L
 obtain rfl:=oiA hr
 refine ⟨run_L is93 (nbA rfl) ?_,(show x7.length = n0 by first | assumption | (simp only [llA,lrA]; first | done | assumption | omega) | omega)⟩
 rotate_left
 all_goals (simp +decide only [go_sem,decide_not,c93, *])
def c100 : ACode:=.seq (.reg [] [] [.K 2 (.mv (.const (.int .u64 0)))]) (.seq (.reg [] [] [.M 3 0,.T 4 (.wrap .u64 (.tmp 3)),.T 5 (.call 87 [.tmp 4]),.T 6 (.sh .shl (.const (.int .u64 1)) (.tmp 5)),.N 2 6]) (.ret))
theorem is100 : IsF C 100 7 5 c100 [.tmp 2]:=⟨⟨Try.f100,_,C_P ▸ Try.func100,rfl,rfl,rfl,by kernel_rfl,rfl⟩⟩
theorem qjp9 {a0 : Int} {r : Int} (hr : qdx9 a0 = some r) : Res C 100 [.v (.int .i64 a0)] (.d (.v (.int .u64 r))):=by
 simp only [qdx9] at hr
 obtain ⟨x1,h1,x2,h2,hr⟩:=bs2 hr
 have h1k:=fun h=>qjC9 (h:=h) h1
 try simp only [go_sem] at h1k
 obtain rfl:=oiA hr
 refine run_V is100 (nbA rfl) ?_
 rotate_left
 all_goals (simp +decide only [go_sem,decide_not,c100, *])
def c101 : ACode:=.seq (.reg [] [] [.K 2 (.mv (.const (.int .u64 0)))]) (.seq (.reg [] [] [.M 3 0,.T 4 (.nilC (.tmp 3)),⟨some (5,false),.load none (.tmp 4),none,true,false⟩,.M 6 0,.T 7 (.nilC (.tmp 6)),⟨some (8,false),.load none (.tmp 7),none,true,false⟩,.T 9 (.sh .shl (.tmp 8) (.const (.int .u64 13))),.T 10 (.binM .xor (.tmp 5) (.tmp 9)),.T 11 (.nilC (.tmp 3)),⟨none,.store 1 (.tmp 11) (.tmp 10),none,false,false⟩]) (.seq (.reg [] [] [.M 12 0,.T 13 (.nilC (.tmp 12)),⟨some (14,false),.load none (.tmp 13),none,true,false⟩,.M 15 0,.T 16 (.nilC (.tmp 15)),⟨some (17,false),.load none (.tmp 16),none,true,false⟩,.T 18 (.sh .shr (.tmp 17) (.const (.int .u64 7))),.T 19 (.binM .xor (.tmp 14) (.tmp 18)),.T 20 (.nilC (.tmp 12)),⟨none,.store 1 (.tmp 20) (.tmp 19),none,false,false⟩]) (.seq (.reg [] [] [.M 21 0,.T 22 (.nilC (.tmp 21)),⟨some (23,false),.load none (.tmp 22),none,true,false⟩,.M 24 0,.T 25 (.nilC (.tmp 24)),⟨some (26,false),.load none (.tmp 25),none,true,false⟩,.T 27 (.sh .shl (.tmp 26) (.const (.int .u64 17))),.T 28 (.binM .xor (.tmp 23) (.tmp 27)),.T 29 (.nilC (.tmp 21)),⟨none,.store 1 (.tmp 29) (.tmp 28),none,false,false⟩]) (.seq (.reg [] [] [.M 30 0,.T 31 (.nilC (.tmp 30)),.T 32 (.load none (.tmp 31)),.N 2 32]) (.ret)))))
theorem is101 : IsF C 101 33 5 c101 [.tmp 2]:=⟨⟨Try.f101,_,C_P ▸ Try.func101,rfl,rfl,rfl,by kernel_rfl,rfl⟩⟩
theorem qjI9 {b0_0 : Int} {g1 : AHeap} {g2 : AHeap} {r : Int × Int} (hr : qdB9 b0_0 = some r) : Lim C 101 [.ptr g1.length 0 0 0] (g1++(.row false 0 1 [[.d (.v (.int .u64 b0_0))]]::g2)) = some (resOf [.d (.v (.int .u64 r.1))],(g1++(.row false 0 1 [[.d (.v (.int .u64 r.2))]]::g2))):=by
 simp only [qdB9] at hr
 obtain ⟨x1,h1,x2,h2,x3,h3,hr⟩:=bs3 hr
 obtain rfl:=oiA hr
 refine run_L is101 (nbA rfl) ?_
 rotate_left
 all_goals (simp +decide only [go_sem,decide_not,c101, *])
def qqS9 : ACode:=.seq (.seq (.reg [] [] [.M 28 11,.M 29 1,.M 30 8,.T 31 (.binM .quo (.tmp 30) (cI 4)),.T 32 (.bin .mul (.tmp 31) (cI 2)),.T 33 (.bin .add (.tmp 29) (.tmp 32)),.T 34 (.bin .add (.tmp 33) (cI 1)),.K 35 (.bin .leq (.tmp 28) (.tmp 34))]) (.cond (.tmp 35) (some 35) (.skip) (.exit 0))) (.seq (.block 1 35218731831296 (.seq (.reg [] [] [.T 38 (.call 101 [.tmp 9]),.M 39 10,.T 40 (.bin .sub (.tmp 39) (.const (.int .u64 1))),.T 41 (.binM .and (.tmp 38) (.tmp 40)),.T 42 (.wrap .i64 (.tmp 41)),.N 12 42]) (.seq (.seq (.reg [] [] [.M 43 12,.M 44 8,.K 45 (.bin .geq (.tmp 43) (.tmp 44))]) (.cond (.tmp 45) (some 45) (.reg [] [] [.M 46 12,.M 47 8,.T 48 (.bin .sub (.tmp 46) (.tmp 47)),.N 12 48]) (.skip))) (.reg [] [] [.M 49 0,.M 50 11,.M 51 0,.M 52 1,.M 53 12,.T 54 (.bin .add (.tmp 52) (.tmp 53)),.M 55 0,.M 56 1,.M 57 12,.T 58 (.bin .add (.tmp 56) (.tmp 57)),⟨some (59,false),.ix 2 (.tmp 55) (.tmp 58),none,true,false⟩,⟨some (60,false),.load (some 2) (.tmp 59),none,true,false⟩,.M 61 0,.M 62 11,⟨some (63,false),.ix 2 (.tmp 61) (.tmp 62),none,true,false⟩,⟨some (64,false),.load (some 2) (.tmp 63),none,true,false⟩,⟨some (65,false),.ix 2 (.tmp 49) (.tmp 50),none,true,false⟩,⟨none,.store 2 (.tmp 65) (.tmp 60),none,false,false⟩,⟨some (66,false),.ix 2 (.tmp 51) (.tmp 54),none,true,false⟩,⟨none,.store 2 (.tmp 66) (.tmp 64),none,false,false⟩])))) (.reg [] [] [.M 36 11,.T 37 (.bin .add (.tmp 36) (cI 1)),.N 11 37]))
def c91 : ACode:=.seq (.reg [] [] [.M 13 2,.M 14 1,.T 15 (.bin .sub (.tmp 13) (.tmp 14)),.N 8 15]) (.seq (.reg [] [] [.M 16 8,.K 17 (.bin .geq (.tmp 16) (cI 8))]) (.cond (.tmp 17) (some 17) (.seq (.reg [] [] [.M 18 8,.T 19 (.wrap .u64 (.tmp 18)),.K 9 (.alloc [.d (.v (.int .u64 0))] 1),⟨none,.store 1 (.tmp 9) (.tmp 19),none,false,false⟩]) (.seq (.reg [] [] [.M 20 8,.T 21 (.call 100 [.tmp 20]),.N 10 21]) (.seq (.reg [] [] [.M 22 1,.M 23 8,.T 24 (.binM .quo (.tmp 23) (cI 4)),.T 25 (.bin .mul (.tmp 24) (cI 2)),.T 26 (.bin .add (.tmp 22) (.tmp 25)),.T 27 (.bin .sub (.tmp 26) (cI 1)),.N 11 27]) (.block 0 35218731831296 (.loop qqS9))))) (.skip)))
theorem is91 : IsF C 91 67 35218731966215 c91 []:=⟨⟨Try.f91,_,C_P ▸ Try.func91,rfl,rfl,rfl,by kernel_rfl,rfl⟩⟩
def qbl9 (s1 : Int) (s2 : Int) (s8 : Int) (s10 : Int) (g1 : AHeap) (v0 : Nat) (n0 : Nat) (g2 : AHeap) : Int × (List Mono) × Int→AHeap→St:=fun (s11,o0,b9_0) gt=>⟨[(0,.ref g1.length v0 0 n0),(1,PI s1),(2,PI s2),(8,PI s8),(9,.ptr (g1.length + g2.length + 1) 0 0 0),(10,.d (.v (.int .u64 s10))),(11,PI s11)],(g1++(.row false v0 2 (rowP qa9 o0)::(g2++(.row false 0 1 [[.d (.v (.int .u64 b9_0))]]::gt))))⟩
def qcw9 (s1 : Int) (s2 : Int) (s8 : Int) (s10 : Int) (g1 : AHeap) (v0 : Nat) (n0 : Nat) (g2 : AHeap) : Int × (List Mono) × Int→Prop:=fun (s11,o0,b9_0)=>o0.length = n0
def qdM9 (s1 : Int) (s2 : Int) (s8 : Int) (s10 : Int) (g1 : AHeap) (v0 : Nat) (n0 : Nat) (g2 : AHeap) : (Int × (List Mono) × Int)→AExit × St→Prop:=fun (s11,o0,b9_0) q=>∃ g,q = (.exit 0,qbl9 s1 s2 s8 s10 g1 v0 n0 g2 (s11,o0,b9_0) g)∧o0.length = n0
theorem qdR9 {s1 : Int} {s2 : Int} {s8 : Int} {s10 : Int} {g1 : AHeap} {v0 : Nat} {n0 : Nat} {g2 : AHeap} : SimI C 35218731966215 qqS9 (qcw9 s1 s2 s8 s10 g1 v0 n0 g2) (qm9 s1 s2 s8 s10) (qbl9 s1 s2 s8 s10 g1 v0 n0 g2) (qdM9 s1 s2 s8 s10 g1 v0 n0 g2):=by
 intro s g r hI hr
 obtain ⟨s11,o0,b9_0⟩:=s
 have ⟨gt,hg0⟩ : ∃ y,y = g:=⟨_,rfl⟩
 subst hg0
 simp only [qcw9] at hI
 have hI0:=hI
 simp only [qm9] at hr
 obtain ⟨x3,h1,hr⟩:=bsome hr
 rcases iteP hr with ⟨h2,hr⟩ | ⟨h2,hr⟩
 obtain ⟨x4,h3,hr⟩:=bsome hr
 have h3k:=qD9 rfl rfl rfl (qjI9 (g1:=(g1++(.row false v0 2 (rowP qa9 o0)::g2))) (g2:=gt) h3)
 try simp only [go_sem] at h3k
 rcases iteP hr with ⟨h4,hr⟩ | ⟨h4,hr⟩
 obtain ⟨x5,h5,x6,h6,x7,h7,hr⟩:=bs3 hr
 have h5a:=eq_true (qb9 h5).1
 have h5b : ((w64 (s1 + (w64 ((w64 (andV .u64 x4.1 (IntKind.u64.wrap (s10 - 1)))) - s8)))) < (n0 : Int)) = True:=eq_true (by have hb : (w64 (s1 + (w64 ((w64 (andV .u64 x4.1 (IntKind.u64.wrap (s10 - 1)))) - s8)))) < (o0.length : Int):=(qb9 h5).2.1; omega)
 have h5c:=(qb9 h5).2.2
 have h6a:=eq_true (qb9 h6).1
 have h6b : (s11 < (n0 : Int)) = True:=eq_true (by have hb : s11 < (o0.length : Int):=(qb9 h6).2.1; omega)
 have h6c:=(qb9 h6).2.2
 have h7a:=eq_true (qb9 h7).1
 have h7b : ((w64 (s1 + (w64 ((w64 (andV .u64 x4.1 (IntKind.u64.wrap (s10 - 1)))) - s8)))) < (n0 : Int)) = True:=eq_true (by have hb : (w64 (s1 + (w64 ((w64 (andV .u64 x4.1 (IntKind.u64.wrap (s10 - 1)))) - s8)))) < ((o0.set (s11).toNat x5).length : Int):=(qb9 h7).2.1; simp only [llA,lrA] at hb; omega)
 have h7c:=(qb9 h7).2.2
 obtain rfl:=oiA hr
 refine ⟨⟨gt,?_⟩,(show ((o0.set (s11).toNat x5).set (w64 (s1 + (w64 ((w64 (andV .u64 x4.1 (IntKind.u64.wrap (s10 - 1)))) - s8)))).toNat x6).length = n0 by first | assumption | (simp only [llA,lrA]; first | done | assumption | omega) | omega)⟩
 rotate_left
 obtain ⟨x8,h8,x9,h9,x10,h10,hr⟩:=bs3 hr
 have h8a:=eq_true (qb9 h8).1
 have h8b : ((w64 (s1 + (w64 (andV .u64 x4.1 (IntKind.u64.wrap (s10 - 1)))))) < (n0 : Int)) = True:=eq_true (by have hb : (w64 (s1 + (w64 (andV .u64 x4.1 (IntKind.u64.wrap (s10 - 1)))))) < (o0.length : Int):=(qb9 h8).2.1; omega)
 have h8c:=(qb9 h8).2.2
 have h9a:=eq_true (qb9 h9).1
 have h9b : (s11 < (n0 : Int)) = True:=eq_true (by have hb : s11 < (o0.length : Int):=(qb9 h9).2.1; omega)
 have h9c:=(qb9 h9).2.2
 have h10a:=eq_true (qb9 h10).1
 have h10b : ((w64 (s1 + (w64 (andV .u64 x4.1 (IntKind.u64.wrap (s10 - 1)))))) < (n0 : Int)) = True:=eq_true (by have hb : (w64 (s1 + (w64 (andV .u64 x4.1 (IntKind.u64.wrap (s10 - 1)))))) < ((o0.set (s11).toNat x8).length : Int):=(qb9 h10).2.1; simp only [llA,lrA] at hb; omega)
 have h10c:=(qb9 h10).2.2
 obtain rfl:=oiA hr
 refine ⟨⟨gt,?_⟩,(show ((o0.set (s11).toNat x8).set (w64 (s1 + (w64 (andV .u64 x4.1 (IntKind.u64.wrap (s10 - 1)))))).toNat x9).length = n0 by first | assumption | (simp only [llA,lrA]; first | done | assumption | omega) | omega)⟩
 rotate_left
 obtain rfl:=oiA hr
 refine xe_of ⟨gt,rfl,(show o0.length = n0 by first | assumption | (simp only [llA,lrA]; first | done | assumption | omega) | omega)⟩ ?_
 rotate_left
 all_goals (simp +decide only [go_sem,decide_not,qbl9,qqS9, *])
theorem qeb9 {s1 : Int} {s2 : Int} {o0 : List Mono} {g1 : AHeap} {v0 : Nat} {n0 : Nat} {g2 : AHeap} (hln0 : o0.length = n0) {r : (List Mono)} (hr : qU9 s1 s2 o0 = some r) : ∃ hz : AHeap,Lim C 91 [.ref g1.length v0 0 n0,PI s1,PI s2,.fn 76 []] (g1++(.row false v0 2 (rowP qa9 o0)::g2)) = some (resOf [],(g1++(.row false v0 2 (rowP qa9 r)::(g2++hz))))∧r.length = n0:=by
 simp only [qU9] at hr
 rcases iteP hr with ⟨h1,hr⟩ | ⟨h1,hr⟩
 obtain ⟨x1,h2,x2,h3,hr⟩:=bs2 hr
 have h2k:=(qjp9 h2).k rfl rfl rfl
 try simp only [go_sem] at h2k
 obtain ⟨x11,h4,hr⟩:=bsome hr
 obtain ⟨q4,h4L,h4X⟩:=(qdR9 (g1:=g1) (v0:=v0) (n0:=n0) (g2:=g2)).L (g:=[]) h4 (show o0.length = n0 by first | assumption | (simp only [llA,lrA]; first | done | assumption | omega) | omega)
 obtain ⟨x12,x13,x14⟩:=x11
 try dsimp only at hr
 obtain ⟨z15,rfl,h4l0⟩:=h4X
 simp only [qbl9,go_sem] at h4L
 try simp only [hln0] at h4L
 obtain rfl:=oiA hr
 refine ⟨(.row false 0 1 [[.d (.v (.int .u64 x14))]]::z15),run_L is91 (nbA rfl) ?_,(show x13.length = n0 by first | assumption | (simp only [llA,lrA]; first | done | assumption | omega) | omega)⟩
 rotate_left
 obtain rfl:=oiA hr
 refine ⟨[],run_L is91 (nbA rfl) ?_,(show o0.length = n0 by first | assumption | (simp only [llA,lrA]; first | done | assumption | omega) | omega)⟩
 rotate_left
 all_goals (simp +decide only [go_sem,decide_not,c91, *])
end Lt

import Derived.Test.YtmkohpkfeamjiaaTSW2
set_option maxHeartbeats 60000000
set_option linter.unusedVariables false
set_option linter.unusedSimpArgs false
set_option linter.unusedSectionVars false
namespace Lt
open Ld Go Go.Proofs Go.Abs
set_option maxRecDepth 8000
def c104 : ACode:=.seq (.reg [] [] [.K 10 (.mv (cI 0)),.K 11 (.mv (cI 0))]) (.seq (.seq (.reg [] [] [.M 12 4,.M 13 0,.M 14 2,⟨some (15,false),.ix 2 (.tmp 13) (.tmp 14),none,true,false⟩,⟨some (16,false),.load (some 2) (.tmp 15),none,true,false⟩,.M 17 0,.M 18 1,⟨some (19,false),.ix 2 (.tmp 17) (.tmp 18),none,true,false⟩,⟨some (20,false),.load (some 2) (.tmp 19),none,true,false⟩,⟨some (21,false),.callV (.tmp 12) [.tmp 16,.tmp 20],none,true,false⟩,.K 22 (.bin .lss (.tmp 21) (cI 0))]) (.cond (.tmp 22) (some 22) (.seq (.reg [] [] [.M 23 3,.T 24 (.nilC (.tmp 23)),.T 25 (.load none (.tmp 24)),.T 26 (.bin .add (.tmp 25) (cI 1)),.T 27 (.nilC (.tmp 23)),⟨none,.store 1 (.tmp 27) (.tmp 26),none,false,false⟩]) (.seq (.reg [] [] [.M 28 2,.M 29 1,.N 10 28,.N 11 29]) (.ret))) (.skip))) (.seq (.reg [] [] [.M 30 1,.M 31 2,.N 10 30,.N 11 31]) (.ret)))
theorem is104 : IsF C 104 32 4197407 c104 [.tmp 10,.tmp 11]:=⟨⟨Try.f104,_,C_P ▸ Try.func104,rfl,rfl,rfl,by kernel_rfl,rfl⟩⟩
theorem qbX9 {s1 : Int} {s2 : Int} {o0 : List Mono} {b3_0 : Int} {g1 : AHeap} {v0 : Nat} {n0 : Nat} {g2 : AHeap} {g3 : AHeap} (hln0 : o0.length = n0) {r : Int × Int × Int} (hr : qI9 s1 s2 o0 b3_0 = some r) : Lim C 104 [.ref g1.length v0 0 n0,PI s1,PI s2,.ptr (g1.length + g2.length + 1) 0 0 0,.fn 76 []] (g1++(.row false v0 2 (rowP qa9 o0)::(g2++(.row false 0 1 [[PI b3_0]]::g3)))) = some (resOf [PI r.1,PI r.2.1],(g1++(.row false v0 2 (rowP qa9 o0)::(g2++(.row false 0 1 [[PI r.2.2]]::g3))))):=by
 simp only [qI9] at hr
 obtain ⟨x1,h1,x2,h2,x3,h3,hr⟩:=bs3 hr
 have h1a:=eq_true (qb9 h1).1
 have h1b : (s2 < (n0 : Int)) = True:=eq_true (by have hb : s2 < (o0.length : Int):=(qb9 h1).2.1; omega)
 have h1c:=(qb9 h1).2.2
 have h2a:=eq_true (qb9 h2).1
 have h2b : (s1 < (n0 : Int)) = True:=eq_true (by have hb : s1 < (o0.length : Int):=(qb9 h2).2.1; omega)
 have h2c:=(qb9 h2).2.2
 have h3k:=fun h=>(qF9 h3).o rfl rfl rfl (h:=h) (args:=[.ag [.d (.rd (x1.Coef.map qc9)),.d (.rd (x1.Exps.map intD))],.ag [.d (.rd (x2.Coef.map qc9)),.d (.rd (x2.Exps.map intD))]]) rfl
 try simp only [go_sem] at h3k
 rcases iteP hr with ⟨h4,hr⟩ | ⟨h4,hr⟩
 obtain rfl:=oiA hr
 refine run_L is104 (nbA rfl) ?_
 rotate_left
 obtain rfl:=oiA hr
 refine run_L is104 (nbA rfl) ?_
 rotate_left
 all_goals (simp +decide only [go_sem,decide_not,c104, *])
def c103 : ACode:=.seq (.reg [] [] [.K 12 (.mv (cI 0))]) (.seq (.reg [] [] [.M 14 0,.M 15 1,.M 16 2,.M 17 4,.M 18 5,.T 19 (.call 104 [.tmp 14,.tmp 15,.tmp 16,.tmp 17,.tmp 18]),.M 13 19,.T 20 (.ext (.tmp 13) 0),.T 21 (.ext (.tmp 13) 1),.N 1 20,.N 2 21]) (.seq (.reg [] [] [.M 23 0,.M 24 2,.M 25 3,.M 26 4,.M 27 5,.T 28 (.call 104 [.tmp 23,.tmp 24,.tmp 25,.tmp 26,.tmp 27]),.M 22 28,.T 29 (.ext (.tmp 22) 0),.T 30 (.ext (.tmp 22) 1),.N 2 29,.N 3 30]) (.seq (.reg [] [] [.M 32 0,.M 33 1,.M 34 2,.M 35 4,.M 36 5,.T 37 (.call 104 [.tmp 32,.tmp 33,.tmp 34,.tmp 35,.tmp 36]),.M 31 37,.T 38 (.ext (.tmp 31) 0),.T 39 (.ext (.tmp 31) 1),.N 1 38,.N 2 39]) (.seq (.reg [] [] [.M 40 2,.N 12 40]) (.ret)))))
theorem is103 : IsF C 103 41 4159 c103 [.tmp 12]:=⟨⟨Try.f103,_,C_P ▸ Try.func103,rfl,rfl,rfl,by kernel_rfl,rfl⟩⟩
theorem qbY9 {s1 : Int} {s2 : Int} {s3 : Int} {o0 : List Mono} {b4_0 : Int} {g1 : AHeap} {v0 : Nat} {n0 : Nat} {g2 : AHeap} {g3 : AHeap} (hln0 : o0.length = n0) {r : Int × Int} (hr : qJ9 s1 s2 s3 o0 b4_0 = some r) : Lim C 103 [.ref g1.length v0 0 n0,PI s1,PI s2,PI s3,.ptr (g1.length + g2.length + 1) 0 0 0,.fn 76 []] (g1++(.row false v0 2 (rowP qa9 o0)::(g2++(.row false 0 1 [[PI b4_0]]::g3)))) = some (resOf [PI r.1],(g1++(.row false v0 2 (rowP qa9 o0)::(g2++(.row false 0 1 [[PI r.2]]::g3))))):=by
 simp only [qJ9] at hr
 obtain ⟨x1,h1,x2,h2,x3,h3,hr⟩:=bs3 hr
 have h1k:=qD9 rfl rfl rfl (qbX9 (g1:=g1) (v0:=v0) (n0:=n0) (g2:=g2) (g3:=g3) (show o0.length = n0 by first | assumption | (simp only [llA,lrA]; first | done | assumption | omega) | omega) h1)
 try simp only [go_sem] at h1k
 have h2k:=qD9 rfl rfl rfl (qbX9 (g1:=g1) (v0:=v0) (n0:=n0) (g2:=g2) (g3:=g3) (show o0.length = n0 by first | assumption | (simp only [llA,lrA]; first | done | assumption | omega) | omega) h2)
 try simp only [go_sem] at h2k
 have h3k:=qD9 rfl rfl rfl (qbX9 (g1:=g1) (v0:=v0) (n0:=n0) (g2:=g2) (g3:=g3) (show o0.length = n0 by first | assumption | (simp only [llA,lrA]; first | done | assumption | omega) | omega) h3)
 try simp only [go_sem] at h3k
 obtain rfl:=oiA hr
 refine run_L is103 (nbA rfl) ?_
 rotate_left
 all_goals (simp +decide only [go_sem,decide_not,c103, *])
def c102 : ACode:=.seq (.reg [] [] [.K 8 (.mv (cI 0))]) (.seq (.reg [] [] [.M 9 0,.M 10 1,.T 11 (.bin .sub (.tmp 10) (cI 1)),.M 12 1,.M 13 1,.T 14 (.bin .add (.tmp 13) (cI 1)),.M 15 2,.M 16 3,.T 17 (.call 103 [.tmp 9,.tmp 11,.tmp 12,.tmp 14,.tmp 15,.tmp 16]),.N 8 17]) (.ret))
theorem is102 : IsF C 102 18 271 c102 [.tmp 8]:=⟨⟨Try.f102,_,C_P ▸ Try.func102,rfl,rfl,rfl,by kernel_rfl,rfl⟩⟩
theorem qbO9 {s1 : Int} {o0 : List Mono} {b2_0 : Int} {g1 : AHeap} {v0 : Nat} {n0 : Nat} {g2 : AHeap} {g3 : AHeap} (hln0 : o0.length = n0) {r : Int × Int} (hr : qz9 s1 o0 b2_0 = some r) : Lim C 102 [.ref g1.length v0 0 n0,PI s1,.ptr (g1.length + g2.length + 1) 0 0 0,.fn 76 []] (g1++(.row false v0 2 (rowP qa9 o0)::(g2++(.row false 0 1 [[PI b2_0]]::g3)))) = some (resOf [PI r.1],(g1++(.row false v0 2 (rowP qa9 o0)::(g2++(.row false 0 1 [[PI r.2]]::g3))))):=by
 simp only [qz9] at hr
 obtain ⟨x1,h1,hr⟩:=bsome hr
 have h1k:=qD9 rfl rfl rfl (qbY9 (g1:=g1) (v0:=v0) (n0:=n0) (g2:=g2) (g3:=g3) (show o0.length = n0 by first | assumption | (simp only [llA,lrA]; first | done | assumption | omega) | omega) h1)
 try simp only [go_sem] at h1k
 obtain rfl:=oiA hr
 refine run_L is102 (nbA rfl) ?_
 rotate_left
 all_goals (simp +decide only [go_sem,decide_not,c102, *])
def c92 : ACode:=.seq (.reg [] [] [.K 8 (.mv (cI 0)),.K 9 (.mv (cI 0))]) (.seq (.reg [] [] [.M 15 2,.M 16 1,.T 17 (.bin .sub (.tmp 15) (.tmp 16)),.N 10 17]) (.seq (.reg [] [] [.K 11 (.alloc [.d (.v (.int .i64 0))] 1)]) (.seq (.reg [] [] [.M 18 1,.M 19 10,.T 20 (.binM .quo (.tmp 19) (cI 4)),.T 21 (.bin .mul (.tmp 20) (cI 1)),.T 22 (.bin .add (.tmp 18) (.tmp 21)),.N 12 22]) (.seq (.reg [] [] [.M 23 1,.M 24 10,.T 25 (.binM .quo (.tmp 24) (cI 4)),.T 26 (.bin .mul (.tmp 25) (cI 2)),.T 27 (.bin .add (.tmp 23) (.tmp 26)),.N 13 27]) (.seq (.reg [] [] [.M 28 1,.M 29 10,.T 30 (.binM .quo (.tmp 29) (cI 4)),.T 31 (.bin .mul (.tmp 30) (cI 3)),.T 32 (.bin .add (.tmp 28) (.tmp 31)),.N 14 32]) (.seq (.seq (.reg [] [] [.M 33 10,.K 34 (.bin .geq (.tmp 33) (cI 8))]) (.cond (.tmp 34) (some 34) (.seq (.seq (.reg [] [] [.M 35 10,.K 36 (.bin .geq (.tmp 35) (cI 50))]) (.cond (.tmp 36) (some 36) (.seq (.reg [] [] [.M 37 0,.M 38 12,.M 39 3,.T 40 (.call 102 [.tmp 37,.tmp 38,.tmp 11,.tmp 39]),.N 12 40]) (.seq (.reg [] [] [.M 41 0,.M 42 13,.M 43 3,.T 44 (.call 102 [.tmp 41,.tmp 42,.tmp 11,.tmp 43]),.N 13 44]) (.reg [] [] [.M 45 0,.M 46 14,.M 47 3,.T 48 (.call 102 [.tmp 45,.tmp 46,.tmp 11,.tmp 47]),.N 14 48]))) (.skip))) (.reg [] [] [.M 49 0,.M 50 12,.M 51 13,.M 52 14,.M 53 3,.T 54 (.call 103 [.tmp 49,.tmp 50,.tmp 51,.tmp 52,.tmp 11,.tmp 53]),.N 13 54])) (.skip))) (.seq (.reg [] [] [.K 55 (.load none (.tmp 11))]) (.block 0 1297036692682702848 (.seq (.reg [] [] [.T 58 (.bin .eql (.tmp 55) (cI 0)),.N 57 58]) (.cond (.tmp 57) (some 57) (.seq (.reg [] [] [.M 59 13,.N 8 59,.K 9 (.mv (cI 1))]) (.ret)) (.seq (.reg [] [] [.T 61 (.bin .eql (.tmp 55) (cI 12)),.N 60 61]) (.cond (.tmp 60) (some 60) (.seq (.reg [] [] [.M 62 13,.N 8 62,.K 9 (.mv (cI 2))]) (.ret)) (.seq (.reg [] [] [.M 56 13,.N 8 56,.K 9 (.mv (cI 0))]) (.ret))))))))))))))
theorem is92 : IsF C 92 63 1333065575601045263 c92 [.tmp 8,.tmp 9]:=⟨⟨Try.f92,_,C_P ▸ Try.func92,rfl,rfl,rfl,by kernel_rfl,rfl⟩⟩
theorem qcF9 {s1 : Int} {s2 : Int} {o0 : List Mono} {g1 : AHeap} {v0 : Nat} {n0 : Nat} {g2 : AHeap} (hln0 : o0.length = n0) {r : Int × Int} (hr : qK9 s1 s2 o0 = some r) : ∃ hz : AHeap,Lim C 92 [.ref g1.length v0 0 n0,PI s1,PI s2,.fn 76 []] (g1++(.row false v0 2 (rowP qa9 o0)::g2)) = some (resOf [PI r.1,PI r.2],(g1++(.row false v0 2 (rowP qa9 o0)::(g2++hz)))):=by
 simp only [qK9] at hr
 obtain ⟨x1,h1,hr⟩:=bsome hr
 rcases iteP hr with ⟨h2,hr⟩ | ⟨h2,hr⟩
 rcases iteP hr with ⟨h3,hr⟩ | ⟨h3,hr⟩
 obtain ⟨x2,h4,x3,h5,x4,h6,x5,h7,hr⟩:=bs4 hr
 have h4k:=qD9 rfl rfl rfl (qbO9 (g1:=g1) (v0:=v0) (n0:=n0) (g2:=g2) (g3:=[]) (show o0.length = n0 by first | assumption | (simp only [llA,lrA]; first | done | assumption | omega) | omega) h4)
 try simp only [go_sem] at h4k
 have h5k:=qD9 rfl rfl rfl (qbO9 (g1:=g1) (v0:=v0) (n0:=n0) (g2:=g2) (g3:=[]) (show o0.length = n0 by first | assumption | (simp only [llA,lrA]; first | done | assumption | omega) | omega) h5)
 try simp only [go_sem] at h5k
 have h6k:=qD9 rfl rfl rfl (qbO9 (g1:=g1) (v0:=v0) (n0:=n0) (g2:=g2) (g3:=[]) (show o0.length = n0 by first | assumption | (simp only [llA,lrA]; first | done | assumption | omega) | omega) h6)
 try simp only [go_sem] at h6k
 have h7k:=qD9 rfl rfl rfl (qbY9 (g1:=g1) (v0:=v0) (n0:=n0) (g2:=g2) (g3:=[]) (show o0.length = n0 by first | assumption | (simp only [llA,lrA]; first | done | assumption | omega) | omega) h7)
 try simp only [go_sem] at h7k
 rcases iteP hr with ⟨h8,hr⟩ | ⟨h8,hr⟩
 obtain rfl:=oiA hr
 refine ⟨(.row false 0 1 [[PI x5.2]]::[]),run_L is92 (nbA rfl) ?_⟩
 rotate_left
 rcases iteP hr with ⟨h9,hr⟩ | ⟨h9,hr⟩
 obtain rfl:=oiA hr
 refine ⟨(.row false 0 1 [[PI x5.2]]::[]),run_L is92 (nbA rfl) ?_⟩
 rotate_left
 obtain rfl:=oiA hr
 refine ⟨(.row false 0 1 [[PI x5.2]]::[]),run_L is92 (nbA rfl) ?_⟩
 rotate_left
 obtain ⟨x6,h10,hr⟩:=bsome hr
 have h10k:=qD9 rfl rfl rfl (qbY9 (g1:=g1) (v0:=v0) (n0:=n0) (g2:=g2) (g3:=[]) (show o0.length = n0 by first | assumption | (simp only [llA,lrA]; first | done | assumption | omega) | omega) h10)
 try simp only [go_sem] at h10k
 rcases iteP hr with ⟨h11,hr⟩ | ⟨h11,hr⟩
 obtain rfl:=oiA hr
 refine ⟨(.row false 0 1 [[PI x6.2]]::[]),run_L is92 (nbA rfl) ?_⟩
 rotate_left
 rcases iteP hr with ⟨h12,hr⟩ | ⟨h12,hr⟩
 obtain rfl:=oiA hr
 refine ⟨(.row false 0 1 [[PI x6.2]]::[]),run_L is92 (nbA rfl) ?_⟩
 rotate_left
 obtain rfl:=oiA hr
 refine ⟨(.row false 0 1 [[PI x6.2]]::[]),run_L is92 (nbA rfl) ?_⟩
 rotate_left
 obtain rfl:=oiA hr
 refine ⟨(.row false 0 1 [[PI 0]]::[]),run_L is92 (nbA rfl) ?_⟩
 rotate_left
 all_goals (simp +decide only [go_sem,decide_not,c92, *])
def qqD9 : ACode:=.seq (.seq (.reg [] [] [.M 50 11,.M 51 12,.T 52 (.bin .leq (.tmp 50) (.tmp 51)),.M 53 52,.MG 54 53 true 4,.MG 55 53 true 0,.MG 56 53 true 1,⟨some (57,false),.ix 2 (.tmp 55) (.tmp 56),some (53,true),true,false⟩,⟨some (58,false),.load (some 2) (.tmp 57),some (53,true),true,false⟩,.MG 59 53 true 0,.MG 60 53 true 12,⟨some (61,false),.ix 2 (.tmp 59) (.tmp 60),some (53,true),true,false⟩,⟨some (62,false),.load (some 2) (.tmp 61),some (53,true),true,false⟩,⟨some (63,false),.callV (.tmp 54) [.tmp 58,.tmp 62],some (53,true),true,false⟩,.TG 64 53 true (.bin .lss (.tmp 63) (cI 0)),.K 65 (.pick (.tmp 53) (.tmp 64) (.const (.bool false)))]) (.cond (.tmp 65) (some 65) (.skip) (.exit 4))) (.block 5 36893488147419103232 (.reg [] [] [.M 66 12,.T 67 (.bin .sub (.tmp 66) (cI 1)),.N 12 67]))
def qqd9 : ACode:=.seq (.seq (.reg [] [] [.M 31 11,.M 32 12,.T 33 (.bin .leq (.tmp 31) (.tmp 32)),.M 34 33,.MG 35 34 true 4,.MG 36 34 true 0,.MG 37 34 true 1,⟨some (38,false),.ix 2 (.tmp 36) (.tmp 37),some (34,true),true,false⟩,⟨some (39,false),.load (some 2) (.tmp 38),some (34,true),true,false⟩,.MG 40 34 true 0,.MG 41 34 true 11,⟨some (42,false),.ix 2 (.tmp 40) (.tmp 41),some (34,true),true,false⟩,⟨some (43,false),.load (some 2) (.tmp 42),some (34,true),true,false⟩,⟨some (44,false),.callV (.tmp 35) [.tmp 39,.tmp 43],some (34,true),true,false⟩,.TG 45 34 true (.bin .lss (.tmp 44) (cI 0)),.TG 46 34 true (.not (.tmp 45)),.K 47 (.pick (.tmp 34) (.tmp 46) (.const (.bool false)))]) (.cond (.tmp 47) (some 47) (.skip) (.exit 2))) (.block 3 140737488355328 (.reg [] [] [.M 48 11,.T 49 (.bin .add (.tmp 48) (cI 1)),.N 11 49]))
def qoQ9 : ACode:=.block 1 1217485249602318761984 (.seq (.block 2 140737488355328 (.loop qqd9)) (.seq (.block 4 36893628884907458560 (.loop qqD9)) (.seq (.seq (.reg [] [] [.M 68 11,.M 69 12,.K 70 (.bin .gtr (.tmp 68) (.tmp 69))]) (.cond (.tmp 70) (some 70) (.exit 0) (.skip))) (.seq (.reg [] [] [.M 71 0,.M 72 11,.M 73 0,.M 74 12,.M 75 0,.M 76 12,⟨some (77,false),.ix 2 (.tmp 75) (.tmp 76),none,true,false⟩,⟨some (78,false),.load (some 2) (.tmp 77),none,true,false⟩,.M 79 0,.M 80 11,⟨some (81,false),.ix 2 (.tmp 79) (.tmp 80),none,true,false⟩,⟨some (82,false),.load (some 2) (.tmp 81),none,true,false⟩,⟨some (83,false),.ix 2 (.tmp 71) (.tmp 72),none,true,false⟩,⟨none,.store 2 (.tmp 83) (.tmp 78),none,false,false⟩,⟨some (84,false),.ix 2 (.tmp 73) (.tmp 74),none,true,false⟩,⟨none,.store 2 (.tmp 84) (.tmp 82),none,false,false⟩]) (.seq (.reg [] [] [.M 85 11,.T 86 (.bin .add (.tmp 85) (cI 1)),.N 11 86]) (.reg [] [] [.M 87 12,.T 88 (.bin .sub (.tmp 87) (cI 1)),.N 12 88]))))))
def c95 : ACode:=.seq (.reg [] [] [.K 10 (.mv (cI 0))]) (.seq (.reg [] [] [.M 13 0,.M 14 1,.M 15 0,.M 16 3,.M 17 0,.M 18 3,⟨some (19,false),.ix 2 (.tmp 17) (.tmp 18),none,true,false⟩,⟨some (20,false),.load (some 2) (.tmp 19),none,true,false⟩,.M 21 0,.M 22 1,⟨some (23,false),.ix 2 (.tmp 21) (.tmp 22),none,true,false⟩,⟨some (24,false),.load (some 2) (.tmp 23),none,true,false⟩,⟨some (25,false),.ix 2 (.tmp 13) (.tmp 14),none,true,false⟩,⟨none,.store 2 (.tmp 25) (.tmp 20),none,false,false⟩,⟨some (26,false),.ix 2 (.tmp 15) (.tmp 16),none,true,false⟩,⟨none,.store 2 (.tmp 26) (.tmp 24),none,false,false⟩]) (.seq (.reg [] [] [.M 27 1,.T 28 (.bin .add (.tmp 27) (cI 1)),.M 29 2,.T 30 (.bin .sub (.tmp 29) (cI 1)),.N 11 28,.N 12 30]) (.seq (.block 0 1217485249602318761984 (.loop qoQ9)) (.seq (.reg [] [] [.M 89 11,.N 10 89]) (.ret)))))
theorem is95 : IsF C 95 90 1217485249602318769183 c95 [.tmp 10]:=⟨⟨Try.f95,_,C_P ▸ Try.func95,rfl,rfl,rfl,by kernel_rfl,rfl⟩⟩
def qbj9 (s1 : Int) (s2 : Int) (s3 : Int) (s11 : Int) (o0 : List Mono) (g1 : AHeap) (v0 : Nat) (n0 : Nat) (g2 : AHeap) : Int→AHeap→St:=fun s12 gt=>⟨[(0,.ref g1.length v0 0 n0),(1,PI s1),(2,PI s2),(3,PI s3),(4,.fn 76 []),(10,PI 0),(11,PI s11),(12,PI s12)],(g1++(.row false v0 2 (rowP qa9 o0)::(g2++gt)))⟩
def qcp9 (s1 : Int) (s2 : Int) (s3 : Int) (s11 : Int) (o0 : List Mono) (g1 : AHeap) (v0 : Nat) (n0 : Nat) (g2 : AHeap) : Int→Prop:=fun s12=>o0.length = n0
def qdK9 (s1 : Int) (s2 : Int) (s3 : Int) (s11 : Int) (o0 : List Mono) (g1 : AHeap) (v0 : Nat) (n0 : Nat) (g2 : AHeap) : Int→AExit × St→Prop:=fun s12 q=>∃ g,q = (.exit 4,qbj9 s1 s2 s3 s11 o0 g1 v0 n0 g2 s12 g)
theorem qdH9 {s1 : Int} {s2 : Int} {s3 : Int} {s11 : Int} {o0 : List Mono} {g1 : AHeap} {v0 : Nat} {n0 : Nat} {g2 : AHeap} : SimI C 1217485249602318769183 qqD9 (qcp9 s1 s2 s3 s11 o0 g1 v0 n0 g2) (qM9 s1 s2 s3 s11 o0) (qbj9 s1 s2 s3 s11 o0 g1 v0 n0 g2) (qdK9 s1 s2 s3 s11 o0 g1 v0 n0 g2):=by
 intro s g r hI hr
 have ⟨s12,hs0⟩ : ∃ y,y = s:=⟨_,rfl⟩
 subst hs0
 have ⟨gt,hg0⟩ : ∃ y,y = g:=⟨_,rfl⟩
 subst hg0
 simp only [qcp9] at hI
 have hI0:=hI
 simp only [qM9] at hr
 rcases iteP hr with ⟨h1,hr⟩ | ⟨h1,hr⟩
 obtain ⟨x10,h2,x11,h3,x12,h4,hr⟩:=bs3 hr
 have h2a:=eq_true (qb9 h2).1
 have h2b : (s1 < (n0 : Int)) = True:=eq_true (by have hb : s1 < (o0.length : Int):=(qb9 h2).2.1; omega)
 have h2c:=(qb9 h2).2.2
 have h3a:=eq_true (qb9 h3).1
 have h3b : (s12 < (n0 : Int)) = True:=eq_true (by have hb : s12 < (o0.length : Int):=(qb9 h3).2.1; omega)
 have h3c:=(qb9 h3).2.2
 have h4k:=fun h=>(qF9 h4).o rfl rfl rfl (h:=h) (args:=[.ag [.d (.rd (x10.Coef.map qc9)),.d (.rd (x10.Exps.map intD))],.ag [.d (.rd (x11.Coef.map qc9)),.d (.rd (x11.Exps.map intD))]]) rfl
 try simp only [go_sem] at h4k
 rcases iteP hr with ⟨h5,hr⟩ | ⟨h5,hr⟩
 obtain rfl:=oiA hr
 refine ⟨⟨gt,?_⟩,(show o0.length = n0 by first | assumption | (simp only [llA,lrA]; first | done | assumption | omega) | omega)⟩
 rotate_left
 obtain rfl:=oiA hr
 refine xe_of ⟨gt,rfl⟩ ?_
 rotate_left
 obtain rfl:=oiA hr
 refine xe_of ⟨gt,rfl⟩ ?_
 rotate_left
 all_goals (simp +decide only [go_sem,decide_not,qbj9,qqD9, *])
def qbi9 (s1 : Int) (s2 : Int) (s3 : Int) (s12 : Int) (o0 : List Mono) (g1 : AHeap) (v0 : Nat) (n0 : Nat) (g2 : AHeap) : Int→AHeap→St:=fun s11 gt=>⟨[(0,.ref g1.length v0 0 n0),(1,PI s1),(2,PI s2),(3,PI s3),(4,.fn 76 []),(10,PI 0),(11,PI s11),(12,PI s12)],(g1++(.row false v0 2 (rowP qa9 o0)::(g2++gt)))⟩
def qco9 (s1 : Int) (s2 : Int) (s3 : Int) (s12 : Int) (o0 : List Mono) (g1 : AHeap) (v0 : Nat) (n0 : Nat) (g2 : AHeap) : Int→Prop:=fun s11=>o0.length = n0
def qdF9 (s1 : Int) (s2 : Int) (s3 : Int) (s12 : Int) (o0 : List Mono) (g1 : AHeap) (v0 : Nat) (n0 : Nat) (g2 : AHeap) : Int→AExit × St→Prop:=fun s11 q=>∃ g,q = (.exit 2,qbi9 s1 s2 s3 s12 o0 g1 v0 n0 g2 s11 g)
theorem qdC9 {s1 : Int} {s2 : Int} {s3 : Int} {s12 : Int} {o0 : List Mono} {g1 : AHeap} {v0 : Nat} {n0 : Nat} {g2 : AHeap} : SimI C 1217485249602318769183 qqd9 (qco9 s1 s2 s3 s12 o0 g1 v0 n0 g2) (qL9 s1 s2 s3 s12 o0) (qbi9 s1 s2 s3 s12 o0 g1 v0 n0 g2) (qdF9 s1 s2 s3 s12 o0 g1 v0 n0 g2):=by
 intro s g r hI hr
 have ⟨s11,hs0⟩ : ∃ y,y = s:=⟨_,rfl⟩
 subst hs0
 have ⟨gt,hg0⟩ : ∃ y,y = g:=⟨_,rfl⟩
 subst hg0
 simp only [qco9] at hI
 have hI0:=hI
 simp only [qL9] at hr
 rcases iteP hr with ⟨h1,hr⟩ | ⟨h1,hr⟩
 obtain ⟨x4,h2,x5,h3,x6,h4,hr⟩:=bs3 hr
 have h2a:=eq_true (qb9 h2).1
 have h2b : (s1 < (n0 : Int)) = True:=eq_true (by have hb : s1 < (o0.length : Int):=(qb9 h2).2.1; omega)
 have h2c:=(qb9 h2).2.2
 have h3a:=eq_true (qb9 h3).1
 have h3b : (s11 < (n0 : Int)) = True:=eq_true (by have hb : s11 < (o0.length : Int):=(qb9 h3).2.1; omega)
 have h3c:=(qb9 h3).2.2
 have h4k:=fun h=>(qF9 h4).o rfl rfl rfl (h:=h) (args:=[.ag [.d (.rd (x4.Coef.map qc9)),.d (.rd (x4.Exps.map intD))],.ag [.d (.rd (x5.Coef.map qc9)),.d (.rd (x5.Exps.map intD))]]) rfl
 try simp only [go_sem] at h4k
 rcases iteP hr with ⟨h5,hr⟩ | ⟨h5,hr⟩
 obtain rfl:=oiA hr
 refine xe_of ⟨gt,rfl⟩ ?_
 rotate_left
 obtain rfl:=oiA hr
 refine ⟨⟨gt,?_⟩,(show o0.length = n0 by first | assumption | (simp only [llA,lrA]; first | done | assumption | omega) | omega)⟩
 rotate_left
 obtain rfl:=oiA hr
 refine xe_of ⟨gt,rfl⟩ ?_
 rotate_left
 all_goals (simp +decide only [go_sem,decide_not,qbi9,qqd9, *])
def qbk9 (s1 : Int) (s2 : Int) (s3 : Int) (g1 : AHeap) (v0 : Nat) (n0 : Nat) (g2 : AHeap) : Int × Int × (List Mono)→AHeap→St:=fun (s11,s12,o0) gt=>⟨[(0,.ref g1.length v0 0 n0),(1,PI s1),(2,PI s2),(3,PI s3),(4,.fn 76 []),(10,PI 0),(11,PI s11),(12,PI s12)],(g1++(.row false v0 2 (rowP qa9 o0)::(g2++gt)))⟩
def qcs9 (s1 : Int) (s2 : Int) (s3 : Int) (g1 : AHeap) (v0 : Nat) (n0 : Nat) (g2 : AHeap) : Int × Int × (List Mono)→Prop:=fun (s11,s12,o0)=>o0.length = n0
def qdE9 (s1 : Int) (s2 : Int) (s3 : Int) (g1 : AHeap) (v0 : Nat) (n0 : Nat) (g2 : AHeap) : (Int × Int × (List Mono))→AExit × St→Prop:=fun (s11,s12,o0) q=>∃ g,q = (.exit 0,qbk9 s1 s2 s3 g1 v0 n0 g2 (s11,s12,o0) g)∧o0.length = n0
theorem qdJ9 {s1 : Int} {s2 : Int} {s3 : Int} {g1 : AHeap} {v0 : Nat} {n0 : Nat} {g2 : AHeap} : SimI C 1217485249602318769183 qoQ9 (qcs9 s1 s2 s3 g1 v0 n0 g2) (qo9 s1 s2 s3) (qbk9 s1 s2 s3 g1 v0 n0 g2) (qdE9 s1 s2 s3 g1 v0 n0 g2):=by
 intro s g r hI hr
 obtain ⟨s11,s12,o0⟩:=s
 have ⟨gt,hg0⟩ : ∃ y,y = g:=⟨_,rfl⟩
 subst hg0
 simp only [qcs9] at hI
 have hI0:=hI
 simp only [qo9] at hr
 obtain ⟨x7,h1,hr⟩:=bsome hr
 obtain ⟨q1,h1L,h1X⟩:=(qdC9 (g1:=g1) (v0:=v0) (n0:=n0) (g2:=(g2++gt))).L (g:=[]) h1 (show o0.length = n0 by first | assumption | (simp only [llA,lrA]; first | done | assumption | omega) | omega)
 have ⟨x8,hq1⟩ : ∃ y,y = x7:=⟨_,rfl⟩
 subst hq1
 try dsimp only at hr
 obtain ⟨z9,rfl⟩:=h1X
 simp only [qbi9,go_sem] at h1L
 try simp only [hI0] at h1L
 obtain ⟨x13,h2,hr⟩:=bsome hr
 obtain ⟨q2,h2L,h2X⟩:=(qdH9 (g1:=g1) (v0:=v0) (n0:=n0) (g2:=(g2++(gt++z9)))).L (g:=[]) h2 (show o0.length = n0 by first | assumption | (simp only [llA,lrA]; first | done | assumption | omega) | omega)
 have ⟨x14,hq2⟩ : ∃ y,y = x13:=⟨_,rfl⟩
 subst hq2
 try dsimp only at hr
 obtain ⟨z15,rfl⟩:=h2X
 simp only [qbj9,go_sem] at h2L
 try simp only [hI0] at h2L
 rcases iteP hr with ⟨h3,hr⟩ | ⟨h3,hr⟩
 obtain rfl:=oiA hr
 refine xe_of ⟨(gt++(z9++z15)),rfl,(show o0.length = n0 by first | assumption | (simp only [llA,lrA]; first | done | assumption | omega) | omega)⟩ ?_
 rotate_left
 obtain ⟨x16,h4,x17,h5,x18,h6,hr⟩:=bs3 hr
 have h4a:=eq_true (qb9 h4).1
 have h4b : (x14 < (n0 : Int)) = True:=eq_true (by have hb : x14 < (o0.length : Int):=(qb9 h4).2.1; omega)
 have h4c:=(qb9 h4).2.2
 have h5a:=eq_true (qb9 h5).1
 have h5b : (x8 < (n0 : Int)) = True:=eq_true (by have hb : x8 < (o0.length : Int):=(qb9 h5).2.1; omega)
 have h5c:=(qb9 h5).2.2
 have h6a:=eq_true (qb9 h6).1
 have h6b : (x14 < (n0 : Int)) = True:=eq_true (by have hb : x14 < ((o0.set (x8).toNat x16).length : Int):=(qb9 h6).2.1; simp only [llA,lrA] at hb; omega)
 have h6c:=(qb9 h6).2.2
 obtain rfl:=oiA hr
 refine ⟨⟨(gt++(z9++z15)),?_⟩,(show ((o0.set (x8).toNat x16).set (x14).toNat x17).length = n0 by first | assumption | (simp only [llA,lrA]; first | done | assumption | omega) | omega)⟩
 rotate_left
 all_goals (simp +decide only [go_sem,decide_not,qbk9,qoQ9, *])
theorem qx9 {s1 : Int} {s2 : Int} {s3 : Int} {o0 : List Mono} {g1 : AHeap} {v0 : Nat} {n0 : Nat} {g2 : AHeap} (hln0 : o0.length = n0) {r : Int × (List Mono)} (hr : qh9 s1 s2 s3 o0 = some r) : ∃ hz : AHeap,Lim C 95 [.ref g1.length v0 0 n0,PI s1,PI s2,PI s3,.fn 76 []] (g1++(.row false v0 2 (rowP qa9 o0)::g2)) = some (resOf [PI r.1],(g1++(.row false v0 2 (rowP qa9 r.2)::(g2++hz))))∧r.2.length = n0:=by
 simp only [qh9] at hr
 obtain ⟨x1,h1,x2,h2,x3,h3,hr⟩:=bs3 hr
 have h1a:=eq_true (qb9 h1).1
 have h1b : (s3 < (n0 : Int)) = True:=eq_true (by have hb : s3 < (o0.length : Int):=(qb9 h1).2.1; omega)
 have h1c:=(qb9 h1).2.2
 have h2a:=eq_true (qb9 h2).1
 have h2b : (s1 < (n0 : Int)) = True:=eq_true (by have hb : s1 < (o0.length : Int):=(qb9 h2).2.1; omega)
 have h2c:=(qb9 h2).2.2
 have h3a:=eq_true (qb9 h3).1
 have h3b : (s3 < (n0 : Int)) = True:=eq_true (by have hb : s3 < ((o0.set (s1).toNat x1).length : Int):=(qb9 h3).2.1; simp only [llA,lrA] at hb; omega)
 have h3c:=(qb9 h3).2.2
 obtain ⟨x19,h4,hr⟩:=bsome hr
 obtain ⟨q4,h4L,h4X⟩:=(qdJ9 (g1:=g1) (v0:=v0) (n0:=n0) (g2:=g2)).L (g:=[]) h4 (show ((o0.set (s1).toNat x1).set (s3).toNat x2).length = n0 by first | assumption | (simp only [llA,lrA]; first | done | assumption | omega) | omega)
 obtain ⟨x20,x21,x22⟩:=x19
 try dsimp only at hr
 obtain ⟨z23,rfl,h4l0⟩:=h4X
 simp only [qbk9,go_sem] at h4L
 try simp only [hln0] at h4L
 obtain rfl:=oiA hr
 refine ⟨z23,run_L is95 (nbA rfl) ?_,(show x22.length = n0 by first | assumption | (simp only [llA,lrA]; first | done | assumption | omega) | omega)⟩
 rotate_left
 all_goals (simp +decide only [go_sem,decide_not,c95, *])
end Lt
namespace Lt
open Ld Go Go.Proofs Go.Abs
set_option maxRecDepth 8000
def qqH9 : ACode:=.seq (.seq (.reg [] [] [.M 107 12,.M 108 2,.K 109 (.bin .lss (.tmp 107) (.tmp 108))]) (.cond (.tmp 109) (some 109) (.skip) (.exit 6))) (.seq (.block 7 21268296969665970819914479276526665728 (.seq (.seq (.reg [] [] [.M 112 3,.M 113 0,.M 114 12,⟨some (115,false),.ix 2 (.tmp 113) (.tmp 114),none,true,false⟩,⟨some (116,false),.load (some 2) (.tmp 115),none,true,false⟩,.M 117 0,.M 118 12,.T 119 (.bin .sub (.tmp 118) (cI 1)),⟨some (120,false),.ix 2 (.tmp 117) (.tmp 119),none,true,false⟩,⟨some (121,false),.load (some 2) (.tmp 120),none,true,false⟩,⟨some (122,false),.callV (.tmp 112) [.tmp 116,.tmp 121],none,true,false⟩,.T 123 (.bin .lss (.tmp 122) (cI 0)),.K 124 (.not (.tmp 123))]) (.cond (.tmp 124) (some 124) (.exit 6) (.skip))) (.reg [] [] [.M 125 0,.M 126 12,.M 127 0,.M 128 12,.T 129 (.bin .sub (.tmp 128) (cI 1)),.M 130 0,.M 131 12,.T 132 (.bin .sub (.tmp 131) (cI 1)),⟨some (133,false),.ix 2 (.tmp 130) (.tmp 132),none,true,false⟩,⟨some (134,false),.load (some 2) (.tmp 133),none,true,false⟩,.M 135 0,.M 136 12,⟨some (137,false),.ix 2 (.tmp 135) (.tmp 136),none,true,false⟩,⟨some (138,false),.load (some 2) (.tmp 137),none,true,false⟩,⟨some (139,false),.ix 2 (.tmp 125) (.tmp 126),none,true,false⟩,⟨none,.store 2 (.tmp 139) (.tmp 134),none,false,false⟩,⟨some (140,false),.ix 2 (.tmp 127) (.tmp 129),none,true,false⟩,⟨none,.store 2 (.tmp 140) (.tmp 138),none,false,false⟩]))) (.reg [] [] [.M 110 12,.T 111 (.bin .add (.tmp 110) (cI 1)),.N 12 111]))
def qre9 : ACode:=.seq (.seq (.reg [] [] [.M 68 11,.K 69 (.bin .geq (.tmp 68) (cI 1))]) (.cond (.tmp 69) (some 69) (.skip) (.exit 4))) (.seq (.block 5 19343403409644425500950528 (.seq (.seq (.reg [] [] [.M 72 3,.M 73 0,.M 74 11,⟨some (75,false),.ix 2 (.tmp 73) (.tmp 74),none,true,false⟩,⟨some (76,false),.load (some 2) (.tmp 75),none,true,false⟩,.M 77 0,.M 78 11,.T 79 (.bin .sub (.tmp 78) (cI 1)),⟨some (80,false),.ix 2 (.tmp 77) (.tmp 79),none,true,false⟩,⟨some (81,false),.load (some 2) (.tmp 80),none,true,false⟩,⟨some (82,false),.callV (.tmp 72) [.tmp 76,.tmp 81],none,true,false⟩,.T 83 (.bin .lss (.tmp 82) (cI 0)),.K 84 (.not (.tmp 83))]) (.cond (.tmp 84) (some 84) (.exit 4) (.skip))) (.reg [] [] [.M 85 0,.M 86 11,.M 87 0,.M 88 11,.T 89 (.bin .sub (.tmp 88) (cI 1)),.M 90 0,.M 91 11,.T 92 (.bin .sub (.tmp 91) (cI 1)),⟨some (93,false),.ix 2 (.tmp 90) (.tmp 92),none,true,false⟩,⟨some (94,false),.load (some 2) (.tmp 93),none,true,false⟩,.M 95 0,.M 96 11,⟨some (97,false),.ix 2 (.tmp 95) (.tmp 96),none,true,false⟩,⟨some (98,false),.load (some 2) (.tmp 97),none,true,false⟩,⟨some (99,false),.ix 2 (.tmp 85) (.tmp 86),none,true,false⟩,⟨none,.store 2 (.tmp 99) (.tmp 94),none,false,false⟩,⟨some (100,false),.ix 2 (.tmp 87) (.tmp 89),none,true,false⟩,⟨none,.store 2 (.tmp 100) (.tmp 98),none,false,false⟩]))) (.reg [] [] [.M 70 11,.T 71 (.bin .sub (.tmp 70) (cI 1)),.N 11 71]))
def qpv9 : ACode:=.seq (.seq (.reg [] [] [.M 19 9,.M 20 2,.T 21 (.bin .lss (.tmp 19) (.tmp 20)),.M 22 21,.MG 23 22 true 3,.MG 24 22 true 0,.MG 25 22 true 9,⟨some (26,false),.ix 2 (.tmp 24) (.tmp 25),some (22,true),true,false⟩,⟨some (27,false),.load (some 2) (.tmp 26),some (22,true),true,false⟩,.MG 28 22 true 0,.MG 29 22 true 9,.TG 30 22 true (.bin .sub (.tmp 29) (cI 1)),⟨some (31,false),.ix 2 (.tmp 28) (.tmp 30),some (22,true),true,false⟩,⟨some (32,false),.load (some 2) (.tmp 31),some (22,true),true,false⟩,⟨some (33,false),.callV (.tmp 23) [.tmp 27,.tmp 32],some (22,true),true,false⟩,.TG 34 22 true (.bin .lss (.tmp 33) (cI 0)),.TG 35 22 true (.not (.tmp 34)),.K 36 (.pick (.tmp 22) (.tmp 35) (.const (.bool false)))]) (.cond (.tmp 36) (some 36) (.skip) (.exit 2))) (.block 3 68719476736 (.reg [] [] [.M 37 9,.T 38 (.bin .add (.tmp 37) (cI 1)),.N 9 38]))
def qoT9 : ACode:=.seq (.seq (.reg [] [] [.M 15 10,.K 16 (.bin .lss (.tmp 15) (cI 5))]) (.cond (.tmp 16) (some 16) (.skip) (.exit 0))) (.seq (.block 1 21268317252094917911888073248812898304 (.seq (.block 2 68719542272 (.loop qpv9)) (.seq (.seq (.reg [] [] [.M 39 9,.M 40 2,.K 41 (.bin .eql (.tmp 39) (.tmp 40))]) (.cond (.tmp 41) (some 41) (.seq (.reg [] [] [.K 8 (.mv (.const (.bool true)))]) (.ret)) (.skip))) (.seq (.seq (.reg [] [] [.M 42 2,.M 43 1,.T 44 (.bin .sub (.tmp 42) (.tmp 43)),.K 45 (.bin .lss (.tmp 44) (cI 50))]) (.cond (.tmp 45) (some 45) (.seq (.reg [] [] [.K 8 (.mv (.const (.bool false)))]) (.ret)) (.skip))) (.seq (.reg [] [] [.M 46 0,.M 47 9,.M 48 0,.M 49 9,.T 50 (.bin .sub (.tmp 49) (cI 1)),.M 51 0,.M 52 9,.T 53 (.bin .sub (.tmp 52) (cI 1)),⟨some (54,false),.ix 2 (.tmp 51) (.tmp 53),none,true,false⟩,⟨some (55,false),.load (some 2) (.tmp 54),none,true,false⟩,.M 56 0,.M 57 9,⟨some (58,false),.ix 2 (.tmp 56) (.tmp 57),none,true,false⟩,⟨some (59,false),.load (some 2) (.tmp 58),none,true,false⟩,⟨some (60,false),.ix 2 (.tmp 46) (.tmp 47),none,true,false⟩,⟨none,.store 2 (.tmp 60) (.tmp 55),none,false,false⟩,⟨some (61,false),.ix 2 (.tmp 48) (.tmp 50),none,true,false⟩,⟨none,.store 2 (.tmp 61) (.tmp 59),none,false,false⟩]) (.seq (.seq (.reg [] [] [.M 62 9,.M 63 1,.T 64 (.bin .sub (.tmp 62) (.tmp 63)),.K 65 (.bin .geq (.tmp 64) (cI 2))]) (.cond (.tmp 65) (some 65) (.seq (.reg [] [] [.M 66 9,.T 67 (.bin .sub (.tmp 66) (cI 1)),.N 11 67]) (.block 4 19343440303170025034942464 (.loop qre9))) (.skip))) (.seq (.reg [] [] [.M 101 2,.M 102 9,.T 103 (.bin .sub (.tmp 101) (.tmp 102)),.K 104 (.bin .geq (.tmp 103) (cI 2))]) (.cond (.tmp 104) (some 104) (.seq (.reg [] [] [.M 105 9,.T 106 (.bin .add (.tmp 105) (cI 1)),.N 12 106]) (.block 6 21268317252094917911888073248812898304 (.loop qqH9))) (.skip))))))))) (.reg [] [] [.M 17 10,.T 18 (.bin .add (.tmp 17) (cI 1)),.N 10 18]))
def c94 : ACode:=.seq (.reg [] [] [.K 8 (.mv (.const (.bool false)))]) (.seq (.reg [] [] [.M 13 1,.T 14 (.bin .add (.tmp 13) (cI 1)),.N 9 14]) (.seq (.seq (.reg [] [] [.K 10 (.mv (cI 0))]) (.block 0 21268317252094917911888073248812898304 (.loop qoT9))) (.seq (.reg [] [] [.K 8 (.mv (.const (.bool false)))]) (.ret))))
theorem is94 : IsF C 94 141 21268317252094917911888073248812900111 c94 [.tmp 8]:=⟨⟨Try.f94,_,C_P ▸ Try.func94,rfl,rfl,rfl,by kernel_rfl,rfl⟩⟩
def qba9 (s1 : Int) (s2 : Int) (s9 : Int) (s10 : Int) (g1 : AHeap) (v0 : Nat) (n0 : Nat) (g2 : AHeap) : Int × (List Mono)→AHeap→St:=fun (s12,o0) gt=>⟨[(0,.ref g1.length v0 0 n0),(1,PI s1),(2,PI s2),(3,.fn 76 []),(8,PB false),(9,PI s9),(10,PI s10),(12,PI s12)],(g1++(.row false v0 2 (rowP qa9 o0)::(g2++gt)))⟩
def qcg9 (s1 : Int) (s2 : Int) (s9 : Int) (s10 : Int) (g1 : AHeap) (v0 : Nat) (n0 : Nat) (g2 : AHeap) : Int × (List Mono)→Prop:=fun (s12,o0)=>o0.length = n0
def qdn9 (s1 : Int) (s2 : Int) (s9 : Int) (s10 : Int) (g1 : AHeap) (v0 : Nat) (n0 : Nat) (g2 : AHeap) : ((List Mono))→AExit × St→Prop:=fun o0 q=>∃ d12 : PV,∃ h1 : AHeap,q = (.exit 6,⟨[(0,.ref g1.length v0 0 n0),(1,PI s1),(2,PI s2),(3,.fn 76 []),(8,PB false),(9,PI s9),(10,PI s10),(12,d12)],(g1++(.row false v0 2 (rowP qa9 o0)::(g2++h1)))⟩)∧o0.length = n0
theorem qcc9 {s1 : Int} {s2 : Int} {s9 : Int} {s10 : Int} {g1 : AHeap} {v0 : Nat} {n0 : Nat} {g2 : AHeap} : SimI C 21268317252094917911888073248812900111 qqH9 (qcg9 s1 s2 s9 s10 g1 v0 n0 g2) (ql9 s1 s2 s9 s10) (qba9 s1 s2 s9 s10 g1 v0 n0 g2) (qdn9 s1 s2 s9 s10 g1 v0 n0 g2):=by
 intro s g r hI hr
 obtain ⟨s12,o0⟩:=s
 have ⟨gt,hg0⟩ : ∃ y,y = g:=⟨_,rfl⟩
 subst hg0
 simp only [qcg9] at hI
 have hI0:=hI
 simp only [ql9] at hr
 rcases iteP hr with ⟨h1,hr⟩ | ⟨h1,hr⟩
 obtain ⟨x26,h2,x27,h3,x28,h4,hr⟩:=bs3 hr
 have h2a:=eq_true (qb9 h2).1
 have h2b : (s12 < (n0 : Int)) = True:=eq_true (by have hb : s12 < (o0.length : Int):=(qb9 h2).2.1; omega)
 have h2c:=(qb9 h2).2.2
 have h3a:=eq_true (qb9 h3).1
 have h3b : ((w64 (s12 - 1)) < (n0 : Int)) = True:=eq_true (by have hb : (w64 (s12 - 1)) < (o0.length : Int):=(qb9 h3).2.1; omega)
 have h3c:=(qb9 h3).2.2
 have h4k:=fun h=>(qF9 h4).o rfl rfl rfl (h:=h) (args:=[.ag [.d (.rd (x26.Coef.map qc9)),.d (.rd (x26.Exps.map intD))],.ag [.d (.rd (x27.Coef.map qc9)),.d (.rd (x27.Exps.map intD))]]) rfl
 try simp only [go_sem] at h4k
 rcases iteP hr with ⟨h5,hr⟩ | ⟨h5,hr⟩
 obtain ⟨x29,h6,hr⟩:=bsome hr
 have h6a:=eq_true (qb9 h6).1
 have h6b : ((w64 (s12 - 1)) < (n0 : Int)) = True:=eq_true (by have hb : (w64 (s12 - 1)) < ((o0.set (s12).toNat x27).length : Int):=(qb9 h6).2.1; simp only [llA,lrA] at hb; omega)
 have h6c:=(qb9 h6).2.2
 obtain rfl:=oiA hr
 refine ⟨⟨gt,?_⟩,(show ((o0.set (s12).toNat x27).set (w64 (s12 - 1)).toNat x26).length = n0 by first | assumption | (simp only [llA,lrA]; first | done | assumption | omega) | omega)⟩
 rotate_left
 obtain rfl:=oiA hr
 refine xe_of ⟨PI s12,gt,rfl,(show o0.length = n0 by first | assumption | (simp only [llA,lrA]; first | done | assumption | omega) | omega)⟩ ?_
 rotate_left
 obtain rfl:=oiA hr
 refine xe_of ⟨PI s12,gt,rfl,(show o0.length = n0 by first | assumption | (simp only [llA,lrA]; first | done | assumption | omega) | omega)⟩ ?_
 rotate_left
 all_goals (simp +decide only [go_sem,decide_not,qba9,qqH9, *])
def qbI9 (s1 : Int) (s2 : Int) (s9 : Int) (s10 : Int) (g1 : AHeap) (v0 : Nat) (n0 : Nat) (g2 : AHeap) : Int × (List Mono)→AHeap→St:=fun (s11,o0) gt=>⟨[(0,.ref g1.length v0 0 n0),(1,PI s1),(2,PI s2),(3,.fn 76 []),(8,PB false),(9,PI s9),(10,PI s10),(11,PI s11)],(g1++(.row false v0 2 (rowP qa9 o0)::(g2++gt)))⟩
def qcf9 (s1 : Int) (s2 : Int) (s9 : Int) (s10 : Int) (g1 : AHeap) (v0 : Nat) (n0 : Nat) (g2 : AHeap) : Int × (List Mono)→Prop:=fun (s11,o0)=>o0.length = n0
def qdt9 (s1 : Int) (s2 : Int) (s9 : Int) (s10 : Int) (g1 : AHeap) (v0 : Nat) (n0 : Nat) (g2 : AHeap) : ((List Mono))→AExit × St→Prop:=fun o0 q=>∃ d11 : PV,∃ h1 : AHeap,q = (.exit 4,⟨[(0,.ref g1.length v0 0 n0),(1,PI s1),(2,PI s2),(3,.fn 76 []),(8,PB false),(9,PI s9),(10,PI s10),(11,d11)],(g1++(.row false v0 2 (rowP qa9 o0)::(g2++h1)))⟩)∧o0.length = n0
theorem qdu9 {s1 : Int} {s2 : Int} {s9 : Int} {s10 : Int} {g1 : AHeap} {v0 : Nat} {n0 : Nat} {g2 : AHeap} : SimI C 21268317252094917911888073248812900111 qre9 (qcf9 s1 s2 s9 s10 g1 v0 n0 g2) (qr9 s1 s2 s9 s10) (qbI9 s1 s2 s9 s10 g1 v0 n0 g2) (qdt9 s1 s2 s9 s10 g1 v0 n0 g2):=by
 intro s g r hI hr
 obtain ⟨s11,o0⟩:=s
 have ⟨gt,hg0⟩ : ∃ y,y = g:=⟨_,rfl⟩
 subst hg0
 simp only [qcf9] at hI
 have hI0:=hI
 simp only [qr9] at hr
 rcases iteP hr with ⟨h1,hr⟩ | ⟨h1,hr⟩
 obtain ⟨x10,h2,x11,h3,x12,h4,hr⟩:=bs3 hr
 have h2a:=eq_true (qb9 h2).1
 have h2b : (s11 < (n0 : Int)) = True:=eq_true (by have hb : s11 < (o0.length : Int):=(qb9 h2).2.1; omega)
 have h2c:=(qb9 h2).2.2
 have h3a:=eq_true (qb9 h3).1
 have h3b : ((w64 (s11 - 1)) < (n0 : Int)) = True:=eq_true (by have hb : (w64 (s11 - 1)) < (o0.length : Int):=(qb9 h3).2.1; omega)
 have h3c:=(qb9 h3).2.2
 have h4k:=fun h=>(qF9 h4).o rfl rfl rfl (h:=h) (args:=[.ag [.d (.rd (x10.Coef.map qc9)),.d (.rd (x10.Exps.map intD))],.ag [.d (.rd (x11.Coef.map qc9)),.d (.rd (x11.Exps.map intD))]]) rfl
 try simp only [go_sem] at h4k
 rcases iteP hr with ⟨h5,hr⟩ | ⟨h5,hr⟩
 obtain ⟨x13,h6,hr⟩:=bsome hr
 have h6a:=eq_true (qb9 h6).1
 have h6b : ((w64 (s11 - 1)) < (n0 : Int)) = True:=eq_true (by have hb : (w64 (s11 - 1)) < ((o0.set (s11).toNat x11).length : Int):=(qb9 h6).2.1; simp only [llA,lrA] at hb; omega)
 have h6c:=(qb9 h6).2.2
 obtain rfl:=oiA hr
 refine ⟨⟨gt,?_⟩,(show ((o0.set (s11).toNat x11).set (w64 (s11 - 1)).toNat x10).length = n0 by first | assumption | (simp only [llA,lrA]; first | done | assumption | omega) | omega)⟩
 rotate_left
 obtain rfl:=oiA hr
 refine xe_of ⟨PI s11,gt,rfl,(show o0.length = n0 by first | assumption | (simp only [llA,lrA]; first | done | assumption | omega) | omega)⟩ ?_
 rotate_left
 obtain rfl:=oiA hr
 refine xe_of ⟨PI s11,gt,rfl,(show o0.length = n0 by first | assumption | (simp only [llA,lrA]; first | done | assumption | omega) | omega)⟩ ?_
 rotate_left
 all_goals (simp +decide only [go_sem,decide_not,qbI9,qre9, *])
def qX9 (s1 : Int) (s2 : Int) (s10 : Int) (o0 : List Mono) (g1 : AHeap) (v0 : Nat) (n0 : Nat) (g2 : AHeap) : Int→AHeap→St:=fun s9 gt=>⟨[(0,.ref g1.length v0 0 n0),(1,PI s1),(2,PI s2),(3,.fn 76 []),(8,PB false),(9,PI s9),(10,PI s10)],(g1++(.row false v0 2 (rowP qa9 o0)::(g2++gt)))⟩
def qca9 (s1 : Int) (s2 : Int) (s10 : Int) (o0 : List Mono) (g1 : AHeap) (v0 : Nat) (n0 : Nat) (g2 : AHeap) : Int→Prop:=fun s9=>o0.length = n0
def qdp9 (s1 : Int) (s2 : Int) (s10 : Int) (o0 : List Mono) (g1 : AHeap) (v0 : Nat) (n0 : Nat) (g2 : AHeap) : Int→AExit × St→Prop:=fun s9 q=>∃ g,q = (.exit 2,qX9 s1 s2 s10 o0 g1 v0 n0 g2 s9 g)
theorem qdq9 {s1 : Int} {s2 : Int} {s10 : Int} {o0 : List Mono} {g1 : AHeap} {v0 : Nat} {n0 : Nat} {g2 : AHeap} : SimI C 21268317252094917911888073248812900111 qpv9 (qca9 s1 s2 s10 o0 g1 v0 n0 g2) (qn9 s1 s2 s10 o0) (qX9 s1 s2 s10 o0 g1 v0 n0 g2) (qdp9 s1 s2 s10 o0 g1 v0 n0 g2):=by
 intro s g r hI hr
 have ⟨s9,hs0⟩ : ∃ y,y = s:=⟨_,rfl⟩
 subst hs0
 have ⟨gt,hg0⟩ : ∃ y,y = g:=⟨_,rfl⟩
 subst hg0
 simp only [qca9] at hI
 have hI0:=hI
 simp only [qn9] at hr
 rcases iteP hr with ⟨h1,hr⟩ | ⟨h1,hr⟩
 obtain ⟨x1,h2,x2,h3,x3,h4,hr⟩:=bs3 hr
 have h2a:=eq_true (qb9 h2).1
 have h2b : (s9 < (n0 : Int)) = True:=eq_true (by have hb : s9 < (o0.length : Int):=(qb9 h2).2.1; omega)
 have h2c:=(qb9 h2).2.2
 have h3a:=eq_true (qb9 h3).1
 have h3b : ((w64 (s9 - 1)) < (n0 : Int)) = True:=eq_true (by have hb : (w64 (s9 - 1)) < (o0.length : Int):=(qb9 h3).2.1; omega)
 have h3c:=(qb9 h3).2.2
 have h4k:=fun h=>(qF9 h4).o rfl rfl rfl (h:=h) (args:=[.ag [.d (.rd (x1.Coef.map qc9)),.d (.rd (x1.Exps.map intD))],.ag [.d (.rd (x2.Coef.map qc9)),.d (.rd (x2.Exps.map intD))]]) rfl
 try simp only [go_sem] at h4k
 rcases iteP hr with ⟨h5,hr⟩ | ⟨h5,hr⟩
 obtain rfl:=oiA hr
 refine xe_of ⟨gt,rfl⟩ ?_
 rotate_left
 obtain rfl:=oiA hr
 refine ⟨⟨gt,?_⟩,(show o0.length = n0 by first | assumption | (simp only [llA,lrA]; first | done | assumption | omega) | omega)⟩
 rotate_left
 obtain rfl:=oiA hr
 refine xe_of ⟨gt,rfl⟩ ?_
 rotate_left
 all_goals (simp +decide only [go_sem,decide_not,qX9,qpv9, *])
def qH9 (s1 : Int) (s2 : Int) (g1 : AHeap) (v0 : Nat) (n0 : Nat) (g2 : AHeap) : Int × Int × (List Mono)→AHeap→St:=fun (s9,s10,o0) gt=>⟨[(0,.ref g1.length v0 0 n0),(1,PI s1),(2,PI s2),(3,.fn 76 []),(8,PB false),(9,PI s9),(10,PI s10)],(g1++(.row false v0 2 (rowP qa9 o0)::(g2++gt)))⟩
def qcb9 (s1 : Int) (s2 : Int) (g1 : AHeap) (v0 : Nat) (n0 : Nat) (g2 : AHeap) : Int × Int × (List Mono)→Prop:=fun (s9,s10,o0)=>o0.length = n0
def qdm9 (s1 : Int) (s2 : Int) (g1 : AHeap) (v0 : Nat) (n0 : Nat) (g2 : AHeap) : ((Bool × (List Mono)) ⊕ (Int × Int × (List Mono)))→AExit × St→Prop
 | .inl r,q=>XL C [.tmp 8] (fun vs hp=>∃ hz : AHeap,vs = [PB r.1]∧hp = (g1++(.row false v0 2 (rowP qa9 r.2)::(g2++hz)))∧r.2.length = n0) q
 | .inr (s9,s10,o0),q=>∃ g,q = (.exit 0,qH9 s1 s2 g1 v0 n0 g2 (s9,s10,o0) g)∧o0.length = n0
theorem qds9 {s1 : Int} {s2 : Int} {g1 : AHeap} {v0 : Nat} {n0 : Nat} {g2 : AHeap} : SimI C 21268317252094917911888073248812900111 qoT9 (qcb9 s1 s2 g1 v0 n0 g2) (qq9 s1 s2) (qH9 s1 s2 g1 v0 n0 g2) (qdm9 s1 s2 g1 v0 n0 g2):=by
 intro s g r hI hr
 obtain ⟨s9,s10,o0⟩:=s
 have ⟨gt,hg0⟩ : ∃ y,y = g:=⟨_,rfl⟩
 subst hg0
 simp only [qcb9] at hI
 have hI0:=hI
 simp only [qq9] at hr
 rcases iteP hr with ⟨h1,hr⟩ | ⟨h1,hr⟩
 obtain ⟨x4,h2,hr⟩:=bsome hr
 obtain ⟨q2,h2L,h2X⟩:=(qdq9 (g1:=g1) (v0:=v0) (n0:=n0) (g2:=(g2++gt))).L (g:=[]) h2 (show o0.length = n0 by first | assumption | (simp only [llA,lrA]; first | done | assumption | omega) | omega)
 have ⟨x5,hq2⟩ : ∃ y,y = x4:=⟨_,rfl⟩
 subst hq2
 try dsimp only at hr
 obtain ⟨z6,rfl⟩:=h2X
 simp only [qX9,go_sem] at h2L
 try simp only [hI0] at h2L
 rcases iteP hr with ⟨h3,hr⟩ | ⟨h3,hr⟩
 obtain rfl:=oiA hr
 refine xl_of ⟨(gt++z6),rfl,rfl,(show o0.length = n0 by first | assumption | (simp only [llA,lrA]; first | done | assumption | omega) | omega)⟩ ?_
 rotate_left
 rcases iteP hr with ⟨h4,hr⟩ | ⟨h4,hr⟩
 obtain rfl:=oiA hr
 refine xl_of ⟨(gt++z6),rfl,rfl,(show o0.length = n0 by first | assumption | (simp only [llA,lrA]; first | done | assumption | omega) | omega)⟩ ?_
 rotate_left
 obtain ⟨x7,h5,x8,h6,x9,h7,hr⟩:=bs3 hr
 have h5a:=eq_true (qb9 h5).1
 have h5b : ((w64 (x5 - 1)) < (n0 : Int)) = True:=eq_true (by have hb : (w64 (x5 - 1)) < (o0.length : Int):=(qb9 h5).2.1; omega)
 have h5c:=(qb9 h5).2.2
 have h6a:=eq_true (qb9 h6).1
 have h6b : (x5 < (n0 : Int)) = True:=eq_true (by have hb : x5 < (o0.length : Int):=(qb9 h6).2.1; omega)
 have h6c:=(qb9 h6).2.2
 have h7a:=eq_true (qb9 h7).1
 have h7b : ((w64 (x5 - 1)) < (n0 : Int)) = True:=eq_true (by have hb : (w64 (x5 - 1)) < ((o0.set (x5).toNat x7).length : Int):=(qb9 h7).2.1; simp only [llA,lrA] at hb; omega)
 have h7c:=(qb9 h7).2.2
 rcases iteP hr with ⟨h8,hr⟩ | ⟨h8,hr⟩
 obtain ⟨x14,h9,hr⟩:=bsome hr
 obtain ⟨q9,h9L,h9X⟩:=(qdu9 (g1:=g1) (v0:=v0) (n0:=n0) (g2:=(g2++(gt++z6)))).L (g:=[]) h9 (show ((o0.set (x5).toNat x7).set (w64 (x5 - 1)).toNat x8).length = n0 by first | assumption | (simp only [llA,lrA]; first | done | assumption | omega) | omega)
 have ⟨x15,hq9⟩ : ∃ y,y = x14:=⟨_,rfl⟩
 subst hq9
 try dsimp only at hr
 obtain ⟨z16,z17,rfl,h9l0⟩:=h9X
 simp only [qbI9,go_sem] at h9L
 try simp only [hI0] at h9L
 rcases iteP hr with ⟨h10,hr⟩ | ⟨h10,hr⟩
 obtain ⟨x22,h11,hr⟩:=bsome hr
 obtain ⟨q11,h11L,h11X⟩:=(qcc9 (g1:=g1) (v0:=v0) (n0:=n0) (g2:=(g2++(gt++(z6++z17))))).L (g:=[]) h11 (show x15.length = n0 by first | assumption | (simp only [llA,lrA]; first | done | assumption | omega) | omega)
 have ⟨x23,hq11⟩ : ∃ y,y = x22:=⟨_,rfl⟩
 subst hq11
 try dsimp only at hr
 obtain ⟨z24,z25,rfl,h11l0⟩:=h11X
 simp only [qba9,go_sem] at h11L
 try simp only [hI0] at h11L
 obtain rfl:=oiA hr
 refine ⟨⟨(gt++(z6++(z17++z25))),?_⟩,(show x23.length = n0 by first | assumption | (simp only [llA,lrA]; first | done | assumption | omega) | omega)⟩
 rotate_left
 obtain rfl:=oiA hr
 refine ⟨⟨(gt++(z6++z17)),?_⟩,(show x15.length = n0 by first | assumption | (simp only [llA,lrA]; first | done | assumption | omega) | omega)⟩
 rotate_left
 rcases iteP hr with ⟨h12,hr⟩ | ⟨h12,hr⟩
 obtain ⟨x30,h13,hr⟩:=bsome hr
 obtain ⟨q13,h13L,h13X⟩:=(qcc9 (g1:=g1) (v0:=v0) (n0:=n0) (g2:=(g2++(gt++z6)))).L (g:=[]) h13 (show ((o0.set (x5).toNat x7).set (w64 (x5 - 1)).toNat x8).length = n0 by first | assumption | (simp only [llA,lrA]; first | done | assumption | omega) | omega)
 have ⟨x31,hq13⟩ : ∃ y,y = x30:=⟨_,rfl⟩
 subst hq13
 try dsimp only at hr
 obtain ⟨z32,z33,rfl,h13l0⟩:=h13X
 simp only [qba9,go_sem] at h13L
 try simp only [hI0] at h13L
 obtain rfl:=oiA hr
 refine ⟨⟨(gt++(z6++z33)),?_⟩,(show x31.length = n0 by first | assumption | (simp only [llA,lrA]; first | done | assumption | omega) | omega)⟩
 rotate_left
 obtain rfl:=oiA hr
 refine ⟨⟨(gt++z6),?_⟩,(show ((o0.set (x5).toNat x7).set (w64 (x5 - 1)).toNat x8).length = n0 by first | assumption | (simp only [llA,lrA]; first | done | assumption | omega) | omega)⟩
 rotate_left
 obtain rfl:=oiA hr
 refine xe_of ⟨gt,rfl,(show o0.length = n0 by first | assumption | (simp only [llA,lrA]; first | done | assumption | omega) | omega)⟩ ?_
 rotate_left
 all_goals (simp +decide only [go_sem,decide_not,qH9,qoT9, *])
theorem qci9 {s1 : Int} {s2 : Int} {o0 : List Mono} {g1 : AHeap} {v0 : Nat} {n0 : Nat} {g2 : AHeap} (hln0 : o0.length = n0) {r : Bool × (List Mono)} (hr : qu9 s1 s2 o0 = some r) : ∃ hz : AHeap,Lim C 94 [.ref g1.length v0 0 n0,PI s1,PI s2,.fn 76 []] (g1++(.row false v0 2 (rowP qa9 o0)::g2)) = some (resOf [PB r.1],(g1++(.row false v0 2 (rowP qa9 r.2)::(g2++hz))))∧r.2.length = n0:=by
 simp only [qu9] at hr
 obtain ⟨x34,h1,hr⟩:=bsome hr
 obtain ⟨q1,h1L,h1X⟩:=(qds9 (g1:=g1) (v0:=v0) (n0:=n0) (g2:=g2)).L (g:=[]) h1 (show o0.length = n0 by first | assumption | (simp only [llA,lrA]; first | done | assumption | omega) | omega)
 rcases x34 with x35 | ⟨x36,x37,x38⟩
 try dsimp only at hr
 obtain ⟨st1,_,_,rfl,h1R,y2,rfl,rfl,h1f0⟩:=h1X
 simp only [qH9,go_sem] at h1L
 try simp only [hln0] at h1L
 obtain rfl:=oiA hr
 refine ⟨y2,run_L is94 (nbA rfl) ?_,h1f0⟩
 rotate_left
 try dsimp only at hr
 obtain ⟨z39,rfl,h1l0⟩:=h1X
 simp only [qH9,go_sem] at h1L
 try simp only [hln0] at h1L
 obtain rfl:=oiA hr
 refine ⟨z39,run_L is94 (nbA rfl) ?_,(show x38.length = n0 by first | assumption | (simp only [llA,lrA]; first | done | assumption | omega) | omega)⟩
 rotate_left
 all_goals (simp +decide only [go_sem,decide_not,c94, *])
end Lt
namespace Lt
open Ld Go Go.Proofs Go.Abs
set_option maxRecDepth 8000
def qqj9 : ACode:=.seq (.seq (.reg [] [] [.M 123 12,.M 124 13,.T 125 (.bin .leq (.tmp 123) (.tmp 124)),.M 126 125,.MG 127 126 true 4,.MG 128 126 true 0,.MG 129 126 true 13,⟨some (130,false),.ix 2 (.tmp 128) (.tmp 129),some (126,true),true,false⟩,⟨some (131,false),.load (some 2) (.tmp 130),some (126,true),true,false⟩,.MG 132 126 true 0,.MG 133 126 true 1,⟨some (134,false),.ix 2 (.tmp 132) (.tmp 133),some (126,true),true,false⟩,⟨some (135,false),.load (some 2) (.tmp 134),some (126,true),true,false⟩,⟨some (136,false),.callV (.tmp 127) [.tmp 131,.tmp 135],some (126,true),true,false⟩,.TG 137 126 true (.bin .lss (.tmp 136) (cI 0)),.TG 138 126 true (.not (.tmp 137)),.K 139 (.pick (.tmp 126) (.tmp 138) (.const (.bool false)))]) (.cond (.tmp 139) (some 139) (.skip) (.exit 8))) (.block 9 696898287454081973172991196020261297061888 (.reg [] [] [.M 140 13,.T 141 (.bin .sub (.tmp 140) (cI 1)),.N 13 141]))
def qpN9 : ACode:=.seq (.seq (.reg [] [] [.M 105 12,.M 106 13,.T 107 (.bin .leq (.tmp 105) (.tmp 106)),.M 108 107,.MG 109 108 true 4,.MG 110 108 true 0,.MG 111 108 true 12,⟨some (112,false),.ix 2 (.tmp 110) (.tmp 111),some (108,true),true,false⟩,⟨some (113,false),.load (some 2) (.tmp 112),some (108,true),true,false⟩,.MG 114 108 true 0,.MG 115 108 true 1,⟨some (116,false),.ix 2 (.tmp 114) (.tmp 115),some (108,true),true,false⟩,⟨some (117,false),.load (some 2) (.tmp 116),some (108,true),true,false⟩,⟨some (118,false),.callV (.tmp 109) [.tmp 113,.tmp 117],some (108,true),true,false⟩,.TG 119 108 true (.bin .lss (.tmp 118) (cI 0)),.K 120 (.pick (.tmp 108) (.tmp 119) (.const (.bool false)))]) (.cond (.tmp 120) (some 120) (.skip) (.exit 6))) (.block 7 1329227995784915872903807060280344576 (.reg [] [] [.M 121 12,.T 122 (.bin .add (.tmp 121) (cI 1)),.N 12 122]))
def qqW9 : ACode:=.block 5 22997644815212700899624582372475683083386880 (.seq (.block 6 1329227995784915872903807060280344576 (.loop qpN9)) (.seq (.block 8 696899616682077758088864099827321577406464 (.loop qqj9)) (.seq (.seq (.reg [] [] [.M 142 12,.M 143 13,.K 144 (.bin .gtr (.tmp 142) (.tmp 143))]) (.cond (.tmp 144) (some 144) (.exit 4) (.skip))) (.seq (.reg [] [] [.M 145 0,.M 146 12,.M 147 0,.M 148 13,.M 149 0,.M 150 13,⟨some (151,false),.ix 2 (.tmp 149) (.tmp 150),none,true,false⟩,⟨some (152,false),.load (some 2) (.tmp 151),none,true,false⟩,.M 153 0,.M 154 12,⟨some (155,false),.ix 2 (.tmp 153) (.tmp 154),none,true,false⟩,⟨some (156,false),.load (some 2) (.tmp 155),none,true,false⟩,⟨some (157,false),.ix 2 (.tmp 145) (.tmp 146),none,true,false⟩,⟨none,.store 2 (.tmp 157) (.tmp 152),none,false,false⟩,⟨some (158,false),.ix 2 (.tmp 147) (.tmp 148),none,true,false⟩,⟨none,.store 2 (.tmp 158) (.tmp 156),none,false,false⟩]) (.seq (.reg [] [] [.M 159 12,.T 160 (.bin .add (.tmp 159) (cI 1)),.N 12 160]) (.reg [] [] [.M 161 13,.T 162 (.bin .sub (.tmp 161) (cI 1)),.N 13 162]))))))
def qpb9 : ACode:=.seq (.seq (.reg [] [] [.M 50 12,.M 51 13,.T 52 (.bin .leq (.tmp 50) (.tmp 51)),.M 53 52,.MG 54 53 true 4,.MG 55 53 true 0,.MG 56 53 true 13,⟨some (57,false),.ix 2 (.tmp 55) (.tmp 56),some (53,true),true,false⟩,⟨some (58,false),.load (some 2) (.tmp 57),some (53,true),true,false⟩,.MG 59 53 true 0,.MG 60 53 true 1,⟨some (61,false),.ix 2 (.tmp 59) (.tmp 60),some (53,true),true,false⟩,⟨some (62,false),.load (some 2) (.tmp 61),some (53,true),true,false⟩,⟨some (63,false),.callV (.tmp 54) [.tmp 58,.tmp 62],some (53,true),true,false⟩,.TG 64 53 true (.bin .lss (.tmp 63) (cI 0)),.TG 65 53 true (.not (.tmp 64)),.K 66 (.pick (.tmp 53) (.tmp 65) (.const (.bool false)))]) (.cond (.tmp 66) (some 66) (.skip) (.exit 2))) (.block 3 73786976294838206464 (.reg [] [] [.M 67 13,.T 68 (.bin .sub (.tmp 67) (cI 1)),.N 13 68]))
def qoM9 : ACode:=.seq (.seq (.reg [] [] [.M 32 12,.M 33 13,.T 34 (.bin .leq (.tmp 32) (.tmp 33)),.M 35 34,.MG 36 35 true 4,.MG 37 35 true 0,.MG 38 35 true 12,⟨some (39,false),.ix 2 (.tmp 37) (.tmp 38),some (35,true),true,false⟩,⟨some (40,false),.load (some 2) (.tmp 39),some (35,true),true,false⟩,.MG 41 35 true 0,.MG 42 35 true 1,⟨some (43,false),.ix 2 (.tmp 41) (.tmp 42),some (35,true),true,false⟩,⟨some (44,false),.load (some 2) (.tmp 43),some (35,true),true,false⟩,⟨some (45,false),.callV (.tmp 36) [.tmp 40,.tmp 44],some (35,true),true,false⟩,.TG 46 35 true (.bin .lss (.tmp 45) (cI 0)),.K 47 (.pick (.tmp 35) (.tmp 46) (.const (.bool false)))]) (.cond (.tmp 47) (some 47) (.skip) (.exit 0))) (.block 1 140737488355328 (.reg [] [] [.M 48 12,.T 49 (.bin .add (.tmp 48) (cI 1)),.N 12 49]))
def c96 : ACode:=.seq (.reg [] [] [.K 10 (.mv (cI 0)),.K 11 (.mv (.const (.bool false)))]) (.seq (.reg [] [] [.M 14 0,.M 15 1,.M 16 0,.M 17 3,.M 18 0,.M 19 3,⟨some (20,false),.ix 2 (.tmp 18) (.tmp 19),none,true,false⟩,⟨some (21,false),.load (some 2) (.tmp 20),none,true,false⟩,.M 22 0,.M 23 1,⟨some (24,false),.ix 2 (.tmp 22) (.tmp 23),none,true,false⟩,⟨some (25,false),.load (some 2) (.tmp 24),none,true,false⟩,⟨some (26,false),.ix 2 (.tmp 14) (.tmp 15),none,true,false⟩,⟨none,.store 2 (.tmp 26) (.tmp 21),none,false,false⟩,⟨some (27,false),.ix 2 (.tmp 16) (.tmp 17),none,true,false⟩,⟨none,.store 2 (.tmp 27) (.tmp 25),none,false,false⟩]) (.seq (.reg [] [] [.M 28 1,.T 29 (.bin .add (.tmp 28) (cI 1)),.M 30 2,.T 31 (.bin .sub (.tmp 30) (cI 1)),.N 12 29,.N 13 31]) (.seq (.block 0 140737488355328 (.loop qoM9)) (.seq (.block 2 73786976294838206464 (.loop qpb9)) (.seq (.seq (.reg [] [] [.M 69 12,.M 70 13,.K 71 (.bin .gtr (.tmp 69) (.tmp 70))]) (.cond (.tmp 71) (some 71) (.seq (.reg [] [] [.M 72 0,.M 73 13,.M 74 0,.M 75 1,.M 76 0,.M 77 1,⟨some (78,false),.ix 2 (.tmp 76) (.tmp 77),none,true,false⟩,⟨some (79,false),.load (some 2) (.tmp 78),none,true,false⟩,.M 80 0,.M 81 13,⟨some (82,false),.ix 2 (.tmp 80) (.tmp 81),none,true,false⟩,⟨some (83,false),.load (some 2) (.tmp 82),none,true,false⟩,⟨some (84,false),.ix 2 (.tmp 72) (.tmp 73),none,true,false⟩,⟨none,.store 2 (.tmp 84) (.tmp 79),none,false,false⟩,⟨some (85,false),.ix 2 (.tmp 74) (.tmp 75),none,true,false⟩,⟨none,.store 2 (.tmp 85) (.tmp 83),none,false,false⟩]) (.seq (.reg [] [] [.M 86 13,.N 10 86,.K 11 (.mv (.const (.bool true)))]) (.ret))) (.skip))) (.seq (.reg [] [] [.M 87 0,.M 88 12,.M 89 0,.M 90 13,.M 91 0,.M 92 13,⟨some (93,false),.ix 2 (.tmp 91) (.tmp 92),none,true,false⟩,⟨some (94,false),.load (some 2) (.tmp 93),none,true,false⟩,.M 95 0,.M 96 12,⟨some (97,false),.ix 2 (.tmp 95) (.tmp 96),none,true,false⟩,⟨some (98,false),.load (some 2) (.tmp 97),none,true,false⟩,⟨some (99,false),.ix 2 (.tmp 87) (.tmp 88),none,true,false⟩,⟨none,.store 2 (.tmp 99) (.tmp 94),none,false,false⟩,⟨some (100,false),.ix 2 (.tmp 89) (.tmp 90),none,true,false⟩,⟨none,.store 2 (.tmp 100) (.tmp 98),none,false,false⟩]) (.seq (.reg [] [] [.M 101 12,.T 102 (.bin .add (.tmp 101) (cI 1)),.N 12 102]) (.seq (.reg [] [] [.M 103 13,.T 104 (.bin .sub (.tmp 103) (cI 1)),.N 13 104]) (.seq (.block 4 22997644815212700899624582372475683083386880 (.loop qqW9)) (.seq (.reg [] [] [.M 163 0,.M 164 13,.M 165 0,.M 166 1,.M 167 0,.M 168 1,⟨some (169,false),.ix 2 (.tmp 167) (.tmp 168),none,true,false⟩,⟨some (170,false),.load (some 2) (.tmp 169),none,true,false⟩,.M 171 0,.M 172 13,⟨some (173,false),.ix 2 (.tmp 171) (.tmp 172),none,true,false⟩,⟨some (174,false),.load (some 2) (.tmp 173),none,true,false⟩,⟨some (175,false),.ix 2 (.tmp 163) (.tmp 164),none,true,false⟩,⟨none,.store 2 (.tmp 175) (.tmp 170),none,false,false⟩,⟨some (176,false),.ix 2 (.tmp 165) (.tmp 166),none,true,false⟩,⟨none,.store 2 (.tmp 176) (.tmp 174),none,false,false⟩]) (.seq (.reg [] [] [.M 177 13,.N 10 177,.K 11 (.mv (.const (.bool false)))]) (.ret))))))))))))
theorem is96 : IsF C 96 178 22997644815212700899627017342834150232570911 c96 [.tmp 10,.tmp 11]:=⟨⟨Try.f96,_,C_P ▸ Try.func96,rfl,rfl,rfl,by kernel_rfl,rfl⟩⟩
def qbz9 (s1 : Int) (s2 : Int) (s3 : Int) (s12 : Int) (o0 : List Mono) (g1 : AHeap) (v0 : Nat) (n0 : Nat) (g2 : AHeap) : Int→AHeap→St:=fun s13 gt=>⟨[(0,.ref g1.length v0 0 n0),(1,PI s1),(2,PI s2),(3,PI s3),(4,.fn 76 []),(10,PI 0),(11,PB false),(12,PI s12),(13,PI s13)],(g1++(.row false v0 2 (rowP qa9 o0)::(g2++gt)))⟩
def qcH9 (s1 : Int) (s2 : Int) (s3 : Int) (s12 : Int) (o0 : List Mono) (g1 : AHeap) (v0 : Nat) (n0 : Nat) (g2 : AHeap) : Int→Prop:=fun s13=>o0.length = n0
def qeo9 (s1 : Int) (s2 : Int) (s3 : Int) (s12 : Int) (o0 : List Mono) (g1 : AHeap) (v0 : Nat) (n0 : Nat) (g2 : AHeap) : Int→AExit × St→Prop:=fun s13 q=>∃ g,q = (.exit 8,qbz9 s1 s2 s3 s12 o0 g1 v0 n0 g2 s13 g)
theorem qer9 {s1 : Int} {s2 : Int} {s3 : Int} {s12 : Int} {o0 : List Mono} {g1 : AHeap} {v0 : Nat} {n0 : Nat} {g2 : AHeap} : SimI C 22997644815212700899627017342834150232570911 qqj9 (qcH9 s1 s2 s3 s12 o0 g1 v0 n0 g2) (qW9 s1 s2 s3 s12 o0) (qbz9 s1 s2 s3 s12 o0 g1 v0 n0 g2) (qeo9 s1 s2 s3 s12 o0 g1 v0 n0 g2):=by
 intro s g r hI hr
 have ⟨s13,hs0⟩ : ∃ y,y = s:=⟨_,rfl⟩
 subst hs0
 have ⟨gt,hg0⟩ : ∃ y,y = g:=⟨_,rfl⟩
 subst hg0
 simp only [qcH9] at hI
 have hI0:=hI
 simp only [qW9] at hr
 rcases iteP hr with ⟨h1,hr⟩ | ⟨h1,hr⟩
 obtain ⟨x28,h2,x29,h3,x30,h4,hr⟩:=bs3 hr
 have h2a:=eq_true (qb9 h2).1
 have h2b : (s13 < (n0 : Int)) = True:=eq_true (by have hb : s13 < (o0.length : Int):=(qb9 h2).2.1; omega)
 have h2c:=(qb9 h2).2.2
 have h3a:=eq_true (qb9 h3).1
 have h3b : (s1 < (n0 : Int)) = True:=eq_true (by have hb : s1 < (o0.length : Int):=(qb9 h3).2.1; omega)
 have h3c:=(qb9 h3).2.2
 have h4k:=fun h=>(qF9 h4).o rfl rfl rfl (h:=h) (args:=[.ag [.d (.rd (x28.Coef.map qc9)),.d (.rd (x28.Exps.map intD))],.ag [.d (.rd (x29.Coef.map qc9)),.d (.rd (x29.Exps.map intD))]]) rfl
 try simp only [go_sem] at h4k
 rcases iteP hr with ⟨h5,hr⟩ | ⟨h5,hr⟩
 obtain rfl:=oiA hr
 refine xe_of ⟨gt,rfl⟩ ?_
 rotate_left
 obtain rfl:=oiA hr
 refine ⟨⟨gt,?_⟩,(show o0.length = n0 by first | assumption | (simp only [llA,lrA]; first | done | assumption | omega) | omega)⟩
 rotate_left
 obtain rfl:=oiA hr
 refine xe_of ⟨gt,rfl⟩ ?_
 rotate_left
 all_goals (simp +decide only [go_sem,decide_not,qbz9,qqj9, *])
def qbx9 (s1 : Int) (s2 : Int) (s3 : Int) (s13 : Int) (o0 : List Mono) (g1 : AHeap) (v0 : Nat) (n0 : Nat) (g2 : AHeap) : Int→AHeap→St:=fun s12 gt=>⟨[(0,.ref g1.length v0 0 n0),(1,PI s1),(2,PI s2),(3,PI s3),(4,.fn 76 []),(10,PI 0),(11,PB false),(12,PI s12),(13,PI s13)],(g1++(.row false v0 2 (rowP qa9 o0)::(g2++gt)))⟩
def qcJ9 (s1 : Int) (s2 : Int) (s3 : Int) (s13 : Int) (o0 : List Mono) (g1 : AHeap) (v0 : Nat) (n0 : Nat) (g2 : AHeap) : Int→Prop:=fun s12=>o0.length = n0
def qeq9 (s1 : Int) (s2 : Int) (s3 : Int) (s13 : Int) (o0 : List Mono) (g1 : AHeap) (v0 : Nat) (n0 : Nat) (g2 : AHeap) : Int→AExit × St→Prop:=fun s12 q=>∃ g,q = (.exit 6,qbx9 s1 s2 s3 s13 o0 g1 v0 n0 g2 s12 g)
theorem qet9 {s1 : Int} {s2 : Int} {s3 : Int} {s13 : Int} {o0 : List Mono} {g1 : AHeap} {v0 : Nat} {n0 : Nat} {g2 : AHeap} : SimI C 22997644815212700899627017342834150232570911 qpN9 (qcJ9 s1 s2 s3 s13 o0 g1 v0 n0 g2) (qbc9 s1 s2 s3 s13 o0) (qbx9 s1 s2 s3 s13 o0 g1 v0 n0 g2) (qeq9 s1 s2 s3 s13 o0 g1 v0 n0 g2):=by
 intro s g r hI hr
 have ⟨s12,hs0⟩ : ∃ y,y = s:=⟨_,rfl⟩
 subst hs0
 have ⟨gt,hg0⟩ : ∃ y,y = g:=⟨_,rfl⟩
 subst hg0
 simp only [qcJ9] at hI
 have hI0:=hI
 simp only [qbc9] at hr
 rcases iteP hr with ⟨h1,hr⟩ | ⟨h1,hr⟩
 obtain ⟨x22,h2,x23,h3,x24,h4,hr⟩:=bs3 hr
 have h2a:=eq_true (qb9 h2).1
 have h2b : (s12 < (n0 : Int)) = True:=eq_true (by have hb : s12 < (o0.length : Int):=(qb9 h2).2.1; omega)
 have h2c:=(qb9 h2).2.2
 have h3a:=eq_true (qb9 h3).1
 have h3b : (s1 < (n0 : Int)) = True:=eq_true (by have hb : s1 < (o0.length : Int):=(qb9 h3).2.1; omega)
 have h3c:=(qb9 h3).2.2
 have h4k:=fun h=>(qF9 h4).o rfl rfl rfl (h:=h) (args:=[.ag [.d (.rd (x22.Coef.map qc9)),.d (.rd (x22.Exps.map intD))],.ag [.d (.rd (x23.Coef.map qc9)),.d (.rd (x23.Exps.map intD))]]) rfl
 try simp only [go_sem] at h4k
 rcases iteP hr with ⟨h5,hr⟩ | ⟨h5,hr⟩
 obtain rfl:=oiA hr
 refine ⟨⟨gt,?_⟩,(show o0.length = n0 by first | assumption | (simp only [llA,lrA]; first | done | assumption | omega) | omega)⟩
 rotate_left
 obtain rfl:=oiA hr
 refine xe_of ⟨gt,rfl⟩ ?_
 rotate_left
 obtain rfl:=oiA hr
 refine xe_of ⟨gt,rfl⟩ ?_
 rotate_left
 all_goals (simp +decide only [go_sem,decide_not,qbx9,qpN9, *])
def qbu9 (s1 : Int) (s2 : Int) (s3 : Int) (g1 : AHeap) (v0 : Nat) (n0 : Nat) (g2 : AHeap) : Int × Int × (List Mono)→AHeap→St:=fun (s12,s13,o0) gt=>⟨[(0,.ref g1.length v0 0 n0),(1,PI s1),(2,PI s2),(3,PI s3),(4,.fn 76 []),(10,PI 0),(11,PB false),(12,PI s12),(13,PI s13)],(g1++(.row false v0 2 (rowP qa9 o0)::(g2++gt)))⟩
def qcI9 (s1 : Int) (s2 : Int) (s3 : Int) (g1 : AHeap) (v0 : Nat) (n0 : Nat) (g2 : AHeap) : Int × Int × (List Mono)→Prop:=fun (s12,s13,o0)=>o0.length = n0
def qew9 (s1 : Int) (s2 : Int) (s3 : Int) (g1 : AHeap) (v0 : Nat) (n0 : Nat) (g2 : AHeap) : (Int × Int × (List Mono))→AExit × St→Prop:=fun (s12,s13,o0) q=>∃ g,q = (.exit 4,qbu9 s1 s2 s3 g1 v0 n0 g2 (s12,s13,o0) g)∧o0.length = n0
theorem qey9 {s1 : Int} {s2 : Int} {s3 : Int} {g1 : AHeap} {v0 : Nat} {n0 : Nat} {g2 : AHeap} : SimI C 22997644815212700899627017342834150232570911 qqW9 (qcI9 s1 s2 s3 g1 v0 n0 g2) (qv9 s1 s2 s3) (qbu9 s1 s2 s3 g1 v0 n0 g2) (qew9 s1 s2 s3 g1 v0 n0 g2):=by
 intro s g r hI hr
 obtain ⟨s12,s13,o0⟩:=s
 have ⟨gt,hg0⟩ : ∃ y,y = g:=⟨_,rfl⟩
 subst hg0
 simp only [qcI9] at hI
 have hI0:=hI
 simp only [qv9] at hr
 obtain ⟨x25,h1,hr⟩:=bsome hr
 obtain ⟨q1,h1L,h1X⟩:=(qet9 (g1:=g1) (v0:=v0) (n0:=n0) (g2:=(g2++gt))).L (g:=[]) h1 (show o0.length = n0 by first | assumption | (simp only [llA,lrA]; first | done | assumption | omega) | omega)
 have ⟨x26,hq1⟩ : ∃ y,y = x25:=⟨_,rfl⟩
 subst hq1
 try dsimp only at hr
 obtain ⟨z27,rfl⟩:=h1X
 simp only [qbx9,go_sem] at h1L
 try simp only [hI0] at h1L
 obtain ⟨x31,h2,hr⟩:=bsome hr
 obtain ⟨q2,h2L,h2X⟩:=(qer9 (g1:=g1) (v0:=v0) (n0:=n0) (g2:=(g2++(gt++z27)))).L (g:=[]) h2 (show o0.length = n0 by first | assumption | (simp only [llA,lrA]; first | done | assumption | omega) | omega)
 have ⟨x32,hq2⟩ : ∃ y,y = x31:=⟨_,rfl⟩
 subst hq2
 try dsimp only at hr
 obtain ⟨z33,rfl⟩:=h2X
 simp only [qbz9,go_sem] at h2L
 try simp only [hI0] at h2L
 rcases iteP hr with ⟨h3,hr⟩ | ⟨h3,hr⟩
 obtain rfl:=oiA hr
 refine xe_of ⟨(gt++(z27++z33)),rfl,(show o0.length = n0 by first | assumption | (simp only [llA,lrA]; first | done | assumption | omega) | omega)⟩ ?_
 rotate_left
 obtain ⟨x34,h4,x35,h5,x36,h6,hr⟩:=bs3 hr
 have h4a:=eq_true (qb9 h4).1
 have h4b : (x32 < (n0 : Int)) = True:=eq_true (by have hb : x32 < (o0.length : Int):=(qb9 h4).2.1; omega)
 have h4c:=(qb9 h4).2.2
 have h5a:=eq_true (qb9 h5).1
 have h5b : (x26 < (n0 : Int)) = True:=eq_true (by have hb : x26 < (o0.length : Int):=(qb9 h5).2.1; omega)
 have h5c:=(qb9 h5).2.2
 have h6a:=eq_true (qb9 h6).1
 have h6b : (x32 < (n0 : Int)) = True:=eq_true (by have hb : x32 < ((o0.set (x26).toNat x34).length : Int):=(qb9 h6).2.1; simp only [llA,lrA] at hb; omega)
 have h6c:=(qb9 h6).2.2
 obtain rfl:=oiA hr
 refine ⟨⟨(gt++(z27++z33)),?_⟩,(show ((o0.set (x26).toNat x34).set (x32).toNat x35).length = n0 by first | assumption | (simp only [llA,lrA]; first | done | assumption | omega) | omega)⟩
 rotate_left
 all_goals (simp +decide only [go_sem,decide_not,qbu9,qqW9, *])
def qbv9 (s1 : Int) (s2 : Int) (s3 : Int) (s12 : Int) (o0 : List Mono) (g1 : AHeap) (v0 : Nat) (n0 : Nat) (g2 : AHeap) : Int→AHeap→St:=fun s13 gt=>⟨[(0,.ref g1.length v0 0 n0),(1,PI s1),(2,PI s2),(3,PI s3),(4,.fn 76 []),(10,PI 0),(11,PB false),(12,PI s12),(13,PI s13)],(g1++(.row false v0 2 (rowP qa9 o0)::(g2++gt)))⟩
def qcG9 (s1 : Int) (s2 : Int) (s3 : Int) (s12 : Int) (o0 : List Mono) (g1 : AHeap) (v0 : Nat) (n0 : Nat) (g2 : AHeap) : Int→Prop:=fun s13=>o0.length = n0
def qen9 (s1 : Int) (s2 : Int) (s3 : Int) (s12 : Int) (o0 : List Mono) (g1 : AHeap) (v0 : Nat) (n0 : Nat) (g2 : AHeap) : Int→AExit × St→Prop:=fun s13 q=>∃ g,q = (.exit 2,qbv9 s1 s2 s3 s12 o0 g1 v0 n0 g2 s13 g)
theorem qev9 {s1 : Int} {s2 : Int} {s3 : Int} {s12 : Int} {o0 : List Mono} {g1 : AHeap} {v0 : Nat} {n0 : Nat} {g2 : AHeap} : SimI C 22997644815212700899627017342834150232570911 qpb9 (qcG9 s1 s2 s3 s12 o0 g1 v0 n0 g2) (qY9 s1 s2 s3 s12 o0) (qbv9 s1 s2 s3 s12 o0 g1 v0 n0 g2) (qen9 s1 s2 s3 s12 o0 g1 v0 n0 g2):=by
 intro s g r hI hr
 have ⟨s13,hs0⟩ : ∃ y,y = s:=⟨_,rfl⟩
 subst hs0
 have ⟨gt,hg0⟩ : ∃ y,y = g:=⟨_,rfl⟩
 subst hg0
 simp only [qcG9] at hI
 have hI0:=hI
 simp only [qY9] at hr
 rcases iteP hr with ⟨h1,hr⟩ | ⟨h1,hr⟩
 obtain ⟨x10,h2,x11,h3,x12,h4,hr⟩:=bs3 hr
 have h2a:=eq_true (qb9 h2).1
 have h2b : (s13 < (n0 : Int)) = True:=eq_true (by have hb : s13 < (o0.length : Int):=(qb9 h2).2.1; omega)
 have h2c:=(qb9 h2).2.2
 have h3a:=eq_true (qb9 h3).1
 have h3b : (s1 < (n0 : Int)) = True:=eq_true (by have hb : s1 < (o0.length : Int):=(qb9 h3).2.1; omega)
 have h3c:=(qb9 h3).2.2
 have h4k:=fun h=>(qF9 h4).o rfl rfl rfl (h:=h) (args:=[.ag [.d (.rd (x10.Coef.map qc9)),.d (.rd (x10.Exps.map intD))],.ag [.d (.rd (x11.Coef.map qc9)),.d (.rd (x11.Exps.map intD))]]) rfl
 try simp only [go_sem] at h4k
 rcases iteP hr with ⟨h5,hr⟩ | ⟨h5,hr⟩
 obtain rfl:=oiA hr
 refine xe_of ⟨gt,rfl⟩ ?_
 rotate_left
 obtain rfl:=oiA hr
 refine ⟨⟨gt,?_⟩,(show o0.length = n0 by first | assumption | (simp only [llA,lrA]; first | done | assumption | omega) | omega)⟩
 rotate_left
 obtain rfl:=oiA hr
 refine xe_of ⟨gt,rfl⟩ ?_
 rotate_left
 all_goals (simp +decide only [go_sem,decide_not,qbv9,qpb9, *])
def qbw9 (s1 : Int) (s2 : Int) (s3 : Int) (s13 : Int) (o0 : List Mono) (g1 : AHeap) (v0 : Nat) (n0 : Nat) (g2 : AHeap) : Int→AHeap→St:=fun s12 gt=>⟨[(0,.ref g1.length v0 0 n0),(1,PI s1),(2,PI s2),(3,PI s3),(4,.fn 76 []),(10,PI 0),(11,PB false),(12,PI s12),(13,PI s13)],(g1++(.row false v0 2 (rowP qa9 o0)::(g2++gt)))⟩
def qcL9 (s1 : Int) (s2 : Int) (s3 : Int) (s13 : Int) (o0 : List Mono) (g1 : AHeap) (v0 : Nat) (n0 : Nat) (g2 : AHeap) : Int→Prop:=fun s12=>o0.length = n0
def qes9 (s1 : Int) (s2 : Int) (s3 : Int) (s13 : Int) (o0 : List Mono) (g1 : AHeap) (v0 : Nat) (n0 : Nat) (g2 : AHeap) : Int→AExit × St→Prop:=fun s12 q=>∃ g,q = (.exit 0,qbw9 s1 s2 s3 s13 o0 g1 v0 n0 g2 s12 g)
theorem qep9 {s1 : Int} {s2 : Int} {s3 : Int} {s13 : Int} {o0 : List Mono} {g1 : AHeap} {v0 : Nat} {n0 : Nat} {g2 : AHeap} : SimI C 22997644815212700899627017342834150232570911 qoM9 (qcL9 s1 s2 s3 s13 o0 g1 v0 n0 g2) (qZ9 s1 s2 s3 s13 o0) (qbw9 s1 s2 s3 s13 o0 g1 v0 n0 g2) (qes9 s1 s2 s3 s13 o0 g1 v0 n0 g2):=by
 intro s g r hI hr
 have ⟨s12,hs0⟩ : ∃ y,y = s:=⟨_,rfl⟩
 subst hs0
 have ⟨gt,hg0⟩ : ∃ y,y = g:=⟨_,rfl⟩
 subst hg0
 simp only [qcL9] at hI
 have hI0:=hI
 simp only [qZ9] at hr
 rcases iteP hr with ⟨h1,hr⟩ | ⟨h1,hr⟩
 obtain ⟨x4,h2,x5,h3,x6,h4,hr⟩:=bs3 hr
 have h2a:=eq_true (qb9 h2).1
 have h2b : (s12 < (n0 : Int)) = True:=eq_true (by have hb : s12 < (o0.length : Int):=(qb9 h2).2.1; omega)
 have h2c:=(qb9 h2).2.2
 have h3a:=eq_true (qb9 h3).1
 have h3b : (s1 < (n0 : Int)) = True:=eq_true (by have hb : s1 < (o0.length : Int):=(qb9 h3).2.1; omega)
 have h3c:=(qb9 h3).2.2
 have h4k:=fun h=>(qF9 h4).o rfl rfl rfl (h:=h) (args:=[.ag [.d (.rd (x4.Coef.map qc9)),.d (.rd (x4.Exps.map intD))],.ag [.d (.rd (x5.Coef.map qc9)),.d (.rd (x5.Exps.map intD))]]) rfl
 try simp only [go_sem] at h4k
 rcases iteP hr with ⟨h5,hr⟩ | ⟨h5,hr⟩
 obtain rfl:=oiA hr
 refine ⟨⟨gt,?_⟩,(show o0.length = n0 by first | assumption | (simp only [llA,lrA]; first | done | assumption | omega) | omega)⟩
 rotate_left
 obtain rfl:=oiA hr
 refine xe_of ⟨gt,rfl⟩ ?_
 rotate_left
 obtain rfl:=oiA hr
 refine xe_of ⟨gt,rfl⟩ ?_
 rotate_left
 all_goals (simp +decide only [go_sem,decide_not,qbw9,qoM9, *])
theorem qg9 {s1 : Int} {s2 : Int} {s3 : Int} {o0 : List Mono} {g1 : AHeap} {v0 : Nat} {n0 : Nat} {g2 : AHeap} (hln0 : o0.length = n0) {r : Int × Bool × (List Mono)} (hr : qe9 s1 s2 s3 o0 = some r) : ∃ hz : AHeap,Lim C 96 [.ref g1.length v0 0 n0,PI s1,PI s2,PI s3,.fn 76 []] (g1++(.row false v0 2 (rowP qa9 o0)::g2)) = some (resOf [PI r.1,PB r.2.1],(g1++(.row false v0 2 (rowP qa9 r.2.2)::(g2++hz))))∧r.2.2.length = n0:=by
 simp only [qe9] at hr
 obtain ⟨x1,h1,x2,h2,x3,h3,hr⟩:=bs3 hr
 have h1a:=eq_true (qb9 h1).1
 have h1b : (s3 < (n0 : Int)) = True:=eq_true (by have hb : s3 < (o0.length : Int):=(qb9 h1).2.1; omega)
 have h1c:=(qb9 h1).2.2
 have h2a:=eq_true (qb9 h2).1
 have h2b : (s1 < (n0 : Int)) = True:=eq_true (by have hb : s1 < (o0.length : Int):=(qb9 h2).2.1; omega)
 have h2c:=(qb9 h2).2.2
 have h3a:=eq_true (qb9 h3).1
 have h3b : (s3 < (n0 : Int)) = True:=eq_true (by have hb : s3 < ((o0.set (s1).toNat x1).length : Int):=(qb9 h3).2.1; simp only [llA,lrA] at hb; omega)
 have h3c:=(qb9 h3).2.2
 obtain ⟨x7,h4,hr⟩:=bsome hr
 obtain ⟨q4,h4L,h4X⟩:=(qep9 (g1:=g1) (v0:=v0) (n0:=n0) (g2:=g2)).L (g:=[]) h4 (show ((o0.set (s1).toNat x1).set (s3).toNat x2).length = n0 by first | assumption | (simp only [llA,lrA]; first | done | assumption | omega) | omega)
 have ⟨x8,hq4⟩ : ∃ y,y = x7:=⟨_,rfl⟩
 subst hq4
 try dsimp only at hr
 obtain ⟨z9,rfl⟩:=h4X
 simp only [qbw9,go_sem] at h4L
 try simp only [hln0] at h4L
 obtain ⟨x13,h5,hr⟩:=bsome hr
 obtain ⟨q5,h5L,h5X⟩:=(qev9 (g1:=g1) (v0:=v0) (n0:=n0) (g2:=(g2++z9))).L (g:=[]) h5 (show ((o0.set (s1).toNat x1).set (s3).toNat x2).length = n0 by first | assumption | (simp only [llA,lrA]; first | done | assumption | omega) | omega)
 have ⟨x14,hq5⟩ : ∃ y,y = x13:=⟨_,rfl⟩
 subst hq5
 try dsimp only at hr
 obtain ⟨z15,rfl⟩:=h5X
 simp only [qbv9,go_sem] at h5L
 try simp only [hln0] at h5L
 rcases iteP hr with ⟨h6,hr⟩ | ⟨h6,hr⟩
 obtain ⟨x16,h7,x17,h8,x18,h9,hr⟩:=bs3 hr
 have h7a:=eq_true (qb9 h7).1
 have h7b : (s1 < (n0 : Int)) = True:=eq_true (by have hb : s1 < (((o0.set (s1).toNat x1).set (s3).toNat x2).length : Int):=(qb9 h7).2.1; simp only [llA,lrA] at hb; omega)
 have h7c:=(qb9 h7).2.2
 have h8a:=eq_true (qb9 h8).1
 have h8b : (x14 < (n0 : Int)) = True:=eq_true (by have hb : x14 < (((o0.set (s1).toNat x1).set (s3).toNat x2).length : Int):=(qb9 h8).2.1; simp only [llA,lrA] at hb; omega)
 have h8c:=(qb9 h8).2.2
 have h9a:=eq_true (qb9 h9).1
 have h9b : (s1 < (n0 : Int)) = True:=eq_true (by have hb : s1 < ((((o0.set (s1).toNat x1).set (s3).toNat x2).set (x14).toNat x16).length : Int):=(qb9 h9).2.1; simp only [llA,lrA] at hb; omega)
 have h9c:=(qb9 h9).2.2
 obtain rfl:=oiA hr
 refine ⟨(z9++z15),run_L is96 (nbA rfl) ?_,(show ((((o0.set (s1).toNat x1).set (s3).toNat x2).set (x14).toNat x16).set (s1).toNat x17).length = n0 by first | assumption | (simp only [llA,lrA]; first | done | assumption | omega) | omega)⟩
 rotate_left
 obtain ⟨x19,h10,x20,h11,x21,h12,hr⟩:=bs3 hr
 have h10a:=eq_true (qb9 h10).1
 have h10b : (x14 < (n0 : Int)) = True:=eq_true (by have hb : x14 < (((o0.set (s1).toNat x1).set (s3).toNat x2).length : Int):=(qb9 h10).2.1; simp only [llA,lrA] at hb; omega)
 have h10c:=(qb9 h10).2.2
 have h11a:=eq_true (qb9 h11).1
 have h11b : (x8 < (n0 : Int)) = True:=eq_true (by have hb : x8 < (((o0.set (s1).toNat x1).set (s3).toNat x2).length : Int):=(qb9 h11).2.1; simp only [llA,lrA] at hb; omega)
 have h11c:=(qb9 h11).2.2
 have h12a:=eq_true (qb9 h12).1
 have h12b : (x14 < (n0 : Int)) = True:=eq_true (by have hb : x14 < ((((o0.set (s1).toNat x1).set (s3).toNat x2).set (x8).toNat x19).length : Int):=(qb9 h12).2.1; simp only [llA,lrA] at hb; omega)
 have h12c:=(qb9 h12).2.2
 obtain ⟨x37,h13,hr⟩:=bsome hr
 obtain ⟨q13,h13L,h13X⟩:=(qey9 (g1:=g1) (v0:=v0) (n0:=n0) (g2:=(g2++(z9++z15)))).L (g:=[]) h13 (show ((((o0.set (s1).toNat x1).set (s3).toNat x2).set (x8).toNat x19).set (x14).toNat x20).length = n0 by first | assumption | (simp only [llA,lrA]; first | done | assumption | omega) | omega)
 obtain ⟨x38,x39,x40⟩:=x37
 try dsimp only at hr
 obtain ⟨z41,rfl,h13l0⟩:=h13X
 simp only [qbu9,go_sem] at h13L
 try simp only [hln0] at h13L
 obtain ⟨x42,h14,x43,h15,x44,h16,hr⟩:=bs3 hr
 have h14a:=eq_true (qb9 h14).1
 have h14b : (s1 < (n0 : Int)) = True:=eq_true (by have hb : s1 < (x40.length : Int):=(qb9 h14).2.1; omega)
 have h14c:=(qb9 h14).2.2
 have h15a:=eq_true (qb9 h15).1
 have h15b : (x39 < (n0 : Int)) = True:=eq_true (by have hb : x39 < (x40.length : Int):=(qb9 h15).2.1; omega)
 have h15c:=(qb9 h15).2.2
 have h16a:=eq_true (qb9 h16).1
 have h16b : (s1 < (n0 : Int)) = True:=eq_true (by have hb : s1 < ((x40.set (x39).toNat x42).length : Int):=(qb9 h16).2.1; simp only [llA,lrA] at hb; omega)
 have h16c:=(qb9 h16).2.2
 obtain rfl:=oiA hr
 refine ⟨(z9++(z15++z41)),run_L is96 (nbA rfl) ?_,(show ((x40.set (x39).toNat x42).set (s1).toNat x43).length = n0 by first | assumption | (simp only [llA,lrA]; first | done | assumption | omega) | omega)⟩
 rotate_left
 all_goals (simp +decide only [go_sem,decide_not,c96, *])
end Lt

import Derived.Test.YtmkohpkfeamjiaaTSW2
import Derived.Test.YtmkohpkfeamjiaaTSW5
set_option maxHeartbeats 60000000
set_option linter.unusedVariables false
set_option linter.unusedSimpArgs false
set_option linter.unusedSectionVars false
namespace Lt
open Ld Go Go.Proofs Go.Abs
set_option maxRecDepth 8000
def qpK9 : ACode:=.block 1 42535296023574879666274036850519699456 (.seq (.reg [] [] [.M 21 2,.M 22 1,.T 23 (.bin .sub (.tmp 21) (.tmp 22)),.N 12 23]) (.seq (.seq (.reg [] [] [.M 24 12,.K 25 (.bin .leq (.tmp 24) (cI 12))]) (.cond (.tmp 25) (some 25) (.seq (.reg [] [] [.M 26 0,.M 27 1,.M 28 2,.M 29 4,.T 30 (.call 89 [.tmp 26,.tmp 27,.tmp 28,.tmp 29])]) (.ret)) (.skip))) (.seq (.seq (.reg [] [] [.M 31 3,.K 32 (.bin .eql (.tmp 31) (cI 0))]) (.cond (.tmp 32) (some 32) (.seq (.reg [] [] [.M 33 0,.M 34 1,.M 35 2,.M 36 4,.T 37 (.call 90 [.tmp 33,.tmp 34,.tmp 35,.tmp 36])]) (.ret)) (.skip))) (.seq (.seq (.reg [] [] [.M 38 10,.K 39 (.not (.tmp 38))]) (.cond (.tmp 39) (some 39) (.seq (.reg [] [] [.M 40 0,.M 41 1,.M 42 2,.M 43 4,.T 44 (.call 91 [.tmp 40,.tmp 41,.tmp 42,.tmp 43])]) (.reg [] [] [.M 45 3,.T 46 (.bin .sub (.tmp 45) (cI 1)),.N 3 46])) (.skip))) (.seq (.reg [] [] [.M 48 0,.M 49 1,.M 50 2,.M 51 4,.T 52 (.call 92 [.tmp 48,.tmp 49,.tmp 50,.tmp 51]),.M 47 52,.T 53 (.ext (.tmp 47) 0),.T 54 (.ext (.tmp 47) 1),.N 13 53,.N 14 54]) (.seq (.seq (.reg [] [] [.M 55 14,.K 56 (.bin .eql (.tmp 55) (cI 2))]) (.cond (.tmp 56) (some 56) (.seq (.reg [] [] [.M 57 0,.M 58 1,.M 59 2,.M 60 4,.T 61 (.call 93 [.tmp 57,.tmp 58,.tmp 59,.tmp 60])]) (.seq (.reg [] [] [.M 62 2,.T 63 (.bin .sub (.tmp 62) (cI 1)),.M 64 13,.M 65 1,.T 66 (.bin .sub (.tmp 64) (.tmp 65)),.T 67 (.bin .sub (.tmp 63) (.tmp 66)),.N 13 67]) (.reg [] [] [.K 14 (.mv (cI 1))]))) (.skip))) (.seq (.seq (.reg [] [] [.M 68 10,.M 69 68,.MG 70 69 true 11,.T 71 (.pick (.tmp 69) (.tmp 70) (.const (.bool false))),.M 72 71,.MG 73 72 true 14,.TG 74 72 true (.bin .eql (.tmp 73) (cI 1)),.K 75 (.pick (.tmp 72) (.tmp 74) (.const (.bool false)))]) (.cond (.tmp 75) (some 75) (.seq (.reg [] [] [.M 76 0,.M 77 1,.M 78 2,.M 79 4,.K 80 (.call 94 [.tmp 76,.tmp 77,.tmp 78,.tmp 79])]) (.cond (.tmp 80) (some 80) (.ret) (.skip))) (.skip))) (.seq (.seq (.reg [] [] [.M 81 1,.T 82 (.bin .gtr (.tmp 81) (cI 0)),.M 83 82,.MG 84 83 true 4,.MG 85 83 true 0,.MG 86 83 true 1,.TG 87 83 true (.bin .sub (.tmp 86) (cI 1)),⟨some (88,false),.ix 2 (.tmp 85) (.tmp 87),some (83,true),true,false⟩,⟨some (89,false),.load (some 2) (.tmp 88),some (83,true),true,false⟩,.MG 90 83 true 0,.MG 91 83 true 13,⟨some (92,false),.ix 2 (.tmp 90) (.tmp 91),some (83,true),true,false⟩,⟨some (93,false),.load (some 2) (.tmp 92),some (83,true),true,false⟩,⟨some (94,false),.callV (.tmp 84) [.tmp 89,.tmp 93],some (83,true),true,false⟩,.TG 95 83 true (.bin .lss (.tmp 94) (cI 0)),.TG 96 83 true (.not (.tmp 95)),.K 97 (.pick (.tmp 83) (.tmp 96) (.const (.bool false)))]) (.cond (.tmp 97) (some 97) (.seq (.reg [] [] [.M 98 0,.M 99 1,.M 100 2,.M 101 13,.M 102 4,.T 103 (.call 95 [.tmp 98,.tmp 99,.tmp 100,.tmp 101,.tmp 102]),.N 15 103]) (.seq (.reg [] [] [.M 104 15,.N 1 104]) (.exit 1))) (.skip))) (.seq (.reg [] [] [.M 106 0,.M 107 1,.M 108 2,.M 109 13,.M 110 4,.T 111 (.call 96 [.tmp 106,.tmp 107,.tmp 108,.tmp 109,.tmp 110]),.M 105 111,.T 112 (.ext (.tmp 105) 0),.T 113 (.ext (.tmp 105) 1),.N 16 112,.N 17 113]) (.seq (.reg [] [] [.M 114 17,.N 11 114]) (.seq (.reg [] [] [.M 115 16,.M 116 1,.T 117 (.bin .sub (.tmp 115) (.tmp 116)),.M 118 2,.M 119 16,.T 120 (.bin .sub (.tmp 118) (.tmp 119)),.N 18 117,.N 19 120]) (.seq (.reg [] [] [.M 121 12,.T 122 (.binM .quo (.tmp 121) (cI 8)),.N 20 122]) (.seq (.reg [] [] [.M 123 18,.M 124 19,.K 125 (.bin .lss (.tmp 123) (.tmp 124))]) (.cond (.tmp 125) (some 125) (.seq (.reg [] [] [.M 126 18,.M 127 20,.T 128 (.bin .geq (.tmp 126) (.tmp 127)),.N 10 128]) (.seq (.reg [] [] [.M 129 0,.M 130 1,.M 131 16,.M 132 3,.M 133 4,.T 134 (.call 86 [.tmp 129,.tmp 130,.tmp 131,.tmp 132,.tmp 133])]) (.reg [] [] [.M 135 16,.T 136 (.bin .add (.tmp 135) (cI 1)),.N 1 136]))) (.seq (.reg [] [] [.M 137 19,.M 138 20,.T 139 (.bin .geq (.tmp 137) (.tmp 138)),.N 10 139]) (.seq (.reg [] [] [.M 140 0,.M 141 16,.T 142 (.bin .add (.tmp 141) (cI 1)),.M 143 2,.M 144 3,.M 145 4,.T 146 (.call 86 [.tmp 140,.tmp 142,.tmp 143,.tmp 144,.tmp 145])]) (.reg [] [] [.M 147 16,.N 2 147])))))))))))))))))
def c86 : ACode:=.seq (.reg [] [] [.K 10 (.mv (.const (.bool true)))]) (.seq (.reg [] [] [.K 11 (.mv (.const (.bool true)))]) (.block 0 42535296023574879666274036850519699456 (.loop qpK9)))
theorem is86 : IsF C 86 148 42535296023574879666274036850519702559 c86 []:=⟨⟨Try.f86,_,C_P ▸ Try.func86,rfl,rfl,rfl,by kernel_rfl,rfl⟩⟩
def qbU9 (g1 : AHeap) (v0 : Nat) (n0 : Nat) (g2 : AHeap) : Int × Int × Int × Bool × Bool × (List Mono)→AHeap→St:=fun (s1,s2,s3,s10,s11,o0) gt=>⟨[(0,.ref g1.length v0 0 n0),(1,PI s1),(2,PI s2),(3,PI s3),(4,.fn 76 []),(10,PB s10),(11,PB s11)],(g1++(.row false v0 2 (rowP qa9 o0)::(g2++gt)))⟩
def qcQ9 (g1 : AHeap) (v0 : Nat) (n0 : Nat) (g2 : AHeap) : Int × Int × Int × Bool × Bool × (List Mono)→Prop:=fun (s1,s2,s3,s10,s11,o0)=>o0.length = n0
def qeT9 (g1 : AHeap) (v0 : Nat) (n0 : Nat) (g2 : AHeap) : ((List Mono))→AExit × St→Prop:=fun r q=>XL C [] (fun vs hp=>∃ hz : AHeap,vs = []∧hp = (g1++(.row false v0 2 (rowP qa9 r)::(g2++hz)))∧r.length = n0) q
theorem qeQ9 {rec : Int × Int × Int × (List Mono)→Option ((List Mono))} (hrec : ∀ {s1 : Int} {s2 : Int} {s3 : Int} {o0 : List Mono} {g1 : AHeap} {v0 : Nat} {n0 : Nat} {g2 : AHeap} (hln0 : o0.length = n0) {r : (List Mono)} (_ : rec (s1,s2,s3,o0) = some r),∃ hz : AHeap,callP C (Lim C) 86 [.ref g1.length v0 0 n0,PI s1,PI s2,PI s3,.fn 76 []] (g1++(.row false v0 2 (rowP qa9 o0)::g2)) = some (resOf [],(g1++(.row false v0 2 (rowP qa9 r)::(g2++hz))))∧r.length = n0) {g1 : AHeap} {v0 : Nat} {n0 : Nat} {g2 : AHeap} : SimI C 42535296023574879666274036850519702559 qpK9 (qcQ9 g1 v0 n0 g2) (qd9 rec) (qbU9 g1 v0 n0 g2) (qeT9 g1 v0 n0 g2):=by
 intro s g r hI hr
 obtain ⟨s1,s2,s3,s10,s11,o0⟩:=s
 have ⟨gt,hg0⟩ : ∃ y,y = g:=⟨_,rfl⟩
 subst hg0
 simp only [qcQ9] at hI
 have hI0:=hI
 simp only [qd9] at hr
 rcases iteP hr with ⟨h1,hr⟩ | ⟨h1,hr⟩
 obtain ⟨x1,h2,hr⟩:=bsome hr
 obtain ⟨z2,h2k,h2l0⟩:=qed9 (g1:=g1) (v0:=v0) (n0:=n0) (g2:=(g2++gt)) (show o0.length = n0 by first | assumption | (simp only [llA,lrA]; first | done | assumption | omega) | omega) h2
 replace h2k:=qD9 rfl rfl rfl h2k
 try simp only [go_sem] at h2k
 obtain rfl:=oiA hr
 refine xl_of ⟨(gt++z2),rfl,rfl,(show x1.length = n0 by first | assumption | (simp only [llA,lrA]; first | done | assumption | omega) | omega)⟩ ?_
 rotate_left
 rcases iteP hr with ⟨h3,hr⟩ | ⟨h3,hr⟩
 obtain ⟨x3,h4,hr⟩:=bsome hr
 obtain ⟨z4,h4k,h4l0⟩:=qeR9 (g1:=g1) (v0:=v0) (n0:=n0) (g2:=(g2++gt)) (show o0.length = n0 by first | assumption | (simp only [llA,lrA]; first | done | assumption | omega) | omega) h4
 replace h4k:=qD9 rfl rfl rfl h4k
 try simp only [go_sem] at h4k
 obtain rfl:=oiA hr
 refine xl_of ⟨(gt++z4),rfl,rfl,(show x3.length = n0 by first | assumption | (simp only [llA,lrA]; first | done | assumption | omega) | omega)⟩ ?_
 rotate_left
 rcases iteB hr with ⟨h5,hr⟩ | ⟨h5,hr⟩
 simp only [h5] at hr
 obtain ⟨x5,h6,hr⟩:=bsome hr
 obtain ⟨z6,h6k⟩:=qcF9 (g1:=g1) (v0:=v0) (n0:=n0) (g2:=(g2++gt)) (show o0.length = n0 by first | assumption | (simp only [llA,lrA]; first | done | assumption | omega) | omega) h6
 replace h6k:=qD9 rfl rfl rfl h6k
 try simp only [go_sem] at h6k
 rcases iteP hr with ⟨h7,hr⟩ | ⟨h7,hr⟩
 obtain ⟨x7,h8,hr⟩:=bsome hr
 obtain ⟨h8k,h8l0⟩:=qcB9 (g1:=g1) (v0:=v0) (n0:=n0) (g2:=(g2++(gt++z6))) (show o0.length = n0 by first | assumption | (simp only [llA,lrA]; first | done | assumption | omega) | omega) h8
 replace h8k:=qD9 rfl rfl rfl h8k
 try simp only [go_sem] at h8k
 rcases iteB hr with ⟨h9,hr⟩ | ⟨h9,hr⟩
 simp only [h9] at hr
 obtain ⟨x8,h10,hr⟩:=bsome hr
 obtain ⟨z9,h10k,h10l0⟩:=qci9 (g1:=g1) (v0:=v0) (n0:=n0) (g2:=(g2++(gt++z6))) (show x7.length = n0 by first | assumption | (simp only [llA,lrA]; first | done | assumption | omega) | omega) h10
 replace h10k:=qD9 rfl rfl rfl h10k
 try simp only [go_sem] at h10k
 rcases iteB hr with ⟨h11,hr⟩ | ⟨h11,hr⟩
 obtain rfl:=oiA hr
 refine xl_of ⟨(gt++(z6++z9)),rfl,rfl,(show x8.2.length = n0 by first | assumption | (simp only [llA,lrA]; first | done | assumption | omega) | omega)⟩ ?_
 rotate_left
 rcases iteP hr with ⟨h12,hr⟩ | ⟨h12,hr⟩
 obtain ⟨x10,h13,x11,h14,x12,h15,hr⟩:=bs3 hr
 have h13a:=eq_true (qb9 h13).1
 have h13b : ((w64 (s1 - 1)) < (n0 : Int)) = True:=eq_true (by have hb : (w64 (s1 - 1)) < (x8.2.length : Int):=(qb9 h13).2.1; omega)
 have h13c:=(qb9 h13).2.2
 have h14a:=eq_true (qb9 h14).1
 have h14b : ((w64 ((w64 (s2 - 1)) - (w64 (x5.1 - s1)))) < (n0 : Int)) = True:=eq_true (by have hb : (w64 ((w64 (s2 - 1)) - (w64 (x5.1 - s1)))) < (x8.2.length : Int):=(qb9 h14).2.1; omega)
 have h14c:=(qb9 h14).2.2
 have h15k:=fun h=>(qF9 h15).o rfl rfl rfl (h:=h) (args:=[.ag [.d (.rd (x10.Coef.map qc9)),.d (.rd (x10.Exps.map intD))],.ag [.d (.rd (x11.Coef.map qc9)),.d (.rd (x11.Exps.map intD))]]) rfl
 try simp only [go_sem] at h15k
 rcases iteP hr with ⟨h16,hr⟩ | ⟨h16,hr⟩
 obtain ⟨x13,h17,x15,h18,hr⟩:=bs2 hr
 obtain ⟨z14,h17k,h17l0⟩:=qg9 (g1:=g1) (v0:=v0) (n0:=n0) (g2:=(g2++(gt++(z6++z9)))) (show x8.2.length = n0 by first | assumption | (simp only [llA,lrA]; first | done | assumption | omega) | omega) h17
 replace h17k:=qD9 rfl rfl rfl h17k
 try simp only [go_sem] at h17k
 rcases iteP hr with ⟨h19,hr⟩ | ⟨h19,hr⟩
 obtain ⟨x16,h20,hr⟩:=bsome hr
 obtain ⟨z17,h20k,h20l0⟩:=hrec (g1:=g1) (v0:=v0) (n0:=n0) (g2:=(g2++(gt++(z6++(z9++z14))))) (show x13.2.2.length = n0 by first | assumption | (simp only [llA,lrA]; first | done | assumption | omega) | omega) h20
 try simp only [go_sem] at h20k
 obtain rfl:=oiA hr
 refine ⟨⟨(gt++(z6++(z9++(z14++z17)))),?_⟩,(show x16.length = n0 by first | assumption | (simp only [llA,lrA]; first | done | assumption | omega) | omega)⟩
 rotate_left
 obtain ⟨x18,h21,hr⟩:=bsome hr
 obtain ⟨z19,h21k,h21l0⟩:=hrec (g1:=g1) (v0:=v0) (n0:=n0) (g2:=(g2++(gt++(z6++(z9++z14))))) (show x13.2.2.length = n0 by first | assumption | (simp only [llA,lrA]; first | done | assumption | omega) | omega) h21
 try simp only [go_sem] at h21k
 obtain rfl:=oiA hr
 refine ⟨⟨(gt++(z6++(z9++(z14++z19)))),?_⟩,(show x18.length = n0 by first | assumption | (simp only [llA,lrA]; first | done | assumption | omega) | omega)⟩
 rotate_left
 obtain ⟨x20,h22,hr⟩:=bsome hr
 obtain ⟨z21,h22k,h22l0⟩:=qx9 (g1:=g1) (v0:=v0) (n0:=n0) (g2:=(g2++(gt++(z6++z9)))) (show x8.2.length = n0 by first | assumption | (simp only [llA,lrA]; first | done | assumption | omega) | omega) h22
 replace h22k:=qD9 rfl rfl rfl h22k
 try simp only [go_sem] at h22k
 obtain rfl:=oiA hr
 refine ⟨⟨(gt++(z6++(z9++z21))),?_⟩,(show x20.2.length = n0 by first | assumption | (simp only [llA,lrA]; first | done | assumption | omega) | omega)⟩
 rotate_left
 obtain ⟨x22,h23,x24,h24,hr⟩:=bs2 hr
 obtain ⟨z23,h23k,h23l0⟩:=qg9 (g1:=g1) (v0:=v0) (n0:=n0) (g2:=(g2++(gt++(z6++z9)))) (show x8.2.length = n0 by first | assumption | (simp only [llA,lrA]; first | done | assumption | omega) | omega) h23
 replace h23k:=qD9 rfl rfl rfl h23k
 try simp only [go_sem] at h23k
 rcases iteP hr with ⟨h25,hr⟩ | ⟨h25,hr⟩
 obtain ⟨x25,h26,hr⟩:=bsome hr
 obtain ⟨z26,h26k,h26l0⟩:=hrec (g1:=g1) (v0:=v0) (n0:=n0) (g2:=(g2++(gt++(z6++(z9++z23))))) (show x22.2.2.length = n0 by first | assumption | (simp only [llA,lrA]; first | done | assumption | omega) | omega) h26
 try simp only [go_sem] at h26k
 obtain rfl:=oiA hr
 refine ⟨⟨(gt++(z6++(z9++(z23++z26)))),?_⟩,(show x25.length = n0 by first | assumption | (simp only [llA,lrA]; first | done | assumption | omega) | omega)⟩
 rotate_left
 obtain ⟨x27,h27,hr⟩:=bsome hr
 obtain ⟨z28,h27k,h27l0⟩:=hrec (g1:=g1) (v0:=v0) (n0:=n0) (g2:=(g2++(gt++(z6++(z9++z23))))) (show x22.2.2.length = n0 by first | assumption | (simp only [llA,lrA]; first | done | assumption | omega) | omega) h27
 try simp only [go_sem] at h27k
 obtain rfl:=oiA hr
 refine ⟨⟨(gt++(z6++(z9++(z23++z28)))),?_⟩,(show x27.length = n0 by first | assumption | (simp only [llA,lrA]; first | done | assumption | omega) | omega)⟩
 rotate_left
 simp only [h9] at hr
 rcases iteP hr with ⟨h28,hr⟩ | ⟨h28,hr⟩
 obtain ⟨x29,h29,x30,h30,x31,h31,hr⟩:=bs3 hr
 have h29a:=eq_true (qb9 h29).1
 have h29b : ((w64 (s1 - 1)) < (n0 : Int)) = True:=eq_true (by have hb : (w64 (s1 - 1)) < (x7.length : Int):=(qb9 h29).2.1; omega)
 have h29c:=(qb9 h29).2.2
 have h30a:=eq_true (qb9 h30).1
 have h30b : ((w64 ((w64 (s2 - 1)) - (w64 (x5.1 - s1)))) < (n0 : Int)) = True:=eq_true (by have hb : (w64 ((w64 (s2 - 1)) - (w64 (x5.1 - s1)))) < (x7.length : Int):=(qb9 h30).2.1; omega)
 have h30c:=(qb9 h30).2.2
 have h31k:=fun h=>(qF9 h31).o rfl rfl rfl (h:=h) (args:=[.ag [.d (.rd (x29.Coef.map qc9)),.d (.rd (x29.Exps.map intD))],.ag [.d (.rd (x30.Coef.map qc9)),.d (.rd (x30.Exps.map intD))]]) rfl
 try simp only [go_sem] at h31k
 rcases iteP hr with ⟨h32,hr⟩ | ⟨h32,hr⟩
 obtain ⟨x32,h33,x34,h34,hr⟩:=bs2 hr
 obtain ⟨z33,h33k,h33l0⟩:=qg9 (g1:=g1) (v0:=v0) (n0:=n0) (g2:=(g2++(gt++z6))) (show x7.length = n0 by first | assumption | (simp only [llA,lrA]; first | done | assumption | omega) | omega) h33
 replace h33k:=qD9 rfl rfl rfl h33k
 try simp only [go_sem] at h33k
 rcases iteP hr with ⟨h35,hr⟩ | ⟨h35,hr⟩
 obtain ⟨x35,h36,hr⟩:=bsome hr
 obtain ⟨z36,h36k,h36l0⟩:=hrec (g1:=g1) (v0:=v0) (n0:=n0) (g2:=(g2++(gt++(z6++z33)))) (show x32.2.2.length = n0 by first | assumption | (simp only [llA,lrA]; first | done | assumption | omega) | omega) h36
 try simp only [go_sem] at h36k
 obtain rfl:=oiA hr
 refine ⟨⟨(gt++(z6++(z33++z36))),?_⟩,(show x35.length = n0 by first | assumption | (simp only [llA,lrA]; first | done | assumption | omega) | omega)⟩
 rotate_left
 obtain ⟨x37,h37,hr⟩:=bsome hr
 obtain ⟨z38,h37k,h37l0⟩:=hrec (g1:=g1) (v0:=v0) (n0:=n0) (g2:=(g2++(gt++(z6++z33)))) (show x32.2.2.length = n0 by first | assumption | (simp only [llA,lrA]; first | done | assumption | omega) | omega) h37
 try simp only [go_sem] at h37k
 obtain rfl:=oiA hr
 refine ⟨⟨(gt++(z6++(z33++z38))),?_⟩,(show x37.length = n0 by first | assumption | (simp only [llA,lrA]; first | done | assumption | omega) | omega)⟩
 rotate_left
 obtain ⟨x39,h38,hr⟩:=bsome hr
 obtain ⟨z40,h38k,h38l0⟩:=qx9 (g1:=g1) (v0:=v0) (n0:=n0) (g2:=(g2++(gt++z6))) (show x7.length = n0 by first | assumption | (simp only [llA,lrA]; first | done | assumption | omega) | omega) h38
 replace h38k:=qD9 rfl rfl rfl h38k
 try simp only [go_sem] at h38k
 obtain rfl:=oiA hr
 refine ⟨⟨(gt++(z6++z40)),?_⟩,(show x39.2.length = n0 by first | assumption | (simp only [llA,lrA]; first | done | assumption | omega) | omega)⟩
 rotate_left
 obtain ⟨x41,h39,x43,h40,hr⟩:=bs2 hr
 obtain ⟨z42,h39k,h39l0⟩:=qg9 (g1:=g1) (v0:=v0) (n0:=n0) (g2:=(g2++(gt++z6))) (show x7.length = n0 by first | assumption | (simp only [llA,lrA]; first | done | assumption | omega) | omega) h39
 replace h39k:=qD9 rfl rfl rfl h39k
 try simp only [go_sem] at h39k
 rcases iteP hr with ⟨h41,hr⟩ | ⟨h41,hr⟩
 obtain ⟨x44,h42,hr⟩:=bsome hr
 obtain ⟨z45,h42k,h42l0⟩:=hrec (g1:=g1) (v0:=v0) (n0:=n0) (g2:=(g2++(gt++(z6++z42)))) (show x41.2.2.length = n0 by first | assumption | (simp only [llA,lrA]; first | done | assumption | omega) | omega) h42
 try simp only [go_sem] at h42k
 obtain rfl:=oiA hr
 refine ⟨⟨(gt++(z6++(z42++z45))),?_⟩,(show x44.length = n0 by first | assumption | (simp only [llA,lrA]; first | done | assumption | omega) | omega)⟩
 rotate_left
 obtain ⟨x46,h43,hr⟩:=bsome hr
 obtain ⟨z47,h43k,h43l0⟩:=hrec (g1:=g1) (v0:=v0) (n0:=n0) (g2:=(g2++(gt++(z6++z42)))) (show x41.2.2.length = n0 by first | assumption | (simp only [llA,lrA]; first | done | assumption | omega) | omega) h43
 try simp only [go_sem] at h43k
 obtain rfl:=oiA hr
 refine ⟨⟨(gt++(z6++(z42++z47))),?_⟩,(show x46.length = n0 by first | assumption | (simp only [llA,lrA]; first | done | assumption | omega) | omega)⟩
 rotate_left
 rcases iteB hr with ⟨h44,hr⟩ | ⟨h44,hr⟩
 simp only [h44] at hr
 rcases iteP hr with ⟨h45,hr⟩ | ⟨h45,hr⟩
 obtain ⟨x48,h46,hr⟩:=bsome hr
 obtain ⟨z49,h46k,h46l0⟩:=qci9 (g1:=g1) (v0:=v0) (n0:=n0) (g2:=(g2++(gt++z6))) (show o0.length = n0 by first | assumption | (simp only [llA,lrA]; first | done | assumption | omega) | omega) h46
 replace h46k:=qD9 rfl rfl rfl h46k
 try simp only [go_sem] at h46k
 rcases iteB hr with ⟨h47,hr⟩ | ⟨h47,hr⟩
 obtain rfl:=oiA hr
 refine xl_of ⟨(gt++(z6++z49)),rfl,rfl,(show x48.2.length = n0 by first | assumption | (simp only [llA,lrA]; first | done | assumption | omega) | omega)⟩ ?_
 rotate_left
 rcases iteP hr with ⟨h48,hr⟩ | ⟨h48,hr⟩
 obtain ⟨x50,h49,x51,h50,x52,h51,hr⟩:=bs3 hr
 have h49a:=eq_true (qb9 h49).1
 have h49b : ((w64 (s1 - 1)) < (n0 : Int)) = True:=eq_true (by have hb : (w64 (s1 - 1)) < (x48.2.length : Int):=(qb9 h49).2.1; omega)
 have h49c:=(qb9 h49).2.2
 have h50a:=eq_true (qb9 h50).1
 have h50b : (x5.1 < (n0 : Int)) = True:=eq_true (by have hb : x5.1 < (x48.2.length : Int):=(qb9 h50).2.1; omega)
 have h50c:=(qb9 h50).2.2
 have h51k:=fun h=>(qF9 h51).o rfl rfl rfl (h:=h) (args:=[.ag [.d (.rd (x50.Coef.map qc9)),.d (.rd (x50.Exps.map intD))],.ag [.d (.rd (x51.Coef.map qc9)),.d (.rd (x51.Exps.map intD))]]) rfl
 try simp only [go_sem] at h51k
 rcases iteP hr with ⟨h52,hr⟩ | ⟨h52,hr⟩
 obtain ⟨x53,h53,x55,h54,hr⟩:=bs2 hr
 obtain ⟨z54,h53k,h53l0⟩:=qg9 (g1:=g1) (v0:=v0) (n0:=n0) (g2:=(g2++(gt++(z6++z49)))) (show x48.2.length = n0 by first | assumption | (simp only [llA,lrA]; first | done | assumption | omega) | omega) h53
 replace h53k:=qD9 rfl rfl rfl h53k
 try simp only [go_sem] at h53k
 rcases iteP hr with ⟨h55,hr⟩ | ⟨h55,hr⟩
 obtain ⟨x56,h56,hr⟩:=bsome hr
 obtain ⟨z57,h56k,h56l0⟩:=hrec (g1:=g1) (v0:=v0) (n0:=n0) (g2:=(g2++(gt++(z6++(z49++z54))))) (show x53.2.2.length = n0 by first | assumption | (simp only [llA,lrA]; first | done | assumption | omega) | omega) h56
 try simp only [go_sem] at h56k
 obtain rfl:=oiA hr
 refine ⟨⟨(gt++(z6++(z49++(z54++z57)))),?_⟩,(show x56.length = n0 by first | assumption | (simp only [llA,lrA]; first | done | assumption | omega) | omega)⟩
 rotate_left
 obtain ⟨x58,h57,hr⟩:=bsome hr
 obtain ⟨z59,h57k,h57l0⟩:=hrec (g1:=g1) (v0:=v0) (n0:=n0) (g2:=(g2++(gt++(z6++(z49++z54))))) (show x53.2.2.length = n0 by first | assumption | (simp only [llA,lrA]; first | done | assumption | omega) | omega) h57
 try simp only [go_sem] at h57k
 obtain rfl:=oiA hr
 refine ⟨⟨(gt++(z6++(z49++(z54++z59)))),?_⟩,(show x58.length = n0 by first | assumption | (simp only [llA,lrA]; first | done | assumption | omega) | omega)⟩
 rotate_left
 obtain ⟨x60,h58,hr⟩:=bsome hr
 obtain ⟨z61,h58k,h58l0⟩:=qx9 (g1:=g1) (v0:=v0) (n0:=n0) (g2:=(g2++(gt++(z6++z49)))) (show x48.2.length = n0 by first | assumption | (simp only [llA,lrA]; first | done | assumption | omega) | omega) h58
 replace h58k:=qD9 rfl rfl rfl h58k
 try simp only [go_sem] at h58k
 obtain rfl:=oiA hr
 refine ⟨⟨(gt++(z6++(z49++z61))),?_⟩,(show x60.2.length = n0 by first | assumption | (simp only [llA,lrA]; first | done | assumption | omega) | omega)⟩
 rotate_left
 obtain ⟨x62,h59,x64,h60,hr⟩:=bs2 hr
 obtain ⟨z63,h59k,h59l0⟩:=qg9 (g1:=g1) (v0:=v0) (n0:=n0) (g2:=(g2++(gt++(z6++z49)))) (show x48.2.length = n0 by first | assumption | (simp only [llA,lrA]; first | done | assumption | omega) | omega) h59
 replace h59k:=qD9 rfl rfl rfl h59k
 try simp only [go_sem] at h59k
 rcases iteP hr with ⟨h61,hr⟩ | ⟨h61,hr⟩
 obtain ⟨x65,h62,hr⟩:=bsome hr
 obtain ⟨z66,h62k,h62l0⟩:=hrec (g1:=g1) (v0:=v0) (n0:=n0) (g2:=(g2++(gt++(z6++(z49++z63))))) (show x62.2.2.length = n0 by first | assumption | (simp only [llA,lrA]; first | done | assumption | omega) | omega) h62
 try simp only [go_sem] at h62k
 obtain rfl:=oiA hr
 refine ⟨⟨(gt++(z6++(z49++(z63++z66)))),?_⟩,(show x65.length = n0 by first | assumption | (simp only [llA,lrA]; first | done | assumption | omega) | omega)⟩
 rotate_left
 obtain ⟨x67,h63,hr⟩:=bsome hr
 obtain ⟨z68,h63k,h63l0⟩:=hrec (g1:=g1) (v0:=v0) (n0:=n0) (g2:=(g2++(gt++(z6++(z49++z63))))) (show x62.2.2.length = n0 by first | assumption | (simp only [llA,lrA]; first | done | assumption | omega) | omega) h63
 try simp only [go_sem] at h63k
 obtain rfl:=oiA hr
 refine ⟨⟨(gt++(z6++(z49++(z63++z68)))),?_⟩,(show x67.length = n0 by first | assumption | (simp only [llA,lrA]; first | done | assumption | omega) | omega)⟩
 rotate_left
 rcases iteP hr with ⟨h64,hr⟩ | ⟨h64,hr⟩
 obtain ⟨x69,h65,x70,h66,x71,h67,hr⟩:=bs3 hr
 have h65a:=eq_true (qb9 h65).1
 have h65b : ((w64 (s1 - 1)) < (n0 : Int)) = True:=eq_true (by have hb : (w64 (s1 - 1)) < (o0.length : Int):=(qb9 h65).2.1; omega)
 have h65c:=(qb9 h65).2.2
 have h66a:=eq_true (qb9 h66).1
 have h66b : (x5.1 < (n0 : Int)) = True:=eq_true (by have hb : x5.1 < (o0.length : Int):=(qb9 h66).2.1; omega)
 have h66c:=(qb9 h66).2.2
 have h67k:=fun h=>(qF9 h67).o rfl rfl rfl (h:=h) (args:=[.ag [.d (.rd (x69.Coef.map qc9)),.d (.rd (x69.Exps.map intD))],.ag [.d (.rd (x70.Coef.map qc9)),.d (.rd (x70.Exps.map intD))]]) rfl
 try simp only [go_sem] at h67k
 rcases iteP hr with ⟨h68,hr⟩ | ⟨h68,hr⟩
 obtain ⟨x72,h69,x74,h70,hr⟩:=bs2 hr
 obtain ⟨z73,h69k,h69l0⟩:=qg9 (g1:=g1) (v0:=v0) (n0:=n0) (g2:=(g2++(gt++z6))) (show o0.length = n0 by first | assumption | (simp only [llA,lrA]; first | done | assumption | omega) | omega) h69
 replace h69k:=qD9 rfl rfl rfl h69k
 try simp only [go_sem] at h69k
 rcases iteP hr with ⟨h71,hr⟩ | ⟨h71,hr⟩
 obtain ⟨x75,h72,hr⟩:=bsome hr
 obtain ⟨z76,h72k,h72l0⟩:=hrec (g1:=g1) (v0:=v0) (n0:=n0) (g2:=(g2++(gt++(z6++z73)))) (show x72.2.2.length = n0 by first | assumption | (simp only [llA,lrA]; first | done | assumption | omega) | omega) h72
 try simp only [go_sem] at h72k
 obtain rfl:=oiA hr
 refine ⟨⟨(gt++(z6++(z73++z76))),?_⟩,(show x75.length = n0 by first | assumption | (simp only [llA,lrA]; first | done | assumption | omega) | omega)⟩
 rotate_left
 obtain ⟨x77,h73,hr⟩:=bsome hr
 obtain ⟨z78,h73k,h73l0⟩:=hrec (g1:=g1) (v0:=v0) (n0:=n0) (g2:=(g2++(gt++(z6++z73)))) (show x72.2.2.length = n0 by first | assumption | (simp only [llA,lrA]; first | done | assumption | omega) | omega) h73
 try simp only [go_sem] at h73k
 obtain rfl:=oiA hr
 refine ⟨⟨(gt++(z6++(z73++z78))),?_⟩,(show x77.length = n0 by first | assumption | (simp only [llA,lrA]; first | done | assumption | omega) | omega)⟩
 rotate_left
 obtain ⟨x79,h74,hr⟩:=bsome hr
 obtain ⟨z80,h74k,h74l0⟩:=qx9 (g1:=g1) (v0:=v0) (n0:=n0) (g2:=(g2++(gt++z6))) (show o0.length = n0 by first | assumption | (simp only [llA,lrA]; first | done | assumption | omega) | omega) h74
 replace h74k:=qD9 rfl rfl rfl h74k
 try simp only [go_sem] at h74k
 obtain rfl:=oiA hr
 refine ⟨⟨(gt++(z6++z80)),?_⟩,(show x79.2.length = n0 by first | assumption | (simp only [llA,lrA]; first | done | assumption | omega) | omega)⟩
 rotate_left
 obtain ⟨x81,h75,x83,h76,hr⟩:=bs2 hr
 obtain ⟨z82,h75k,h75l0⟩:=qg9 (g1:=g1) (v0:=v0) (n0:=n0) (g2:=(g2++(gt++z6))) (show o0.length = n0 by first | assumption | (simp only [llA,lrA]; first | done | assumption | omega) | omega) h75
 replace h75k:=qD9 rfl rfl rfl h75k
 try simp only [go_sem] at h75k
 rcases iteP hr with ⟨h77,hr⟩ | ⟨h77,hr⟩
 obtain ⟨x84,h78,hr⟩:=bsome hr
 obtain ⟨z85,h78k,h78l0⟩:=hrec (g1:=g1) (v0:=v0) (n0:=n0) (g2:=(g2++(gt++(z6++z82)))) (show x81.2.2.length = n0 by first | assumption | (simp only [llA,lrA]; first | done | assumption | omega) | omega) h78
 try simp only [go_sem] at h78k
 obtain rfl:=oiA hr
 refine ⟨⟨(gt++(z6++(z82++z85))),?_⟩,(show x84.length = n0 by first | assumption | (simp only [llA,lrA]; first | done | assumption | omega) | omega)⟩
 rotate_left
 obtain ⟨x86,h79,hr⟩:=bsome hr
 obtain ⟨z87,h79k,h79l0⟩:=hrec (g1:=g1) (v0:=v0) (n0:=n0) (g2:=(g2++(gt++(z6++z82)))) (show x81.2.2.length = n0 by first | assumption | (simp only [llA,lrA]; first | done | assumption | omega) | omega) h79
 try simp only [go_sem] at h79k
 obtain rfl:=oiA hr
 refine ⟨⟨(gt++(z6++(z82++z87))),?_⟩,(show x86.length = n0 by first | assumption | (simp only [llA,lrA]; first | done | assumption | omega) | omega)⟩
 rotate_left
 simp only [h44] at hr
 rcases iteP hr with ⟨h80,hr⟩ | ⟨h80,hr⟩
 obtain ⟨x88,h81,x89,h82,x90,h83,hr⟩:=bs3 hr
 have h81a:=eq_true (qb9 h81).1
 have h81b : ((w64 (s1 - 1)) < (n0 : Int)) = True:=eq_true (by have hb : (w64 (s1 - 1)) < (o0.length : Int):=(qb9 h81).2.1; omega)
 have h81c:=(qb9 h81).2.2
 have h82a:=eq_true (qb9 h82).1
 have h82b : (x5.1 < (n0 : Int)) = True:=eq_true (by have hb : x5.1 < (o0.length : Int):=(qb9 h82).2.1; omega)
 have h82c:=(qb9 h82).2.2
 have h83k:=fun h=>(qF9 h83).o rfl rfl rfl (h:=h) (args:=[.ag [.d (.rd (x88.Coef.map qc9)),.d (.rd (x88.Exps.map intD))],.ag [.d (.rd (x89.Coef.map qc9)),.d (.rd (x89.Exps.map intD))]]) rfl
 try simp only [go_sem] at h83k
 rcases iteP hr with ⟨h84,hr⟩ | ⟨h84,hr⟩
 obtain ⟨x91,h85,x93,h86,hr⟩:=bs2 hr
 obtain ⟨z92,h85k,h85l0⟩:=qg9 (g1:=g1) (v0:=v0) (n0:=n0) (g2:=(g2++(gt++z6))) (show o0.length = n0 by first | assumption | (simp only [llA,lrA]; first | done | assumption | omega) | omega) h85
 replace h85k:=qD9 rfl rfl rfl h85k
 try simp only [go_sem] at h85k
 rcases iteP hr with ⟨h87,hr⟩ | ⟨h87,hr⟩
 obtain ⟨x94,h88,hr⟩:=bsome hr
 obtain ⟨z95,h88k,h88l0⟩:=hrec (g1:=g1) (v0:=v0) (n0:=n0) (g2:=(g2++(gt++(z6++z92)))) (show x91.2.2.length = n0 by first | assumption | (simp only [llA,lrA]; first | done | assumption | omega) | omega) h88
 try simp only [go_sem] at h88k
 obtain rfl:=oiA hr
 refine ⟨⟨(gt++(z6++(z92++z95))),?_⟩,(show x94.length = n0 by first | assumption | (simp only [llA,lrA]; first | done | assumption | omega) | omega)⟩
 rotate_left
 obtain ⟨x96,h89,hr⟩:=bsome hr
 obtain ⟨z97,h89k,h89l0⟩:=hrec (g1:=g1) (v0:=v0) (n0:=n0) (g2:=(g2++(gt++(z6++z92)))) (show x91.2.2.length = n0 by first | assumption | (simp only [llA,lrA]; first | done | assumption | omega) | omega) h89
 try simp only [go_sem] at h89k
 obtain rfl:=oiA hr
 refine ⟨⟨(gt++(z6++(z92++z97))),?_⟩,(show x96.length = n0 by first | assumption | (simp only [llA,lrA]; first | done | assumption | omega) | omega)⟩
 rotate_left
 obtain ⟨x98,h90,hr⟩:=bsome hr
 obtain ⟨z99,h90k,h90l0⟩:=qx9 (g1:=g1) (v0:=v0) (n0:=n0) (g2:=(g2++(gt++z6))) (show o0.length = n0 by first | assumption | (simp only [llA,lrA]; first | done | assumption | omega) | omega) h90
 replace h90k:=qD9 rfl rfl rfl h90k
 try simp only [go_sem] at h90k
 obtain rfl:=oiA hr
 refine ⟨⟨(gt++(z6++z99)),?_⟩,(show x98.2.length = n0 by first | assumption | (simp only [llA,lrA]; first | done | assumption | omega) | omega)⟩
 rotate_left
 obtain ⟨x100,h91,x102,h92,hr⟩:=bs2 hr
 obtain ⟨z101,h91k,h91l0⟩:=qg9 (g1:=g1) (v0:=v0) (n0:=n0) (g2:=(g2++(gt++z6))) (show o0.length = n0 by first | assumption | (simp only [llA,lrA]; first | done | assumption | omega) | omega) h91
 replace h91k:=qD9 rfl rfl rfl h91k
 try simp only [go_sem] at h91k
 rcases iteP hr with ⟨h93,hr⟩ | ⟨h93,hr⟩
 obtain ⟨x103,h94,hr⟩:=bsome hr
 obtain ⟨z104,h94k,h94l0⟩:=hrec (g1:=g1) (v0:=v0) (n0:=n0) (g2:=(g2++(gt++(z6++z101)))) (show x100.2.2.length = n0 by first | assumption | (simp only [llA,lrA]; first | done | assumption | omega) | omega) h94
 try simp only [go_sem] at h94k
 obtain rfl:=oiA hr
 refine ⟨⟨(gt++(z6++(z101++z104))),?_⟩,(show x103.length = n0 by first | assumption | (simp only [llA,lrA]; first | done | assumption | omega) | omega)⟩
 rotate_left
 obtain ⟨x105,h95,hr⟩:=bsome hr
 obtain ⟨z106,h95k,h95l0⟩:=hrec (g1:=g1) (v0:=v0) (n0:=n0) (g2:=(g2++(gt++(z6++z101)))) (show x100.2.2.length = n0 by first | assumption | (simp only [llA,lrA]; first | done | assumption | omega) | omega) h95
 try simp only [go_sem] at h95k
 obtain rfl:=oiA hr
 refine ⟨⟨(gt++(z6++(z101++z106))),?_⟩,(show x105.length = n0 by first | assumption | (simp only [llA,lrA]; first | done | assumption | omega) | omega)⟩
 rotate_left
 simp only [h5] at hr
 obtain ⟨x107,h96,x109,h97,hr⟩:=bs2 hr
 obtain ⟨z108,h96k,h96l0⟩:=qeb9 (g1:=g1) (v0:=v0) (n0:=n0) (g2:=(g2++gt)) (show o0.length = n0 by first | assumption | (simp only [llA,lrA]; first | done | assumption | omega) | omega) h96
 replace h96k:=qD9 rfl rfl rfl h96k
 try simp only [go_sem] at h96k
 obtain ⟨z110,h97k⟩:=qcF9 (g1:=g1) (v0:=v0) (n0:=n0) (g2:=(g2++(gt++z108))) (show x107.length = n0 by first | assumption | (simp only [llA,lrA]; first | done | assumption | omega) | omega) h97
 replace h97k:=qD9 rfl rfl rfl h97k
 try simp only [go_sem] at h97k
 rcases iteP hr with ⟨h98,hr⟩ | ⟨h98,hr⟩
 obtain ⟨x111,h99,hr⟩:=bsome hr
 obtain ⟨h99k,h99l0⟩:=qcB9 (g1:=g1) (v0:=v0) (n0:=n0) (g2:=(g2++(gt++(z108++z110)))) (show x107.length = n0 by first | assumption | (simp only [llA,lrA]; first | done | assumption | omega) | omega) h99
 replace h99k:=qD9 rfl rfl rfl h99k
 try simp only [go_sem] at h99k
 rcases iteP hr with ⟨h100,hr⟩ | ⟨h100,hr⟩
 obtain ⟨x112,h101,x113,h102,x114,h103,hr⟩:=bs3 hr
 have h101a:=eq_true (qb9 h101).1
 have h101b : ((w64 (s1 - 1)) < (n0 : Int)) = True:=eq_true (by have hb : (w64 (s1 - 1)) < (x111.length : Int):=(qb9 h101).2.1; omega)
 have h101c:=(qb9 h101).2.2
 have h102a:=eq_true (qb9 h102).1
 have h102b : ((w64 ((w64 (s2 - 1)) - (w64 (x109.1 - s1)))) < (n0 : Int)) = True:=eq_true (by have hb : (w64 ((w64 (s2 - 1)) - (w64 (x109.1 - s1)))) < (x111.length : Int):=(qb9 h102).2.1; omega)
 have h102c:=(qb9 h102).2.2
 have h103k:=fun h=>(qF9 h103).o rfl rfl rfl (h:=h) (args:=[.ag [.d (.rd (x112.Coef.map qc9)),.d (.rd (x112.Exps.map intD))],.ag [.d (.rd (x113.Coef.map qc9)),.d (.rd (x113.Exps.map intD))]]) rfl
 try simp only [go_sem] at h103k
 rcases iteP hr with ⟨h104,hr⟩ | ⟨h104,hr⟩
 obtain ⟨x115,h105,x117,h106,hr⟩:=bs2 hr
 obtain ⟨z116,h105k,h105l0⟩:=qg9 (g1:=g1) (v0:=v0) (n0:=n0) (g2:=(g2++(gt++(z108++z110)))) (show x111.length = n0 by first | assumption | (simp only [llA,lrA]; first | done | assumption | omega) | omega) h105
 replace h105k:=qD9 rfl rfl rfl h105k
 try simp only [go_sem] at h105k
 rcases iteP hr with ⟨h107,hr⟩ | ⟨h107,hr⟩
 obtain ⟨x118,h108,hr⟩:=bsome hr
 obtain ⟨z119,h108k,h108l0⟩:=hrec (g1:=g1) (v0:=v0) (n0:=n0) (g2:=(g2++(gt++(z108++(z110++z116))))) (show x115.2.2.length = n0 by first | assumption | (simp only [llA,lrA]; first | done | assumption | omega) | omega) h108
 try simp only [go_sem] at h108k
 obtain rfl:=oiA hr
 refine ⟨⟨(gt++(z108++(z110++(z116++z119)))),?_⟩,(show x118.length = n0 by first | assumption | (simp only [llA,lrA]; first | done | assumption | omega) | omega)⟩
 rotate_left
 obtain ⟨x120,h109,hr⟩:=bsome hr
 obtain ⟨z121,h109k,h109l0⟩:=hrec (g1:=g1) (v0:=v0) (n0:=n0) (g2:=(g2++(gt++(z108++(z110++z116))))) (show x115.2.2.length = n0 by first | assumption | (simp only [llA,lrA]; first | done | assumption | omega) | omega) h109
 try simp only [go_sem] at h109k
 obtain rfl:=oiA hr
 refine ⟨⟨(gt++(z108++(z110++(z116++z121)))),?_⟩,(show x120.length = n0 by first | assumption | (simp only [llA,lrA]; first | done | assumption | omega) | omega)⟩
 rotate_left
 obtain ⟨x122,h110,hr⟩:=bsome hr
 obtain ⟨z123,h110k,h110l0⟩:=qx9 (g1:=g1) (v0:=v0) (n0:=n0) (g2:=(g2++(gt++(z108++z110)))) (show x111.length = n0 by first | assumption | (simp only [llA,lrA]; first | done | assumption | omega) | omega) h110
 replace h110k:=qD9 rfl rfl rfl h110k
 try simp only [go_sem] at h110k
 obtain rfl:=oiA hr
 refine ⟨⟨(gt++(z108++(z110++z123))),?_⟩,(show x122.2.length = n0 by first | assumption | (simp only [llA,lrA]; first | done | assumption | omega) | omega)⟩
 rotate_left
 obtain ⟨x124,h111,x126,h112,hr⟩:=bs2 hr
 obtain ⟨z125,h111k,h111l0⟩:=qg9 (g1:=g1) (v0:=v0) (n0:=n0) (g2:=(g2++(gt++(z108++z110)))) (show x111.length = n0 by first | assumption | (simp only [llA,lrA]; first | done | assumption | omega) | omega) h111
 replace h111k:=qD9 rfl rfl rfl h111k
 try simp only [go_sem] at h111k
 rcases iteP hr with ⟨h113,hr⟩ | ⟨h113,hr⟩
 obtain ⟨x127,h114,hr⟩:=bsome hr
 obtain ⟨z128,h114k,h114l0⟩:=hrec (g1:=g1) (v0:=v0) (n0:=n0) (g2:=(g2++(gt++(z108++(z110++z125))))) (show x124.2.2.length = n0 by first | assumption | (simp only [llA,lrA]; first | done | assumption | omega) | omega) h114
 try simp only [go_sem] at h114k
 obtain rfl:=oiA hr
 refine ⟨⟨(gt++(z108++(z110++(z125++z128)))),?_⟩,(show x127.length = n0 by first | assumption | (simp only [llA,lrA]; first | done | assumption | omega) | omega)⟩
 rotate_left
 obtain ⟨x129,h115,hr⟩:=bsome hr
 obtain ⟨z130,h115k,h115l0⟩:=hrec (g1:=g1) (v0:=v0) (n0:=n0) (g2:=(g2++(gt++(z108++(z110++z125))))) (show x124.2.2.length = n0 by first | assumption | (simp only [llA,lrA]; first | done | assumption | omega) | omega) h115
 try simp only [go_sem] at h115k
 obtain rfl:=oiA hr
 refine ⟨⟨(gt++(z108++(z110++(z125++z130)))),?_⟩,(show x129.length = n0 by first | assumption | (simp only [llA,lrA]; first | done | assumption | omega) | omega)⟩
 rotate_left
 rcases iteP hr with ⟨h116,hr⟩ | ⟨h116,hr⟩
 obtain ⟨x131,h117,x132,h118,x133,h119,hr⟩:=bs3 hr
 have h117a:=eq_true (qb9 h117).1
 have h117b : ((w64 (s1 - 1)) < (n0 : Int)) = True:=eq_true (by have hb : (w64 (s1 - 1)) < (x107.length : Int):=(qb9 h117).2.1; omega)
 have h117c:=(qb9 h117).2.2
 have h118a:=eq_true (qb9 h118).1
 have h118b : (x109.1 < (n0 : Int)) = True:=eq_true (by have hb : x109.1 < (x107.length : Int):=(qb9 h118).2.1; omega)
 have h118c:=(qb9 h118).2.2
 have h119k:=fun h=>(qF9 h119).o rfl rfl rfl (h:=h) (args:=[.ag [.d (.rd (x131.Coef.map qc9)),.d (.rd (x131.Exps.map intD))],.ag [.d (.rd (x132.Coef.map qc9)),.d (.rd (x132.Exps.map intD))]]) rfl
 try simp only [go_sem] at h119k
 rcases iteP hr with ⟨h120,hr⟩ | ⟨h120,hr⟩
 obtain ⟨x134,h121,x136,h122,hr⟩:=bs2 hr
 obtain ⟨z135,h121k,h121l0⟩:=qg9 (g1:=g1) (v0:=v0) (n0:=n0) (g2:=(g2++(gt++(z108++z110)))) (show x107.length = n0 by first | assumption | (simp only [llA,lrA]; first | done | assumption | omega) | omega) h121
 replace h121k:=qD9 rfl rfl rfl h121k
 try simp only [go_sem] at h121k
 rcases iteP hr with ⟨h123,hr⟩ | ⟨h123,hr⟩
 obtain ⟨x137,h124,hr⟩:=bsome hr
 obtain ⟨z138,h124k,h124l0⟩:=hrec (g1:=g1) (v0:=v0) (n0:=n0) (g2:=(g2++(gt++(z108++(z110++z135))))) (show x134.2.2.length = n0 by first | assumption | (simp only [llA,lrA]; first | done | assumption | omega) | omega) h124
 try simp only [go_sem] at h124k
 obtain rfl:=oiA hr
 refine ⟨⟨(gt++(z108++(z110++(z135++z138)))),?_⟩,(show x137.length = n0 by first | assumption | (simp only [llA,lrA]; first | done | assumption | omega) | omega)⟩
 rotate_left
 obtain ⟨x139,h125,hr⟩:=bsome hr
 obtain ⟨z140,h125k,h125l0⟩:=hrec (g1:=g1) (v0:=v0) (n0:=n0) (g2:=(g2++(gt++(z108++(z110++z135))))) (show x134.2.2.length = n0 by first | assumption | (simp only [llA,lrA]; first | done | assumption | omega) | omega) h125
 try simp only [go_sem] at h125k
 obtain rfl:=oiA hr
 refine ⟨⟨(gt++(z108++(z110++(z135++z140)))),?_⟩,(show x139.length = n0 by first | assumption | (simp only [llA,lrA]; first | done | assumption | omega) | omega)⟩
 rotate_left
 obtain ⟨x141,h126,hr⟩:=bsome hr
 obtain ⟨z142,h126k,h126l0⟩:=qx9 (g1:=g1) (v0:=v0) (n0:=n0) (g2:=(g2++(gt++(z108++z110)))) (show x107.length = n0 by first | assumption | (simp only [llA,lrA]; first | done | assumption | omega) | omega) h126
 replace h126k:=qD9 rfl rfl rfl h126k
 try simp only [go_sem] at h126k
 obtain rfl:=oiA hr
 refine ⟨⟨(gt++(z108++(z110++z142))),?_⟩,(show x141.2.length = n0 by first | assumption | (simp only [llA,lrA]; first | done | assumption | omega) | omega)⟩
 rotate_left
 obtain ⟨x143,h127,x145,h128,hr⟩:=bs2 hr
 obtain ⟨z144,h127k,h127l0⟩:=qg9 (g1:=g1) (v0:=v0) (n0:=n0) (g2:=(g2++(gt++(z108++z110)))) (show x107.length = n0 by first | assumption | (simp only [llA,lrA]; first | done | assumption | omega) | omega) h127
 replace h127k:=qD9 rfl rfl rfl h127k
 try simp only [go_sem] at h127k
 rcases iteP hr with ⟨h129,hr⟩ | ⟨h129,hr⟩
 obtain ⟨x146,h130,hr⟩:=bsome hr
 obtain ⟨z147,h130k,h130l0⟩:=hrec (g1:=g1) (v0:=v0) (n0:=n0) (g2:=(g2++(gt++(z108++(z110++z144))))) (show x143.2.2.length = n0 by first | assumption | (simp only [llA,lrA]; first | done | assumption | omega) | omega) h130
 try simp only [go_sem] at h130k
 obtain rfl:=oiA hr
 refine ⟨⟨(gt++(z108++(z110++(z144++z147)))),?_⟩,(show x146.length = n0 by first | assumption | (simp only [llA,lrA]; first | done | assumption | omega) | omega)⟩
 rotate_left
 obtain ⟨x148,h131,hr⟩:=bsome hr
 obtain ⟨z149,h131k,h131l0⟩:=hrec (g1:=g1) (v0:=v0) (n0:=n0) (g2:=(g2++(gt++(z108++(z110++z144))))) (show x143.2.2.length = n0 by first | assumption | (simp only [llA,lrA]; first | done | assumption | omega) | omega) h131
 try simp only [go_sem] at h131k
 obtain rfl:=oiA hr
 refine ⟨⟨(gt++(z108++(z110++(z144++z149)))),?_⟩,(show x148.length = n0 by first | assumption | (simp only [llA,lrA]; first | done | assumption | omega) | omega)⟩
 rotate_left
 all_goals (simp +decide only [go_sem,decide_not,qbU9,qpK9, *])
theorem qeS9 {rec : Int × Int × Int × (List Mono)→Option ((List Mono))} (hrec : ∀ {s1 : Int} {s2 : Int} {s3 : Int} {o0 : List Mono} {g1 : AHeap} {v0 : Nat} {n0 : Nat} {g2 : AHeap} (hln0 : o0.length = n0) {r : (List Mono)} (_ : rec (s1,s2,s3,o0) = some r),∃ hz : AHeap,callP C (Lim C) 86 [.ref g1.length v0 0 n0,PI s1,PI s2,PI s3,.fn 76 []] (g1++(.row false v0 2 (rowP qa9 o0)::g2)) = some (resOf [],(g1++(.row false v0 2 (rowP qa9 r)::(g2++hz))))∧r.length = n0) {s1 : Int} {s2 : Int} {s3 : Int} {o0 : List Mono} {g1 : AHeap} {v0 : Nat} {n0 : Nat} {g2 : AHeap} (hln0 : o0.length = n0) {r : (List Mono)} (hr : qy9 rec s1 s2 s3 o0 = some r) : ∃ hz : AHeap,Lim C 86 [.ref g1.length v0 0 n0,PI s1,PI s2,PI s3,.fn 76 []] (g1++(.row false v0 2 (rowP qa9 o0)::g2)) = some (resOf [],(g1++(.row false v0 2 (rowP qa9 r)::(g2++hz))))∧r.length = n0:=by
 simp only [qy9] at hr
 obtain ⟨x150,h1,hr⟩:=bsome hr
 obtain ⟨q1,h1L,h1X⟩:=(qeQ9 hrec (g1:=g1) (v0:=v0) (n0:=n0) (g2:=g2)).L (g:=[]) h1 (show o0.length = n0 by first | assumption | (simp only [llA,lrA]; first | done | assumption | omega) | omega)
 have ⟨x151,hq1⟩ : ∃ y,y = x150:=⟨_,rfl⟩
 subst hq1
 try dsimp only at hr
 obtain ⟨st1,_,_,rfl,h1R,y3,rfl,rfl,h1f0⟩:=h1X
 simp only [qbU9,go_sem] at h1L
 try simp only [hln0] at h1L
 obtain rfl:=oiA hr
 refine ⟨y3,run_L is86 (nbA rfl) ?_,h1f0⟩
 rotate_left
 all_goals (simp +decide only [go_sem,decide_not,c86, *])
theorem qeV9 {s1 : Int} {s2 : Int} {s3 : Int} {o0 : List Mono} {g1 : AHeap} {v0 : Nat} {n0 : Nat} {g2 : AHeap} (hln0 : o0.length = n0) {r : (List Mono)} (hr : qbM9 s1 s2 s3 o0 = some r) : ∃ hz : AHeap,Lim C 86 [.ref g1.length v0 0 n0,PI s1,PI s2,PI s3,.fn 76 []] (g1++(.row false v0 2 (rowP qa9 o0)::g2)) = some (resOf [],(g1++(.row false v0 2 (rowP qa9 r)::(g2++hz))))∧r.length = n0:=by
 obtain ⟨n,hn⟩:=quC9 hr
 clear hr
 induction n generalizing s1 s2 s3 o0 g1 v0 n0 g2 r with
 | zero=>cases hn
 | succ n ih =>
  refine qeS9 (rec:=fixN _ n) (fun {s1} {s2} {s3} {o0} {g1} {v0} {n0} {g2} hln0 {r} hr=>?_) hln0 (g1:=g1) (v0:=v0) (n0:=n0) (g2:=g2) hn
  obtain ⟨hz,h1,f0⟩:=ih hln0 (g1:=g1) (v0:=v0) (n0:=n0) (g2:=g2) hr
  exact ⟨hz,qD9 rfl rfl rfl h1,f0⟩
end Lt

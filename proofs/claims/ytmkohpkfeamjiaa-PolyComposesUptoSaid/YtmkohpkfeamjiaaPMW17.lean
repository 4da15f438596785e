import Derived.Test.YtmkohpkfeamjiaaPMW13
import Derived.Test.YtmkohpkfeamjiaaPMW15
import Derived.Test.YtmkohpkfeamjiaaPMW16
set_option maxHeartbeats 60000000
set_option linter.unusedVariables false
set_option linter.unusedSimpArgs false
set_option linter.unusedSectionVars false
namespace Ld
open Go Go.Proofs Go.Abs
set_option maxRecDepth 8000
def qpN9 : ACode:=.seq (.seq (.reg [] [] [.M 94 14,.M 95 0,.M 96 9,.T 97 (.ix 2 (.tmp 95) (.tmp 96)),.T 98 (.fa 1 (.tmp 97)),.T 99 (.load none (.tmp 98)),.M 100 13,.T 101 (.ix 1 (.tmp 99) (.tmp 100)),.T 102 (.load none (.tmp 101)),.K 103 (.bin .lss (.tmp 94) (.tmp 102))]) (.cond (.tmp 103) (some 103) (.skip) (.exit 8))) (.seq (.block 9 83086890941359067891699914893164544 (.seq (.reg [] [] [.M 107 12,.M 108 1,.M 109 13,.T 110 (.ix 1 (.tmp 108) (.tmp 109)),.T 111 (.load none (.tmp 110)),.T 112 (.call 25 [.tmp 107,.tmp 111]),.M 106 112,.T 113 (.ext (.tmp 106) 0),.T 114 (.ext (.tmp 106) 1),.N 12 113,.N 6 114]) (.seq (.reg [] [] [.M 115 6,.K 116 (.bin .neq (.tmp 115) (cI 0))]) (.cond (.tmp 116) (some 116) (.seq (.reg [] [(4,0)] [.M 117 6,.K 4 (.mv (.const (.slice none 0 0))),.N 5 117]) (.ret)) (.skip))))) (.reg [] [] [.M 104 14,.T 105 (.bin .add (.tmp 104) (cI 1)),.N 14 105]))
def qow9 : ACode:=.seq (.seq (.reg [] [] [.M 84 13,.M 85 0,.M 86 9,.T 87 (.ix 2 (.tmp 85) (.tmp 86)),.T 88 (.fa 1 (.tmp 87)),.T 89 (.load none (.tmp 88)),.T 90 (.len (.tmp 89)),.K 91 (.bin .lss (.tmp 84) (.tmp 90))]) (.cond (.tmp 91) (some 91) (.skip) (.exit 6))) (.seq (.block 7 83086893417239146462460464691429376 (.seq (.reg [] [] [.K 14 (.mv (cI 0))]) (.block 8 83086893417239146462460464691429376 (.loop qpN9)))) (.reg [] [] [.M 92 13,.T 93 (.bin .add (.tmp 92) (cI 1)),.N 13 93]))
def qoJ9 : ACode:=.seq (.seq (.reg [] [] [.M 46 11,.M 47 0,.M 48 9,.T 49 (.ix 2 (.tmp 47) (.tmp 48)),.T 50 (.fa 1 (.tmp 49)),.T 51 (.load none (.tmp 50)),.T 52 (.len (.tmp 51)),.K 53 (.bin .lss (.tmp 46) (.tmp 52))]) (.cond (.tmp 53) (some 53) (.skip) (.exit 4))) (.seq (.block 5 9007199254740992 (.reg [] [] [.M 56 10,.M 57 56,.MG 58 57 false 0,.MG 59 57 false 9,.TG 60 57 false (.ix 2 (.tmp 58) (.tmp 59)),.TG 61 57 false (.fa 1 (.tmp 60)),.TG 62 57 false (.load none (.tmp 61)),.MG 63 57 false 11,.TG 64 57 false (.ix 1 (.tmp 62) (.tmp 63)),.TG 65 57 false (.load none (.tmp 64)),.TG 66 57 false (.bin .gtr (.tmp 65) (cI 0)),.MG 67 57 false 66,.MG 68 67 true 1,.MG 69 67 true 11,.TG 70 67 true (.ix 1 (.tmp 68) (.tmp 69)),.TG 71 67 true (.load none (.tmp 70)),.TG 72 67 true (.len (.tmp 71)),.TG 73 67 true (.bin .eql (.tmp 72) (cI 0)),.TG 74 57 false (.pick (.tmp 67) (.tmp 73) (.const (.bool false))),.T 75 (.pick (.tmp 57) (.const (.bool true)) (.tmp 74)),.N 10 75])) (.reg [] [] [.M 54 11,.T 55 (.bin .add (.tmp 54) (cI 1)),.N 11 55]))
def qpJ9 : ACode:=.seq (.seq (.reg [] [] [.M 40 9,.M 41 0,.T 42 (.len (.tmp 41)),.K 43 (.bin .lss (.tmp 40) (.tmp 42))]) (.cond (.tmp 43) (some 43) (.skip) (.exit 2))) (.seq (.block 3 42618382758534622637257028303333653504 (.seq (.reg [] [] [.K 10 (.mv (.const (.bool false)))]) (.seq (.seq (.reg [] [] [.K 11 (.mv (cI 0))]) (.block 4 9015995347765248 (.loop qoJ9))) (.seq (.seq (.reg [] [] [.N 76 10]) (.cond (.tmp 76) (some 76) (.exit 3) (.skip))) (.seq (.reg [] [(12,0)] [.M 77 0,.M 78 9,.T 79 (.ix 2 (.tmp 77) (.tmp 78)),.T 80 (.fa 0 (.tmp 79)),.T 81 (.load none (.tmp 80)),.T 82 (.build [(0,1),(1,1)] [.im true [],.im true []] [(0,.tmp 81)]),.T 83 (.lit 2 [(0,.tmp 82)]),.N 12 83]) (.seq (.seq (.reg [] [] [.K 13 (.mv (cI 0))]) (.block 6 83086893417314704335202374362622976 (.loop qow9))) (.seq (.reg [] [] [.M 119 8,.M 120 12,.T 121 (.call 18 [.tmp 119,.tmp 120]),.M 118 121,.T 122 (.ext (.tmp 118) 0),.T 123 (.ext (.tmp 118) 1),.N 8 122,.N 6 123]) (.seq (.reg [] [] [.M 124 6,.K 125 (.bin .neq (.tmp 124) (cI 0))]) (.cond (.tmp 125) (some 125) (.seq (.reg [] [(4,0)] [.M 126 6,.K 4 (.mv (.const (.slice none 0 0))),.N 5 126]) (.ret)) (.skip)))))))))) (.reg [] [] [.M 44 9,.T 45 (.bin .add (.tmp 44) (cI 1)),.N 9 45]))
def qpp9 : ACode:=.seq (.seq (.reg [] [] [.M 20 7,.M 21 1,.T 22 (.len (.tmp 21)),.K 23 (.bin .lss (.tmp 20) (.tmp 22))]) (.cond (.tmp 23) (some 23) (.skip) (.exit 0))) (.seq (.block 1 4303355904 (.seq (.reg [] [] [.M 26 1,.M 27 7,.T 28 (.ix 1 (.tmp 26) (.tmp 27)),.T 29 (.load none (.tmp 28)),.T 30 (.call 15 [.tmp 29,.const (.int .i64 4611686018427387904)]),.N 6 30]) (.seq (.reg [] [] [.M 31 6,.K 32 (.bin .neq (.tmp 31) (cI 0))]) (.cond (.tmp 32) (some 32) (.seq (.reg [] [(4,0)] [.M 33 6,.K 4 (.mv (.const (.slice none 0 0))),.N 5 33]) (.ret)) (.skip))))) (.reg [] [] [.M 24 7,.T 25 (.bin .add (.tmp 24) (cI 1)),.N 7 25]))
def c27 : ACode:=.seq (.reg [] [(4,0)] [.K 4 (.mv (.const (.slice none 0 0))),.K 5 (.mv (cI 0))]) (.seq (.reg [] [] [.M 15 0,.T 16 (.call 15 [.tmp 15,.const (.int .i64 4611686018427387904)]),.N 6 16]) (.seq (.seq (.reg [] [] [.M 17 6,.K 18 (.bin .neq (.tmp 17) (cI 0))]) (.cond (.tmp 18) (some 18) (.seq (.reg [] [(4,0)] [.M 19 6,.K 4 (.mv (.const (.slice none 0 0))),.N 5 19]) (.ret)) (.skip))) (.seq (.seq (.reg [] [] [.K 7 (.mv (cI 0))]) (.block 0 4303355904 (.loop qpp9))) (.seq (.seq (.reg [] [] [.M 34 0,.M 35 1,.T 36 (.len (.tmp 35)),.T 37 (.call 15 [.tmp 34,.tmp 36]),.K 38 (.bin .neq (.tmp 37) (cI 0))]) (.cond (.tmp 38) (some 38) (.seq (.reg [] [(4,0)] [.K 4 (.mv (.const (.slice none 0 0))),.K 5 (.mv (cI 21))]) (.ret)) (.skip))) (.seq (.reg [] [(8,0)] [.T 39 (.lit 2 []),.N 8 39]) (.seq (.seq (.reg [] [] [.K 9 (.mv (cI 0))]) (.block 2 42618382758534622637257028303333653504 (.loop qpJ9))) (.seq (.reg [] [] [.M 127 8,.N 4 127,.K 5 (.mv (cI 0))]) (.ret))))))))
theorem is27 : IsF C 27 128 42618382758534622637257028582515179507 c27 [.tmp 4,.tmp 5]:=⟨⟨Try.f27,_,C_P ▸ Try.func27,rfl,rfl,rfl,by kernel_rfl,rfl⟩⟩
def qfb9 (s0 : List Mono) (s1 : List (List Mono)) (s4 : List Mono) (s7 : Int) (s8 : List Mono) (s9 : Int) (s10 : Bool) (s13 : Int) : Int × (List Mono) × Int→Unit→St:=fun (s6,s12,s14) _=>⟨[(0,.d (.rd (s0.map qa9))),(1,.d (.rd (s1.map (lsD qa9)))),(4,.d (.rd (s4.map qa9))),(5,PI 0),(6,PI s6),(7,PI s7),(8,.d (.rd (s8.map qa9))),(9,PI s9),(10,PB s10),(12,.d (.rd (s12.map qa9))),(13,PI s13),(14,PI s14)],[]⟩
def qmn9 (s0 : List Mono) (s1 : List (List Mono)) (s4 : List Mono) (s7 : Int) (s8 : List Mono) (s9 : Int) (s10 : Bool) (s13 : Int) : (((List Mono) × Int) ⊕ (Int × (List Mono)))→AExit × St→Prop
 | .inl r,q=>XV C [.tmp 4,.tmp 5] (.tp [.d (.rd (r.1.map qa9)),PI r.2]) q
 | .inr (s6,s12),q=>∃ d14 : PV,q = (.exit 8,⟨[(0,.d (.rd (s0.map qa9))),(1,.d (.rd (s1.map (lsD qa9)))),(4,.d (.rd (s4.map qa9))),(5,PI 0),(6,PI s6),(7,PI s7),(8,.d (.rd (s8.map qa9))),(9,PI s9),(10,PB s10),(12,.d (.rd (s12.map qa9))),(13,PI s13),(14,d14)],[]⟩)
theorem qml9 {s0 : List Mono} {s1 : List (List Mono)} {s4 : List Mono} {s7 : Int} {s8 : List Mono} {s9 : Int} {s10 : Bool} {s13 : Int} : Sim C 42618382758534622637257028582515179507 qpN9 (qbS9 s0 s1 s4 s7 s8 s9 s10 s13) (qfb9 s0 s1 s4 s7 s8 s9 s10 s13) (qmn9 s0 s1 s4 s7 s8 s9 s10 s13):=by
 intro s g r hr
 obtain ⟨s6,s12,s14⟩:=s
 simp only [qbS9] at hr
 obtain ⟨x17,h1,x18,h2,hr⟩:=bs2 hr
 rcases iteP hr with ⟨h3,hr⟩ | ⟨h3,hr⟩
 obtain ⟨x19,h4,x20,h5,hr⟩:=bs2 hr
 have h5k:=(qnf9 h5).k rfl rfl rfl
 try simp only [go_sem] at h5k
 rcases iteP hr with ⟨h6,hr⟩ | ⟨h6,hr⟩
 obtain rfl:=oiA hr
 refine ⟨(),?_⟩
 rotate_left
 obtain rfl:=oiA hr
 refine xv_of ?_
 rotate_left
 obtain rfl:=oiA hr
 refine xe_of ⟨PI s14,rfl⟩ ?_
 rotate_left
 all_goals (simp +decide only [go_sem,decide_not,qfb9,qpN9, *])
def qfa9 (s0 : List Mono) (s1 : List (List Mono)) (s4 : List Mono) (s7 : Int) (s8 : List Mono) (s9 : Int) (s10 : Bool) : Int × (List Mono) × Int→Unit→St:=fun (s6,s12,s13) _=>⟨[(0,.d (.rd (s0.map qa9))),(1,.d (.rd (s1.map (lsD qa9)))),(4,.d (.rd (s4.map qa9))),(5,PI 0),(6,PI s6),(7,PI s7),(8,.d (.rd (s8.map qa9))),(9,PI s9),(10,PB s10),(12,.d (.rd (s12.map qa9))),(13,PI s13)],[]⟩
def qlO9 (s0 : List Mono) (s1 : List (List Mono)) (s4 : List Mono) (s7 : Int) (s8 : List Mono) (s9 : Int) (s10 : Bool) : (((List Mono) × Int) ⊕ (Int × (List Mono)))→AExit × St→Prop
 | .inl r,q=>XV C [.tmp 4,.tmp 5] (.tp [.d (.rd (r.1.map qa9)),PI r.2]) q
 | .inr (s6,s12),q=>∃ d10 : PV,∃ d13 : PV,q = (.exit 6,⟨[(0,.d (.rd (s0.map qa9))),(1,.d (.rd (s1.map (lsD qa9)))),(4,.d (.rd (s4.map qa9))),(5,PI 0),(6,PI s6),(7,PI s7),(8,.d (.rd (s8.map qa9))),(9,PI s9),(10,d10),(12,.d (.rd (s12.map qa9))),(13,d13)],[]⟩)
theorem qmq9 {s0 : List Mono} {s1 : List (List Mono)} {s4 : List Mono} {s7 : Int} {s8 : List Mono} {s9 : Int} {s10 : Bool} : Sim C 42618382758534622637257028582515179507 qow9 (qbV9 s0 s1 s4 s7 s8 s9 s10) (qfa9 s0 s1 s4 s7 s8 s9 s10) (qlO9 s0 s1 s4 s7 s8 s9 s10):=by
 intro s g r hr
 obtain ⟨s6,s12,s13⟩:=s
 simp only [qbV9] at hr
 obtain ⟨x16,h1,hr⟩:=bsome hr
 rcases iteP hr with ⟨h2,hr⟩ | ⟨h2,hr⟩
 obtain ⟨x21,h3,hr⟩:=bsome hr
 obtain ⟨q3,h3L,h3X⟩:=qml9.L (g:=()) h3
 rcases x21 with x22 | ⟨x23,x24⟩
 try dsimp only at hr
 obtain ⟨st3,rfl,h3R⟩:=h3X
 simp only [qfb9,go_sem] at h3L
 obtain rfl:=oiA hr
 refine xv_of ?_
 rotate_left
 try dsimp only at hr
 obtain ⟨z25,rfl⟩:=h3X
 simp only [qfb9,go_sem] at h3L
 obtain rfl:=oiA hr
 refine ⟨(),?_⟩
 rotate_left
 obtain rfl:=oiA hr
 refine xe_of ⟨PB s10,PI s13,rfl⟩ ?_
 rotate_left
 all_goals (simp +decide only [go_sem,decide_not,qfa9,qow9, *])
def qgf9 (s0 : List Mono) (s1 : List (List Mono)) (s4 : List Mono) (s6 : Int) (s7 : Int) (s8 : List Mono) (s9 : Int) : Bool × Int→Unit→St:=fun (s10,s11) _=>⟨[(0,.d (.rd (s0.map qa9))),(1,.d (.rd (s1.map (lsD qa9)))),(4,.d (.rd (s4.map qa9))),(5,PI 0),(6,PI s6),(7,PI s7),(8,.d (.rd (s8.map qa9))),(9,PI s9),(10,PB s10),(11,PI s11)],[]⟩
def qmc9 (s0 : List Mono) (s1 : List (List Mono)) (s4 : List Mono) (s6 : Int) (s7 : Int) (s8 : List Mono) (s9 : Int) : Bool→AExit × St→Prop:=fun s10 q=>∃ d11 : PV,q = (.exit 4,⟨[(0,.d (.rd (s0.map qa9))),(1,.d (.rd (s1.map (lsD qa9)))),(4,.d (.rd (s4.map qa9))),(5,PI 0),(6,PI s6),(7,PI s7),(8,.d (.rd (s8.map qa9))),(9,PI s9),(10,PB s10),(11,d11)],[]⟩)
theorem qlX9 {s0 : List Mono} {s1 : List (List Mono)} {s4 : List Mono} {s6 : Int} {s7 : Int} {s8 : List Mono} {s9 : Int} : Sim C 42618382758534622637257028582515179507 qoJ9 (qcn9 s0 s1 s4 s6 s7 s8 s9) (qgf9 s0 s1 s4 s6 s7 s8 s9) (qmc9 s0 s1 s4 s6 s7 s8 s9):=by
 intro s g r hr
 obtain ⟨s10,s11⟩:=s
 simp only [qcn9] at hr
 obtain ⟨x9,h1,hr⟩:=bsome hr
 rcases iteP hr with ⟨h2,hr⟩ | ⟨h2,hr⟩
 rcases iteB hr with ⟨h3,hr⟩ | ⟨h3,hr⟩
 obtain rfl:=oiA hr
 refine ⟨(),?_⟩
 rotate_left
 obtain ⟨x10,h4,hr⟩:=bsome hr
 rcases iteP hr with ⟨h5,hr⟩ | ⟨h5,hr⟩
 obtain ⟨x11,h6,hr⟩:=bsome hr
 obtain rfl:=oiA hr
 refine ⟨(),?_⟩
 rotate_left
 obtain rfl:=oiA hr
 refine ⟨(),?_⟩
 rotate_left
 obtain rfl:=oiA hr
 refine xe_of ⟨PI s11,rfl⟩ ?_
 rotate_left
 all_goals (simp +decide only [go_sem,decide_not,qgf9,qoJ9, *])
def qdN9 (s0 : List Mono) (s1 : List (List Mono)) (s4 : List Mono) (s7 : Int) : Int × (List Mono) × Int→Unit→St:=fun (s6,s8,s9) _=>⟨[(0,.d (.rd (s0.map qa9))),(1,.d (.rd (s1.map (lsD qa9)))),(4,.d (.rd (s4.map qa9))),(5,PI 0),(6,PI s6),(7,PI s7),(8,.d (.rd (s8.map qa9))),(9,PI s9)],[]⟩
def qmo9 (s0 : List Mono) (s1 : List (List Mono)) (s4 : List Mono) (s7 : Int) : (((List Mono) × Int) ⊕ (Int × (List Mono) × Int))→AExit × St→Prop
 | .inl r,q=>XV C [.tmp 4,.tmp 5] (.tp [.d (.rd (r.1.map qa9)),PI r.2]) q
 | .inr (s6,s8,s9),q=>∃ g,q = (.exit 2,qdN9 s0 s1 s4 s7 (s6,s8,s9) g)
theorem qmb9 {s0 : List Mono} {s1 : List (List Mono)} {s4 : List Mono} {s7 : Int} : Sim C 42618382758534622637257028582515179507 qpJ9 (qbq9 s0 s1 s4 s7) (qdN9 s0 s1 s4 s7) (qmo9 s0 s1 s4 s7):=by
 intro s g r hr
 obtain ⟨s6,s8,s9⟩:=s
 simp only [qbq9] at hr
 rcases iteP hr with ⟨h1,hr⟩ | ⟨h1,hr⟩
 obtain ⟨x12,h2,hr⟩:=bsome hr
 obtain ⟨q2,h2L,h2X⟩:=qlX9.L (g:=()) h2
 have ⟨x13,hq2⟩ : ∃ y,y = x12:=⟨_,rfl⟩
 subst hq2
 try dsimp only at hr
 obtain ⟨z14,rfl⟩:=h2X
 simp only [qgf9,go_sem] at h2L
 rcases iteB hr with ⟨h3,hr⟩ | ⟨h3,hr⟩
 obtain rfl:=oiA hr
 refine ⟨(),?_⟩
 rotate_left
 simp only [h3] at hr
 obtain ⟨x15,h4,hr⟩:=bsome hr
 obtain ⟨x26,h5,hr⟩:=bsome hr
 obtain ⟨q5,h5L,h5X⟩:=qmq9.L (g:=()) h5
 rcases x26 with x27 | ⟨x28,x29⟩
 try dsimp only at hr
 obtain ⟨st5,rfl,h5R⟩:=h5X
 simp only [qfa9,go_sem] at h5L
 obtain rfl:=oiA hr
 refine xv_of ?_
 rotate_left
 try dsimp only at hr
 obtain ⟨z30,z31,rfl⟩:=h5X
 simp only [qfa9,go_sem] at h5L
 obtain ⟨x32,h6,hr⟩:=bsome hr
 have h6k:=(qux9 h6).k rfl rfl rfl
 try simp only [go_sem] at h6k
 rcases iteP hr with ⟨h7,hr⟩ | ⟨h7,hr⟩
 obtain rfl:=oiA hr
 refine ⟨(),?_⟩
 rotate_left
 obtain rfl:=oiA hr
 refine xv_of ?_
 rotate_left
 obtain rfl:=oiA hr
 refine xe_of ⟨(),rfl⟩ ?_
 rotate_left
 all_goals (simp +decide only [go_sem,decide_not,qdN9,qpJ9, *])
def qdP9 (s0 : List Mono) (s1 : List (List Mono)) (s4 : List Mono) : Int × Int→Unit→St:=fun (s6,s7) _=>⟨[(0,.d (.rd (s0.map qa9))),(1,.d (.rd (s1.map (lsD qa9)))),(4,.d (.rd (s4.map qa9))),(5,PI 0),(6,PI s6),(7,PI s7)],[]⟩
def qmm9 (s0 : List Mono) (s1 : List (List Mono)) (s4 : List Mono) : (((List Mono) × Int) ⊕ (Int × Int))→AExit × St→Prop
 | .inl r,q=>XV C [.tmp 4,.tmp 5] (.tp [.d (.rd (r.1.map qa9)),PI r.2]) q
 | .inr (s6,s7),q=>∃ g,q = (.exit 0,qdP9 s0 s1 s4 (s6,s7) g)
theorem qmh9 {s0 : List Mono} {s1 : List (List Mono)} {s4 : List Mono} : Sim C 42618382758534622637257028582515179507 qpp9 (qbD9 s0 s1 s4) (qdP9 s0 s1 s4) (qmm9 s0 s1 s4):=by
 intro s g r hr
 obtain ⟨s6,s7⟩:=s
 simp only [qbD9] at hr
 rcases iteP hr with ⟨h1,hr⟩ | ⟨h1,hr⟩
 obtain ⟨x2,h2,x3,h3,hr⟩:=bs2 hr
 have h3k:=(qdE9 h3).k rfl rfl rfl
 try simp only [go_sem] at h3k
 rcases iteP hr with ⟨h4,hr⟩ | ⟨h4,hr⟩
 obtain rfl:=oiA hr
 refine ⟨(),?_⟩
 rotate_left
 obtain rfl:=oiA hr
 refine xv_of ?_
 rotate_left
 obtain rfl:=oiA hr
 refine xe_of ⟨(),rfl⟩ ?_
 rotate_left
 all_goals (simp +decide only [go_sem,decide_not,qdP9,qpp9, *])
theorem qnu9 {a0 : List Mono} {a1 : List (List Mono)} {r : (List Mono) × Int} (hr : qdG9 a0 a1 = some r) : Res C 27 [.rd (a0.map qa9),.rd (a1.map (lsD qa9))] (.tp [.d (.rd (r.1.map qa9)),PI r.2]):=by
 simp only [qdG9] at hr
 obtain ⟨x1,h1,hr⟩:=bsome hr
 have h1k:=(qdE9 h1).k rfl rfl rfl
 try simp only [go_sem] at h1k
 rcases iteP hr with ⟨h2,hr⟩ | ⟨h2,hr⟩
 obtain ⟨x4,h3,hr⟩:=bsome hr
 obtain ⟨q3,h3L,h3X⟩:=qmh9.L (g:=()) h3
 rcases x4 with x5 | ⟨x6,x7⟩
 try dsimp only at hr
 obtain ⟨st3,rfl,h3R⟩:=h3X
 simp only [qdP9,go_sem] at h3L
 obtain rfl:=oiA hr
 refine run_V is27 (nbA rfl) ?_
 rotate_left
 try dsimp only at hr
 obtain ⟨⟨⟩,rfl⟩:=h3X
 simp only [qdP9,go_sem] at h3L
 obtain ⟨x8,h4,hr⟩:=bsome hr
 have h4k:=(qdE9 h4).k rfl rfl rfl
 try simp only [go_sem] at h4k
 rcases iteP hr with ⟨h5,hr⟩ | ⟨h5,hr⟩
 obtain ⟨x33,h6,hr⟩:=bsome hr
 obtain ⟨q6,h6L,h6X⟩:=qmb9.L (g:=()) h6
 rcases x33 with x34 | ⟨x35,x36,x37⟩
 try dsimp only at hr
 obtain ⟨st6,rfl,h6R⟩:=h6X
 simp only [qdN9,go_sem] at h6L
 obtain rfl:=oiA hr
 refine run_V is27 (nbA rfl) ?_
 rotate_left
 try dsimp only at hr
 obtain ⟨⟨⟩,rfl⟩:=h6X
 simp only [qdN9,go_sem] at h6L
 obtain rfl:=oiA hr
 refine run_V is27 (nbA rfl) ?_
 rotate_left
 obtain rfl:=oiA hr
 refine run_V is27 (nbA rfl) ?_
 rotate_left
 obtain rfl:=oiA hr
 refine run_V is27 (nbA rfl) ?_
 rotate_left
 all_goals (simp +decide only [go_sem,decide_not,c27, *])
end Ld

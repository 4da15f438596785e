import Derived.Test.YtmkohpkfeamjiaaPVW13
import Derived.Test.YtmkohpkfeamjiaaPVW15
set_option maxHeartbeats 60000000
set_option linter.unusedVariables false
set_option linter.unusedSimpArgs false
set_option linter.unusedSectionVars false
namespace Ld
open Go Go.Proofs Go.Abs
set_option maxRecDepth 8000
def qpM9 : ACode:=.seq (.seq (.reg [] [] [.M 90 14,.M 91 0,.M 92 9,.T 93 (.ix 2 (.tmp 91) (.tmp 92)),.T 94 (.fa 1 (.tmp 93)),.T 95 (.load none (.tmp 94)),.M 96 13,.T 97 (.ix 1 (.tmp 95) (.tmp 96)),.T 98 (.load none (.tmp 97)),.K 99 (.bin .lss (.tmp 90) (.tmp 98))]) (.cond (.tmp 99) (some 99) (.skip) (.exit 8))) (.seq (.block 9 10633986859381456310708548808604647424 (.seq (.seq (.reg [] [] [.M 102 1,.M 103 13,.T 104 (.ix 1 (.tmp 102) (.tmp 103)),.T 105 (.load none (.tmp 104)),.T 106 (.len (.tmp 105)),.K 107 (.bin .gtr (.tmp 106) (cI 64))]) (.cond (.tmp 107) (some 107) (.seq (.reg [] [(4,0)] [.K 4 (.mv (.const (.slice none 0 0))),.K 5 (.mv (cI 2))]) (.ret)) (.skip))) (.seq (.reg [] [] [.M 109 12,.M 110 1,.M 111 13,.T 112 (.ix 1 (.tmp 110) (.tmp 111)),.T 113 (.load none (.tmp 112)),.T 114 (.call 63 [.tmp 109,.tmp 113]),.M 108 114,.T 115 (.ext (.tmp 108) 0),.T 116 (.ext (.tmp 108) 1),.N 12 115,.N 6 116]) (.seq (.reg [] [] [.M 117 6,.T 118 (.bin .neq (.tmp 117) (cI 0)),.M 119 118,.MG 120 119 false 12,.TG 121 119 false (.len (.tmp 120)),.TG 122 119 false (.bin .gtr (.tmp 121) (cI 64)),.K 123 (.pick (.tmp 119) (.const (.bool true)) (.tmp 122))]) (.cond (.tmp 123) (some 123) (.seq (.reg [] [(4,0)] [.K 4 (.mv (.const (.slice none 0 0))),.K 5 (.mv (cI 2))]) (.ret)) (.skip)))))) (.reg [] [] [.M 100 14,.T 101 (.bin .add (.tmp 100) (cI 1)),.N 14 101]))
def qqU9 : ACode:=.seq (.seq (.reg [] [] [.M 80 13,.M 81 0,.M 82 9,.T 83 (.ix 2 (.tmp 81) (.tmp 82)),.T 84 (.fa 1 (.tmp 83)),.T 85 (.load none (.tmp 84)),.T 86 (.len (.tmp 85)),.K 87 (.bin .lss (.tmp 80) (.tmp 86))]) (.cond (.tmp 87) (some 87) (.skip) (.exit 6))) (.seq (.block 7 10633986859536198815619221342967054336 (.seq (.reg [] [] [.K 14 (.mv (cI 0))]) (.block 8 10633986859536198815619221342967054336 (.loop qpM9)))) (.reg [] [] [.M 88 13,.T 89 (.bin .add (.tmp 88) (cI 1)),.N 13 89]))
def qpD9 : ACode:=.seq (.seq (.reg [] [] [.M 44 11,.M 45 0,.M 46 9,.T 47 (.ix 2 (.tmp 45) (.tmp 46)),.T 48 (.fa 1 (.tmp 47)),.T 49 (.load none (.tmp 48)),.T 50 (.len (.tmp 49)),.K 51 (.bin .lss (.tmp 44) (.tmp 50))]) (.cond (.tmp 51) (some 51) (.skip) (.exit 4))) (.seq (.block 5 2251799813685248 (.reg [] [] [.M 54 10,.M 55 54,.MG 56 55 false 0,.MG 57 55 false 9,.TG 58 55 false (.ix 2 (.tmp 56) (.tmp 57)),.TG 59 55 false (.fa 1 (.tmp 58)),.TG 60 55 false (.load none (.tmp 59)),.MG 61 55 false 11,.TG 62 55 false (.ix 1 (.tmp 60) (.tmp 61)),.TG 63 55 false (.load none (.tmp 62)),.TG 64 55 false (.bin .gtr (.tmp 63) (cI 0)),.MG 65 55 false 64,.MG 66 65 true 1,.MG 67 65 true 11,.TG 68 65 true (.ix 1 (.tmp 66) (.tmp 67)),.TG 69 65 true (.load none (.tmp 68)),.TG 70 65 true (.len (.tmp 69)),.TG 71 65 true (.bin .eql (.tmp 70) (cI 0)),.TG 72 55 false (.pick (.tmp 65) (.tmp 71) (.const (.bool false))),.T 73 (.pick (.tmp 55) (.const (.bool true)) (.tmp 72)),.N 10 73])) (.reg [] [] [.M 52 11,.T 53 (.bin .add (.tmp 52) (cI 1)),.N 11 53]))
def qpf9 : ACode:=.seq (.seq (.reg [] [] [.M 38 9,.M 39 0,.T 40 (.len (.tmp 39)),.K 41 (.bin .lss (.tmp 38) (.tmp 40))]) (.cond (.tmp 41) (some 41) (.skip) (.exit 2))) (.seq (.block 3 87122919918619782864328986909353046998016 (.seq (.reg [] [] [.K 10 (.mv (.const (.bool false)))]) (.seq (.seq (.reg [] [] [.K 11 (.mv (cI 0))]) (.block 4 2253998836942848 (.loop qpD9))) (.seq (.seq (.reg [] [] [.N 74 10]) (.cond (.tmp 74) (some 74) (.exit 3) (.skip))) (.seq (.reg [] [] [.M 75 0,.M 76 9,.T 77 (.ix 2 (.tmp 75) (.tmp 76)),.T 78 (.fa 0 (.tmp 77)),.T 79 (.load none (.tmp 78)),.N 12 79]) (.seq (.seq (.reg [] [] [.K 13 (.mv (cI 0))]) (.block 6 10633986859536217705087406820384861184 (.loop qqU9))) (.seq (.reg [] [] [.M 125 8,.M 126 12,.T 127 (.call 64 [.tmp 125,.tmp 126]),.M 124 127,.T 128 (.ext (.tmp 124) 0),.T 129 (.ext (.tmp 124) 1),.N 8 128,.N 6 129]) (.seq (.reg [] [] [.M 130 6,.T 131 (.bin .neq (.tmp 130) (cI 0)),.M 132 131,.MG 133 132 false 8,.TG 134 132 false (.len (.tmp 133)),.TG 135 132 false (.bin .gtr (.tmp 134) (cI 64)),.K 136 (.pick (.tmp 132) (.const (.bool true)) (.tmp 135))]) (.cond (.tmp 136) (some 136) (.seq (.reg [] [(4,0)] [.K 4 (.mv (.const (.slice none 0 0))),.K 5 (.mv (cI 2))]) (.ret)) (.skip)))))))))) (.reg [] [] [.M 42 9,.T 43 (.bin .add (.tmp 42) (cI 1)),.N 9 43]))
def qoI9 : ACode:=.seq (.seq (.reg [] [] [.M 25 7,.M 26 1,.T 27 (.len (.tmp 26)),.K 28 (.bin .lss (.tmp 25) (.tmp 27))]) (.cond (.tmp 28) (some 28) (.skip) (.exit 0))) (.seq (.block 1 68987912192 (.seq (.reg [] [] [.M 31 1,.M 32 7,.T 33 (.ix 1 (.tmp 31) (.tmp 32)),.T 34 (.load none (.tmp 33)),.T 35 (.call 62 [.tmp 34]),.K 36 (.not (.tmp 35))]) (.cond (.tmp 36) (some 36) (.seq (.reg [] [(4,0)] [.K 4 (.mv (.const (.slice none 0 0))),.K 5 (.mv (cI 10))]) (.ret)) (.skip)))) (.reg [] [] [.M 29 7,.T 30 (.bin .add (.tmp 29) (cI 1)),.N 7 30]))
def c29 : ACode:=.seq (.reg [] [(4,0)] [.K 4 (.mv (.const (.slice none 0 0))),.K 5 (.mv (cI 0))]) (.seq (.reg [] [] [.M 15 0,.T 16 (.call 15 [.tmp 15,.const (.int .i64 4611686018427387904)]),.N 6 16]) (.seq (.seq (.reg [] [] [.M 17 6,.K 18 (.bin .neq (.tmp 17) (cI 0))]) (.cond (.tmp 18) (some 18) (.seq (.reg [] [(4,0)] [.M 19 6,.K 4 (.mv (.const (.slice none 0 0))),.N 5 19]) (.ret)) (.skip))) (.seq (.seq (.reg [] [] [.M 20 0,.M 21 1,.T 22 (.len (.tmp 21)),.T 23 (.call 15 [.tmp 20,.tmp 22]),.K 24 (.bin .neq (.tmp 23) (cI 0))]) (.cond (.tmp 24) (some 24) (.seq (.reg [] [(4,0)] [.K 4 (.mv (.const (.slice none 0 0))),.K 5 (.mv (cI 21))]) (.ret)) (.skip))) (.seq (.seq (.reg [] [] [.K 7 (.mv (cI 0))]) (.block 0 68987912192 (.loop qoI9))) (.seq (.reg [] [(8,0)] [.T 37 (.lit 1 []),.N 8 37]) (.seq (.seq (.reg [] [] [.K 9 (.mv (cI 0))]) (.block 2 87122919918619782864328986909353046998016 (.loop qpf9))) (.seq (.reg [] [] [.M 137 8,.N 4 137,.K 5 (.mv (cI 0))]) (.ret))))))))
theorem is29 : IsF C 29 138 87122919918619782864328986909422051950579 c29 [.tmp 4,.tmp 5]:=⟨⟨Try.f29,_,C_P ▸ Try.func29,rfl,rfl,rfl,by kernel_rfl,rfl⟩⟩
def qia9 (s0 : List Mono) (s1 : List (List Int)) (s4 : List Int) (s7 : Int) (s8 : List Int) (s9 : Int) (s10 : Bool) (s13 : Int) : Int × (List Int) × Int→Unit→St:=fun (s6,s12,s14) _=>⟨[(0,.d (.rd (s0.map qa9))),(1,.d (.rd (s1.map (lsD qc9)))),(4,.d (.rd (s4.map qc9))),(5,PI 0),(6,PI s6),(7,PI s7),(8,.d (.rd (s8.map qc9))),(9,PI s9),(10,PB s10),(12,.d (.rd (s12.map qc9))),(13,PI s13),(14,PI s14)],[]⟩
def qpe9 (s0 : List Mono) (s1 : List (List Int)) (s4 : List Int) (s7 : Int) (s8 : List Int) (s9 : Int) (s10 : Bool) (s13 : Int) : (((List Int) × Int) ⊕ (Int × (List Int)))→AExit × St→Prop
 | .inl r,q=>XV C [.tmp 4,.tmp 5] (.tp [.d (.rd (r.1.map qc9)),PI r.2]) q
 | .inr (s6,s12),q=>∃ d14 : PV,q = (.exit 8,⟨[(0,.d (.rd (s0.map qa9))),(1,.d (.rd (s1.map (lsD qc9)))),(4,.d (.rd (s4.map qc9))),(5,PI 0),(6,PI s6),(7,PI s7),(8,.d (.rd (s8.map qc9))),(9,PI s9),(10,PB s10),(12,.d (.rd (s12.map qc9))),(13,PI s13),(14,d14)],[]⟩)
theorem qqp9 {s0 : List Mono} {s1 : List (List Int)} {s4 : List Int} {s7 : Int} {s8 : List Int} {s9 : Int} {s10 : Bool} {s13 : Int} : Sim C 87122919918619782864328986909422051950579 qpM9 (qeK9 s0 s1 s4 s7 s8 s9 s10 s13) (qia9 s0 s1 s4 s7 s8 s9 s10 s13) (qpe9 s0 s1 s4 s7 s8 s9 s10 s13):=by
 intro s g r hr
 obtain ⟨s6,s12,s14⟩:=s
 simp only [qeK9] at hr
 obtain ⟨x16,h1,x17,h2,hr⟩:=bs2 hr
 rcases iteP hr with ⟨h3,hr⟩ | ⟨h3,hr⟩
 obtain ⟨x18,h4,hr⟩:=bsome hr
 rcases iteP hr with ⟨h5,hr⟩ | ⟨h5,hr⟩
 obtain rfl:=oiA hr
 refine xv_of ?_
 rotate_left
 obtain ⟨x19,h6,hr⟩:=bsome hr
 have h6k:=(qvf9 h6).k rfl rfl rfl
 try simp only [go_sem] at h6k
 rcases iteP hr with ⟨h7,hr⟩ | ⟨h7,hr⟩
 rcases iteP hr with ⟨h8,hr⟩ | ⟨h8,hr⟩
 obtain rfl:=oiA hr
 refine xv_of ?_
 rotate_left
 obtain rfl:=oiA hr
 refine ⟨(),?_⟩
 rotate_left
 obtain rfl:=oiA hr
 refine xv_of ?_
 rotate_left
 obtain rfl:=oiA hr
 refine xe_of ⟨PI s14,rfl⟩ ?_
 rotate_left
 all_goals (simp +decide only [go_sem,decide_not,qia9,qpM9, *])
def qhZ9 (s0 : List Mono) (s1 : List (List Int)) (s4 : List Int) (s7 : Int) (s8 : List Int) (s9 : Int) (s10 : Bool) : Int × (List Int) × Int→Unit→St:=fun (s6,s12,s13) _=>⟨[(0,.d (.rd (s0.map qa9))),(1,.d (.rd (s1.map (lsD qc9)))),(4,.d (.rd (s4.map qc9))),(5,PI 0),(6,PI s6),(7,PI s7),(8,.d (.rd (s8.map qc9))),(9,PI s9),(10,PB s10),(12,.d (.rd (s12.map qc9))),(13,PI s13)],[]⟩
def qpX9 (s0 : List Mono) (s1 : List (List Int)) (s4 : List Int) (s7 : Int) (s8 : List Int) (s9 : Int) (s10 : Bool) : (((List Int) × Int) ⊕ (Int × (List Int)))→AExit × St→Prop
 | .inl r,q=>XV C [.tmp 4,.tmp 5] (.tp [.d (.rd (r.1.map qc9)),PI r.2]) q
 | .inr (s6,s12),q=>∃ d10 : PV,∃ d13 : PV,q = (.exit 6,⟨[(0,.d (.rd (s0.map qa9))),(1,.d (.rd (s1.map (lsD qc9)))),(4,.d (.rd (s4.map qc9))),(5,PI 0),(6,PI s6),(7,PI s7),(8,.d (.rd (s8.map qc9))),(9,PI s9),(10,d10),(12,.d (.rd (s12.map qc9))),(13,d13)],[]⟩)
theorem qra9 {s0 : List Mono} {s1 : List (List Int)} {s4 : List Int} {s7 : Int} {s8 : List Int} {s9 : Int} {s10 : Bool} : Sim C 87122919918619782864328986909422051950579 qqU9 (qeO9 s0 s1 s4 s7 s8 s9 s10) (qhZ9 s0 s1 s4 s7 s8 s9 s10) (qpX9 s0 s1 s4 s7 s8 s9 s10):=by
 intro s g r hr
 obtain ⟨s6,s12,s13⟩:=s
 simp only [qeO9] at hr
 obtain ⟨x15,h1,hr⟩:=bsome hr
 rcases iteP hr with ⟨h2,hr⟩ | ⟨h2,hr⟩
 obtain ⟨x20,h3,hr⟩:=bsome hr
 obtain ⟨q3,h3L,h3X⟩:=qqp9.L (g:=()) h3
 rcases x20 with x21 | ⟨x22,x23⟩
 try dsimp only at hr
 obtain ⟨st3,rfl,h3R⟩:=h3X
 simp only [qia9,go_sem] at h3L
 obtain rfl:=oiA hr
 refine xv_of ?_
 rotate_left
 try dsimp only at hr
 obtain ⟨z24,rfl⟩:=h3X
 simp only [qia9,go_sem] at h3L
 obtain rfl:=oiA hr
 refine ⟨(),?_⟩
 rotate_left
 obtain rfl:=oiA hr
 refine xe_of ⟨PB s10,PI s13,rfl⟩ ?_
 rotate_left
 all_goals (simp +decide only [go_sem,decide_not,qhZ9,qqU9, *])
def qjm9 (s0 : List Mono) (s1 : List (List Int)) (s4 : List Int) (s6 : Int) (s7 : Int) (s8 : List Int) (s9 : Int) : Bool × Int→Unit→St:=fun (s10,s11) _=>⟨[(0,.d (.rd (s0.map qa9))),(1,.d (.rd (s1.map (lsD qc9)))),(4,.d (.rd (s4.map qc9))),(5,PI 0),(6,PI s6),(7,PI s7),(8,.d (.rd (s8.map qc9))),(9,PI s9),(10,PB s10),(11,PI s11)],[]⟩
def qoL9 (s0 : List Mono) (s1 : List (List Int)) (s4 : List Int) (s6 : Int) (s7 : Int) (s8 : List Int) (s9 : Int) : Bool→AExit × St→Prop:=fun s10 q=>∃ d11 : PV,q = (.exit 4,⟨[(0,.d (.rd (s0.map qa9))),(1,.d (.rd (s1.map (lsD qc9)))),(4,.d (.rd (s4.map qc9))),(5,PI 0),(6,PI s6),(7,PI s7),(8,.d (.rd (s8.map qc9))),(9,PI s9),(10,PB s10),(11,d11)],[]⟩)
theorem qrb9 {s0 : List Mono} {s1 : List (List Int)} {s4 : List Int} {s6 : Int} {s7 : Int} {s8 : List Int} {s9 : Int} : Sim C 87122919918619782864328986909422051950579 qpD9 (qeN9 s0 s1 s4 s6 s7 s8 s9) (qjm9 s0 s1 s4 s6 s7 s8 s9) (qoL9 s0 s1 s4 s6 s7 s8 s9):=by
 intro s g r hr
 obtain ⟨s10,s11⟩:=s
 simp only [qeN9] at hr
 obtain ⟨x8,h1,hr⟩:=bsome hr
 rcases iteP hr with ⟨h2,hr⟩ | ⟨h2,hr⟩
 rcases iteB hr with ⟨h3,hr⟩ | ⟨h3,hr⟩
 obtain rfl:=oiA hr
 refine ⟨(),?_⟩
 rotate_left
 obtain ⟨x9,h4,hr⟩:=bsome hr
 rcases iteP hr with ⟨h5,hr⟩ | ⟨h5,hr⟩
 obtain ⟨x10,h6,hr⟩:=bsome hr
 obtain rfl:=oiA hr
 refine ⟨(),?_⟩
 rotate_left
 obtain rfl:=oiA hr
 refine ⟨(),?_⟩
 rotate_left
 obtain rfl:=oiA hr
 refine xe_of ⟨PI s11,rfl⟩ ?_
 rotate_left
 all_goals (simp +decide only [go_sem,decide_not,qjm9,qpD9, *])
def qgX9 (s0 : List Mono) (s1 : List (List Int)) (s4 : List Int) (s7 : Int) : Int × (List Int) × Int→Unit→St:=fun (s6,s8,s9) _=>⟨[(0,.d (.rd (s0.map qa9))),(1,.d (.rd (s1.map (lsD qc9)))),(4,.d (.rd (s4.map qc9))),(5,PI 0),(6,PI s6),(7,PI s7),(8,.d (.rd (s8.map qc9))),(9,PI s9)],[]⟩
def qqy9 (s0 : List Mono) (s1 : List (List Int)) (s4 : List Int) (s7 : Int) : (((List Int) × Int) ⊕ (Int × (List Int) × Int))→AExit × St→Prop
 | .inl r,q=>XV C [.tmp 4,.tmp 5] (.tp [.d (.rd (r.1.map qc9)),PI r.2]) q
 | .inr (s6,s8,s9),q=>∃ g,q = (.exit 2,qgX9 s0 s1 s4 s7 (s6,s8,s9) g)
theorem qqr9 {s0 : List Mono} {s1 : List (List Int)} {s4 : List Int} {s7 : Int} : Sim C 87122919918619782864328986909422051950579 qpf9 (qdl9 s0 s1 s4 s7) (qgX9 s0 s1 s4 s7) (qqy9 s0 s1 s4 s7):=by
 intro s g r hr
 obtain ⟨s6,s8,s9⟩:=s
 simp only [qdl9] at hr
 rcases iteP hr with ⟨h1,hr⟩ | ⟨h1,hr⟩
 obtain ⟨x11,h2,hr⟩:=bsome hr
 obtain ⟨q2,h2L,h2X⟩:=qrb9.L (g:=()) h2
 have ⟨x12,hq2⟩ : ∃ y,y = x11:=⟨_,rfl⟩
 subst hq2
 try dsimp only at hr
 obtain ⟨z13,rfl⟩:=h2X
 simp only [qjm9,go_sem] at h2L
 rcases iteB hr with ⟨h3,hr⟩ | ⟨h3,hr⟩
 obtain rfl:=oiA hr
 refine ⟨(),?_⟩
 rotate_left
 simp only [h3] at hr
 obtain ⟨x14,h4,hr⟩:=bsome hr
 obtain ⟨x25,h5,hr⟩:=bsome hr
 obtain ⟨q5,h5L,h5X⟩:=qra9.L (g:=()) h5
 rcases x25 with x26 | ⟨x27,x28⟩
 try dsimp only at hr
 obtain ⟨st5,rfl,h5R⟩:=h5X
 simp only [qhZ9,go_sem] at h5L
 obtain rfl:=oiA hr
 refine xv_of ?_
 rotate_left
 try dsimp only at hr
 obtain ⟨z29,z30,rfl⟩:=h5X
 simp only [qhZ9,go_sem] at h5L
 obtain ⟨x31,h6,hr⟩:=bsome hr
 have h6k:=(qvT9 h6).k rfl rfl rfl
 try simp only [go_sem] at h6k
 rcases iteP hr with ⟨h7,hr⟩ | ⟨h7,hr⟩
 rcases iteP hr with ⟨h8,hr⟩ | ⟨h8,hr⟩
 obtain rfl:=oiA hr
 refine xv_of ?_
 rotate_left
 obtain rfl:=oiA hr
 refine ⟨(),?_⟩
 rotate_left
 obtain rfl:=oiA hr
 refine xv_of ?_
 rotate_left
 obtain rfl:=oiA hr
 refine xe_of ⟨(),rfl⟩ ?_
 rotate_left
 all_goals (simp +decide only [go_sem,decide_not,qgX9,qpf9, *])
def qgM9 (s0 : List Mono) (s1 : List (List Int)) (s4 : List Int) (s6 : Int) : Int→Unit→St:=fun s7 _=>⟨[(0,.d (.rd (s0.map qa9))),(1,.d (.rd (s1.map (lsD qc9)))),(4,.d (.rd (s4.map qc9))),(5,PI 0),(6,PI s6),(7,PI s7)],[]⟩
def qpn9 (s0 : List Mono) (s1 : List (List Int)) (s4 : List Int) (s6 : Int) : (((List Int) × Int) ⊕ Int)→AExit × St→Prop
 | .inl r,q=>XV C [.tmp 4,.tmp 5] (.tp [.d (.rd (r.1.map qc9)),PI r.2]) q
 | .inr s7,q=>∃ g,q = (.exit 0,qgM9 s0 s1 s4 s6 s7 g)
theorem qpS9 {s0 : List Mono} {s1 : List (List Int)} {s4 : List Int} {s6 : Int} : Sim C 87122919918619782864328986909422051950579 qoI9 (qfn9 s0 s1 s4 s6) (qgM9 s0 s1 s4 s6) (qpn9 s0 s1 s4 s6):=by
 intro s g r hr
 have ⟨s7,hs0⟩ : ∃ y,y = s:=⟨_,rfl⟩
 subst hs0
 simp only [qfn9] at hr
 rcases iteP hr with ⟨h1,hr⟩ | ⟨h1,hr⟩
 obtain ⟨x3,h2,x4,h3,hr⟩:=bs2 hr
 have h3k:=(qgv9 h3).k rfl rfl rfl
 try simp only [go_sem] at h3k
 rcases iteB hr with ⟨h4,hr⟩ | ⟨h4,hr⟩
 obtain rfl:=oiA hr
 refine ⟨(),?_⟩
 rotate_left
 obtain rfl:=oiA hr
 refine xv_of ?_
 rotate_left
 obtain rfl:=oiA hr
 refine xe_of ⟨(),rfl⟩ ?_
 rotate_left
 all_goals (simp +decide only [go_sem,decide_not,qgM9,qoI9, *])
theorem qrI9 {a0 : List Mono} {a1 : List (List Int)} {r : (List Int) × Int} (hr : qge9 a0 a1 = some r) : Res C 29 [.rd (a0.map qa9),.rd (a1.map (lsD qc9))] (.tp [.d (.rd (r.1.map qc9)),PI r.2]):=by
 simp only [qge9] at hr
 obtain ⟨x1,h1,hr⟩:=bsome hr
 have h1k:=(qlu9 h1).k rfl rfl rfl
 try simp only [go_sem] at h1k
 rcases iteP hr with ⟨h2,hr⟩ | ⟨h2,hr⟩
 obtain ⟨x2,h3,hr⟩:=bsome hr
 have h3k:=(qlu9 h3).k rfl rfl rfl
 try simp only [go_sem] at h3k
 rcases iteP hr with ⟨h4,hr⟩ | ⟨h4,hr⟩
 obtain ⟨x5,h5,hr⟩:=bsome hr
 obtain ⟨q5,h5L,h5X⟩:=qpS9.L (g:=()) h5
 rcases x5 with x6 | x7
 try dsimp only at hr
 obtain ⟨st5,rfl,h5R⟩:=h5X
 simp only [qgM9,go_sem] at h5L
 obtain rfl:=oiA hr
 refine run_V is29 (nbA rfl) ?_
 rotate_left
 try dsimp only at hr
 obtain ⟨⟨⟩,rfl⟩:=h5X
 simp only [qgM9,go_sem] at h5L
 obtain ⟨x32,h6,hr⟩:=bsome hr
 obtain ⟨q6,h6L,h6X⟩:=qqr9.L (g:=()) h6
 rcases x32 with x33 | ⟨x34,x35,x36⟩
 try dsimp only at hr
 obtain ⟨st6,rfl,h6R⟩:=h6X
 simp only [qgX9,go_sem] at h6L
 obtain rfl:=oiA hr
 refine run_V is29 (nbA rfl) ?_
 rotate_left
 try dsimp only at hr
 obtain ⟨⟨⟩,rfl⟩:=h6X
 simp only [qgX9,go_sem] at h6L
 obtain rfl:=oiA hr
 refine run_V is29 (nbA rfl) ?_
 rotate_left
 obtain rfl:=oiA hr
 refine run_V is29 (nbA rfl) ?_
 rotate_left
 obtain rfl:=oiA hr
 refine run_V is29 (nbA rfl) ?_
 rotate_left
 all_goals (simp +decide only [go_sem,decide_not,c29, *])
end Ld

import Derived.Test.YtmkohpkfeamjiaaPSW12
import Derived.Test.YtmkohpkfeamjiaaPSW13
set_option maxHeartbeats 60000000
set_option linter.unusedVariables false
set_option linter.unusedSimpArgs false
set_option linter.unusedSectionVars false
namespace Ld
open Go Go.Proofs Go.Abs
set_option maxRecDepth 8000
def qpX9 : ACode:=.seq (.seq (.reg [] [] [.M 16 8,.M 17 0,.T 18 (.len (.tmp 17)),.K 19 (.bin .lss (.tmp 16) (.tmp 18))]) (.cond (.tmp 19) (some 19) (.skip) (.exit 0))) (.seq (.block 1 576462985686945280 (.seq (.reg [] [] [.T 22 (.fa 1 (.tmp 3)),⟨some (23,false),.load none (.tmp 22),none,true,false⟩,.M 24 0,.M 25 8,⟨some (26,false),.ix 2 (.tmp 24) (.tmp 25),none,true,false⟩,.T 27 (.fa 1 (.tmp 26)),⟨some (28,false),.load none (.tmp 27),none,true,false⟩,⟨some (29,false),.call 41 [.tmp 23,.tmp 28],none,true,false⟩,.N 9 29]) (.seq (.seq (.reg [] [] [.M 30 9,.T 31 (.bin .lss (.tmp 30) (cI 0)),.M 32 31,.MG 33 32 true 7,.TG 34 32 true (.not (.tmp 33)),.K 35 (.pick (.tmp 32) (.tmp 34) (.const (.bool false)))]) (.cond (.tmp 35) (some 35) (.seq (.reg [] [] [.M 36 6,.T 37 (.load (some 2) (.tmp 3)),.T 38 (.lit 2 [(0,.tmp 37)]),.T 39 (.app 2 48 (.tmp 36) (.tmp 38)),.N 6 39]) (.reg [] [] [.K 7 (.mv (.const (.bool true)))])) (.skip))) (.seq (.seq (.reg [] [] [.M 40 9,.K 41 (.bin .eql (.tmp 40) (cI 0))]) (.cond (.tmp 41) (some 41) (.seq (.reg [] [] [.M 43 0,.M 44 8,⟨some (45,false),.ix 2 (.tmp 43) (.tmp 44),none,true,false⟩,.T 46 (.fa 0 (.tmp 45)),⟨some (47,false),.load none (.tmp 46),none,true,false⟩,.T 48 (.fa 0 (.tmp 3)),⟨some (49,false),.load none (.tmp 48),none,true,false⟩,⟨some (50,false),.call 64 [.tmp 47,.tmp 49],none,true,false⟩,.M 42 50,.T 51 (.ext (.tmp 42) 0),.T 52 (.ext (.tmp 42) 1),.N 10 51,.N 11 52]) (.seq (.seq (.reg [] [] [.M 53 11,.T 54 (.bin .neq (.tmp 53) (cI 0)),.M 55 54,.MG 56 55 false 10,.TG 57 55 false (.len (.tmp 56)),.TG 58 55 false (.bin .gtr (.tmp 57) (cI 64)),.K 59 (.pick (.tmp 55) (.const (.bool true)) (.tmp 58))]) (.cond (.tmp 59) (some 59) (.seq (.reg [] [(4,0)] [.K 4 (.mv (.const (.slice none 0 0))),.K 5 (.mv (.const (.bool false)))]) (.ret)) (.skip))) (.seq (.reg [] [] [.M 60 6,.M 61 10,.T 62 (.fa 1 (.tmp 3)),.T 63 (.load none (.tmp 62)),.T 64 (.build [(0,1),(1,1)] [.im true [],.im true []] [(0,.tmp 61),(1,.tmp 63)]),.T 65 (.lit 2 [(0,.tmp 64)]),.T 66 (.app 2 48 (.tmp 60) (.tmp 65)),.N 6 66]) (.seq (.reg [] [] [.K 7 (.mv (.const (.bool true)))]) (.exit 1))))) (.skip))) (.reg [] [] [.M 67 6,.M 68 0,.M 69 8,.T 70 (.ix 2 (.tmp 68) (.tmp 69)),.T 71 (.load (some 2) (.tmp 70)),.T 72 (.lit 2 [(0,.tmp 71)]),.T 73 (.app 2 48 (.tmp 67) (.tmp 72)),.N 6 73]))))) (.reg [] [] [.M 20 8,.T 21 (.bin .add (.tmp 20) (cI 1)),.N 8 21]))
def c47 : ACode:=.seq (.reg [] [(4,0)] [.K 3 (.box (.tmp 1)),.K 4 (.mv (.const (.slice none 0 0))),.K 5 (.mv (.const (.bool false)))]) (.seq (.seq (.reg [] [] [.T 12 (.load (some 2) (.tmp 3)),.T 13 (.call 42 [.tmp 12]),.K 14 (.not (.tmp 13))]) (.cond (.tmp 14) (some 14) (.seq (.reg [] [(4,0)] [.K 4 (.mv (.const (.slice none 0 0))),.K 5 (.mv (.const (.bool false)))]) (.ret)) (.skip))) (.seq (.reg [] [(6,2)] [.T 15 (.lit 2 []),.N 6 15]) (.seq (.reg [] [] [.K 7 (.mv (.const (.bool false)))]) (.seq (.seq (.reg [] [] [.K 8 (.mv (cI 0))]) (.block 0 576462985686945280 (.loop qpX9))) (.seq (.seq (.reg [] [] [.M 74 7,.K 75 (.not (.tmp 74))]) (.cond (.tmp 75) (some 75) (.reg [] [] [.M 76 6,.T 77 (.load (some 2) (.tmp 3)),.T 78 (.lit 2 [(0,.tmp 77)]),.T 79 (.app 2 48 (.tmp 76) (.tmp 78)),.N 6 79]) (.skip))) (.seq (.reg [] [(4,0)] [.M 80 6,.M 81 6,.T 82 (.len (.tmp 81)),.T 83 (.bin .leq (.tmp 82) (cI 256)),.N 4 80,.N 5 83]) (.ret)))))))
theorem is47 : IsF C 47 84 37779508325942848671739 c47 [.tmp 4,.tmp 5]:=⟨⟨Try.f47,_,C_P ▸ Try.func47,rfl,rfl,rfl,by kernel_rfl,rfl⟩⟩
def qhp9 (s0 : List Mono) (s1 : Mono) (s4 : List Mono) (b3_0 : List Int) (b3_1 : List Int) : Bool × Int × (List Mono)→Nat→St:=fun (s7,s8,o6) v6=>⟨[(0,.d (.rd (s0.map qa9))),(1,.d (.ag (qa9 s1))),(3,.ptr 0 0 0 0),(4,.d (.rd (s4.map qa9))),(5,PB false),(6,.ref 1 v6 0 o6.length),(7,PB s7),(8,PI s8)],(.row false 0 2 [[.d (.rd (b3_0.map qc9)),.d (.rd (b3_1.map intD))]]::(.row false v6 2 (rowP qa9 o6)::[]))⟩
def qsU9 (s0 : List Mono) (s1 : Mono) (s4 : List Mono) (b3_0 : List Int) (b3_1 : List Int) : (((List Mono) × Bool) ⊕ (Bool × Int × (List Mono)))→AExit × St→Prop
 | .inl r,q=>XV C [.tmp 4,.tmp 5] (.tp [.d (.rd (r.1.map qa9)),PB r.2]) q
 | .inr (s7,s8,o6),q=>∃ g,q = (.exit 0,qhp9 s0 s1 s4 b3_0 b3_1 (s7,s8,o6) g)
theorem qsO9 {s0 : List Mono} {s1 : Mono} {s4 : List Mono} {b3_0 : List Int} {b3_1 : List Int} : Sim C 37779508325942848671739 qpX9 (qbN9 s0 s1 s4 b3_0 b3_1) (qhp9 s0 s1 s4 b3_0 b3_1) (qsU9 s0 s1 s4 b3_0 b3_1):=by
 intro s g r hr
 obtain ⟨s7,s8,o6⟩:=s
 have ⟨v6,hg0⟩ : ∃ y,y = g:=⟨_,rfl⟩
 subst hg0
 simp only [qbN9] at hr
 rcases iteP hr with ⟨h1,hr⟩ | ⟨h1,hr⟩
 obtain ⟨x2,h2,x3,h3,hr⟩:=bs2 hr
 have h3k:=(qkf9 h3).k rfl rfl rfl
 try simp only [go_sem] at h3k
 rcases iteP hr with ⟨h4,hr⟩ | ⟨h4,hr⟩
 rcases iteB hr with ⟨h5,hr⟩ | ⟨h5,hr⟩
 simp only [h5] at hr
 rcases iteP hr with ⟨h6,hr⟩ | ⟨h6,hr⟩
 obtain ⟨x4,h7,hr⟩:=bsome hr
 have h7k:=(qlz9 h7).k rfl rfl rfl
 try simp only [go_sem] at h7k
 rcases iteP hr with ⟨h8,hr⟩ | ⟨h8,hr⟩
 rcases iteP hr with ⟨h9,hr⟩ | ⟨h9,hr⟩
 obtain rfl:=oiA hr
 refine xv_of ?_
 rotate_left
 obtain ⟨h10,hr⟩:=gsome hr
 obtain rfl:=oiA hr
 refine ⟨(v6 + 1),?_⟩
 rotate_left
 obtain rfl:=oiA hr
 refine xv_of ?_
 rotate_left
 obtain ⟨h11,hr⟩:=gsome hr
 obtain rfl:=oiA hr
 refine ⟨(v6 + 1),?_⟩
 rotate_left
 obtain ⟨h12,hr⟩:=gsome hr
 rcases iteP hr with ⟨h13,hr⟩ | ⟨h13,hr⟩
 obtain ⟨x5,h14,hr⟩:=bsome hr
 have h14k:=(qlz9 h14).k rfl rfl rfl
 try simp only [go_sem] at h14k
 rcases iteP hr with ⟨h15,hr⟩ | ⟨h15,hr⟩
 rcases iteP hr with ⟨h16,hr⟩ | ⟨h16,hr⟩
 obtain rfl:=oiA hr
 refine xv_of ?_
 rotate_left
 obtain ⟨h17,hr⟩:=gsome hr
 simp only [List.length_append,List.length_singleton,Nat.add_assoc,Nat.reduceAdd] at h17
 obtain rfl:=oiA hr
 refine ⟨(v6 + 2),?_⟩
 rotate_left
 obtain rfl:=oiA hr
 refine xv_of ?_
 rotate_left
 obtain ⟨h18,hr⟩:=gsome hr
 simp only [List.length_append,List.length_singleton,Nat.add_assoc,Nat.reduceAdd] at h18
 obtain rfl:=oiA hr
 refine ⟨(v6 + 2),?_⟩
 rotate_left
 rcases iteP hr with ⟨h19,hr⟩ | ⟨h19,hr⟩
 obtain ⟨x6,h20,hr⟩:=bsome hr
 have h20k:=(qlz9 h20).k rfl rfl rfl
 try simp only [go_sem] at h20k
 rcases iteP hr with ⟨h21,hr⟩ | ⟨h21,hr⟩
 rcases iteP hr with ⟨h22,hr⟩ | ⟨h22,hr⟩
 obtain rfl:=oiA hr
 refine xv_of ?_
 rotate_left
 obtain ⟨h23,hr⟩:=gsome hr
 obtain rfl:=oiA hr
 refine ⟨(v6 + 1),?_⟩
 rotate_left
 obtain rfl:=oiA hr
 refine xv_of ?_
 rotate_left
 obtain ⟨h24,hr⟩:=gsome hr
 obtain rfl:=oiA hr
 refine ⟨(v6 + 1),?_⟩
 rotate_left
 obtain rfl:=oiA hr
 refine xe_of ⟨v6,rfl⟩ ?_
 rotate_left
 all_goals (simp +decide only [go_sem,decide_not,qhp9,qpX9, *])
theorem quA9 {a0 : List Mono} {a1 : Mono} {r : (List Mono) × Bool} (hr : qjA9 a0 a1 = some r) : Res C 47 [.rd (a0.map qa9),.ag (qa9 a1)] (.tp [.d (.rd (r.1.map qa9)),PB r.2]):=by
 simp only [qjA9] at hr
 obtain ⟨x1,h1,hr⟩:=bsome hr
 have h1k:=fun h=>(qml9 h1).o rfl rfl rfl (h:=h) (args:=[.ag [.d (.rd (a1.Coef.map qc9)),.d (.rd (a1.Exps.map intD))]]) rfl
 try simp only [go_sem] at h1k
 rcases iteB hr with ⟨h2,hr⟩ | ⟨h2,hr⟩
 obtain ⟨x7,h3,hr⟩:=bsome hr
 obtain ⟨q3,h3L,h3X⟩:=qsO9.L (g:=0) h3
 rcases x7 with x8 | ⟨x9,x10,x11⟩
 try dsimp only at hr
 obtain ⟨st3,rfl,h3R⟩:=h3X
 simp only [qhp9,go_sem] at h3L
 obtain rfl:=oiA hr
 refine run_V is47 (nbA rfl) ?_
 rotate_left
 try dsimp only at hr
 obtain ⟨z12,rfl⟩:=h3X
 simp only [qhp9,go_sem] at h3L
 rcases iteB hr with ⟨h4,hr⟩ | ⟨h4,hr⟩
 obtain rfl:=oiA hr
 refine run_V is47 (nbA rfl) ?_
 rotate_left
 obtain ⟨h5,hr⟩:=gsome hr
 obtain rfl:=oiA hr
 refine run_V is47 (nbA rfl) ?_
 rotate_left
 obtain rfl:=oiA hr
 refine run_V is47 (nbA rfl) ?_
 rotate_left
 all_goals (simp +decide only [go_sem,decide_not,c47, *])
def qpI9 : ACode:=.seq (.seq (.reg [] [] [.M 22 8,.M 23 1,.T 24 (.len (.tmp 23)),.K 25 (.bin .lss (.tmp 22) (.tmp 24))]) (.cond (.tmp 25) (some 25) (.skip) (.exit 0))) (.seq (.block 1 274911462912 (.seq (.reg [] [] [.M 29 7,.M 30 1,.M 31 8,.T 32 (.ix 2 (.tmp 30) (.tmp 31)),.T 33 (.load (some 2) (.tmp 32)),.T 34 (.call 47 [.tmp 29,.tmp 33]),.M 28 34,.T 35 (.ext (.tmp 28) 0),.T 36 (.ext (.tmp 28) 1),.N 9 35,.N 10 36]) (.seq (.seq (.reg [] [] [.M 37 10,.K 38 (.not (.tmp 37))]) (.cond (.tmp 38) (some 38) (.seq (.reg [] [(4,0)] [.K 4 (.mv (.const (.slice none 0 0))),.K 5 (.mv (cI 2))]) (.ret)) (.skip))) (.reg [] [] [.M 39 9,.N 7 39])))) (.reg [] [] [.M 26 8,.T 27 (.bin .add (.tmp 26) (cI 1)),.N 8 27]))
def c18 : ACode:=.seq (.reg [] [(4,0)] [.K 4 (.mv (.const (.slice none 0 0))),.K 5 (.mv (cI 0))]) (.seq (.reg [] [] [.M 11 0,.T 12 (.call 15 [.tmp 11,.const (.int .i64 4611686018427387904)]),.N 6 12]) (.seq (.seq (.reg [] [] [.M 13 6,.K 14 (.bin .neq (.tmp 13) (cI 0))]) (.cond (.tmp 14) (some 14) (.seq (.reg [] [(4,0)] [.M 15 6,.K 4 (.mv (.const (.slice none 0 0))),.N 5 15]) (.ret)) (.skip))) (.seq (.reg [] [] [.M 16 1,.T 17 (.call 15 [.tmp 16,.const (.int .i64 4611686018427387904)]),.N 6 17]) (.seq (.seq (.reg [] [] [.M 18 6,.K 19 (.bin .neq (.tmp 18) (cI 0))]) (.cond (.tmp 19) (some 19) (.seq (.reg [] [(4,0)] [.M 20 6,.K 4 (.mv (.const (.slice none 0 0))),.N 5 20]) (.ret)) (.skip))) (.seq (.reg [] [] [.M 21 0,.N 7 21]) (.seq (.seq (.reg [] [] [.K 8 (.mv (cI 0))]) (.block 0 274911462912 (.loop qpI9))) (.seq (.reg [] [] [.M 40 7,.N 4 40,.K 5 (.mv (cI 0))]) (.ret))))))))
theorem is18 : IsF C 18 41 274912004083 c18 [.tmp 4,.tmp 5]:=⟨⟨Try.f18,_,C_P ▸ Try.func18,rfl,rfl,rfl,by kernel_rfl,rfl⟩⟩
def qik9 (s0 : List Mono) (s1 : List Mono) (s4 : List Mono) (s6 : Int) : (List Mono) × Int→Unit→St:=fun (s7,s8) _=>⟨[(0,.d (.rd (s0.map qa9))),(1,.d (.rd (s1.map qa9))),(4,.d (.rd (s4.map qa9))),(5,PI 0),(6,PI s6),(7,.d (.rd (s7.map qa9))),(8,PI s8)],[]⟩
def qve9 (s0 : List Mono) (s1 : List Mono) (s4 : List Mono) (s6 : Int) : (((List Mono) × Int) ⊕ ((List Mono) × Int))→AExit × St→Prop
 | .inl r,q=>XV C [.tmp 4,.tmp 5] (.tp [.d (.rd (r.1.map qa9)),PI r.2]) q
 | .inr (s7,s8),q=>∃ g,q = (.exit 0,qik9 s0 s1 s4 s6 (s7,s8) g)
theorem quJ9 {s0 : List Mono} {s1 : List Mono} {s4 : List Mono} {s6 : Int} : Sim C 274912004083 qpI9 (qff9 s0 s1 s4 s6) (qik9 s0 s1 s4 s6) (qve9 s0 s1 s4 s6):=by
 intro s g r hr
 obtain ⟨s7,s8⟩:=s
 simp only [qff9] at hr
 rcases iteP hr with ⟨h1,hr⟩ | ⟨h1,hr⟩
 obtain ⟨x3,h2,x4,h3,hr⟩:=bs2 hr
 have h3k:=fun h=>(quA9 h3).o rfl rfl rfl (h:=h) (args:=[.d (.rd (s7.map qa9)),.ag [.d (.rd (x3.Coef.map qc9)),.d (.rd (x3.Exps.map intD))]]) rfl
 try simp only [go_sem] at h3k
 rcases iteB hr with ⟨h4,hr⟩ | ⟨h4,hr⟩
 obtain rfl:=oiA hr
 refine ⟨(),?_⟩
 rotate_left
 obtain rfl:=oiA hr
 refine xv_of ?_
 rotate_left
 obtain rfl:=oiA hr
 refine xe_of ⟨(),rfl⟩ ?_
 rotate_left
 all_goals (simp +decide only [go_sem,decide_not,qik9,qpI9, *])
theorem qwM9 {a0 : List Mono} {a1 : List Mono} {r : (List Mono) × Int} (hr : qjs9 a0 a1 = some r) : Res C 18 [.rd (a0.map qa9),.rd (a1.map qa9)] (.tp [.d (.rd (r.1.map qa9)),PI r.2]):=by
 simp only [qjs9] at hr
 obtain ⟨x1,h1,hr⟩:=bsome hr
 have h1k:=(qiH9 h1).k rfl rfl rfl
 try simp only [go_sem] at h1k
 rcases iteP hr with ⟨h2,hr⟩ | ⟨h2,hr⟩
 obtain ⟨x2,h3,hr⟩:=bsome hr
 have h3k:=(qiH9 h3).k rfl rfl rfl
 try simp only [go_sem] at h3k
 rcases iteP hr with ⟨h4,hr⟩ | ⟨h4,hr⟩
 obtain ⟨x5,h5,hr⟩:=bsome hr
 obtain ⟨q5,h5L,h5X⟩:=quJ9.L (g:=()) h5
 rcases x5 with x6 | ⟨x7,x8⟩
 try dsimp only at hr
 obtain ⟨st5,rfl,h5R⟩:=h5X
 simp only [qik9,go_sem] at h5L
 obtain rfl:=oiA hr
 refine run_V is18 (nbA rfl) ?_
 rotate_left
 try dsimp only at hr
 obtain ⟨⟨⟩,rfl⟩:=h5X
 simp only [qik9,go_sem] at h5L
 obtain rfl:=oiA hr
 refine run_V is18 (nbA rfl) ?_
 rotate_left
 obtain rfl:=oiA hr
 refine run_V is18 (nbA rfl) ?_
 rotate_left
 obtain rfl:=oiA hr
 refine run_V is18 (nbA rfl) ?_
 rotate_left
 all_goals (simp +decide only [go_sem,decide_not,c18, *])
def qsc9 : ACode:=.seq (.seq (.reg [] [] [.M 28 6,.K 29 (.bin .geq (.tmp 28) (cI 0))]) (.cond (.tmp 29) (some 29) (.skip) (.exit 0))) (.seq (.block 1 564050001920000 (.seq (.seq (.reg [] [] [.M 32 0,.M 33 6,⟨some (34,false),.ix 1 (.tmp 32) (.tmp 33),none,true,false⟩,⟨some (35,false),.load none (.tmp 34),none,true,false⟩,.M 36 1,.M 37 6,⟨some (38,false),.ix 1 (.tmp 36) (.tmp 37),none,true,false⟩,⟨some (39,false),.load none (.tmp 38),none,true,false⟩,.K 40 (.bin .lss (.tmp 35) (.tmp 39))]) (.cond (.tmp 40) (some 40) (.seq (.reg [] [] [.K 4 (.mv (cI (-1))),.K 5 (.mv (cI 0))]) (.ret)) (.skip))) (.seq (.reg [] [] [.M 41 0,.M 42 6,⟨some (43,false),.ix 1 (.tmp 41) (.tmp 42),none,true,false⟩,⟨some (44,false),.load none (.tmp 43),none,true,false⟩,.M 45 1,.M 46 6,⟨some (47,false),.ix 1 (.tmp 45) (.tmp 46),none,true,false⟩,⟨some (48,false),.load none (.tmp 47),none,true,false⟩,.K 49 (.bin .gtr (.tmp 44) (.tmp 48))]) (.cond (.tmp 49) (some 49) (.seq (.reg [] [] [.K 4 (.mv (cI 1)),.K 5 (.mv (cI 0))]) (.ret)) (.skip))))) (.reg [] [] [.M 30 6,.T 31 (.bin .sub (.tmp 30) (cI 1)),.N 6 31]))
def c51 : ACode:=.seq (.reg [] [] [.K 4 (.mv (cI 0)),.K 5 (.mv (cI 0))]) (.seq (.seq (.reg [] [] [.M 7 0,.T 8 (.call 62 [.tmp 7]),.T 9 (.not (.tmp 8)),.M 10 9,.MG 11 10 false 1,.TG 12 10 false (.call 62 [.tmp 11]),.TG 13 10 false (.not (.tmp 12)),.K 14 (.pick (.tmp 10) (.const (.bool true)) (.tmp 13))]) (.cond (.tmp 14) (some 14) (.seq (.reg [] [] [.K 4 (.mv (cI 0)),.K 5 (.mv (cI 10))]) (.ret)) (.skip))) (.seq (.seq (.reg [] [] [.M 15 0,.T 16 (.len (.tmp 15)),.M 17 1,.T 18 (.len (.tmp 17)),.K 19 (.bin .neq (.tmp 16) (.tmp 18))]) (.cond (.tmp 19) (some 19) (.seq (.seq (.reg [] [] [.M 20 0,.T 21 (.len (.tmp 20)),.M 22 1,.T 23 (.len (.tmp 22)),.K 24 (.bin .lss (.tmp 21) (.tmp 23))]) (.cond (.tmp 24) (some 24) (.seq (.reg [] [] [.K 4 (.mv (cI (-1))),.K 5 (.mv (cI 0))]) (.ret)) (.skip))) (.seq (.reg [] [] [.K 4 (.mv (cI 1)),.K 5 (.mv (cI 0))]) (.ret))) (.skip))) (.seq (.seq (.reg [] [] [.M 25 0,.T 26 (.len (.tmp 25)),.T 27 (.bin .sub (.tmp 26) (cI 1)),.N 6 27]) (.block 0 564050001920000 (.loop qsc9))) (.seq (.reg [] [] [.K 4 (.mv (cI 0)),.K 5 (.mv (cI 0))]) (.ret)))))
theorem is51 : IsF C 51 50 564050019238003 c51 [.tmp 4,.tmp 5]:=⟨⟨Try.f51,_,C_P ▸ Try.func51,rfl,rfl,rfl,by kernel_rfl,rfl⟩⟩
def qij9 (s0 : List Int) (s1 : List Int) : Int→Unit→St:=fun s6 _=>⟨[(0,.d (.rd (s0.map qc9))),(1,.d (.rd (s1.map qc9))),(4,PI 0),(5,PI 0),(6,PI s6)],[]⟩
def quG9 (s0 : List Int) (s1 : List Int) : ((Int × Int) ⊕ Int)→AExit × St→Prop
 | .inl r,q=>XV C [.tmp 4,.tmp 5] (.tp [PI r.1,PI r.2]) q
 | .inr s6,q=>∃ g,q = (.exit 0,qij9 s0 s1 s6 g)
theorem quL9 {s0 : List Int} {s1 : List Int} : Sim C 564050019238003 qsc9 (qfI9 s0 s1) (qij9 s0 s1) (quG9 s0 s1):=by
 intro s g r hr
 have ⟨s6,hs0⟩ : ∃ y,y = s:=⟨_,rfl⟩
 subst hs0
 simp only [qfI9] at hr
 rcases iteP hr with ⟨h1,hr⟩ | ⟨h1,hr⟩
 obtain ⟨x3,h2,x4,h3,hr⟩:=bs2 hr
 rcases iteP hr with ⟨h4,hr⟩ | ⟨h4,hr⟩
 obtain rfl:=oiA hr
 refine xv_of ?_
 rotate_left
 rcases iteP hr with ⟨h5,hr⟩ | ⟨h5,hr⟩
 obtain rfl:=oiA hr
 refine xv_of ?_
 rotate_left
 obtain rfl:=oiA hr
 refine ⟨(),?_⟩
 rotate_left
 obtain rfl:=oiA hr
 refine xe_of ⟨(),rfl⟩ ?_
 rotate_left
 all_goals (simp +decide only [go_sem,decide_not,qij9,qsc9, *])
theorem qop9 {a0 : List Int} {a1 : List Int} {r : Int × Int} (hr : qgA9 a0 a1 = some r) : Res C 51 [.rd (a0.map qc9),.rd (a1.map qc9)] (.tp [PI r.1,PI r.2]):=by
 simp only [qgA9] at hr
 obtain ⟨x1,h1,hr⟩:=bsome hr
 have h1k:=(qhA9 h1).k rfl rfl rfl
 try simp only [go_sem] at h1k
 rcases iteB hr with ⟨h2,hr⟩ | ⟨h2,hr⟩
 obtain ⟨x2,h3,hr⟩:=bsome hr
 have h3k:=(qhA9 h3).k rfl rfl rfl
 try simp only [go_sem] at h3k
 rcases iteB hr with ⟨h4,hr⟩ | ⟨h4,hr⟩
 rcases iteP hr with ⟨h5,hr⟩ | ⟨h5,hr⟩
 obtain ⟨x5,h6,hr⟩:=bsome hr
 obtain ⟨q6,h6L,h6X⟩:=quL9.L (g:=()) h6
 rcases x5 with x6 | x7
 try dsimp only at hr
 obtain ⟨st6,rfl,h6R⟩:=h6X
 simp only [qij9,go_sem] at h6L
 obtain rfl:=oiA hr
 refine run_V is51 (nbA rfl) ?_
 rotate_left
 try dsimp only at hr
 obtain ⟨⟨⟩,rfl⟩:=h6X
 simp only [qij9,go_sem] at h6L
 obtain rfl:=oiA hr
 refine run_V is51 (nbA rfl) ?_
 rotate_left
 rcases iteP hr with ⟨h7,hr⟩ | ⟨h7,hr⟩
 obtain rfl:=oiA hr
 refine run_V is51 (nbA rfl) ?_
 rotate_left
 obtain rfl:=oiA hr
 refine run_V is51 (nbA rfl) ?_
 rotate_left
 obtain rfl:=oiA hr
 refine run_V is51 (nbA rfl) ?_
 rotate_left
 obtain rfl:=oiA hr
 refine run_V is51 (nbA rfl) ?_
 rotate_left
 all_goals (simp +decide only [go_sem,decide_not,c51, *])
end Ld

import Derived.Test.YtmkohpkfeamjiaaPMW12
import Derived.Test.YtmkohpkfeamjiaaPMW14
set_option maxHeartbeats 60000000
set_option linter.unusedVariables false
set_option linter.unusedSimpArgs false
set_option linter.unusedSectionVars false
namespace Ld
open Go Go.Proofs Go.Abs
set_option maxRecDepth 8000
def qnW9 : ACode:=.seq (.seq (.reg [] [] [.M 16 8,.M 17 0,.T 18 (.len (.tmp 17)),.K 19 (.bin .lss (.tmp 16) (.tmp 18))]) (.cond (.tmp 19) (some 19) (.skip) (.exit 0))) (.seq (.block 1 576462985686945280 (.seq (.reg [] [] [.T 22 (.fa 1 (.tmp 3)),⟨some (23,false),.load none (.tmp 22),none,true,false⟩,.M 24 0,.M 25 8,⟨some (26,false),.ix 2 (.tmp 24) (.tmp 25),none,true,false⟩,.T 27 (.fa 1 (.tmp 26)),⟨some (28,false),.load none (.tmp 27),none,true,false⟩,⟨some (29,false),.call 41 [.tmp 23,.tmp 28],none,true,false⟩,.N 9 29]) (.seq (.seq (.reg [] [] [.M 30 9,.T 31 (.bin .lss (.tmp 30) (cI 0)),.M 32 31,.MG 33 32 true 7,.TG 34 32 true (.not (.tmp 33)),.K 35 (.pick (.tmp 32) (.tmp 34) (.const (.bool false)))]) (.cond (.tmp 35) (some 35) (.seq (.reg [] [] [.M 36 6,.T 37 (.load (some 2) (.tmp 3)),.T 38 (.lit 2 [(0,.tmp 37)]),.T 39 (.app 2 48 (.tmp 36) (.tmp 38)),.N 6 39]) (.reg [] [] [.K 7 (.mv (.const (.bool true)))])) (.skip))) (.seq (.seq (.reg [] [] [.M 40 9,.K 41 (.bin .eql (.tmp 40) (cI 0))]) (.cond (.tmp 41) (some 41) (.seq (.reg [] [] [.M 43 0,.M 44 8,⟨some (45,false),.ix 2 (.tmp 43) (.tmp 44),none,true,false⟩,.T 46 (.fa 0 (.tmp 45)),⟨some (47,false),.load none (.tmp 46),none,true,false⟩,.T 48 (.fa 0 (.tmp 3)),⟨some (49,false),.load none (.tmp 48),none,true,false⟩,⟨some (50,false),.call 64 [.tmp 47,.tmp 49],none,true,false⟩,.M 42 50,.T 51 (.ext (.tmp 42) 0),.T 52 (.ext (.tmp 42) 1),.N 10 51,.N 11 52]) (.seq (.seq (.reg [] [] [.M 53 11,.T 54 (.bin .neq (.tmp 53) (cI 0)),.M 55 54,.MG 56 55 false 10,.TG 57 55 false (.len (.tmp 56)),.TG 58 55 false (.bin .gtr (.tmp 57) (cI 64)),.K 59 (.pick (.tmp 55) (.const (.bool true)) (.tmp 58))]) (.cond (.tmp 59) (some 59) (.seq (.reg [] [(4,0)] [.K 4 (.mv (.const (.slice none 0 0))),.K 5 (.mv (.const (.bool false)))]) (.ret)) (.skip))) (.seq (.reg [] [] [.M 60 6,.M 61 10,.T 62 (.fa 1 (.tmp 3)),.T 63 (.load none (.tmp 62)),.T 64 (.build [(0,1),(1,1)] [.im true [],.im true []] [(0,.tmp 61),(1,.tmp 63)]),.T 65 (.lit 2 [(0,.tmp 64)]),.T 66 (.app 2 48 (.tmp 60) (.tmp 65)),.N 6 66]) (.seq (.reg [] [] [.K 7 (.mv (.const (.bool true)))]) (.exit 1))))) (.skip))) (.reg [] [] [.M 67 6,.M 68 0,.M 69 8,.T 70 (.ix 2 (.tmp 68) (.tmp 69)),.T 71 (.load (some 2) (.tmp 70)),.T 72 (.lit 2 [(0,.tmp 71)]),.T 73 (.app 2 48 (.tmp 67) (.tmp 72)),.N 6 73]))))) (.reg [] [] [.M 20 8,.T 21 (.bin .add (.tmp 20) (cI 1)),.N 8 21]))
def c47 : ACode:=.seq (.reg [] [(4,0)] [.K 3 (.box (.tmp 1)),.K 4 (.mv (.const (.slice none 0 0))),.K 5 (.mv (.const (.bool false)))]) (.seq (.seq (.reg [] [] [.T 12 (.load (some 2) (.tmp 3)),.T 13 (.call 42 [.tmp 12]),.K 14 (.not (.tmp 13))]) (.cond (.tmp 14) (some 14) (.seq (.reg [] [(4,0)] [.K 4 (.mv (.const (.slice none 0 0))),.K 5 (.mv (.const (.bool false)))]) (.ret)) (.skip))) (.seq (.reg [] [(6,2)] [.T 15 (.lit 2 []),.N 6 15]) (.seq (.reg [] [] [.K 7 (.mv (.const (.bool false)))]) (.seq (.seq (.reg [] [] [.K 8 (.mv (cI 0))]) (.block 0 576462985686945280 (.loop qnW9))) (.seq (.seq (.reg [] [] [.M 74 7,.K 75 (.not (.tmp 74))]) (.cond (.tmp 75) (some 75) (.reg [] [] [.M 76 6,.T 77 (.load (some 2) (.tmp 3)),.T 78 (.lit 2 [(0,.tmp 77)]),.T 79 (.app 2 48 (.tmp 76) (.tmp 78)),.N 6 79]) (.skip))) (.seq (.reg [] [(4,0)] [.M 80 6,.M 81 6,.T 82 (.len (.tmp 81)),.T 83 (.bin .leq (.tmp 82) (cI 256)),.N 4 80,.N 5 83]) (.ret)))))))
theorem is47 : IsF C 47 84 37779508325942848671739 c47 [.tmp 4,.tmp 5]:=⟨⟨Try.f47,_,C_P ▸ Try.func47,rfl,rfl,rfl,by kernel_rfl,rfl⟩⟩
def qff9 (s0 : List Mono) (s1 : Mono) (s4 : List Mono) (b3_0 : List Int) (b3_1 : List Int) : Bool × Int × (List Mono)→Nat→St:=fun (s7,s8,o6) v6=>⟨[(0,.d (.rd (s0.map qa9))),(1,.d (.ag (qa9 s1))),(3,.ptr 0 0 0 0),(4,.d (.rd (s4.map qa9))),(5,PB false),(6,.ref 1 v6 0 o6.length),(7,PB s7),(8,PI s8)],(.row false 0 2 [[.d (.rd (b3_0.map qb9)),.d (.rd (b3_1.map intD))]]::(.row false v6 2 (rowP qa9 o6)::[]))⟩
def qqv9 (s0 : List Mono) (s1 : Mono) (s4 : List Mono) (b3_0 : List Int) (b3_1 : List Int) : (((List Mono) × Bool) ⊕ (Bool × Int × (List Mono)))→AExit × St→Prop
 | .inl r,q=>XV C [.tmp 4,.tmp 5] (.tp [.d (.rd (r.1.map qa9)),PB r.2]) q
 | .inr (s7,s8,o6),q=>∃ g,q = (.exit 0,qff9 s0 s1 s4 b3_0 b3_1 (s7,s8,o6) g)
theorem qqs9 {s0 : List Mono} {s1 : Mono} {s4 : List Mono} {b3_0 : List Int} {b3_1 : List Int} : Sim C 37779508325942848671739 qnW9 (qK9 s0 s1 s4 b3_0 b3_1) (qff9 s0 s1 s4 b3_0 b3_1) (qqv9 s0 s1 s4 b3_0 b3_1):=by
 intro s g r hr
 obtain ⟨s7,s8,o6⟩:=s
 have ⟨v6,hg0⟩ : ∃ y,y = g:=⟨_,rfl⟩
 subst hg0
 simp only [qK9] at hr
 rcases iteP hr with ⟨h1,hr⟩ | ⟨h1,hr⟩
 obtain ⟨x2,h2,x3,h3,hr⟩:=bs2 hr
 have h3k:=(qks9 h3).k rfl rfl rfl
 try simp only [go_sem] at h3k
 rcases iteP hr with ⟨h4,hr⟩ | ⟨h4,hr⟩
 rcases iteB hr with ⟨h5,hr⟩ | ⟨h5,hr⟩
 simp only [h5] at hr
 rcases iteP hr with ⟨h6,hr⟩ | ⟨h6,hr⟩
 obtain ⟨x4,h7,hr⟩:=bsome hr
 have h7k:=(qjs9 h7).k rfl rfl rfl
 try simp only [go_sem] at h7k
 rcases iteP hr with ⟨h8,hr⟩ | ⟨h8,hr⟩
 rcases iteP hr with ⟨h9,hr⟩ | ⟨h9,hr⟩
 obtain rfl:=oiA hr
 refine xv_of ?_
 rotate_left
 obtain ⟨h10,hr⟩:=gsome hr
 obtain rfl:=oiA hr
 refine ⟨(v6 + 1),?_⟩
 rotate_left
 obtain rfl:=oiA hr
 refine xv_of ?_
 rotate_left
 obtain ⟨h11,hr⟩:=gsome hr
 obtain rfl:=oiA hr
 refine ⟨(v6 + 1),?_⟩
 rotate_left
 obtain ⟨h12,hr⟩:=gsome hr
 rcases iteP hr with ⟨h13,hr⟩ | ⟨h13,hr⟩
 obtain ⟨x5,h14,hr⟩:=bsome hr
 have h14k:=(qjs9 h14).k rfl rfl rfl
 try simp only [go_sem] at h14k
 rcases iteP hr with ⟨h15,hr⟩ | ⟨h15,hr⟩
 rcases iteP hr with ⟨h16,hr⟩ | ⟨h16,hr⟩
 obtain rfl:=oiA hr
 refine xv_of ?_
 rotate_left
 obtain ⟨h17,hr⟩:=gsome hr
 simp only [List.length_append,List.length_singleton,Nat.add_assoc,Nat.reduceAdd] at h17
 obtain rfl:=oiA hr
 refine ⟨(v6 + 2),?_⟩
 rotate_left
 obtain rfl:=oiA hr
 refine xv_of ?_
 rotate_left
 obtain ⟨h18,hr⟩:=gsome hr
 simp only [List.length_append,List.length_singleton,Nat.add_assoc,Nat.reduceAdd] at h18
 obtain rfl:=oiA hr
 refine ⟨(v6 + 2),?_⟩
 rotate_left
 rcases iteP hr with ⟨h19,hr⟩ | ⟨h19,hr⟩
 obtain ⟨x6,h20,hr⟩:=bsome hr
 have h20k:=(qjs9 h20).k rfl rfl rfl
 try simp only [go_sem] at h20k
 rcases iteP hr with ⟨h21,hr⟩ | ⟨h21,hr⟩
 rcases iteP hr with ⟨h22,hr⟩ | ⟨h22,hr⟩
 obtain rfl:=oiA hr
 refine xv_of ?_
 rotate_left
 obtain ⟨h23,hr⟩:=gsome hr
 obtain rfl:=oiA hr
 refine ⟨(v6 + 1),?_⟩
 rotate_left
 obtain rfl:=oiA hr
 refine xv_of ?_
 rotate_left
 obtain ⟨h24,hr⟩:=gsome hr
 obtain rfl:=oiA hr
 refine ⟨(v6 + 1),?_⟩
 rotate_left
 obtain rfl:=oiA hr
 refine xe_of ⟨v6,rfl⟩ ?_
 rotate_left
 all_goals (simp +decide only [go_sem,decide_not,qff9,qnW9, *])
theorem qld9 {a0 : List Mono} {a1 : Mono} {r : (List Mono) × Bool} (hr : qgk9 a0 a1 = some r) : Res C 47 [.rd (a0.map qa9),.ag (qa9 a1)] (.tp [.d (.rd (r.1.map qa9)),PB r.2]):=by
 simp only [qgk9] at hr
 obtain ⟨x1,h1,hr⟩:=bsome hr
 have h1k:=fun h=>(qhS9 h1).o rfl rfl rfl (h:=h) (args:=[.ag [.d (.rd (a1.Coef.map qb9)),.d (.rd (a1.Exps.map intD))]]) rfl
 try simp only [go_sem] at h1k
 rcases iteB hr with ⟨h2,hr⟩ | ⟨h2,hr⟩
 obtain ⟨x7,h3,hr⟩:=bsome hr
 obtain ⟨q3,h3L,h3X⟩:=qqs9.L (g:=0) h3
 rcases x7 with x8 | ⟨x9,x10,x11⟩
 try dsimp only at hr
 obtain ⟨st3,rfl,h3R⟩:=h3X
 simp only [qff9,go_sem] at h3L
 obtain rfl:=oiA hr
 refine run_V is47 (nbA rfl) ?_
 rotate_left
 try dsimp only at hr
 obtain ⟨z12,rfl⟩:=h3X
 simp only [qff9,go_sem] at h3L
 rcases iteB hr with ⟨h4,hr⟩ | ⟨h4,hr⟩
 obtain rfl:=oiA hr
 refine run_V is47 (nbA rfl) ?_
 rotate_left
 obtain ⟨h5,hr⟩:=gsome hr
 obtain rfl:=oiA hr
 refine run_V is47 (nbA rfl) ?_
 rotate_left
 obtain rfl:=oiA hr
 refine run_V is47 (nbA rfl) ?_
 rotate_left
 all_goals (simp +decide only [go_sem,decide_not,c47, *])
def qoN9 : ACode:=.seq (.seq (.reg [] [] [.M 29 9,.M 30 1,.T 31 (.len (.tmp 30)),.K 32 (.bin .lss (.tmp 29) (.tmp 31))]) (.cond (.tmp 32) (some 32) (.skip) (.exit 2))) (.seq (.block 3 72339073309608960 (.seq (.reg [] [] [.M 36 0,.M 37 8,⟨some (38,false),.ixB 2 (.tmp 36) (.tmp 37),none,true,false⟩,⟨some (39,false),.loadB (some 2) (.tmp 38),none,true,false⟩,.M 40 1,.M 41 9,⟨some (42,false),.ixB 2 (.tmp 40) (.tmp 41),none,true,false⟩,⟨some (43,false),.loadB (some 2) (.tmp 42),none,true,false⟩,⟨some (44,false),.callF 54 [.tmp 39,.tmp 43],none,true,false⟩,.M 35 44,.T 45 (.ext (.tmp 35) 0),.T 46 (.ext (.tmp 35) 1),.K 10 (.alloc [.im true [],.im true []] 2),⟨none,.store 2 (.tmp 10) (.tmp 45),none,false,false⟩,.N 11 46]) (.seq (.seq (.reg [] [] [.M 47 11,.K 48 (.not (.tmp 47))]) (.cond (.tmp 48) (some 48) (.seq (.reg [] [(4,0)] [.K 4 (.mv (.const (.slice none 0 0))),.K 5 (.mv (cI 2))]) (.ret)) (.skip))) (.seq (.reg [] [] [.M 50 7,.T 51 (.load (some 2) (.tmp 10)),.T 52 (.call 47 [.tmp 50,.tmp 51]),.M 49 52,.T 53 (.ext (.tmp 49) 0),.T 54 (.ext (.tmp 49) 1),.N 7 53,.N 11 54]) (.seq (.reg [] [] [.M 55 11,.K 56 (.not (.tmp 55))]) (.cond (.tmp 56) (some 56) (.seq (.reg [] [(4,0)] [.K 4 (.mv (.const (.slice none 0 0))),.K 5 (.mv (cI 2))]) (.ret)) (.skip))))))) (.reg [] [] [.M 33 9,.T 34 (.bin .add (.tmp 33) (cI 1)),.N 9 34]))
def qoQ9 : ACode:=.seq (.seq (.reg [] [] [.M 23 8,.M 24 0,.T 25 (.len (.tmp 24)),.K 26 (.bin .lss (.tmp 23) (.tmp 25))]) (.cond (.tmp 26) (some 26) (.skip) (.exit 0))) (.seq (.block 1 72339073376718336 (.seq (.reg [] [] [.K 9 (.mv (cI 0))]) (.block 2 72339073376718336 (.loop qoN9)))) (.reg [] [] [.M 27 8,.T 28 (.bin .add (.tmp 27) (cI 1)),.N 8 28]))
def c25 : ACode:=.seq (.reg [] [(4,0)] [.K 4 (.mv (.const (.slice none 0 0))),.K 5 (.mv (cI 0))]) (.seq (.reg [] [] [.M 12 0,.T 13 (.call 15 [.tmp 12,.const (.int .i64 4611686018427387904)]),.N 6 13]) (.seq (.seq (.reg [] [] [.M 14 6,.K 15 (.bin .neq (.tmp 14) (cI 0))]) (.cond (.tmp 15) (some 15) (.seq (.reg [] [(4,0)] [.M 16 6,.K 4 (.mv (.const (.slice none 0 0))),.N 5 16]) (.ret)) (.skip))) (.seq (.reg [] [] [.M 17 1,.T 18 (.call 15 [.tmp 17,.const (.int .i64 4611686018427387904)]),.N 6 18]) (.seq (.seq (.reg [] [] [.M 19 6,.K 20 (.bin .neq (.tmp 19) (cI 0))]) (.cond (.tmp 20) (some 20) (.seq (.reg [] [(4,0)] [.M 21 6,.K 4 (.mv (.const (.slice none 0 0))),.N 5 21]) (.ret)) (.skip))) (.seq (.reg [] [(7,0)] [.T 22 (.lit 2 []),.N 7 22]) (.seq (.seq (.reg [] [] [.K 8 (.mv (cI 0))]) (.block 0 72339073376718336 (.loop qoQ9))) (.seq (.reg [] [] [.M 57 7,.N 4 57,.K 5 (.mv (cI 0))]) (.ret))))))))
theorem is25 : IsF C 25 58 72339073377800179 c25 [.tmp 4,.tmp 5]:=⟨⟨Try.f25,_,C_P ▸ Try.func25,rfl,rfl,rfl,by kernel_rfl,rfl⟩⟩
def qhb9 (s0 : List Mono) (s1 : List Mono) (s4 : List Mono) (s6 : Int) (s8 : Int) (g1 : AHeap) : (List Mono) × Int→AHeap→St:=fun (s7,s9) gt=>⟨[(0,.d (.rd (s0.map qa9))),(1,.d (.rd (s1.map qa9))),(4,.d (.rd (s4.map qa9))),(5,PI 0),(6,PI s6),(7,.d (.rd (s7.map qa9))),(8,PI s8),(9,PI s9)],(g1++gt)⟩
def qtf9 (s0 : List Mono) (s1 : List Mono) (s4 : List Mono) (s6 : Int) (s8 : Int) (g1 : AHeap) : (((List Mono) × Int) ⊕ ((List Mono)))→AExit × St→Prop
 | .inl r,q=>XV C [.tmp 4,.tmp 5] (.tp [.d (.rd (r.1.map qa9)),PI r.2]) q
 | .inr s7,q=>∃ d9 : PV,∃ h1 : AHeap,q = (.exit 2,⟨[(0,.d (.rd (s0.map qa9))),(1,.d (.rd (s1.map qa9))),(4,.d (.rd (s4.map qa9))),(5,PI 0),(6,PI s6),(7,.d (.rd (s7.map qa9))),(8,PI s8),(9,d9)],(g1++h1)⟩)
theorem qsl9 {s0 : List Mono} {s1 : List Mono} {s4 : List Mono} {s6 : Int} {s8 : Int} {g1 : AHeap} : Sim C 72339073377800179 qoN9 (qct9 s0 s1 s4 s6 s8) (qhb9 s0 s1 s4 s6 s8 g1) (qtf9 s0 s1 s4 s6 s8 g1):=by
 intro s g r hr
 obtain ⟨s7,s9⟩:=s
 have ⟨gt,hg0⟩ : ∃ y,y = g:=⟨_,rfl⟩
 subst hg0
 simp only [qct9] at hr
 rcases iteP hr with ⟨h1,hr⟩ | ⟨h1,hr⟩
 obtain ⟨x3,h2,x4,h3,x5,h4,hr⟩:=bs3 hr
 have h4k:=fun h=>(qqA9 h4).o rfl rfl rfl (h:=h) (args:=[.ag [.d (.rd (x3.Coef.map qb9)),.d (.rd (x3.Exps.map intD))],.ag [.d (.rd (x4.Coef.map qb9)),.d (.rd (x4.Exps.map intD))]]) rfl
 try simp only [go_sem] at h4k
 rcases iteB hr with ⟨h5,hr⟩ | ⟨h5,hr⟩
 obtain ⟨x6,h6,hr⟩:=bsome hr
 have h6k:=fun h=>(qld9 h6).o rfl rfl rfl (h:=h) (args:=[.d (.rd (s7.map qa9)),.ag [.d (.rd (x5.1.Coef.map qb9)),.d (.rd (x5.1.Exps.map intD))]]) rfl
 try simp only [go_sem] at h6k
 rcases iteB hr with ⟨h7,hr⟩ | ⟨h7,hr⟩
 obtain rfl:=oiA hr
 refine ⟨(gt++(.row false 0 2 [[.d (.rd (x5.1.Coef.map qb9)),.d (.rd (x5.1.Exps.map intD))]]::[])),?_⟩
 rotate_left
 obtain rfl:=oiA hr
 refine xv_of ?_
 rotate_left
 obtain rfl:=oiA hr
 refine xv_of ?_
 rotate_left
 obtain rfl:=oiA hr
 refine xe_of ⟨PI s9,gt,rfl⟩ ?_
 rotate_left
 all_goals (simp +decide only [go_sem,decide_not,qhb9,qoN9, *])
def qfX9 (s0 : List Mono) (s1 : List Mono) (s4 : List Mono) (s6 : Int) : (List Mono) × Int→AHeap→St:=fun (s7,s8) gt=>⟨[(0,.d (.rd (s0.map qa9))),(1,.d (.rd (s1.map qa9))),(4,.d (.rd (s4.map qa9))),(5,PI 0),(6,PI s6),(7,.d (.rd (s7.map qa9))),(8,PI s8)],gt⟩
def qsz9 (s0 : List Mono) (s1 : List Mono) (s4 : List Mono) (s6 : Int) : (((List Mono) × Int) ⊕ ((List Mono) × Int))→AExit × St→Prop
 | .inl r,q=>XV C [.tmp 4,.tmp 5] (.tp [.d (.rd (r.1.map qa9)),PI r.2]) q
 | .inr (s7,s8),q=>∃ g,q = (.exit 0,qfX9 s0 s1 s4 s6 (s7,s8) g)
theorem qsb9 {s0 : List Mono} {s1 : List Mono} {s4 : List Mono} {s6 : Int} : Sim C 72339073377800179 qoQ9 (qcL9 s0 s1 s4 s6) (qfX9 s0 s1 s4 s6) (qsz9 s0 s1 s4 s6):=by
 intro s g r hr
 obtain ⟨s7,s8⟩:=s
 have ⟨gt,hg0⟩ : ∃ y,y = g:=⟨_,rfl⟩
 subst hg0
 simp only [qcL9] at hr
 rcases iteP hr with ⟨h1,hr⟩ | ⟨h1,hr⟩
 obtain ⟨x7,h2,hr⟩:=bsome hr
 obtain ⟨q2,h2L,h2X⟩:=(qsl9 (g1:=gt)).L (g:=[]) h2
 rcases x7 with x8 | x9
 try dsimp only at hr
 obtain ⟨st2,rfl,h2R⟩:=h2X
 simp only [qhb9,go_sem] at h2L
 obtain rfl:=oiA hr
 refine xv_of ?_
 rotate_left
 try dsimp only at hr
 obtain ⟨z10,z11,rfl⟩:=h2X
 simp only [qhb9,go_sem] at h2L
 obtain rfl:=oiA hr
 refine ⟨(gt++z11),?_⟩
 rotate_left
 obtain rfl:=oiA hr
 refine xe_of ⟨gt,rfl⟩ ?_
 rotate_left
 all_goals (simp +decide only [go_sem,decide_not,qfX9,qoQ9, *])
theorem qnf9 {a0 : List Mono} {a1 : List Mono} {r : (List Mono) × Int} (hr : qgh9 a0 a1 = some r) : Res C 25 [.rd (a0.map qa9),.rd (a1.map qa9)] (.tp [.d (.rd (r.1.map qa9)),PI r.2]):=by
 simp only [qgh9] at hr
 obtain ⟨x1,h1,hr⟩:=bsome hr
 have h1k:=(qdE9 h1).k rfl rfl rfl
 try simp only [go_sem] at h1k
 rcases iteP hr with ⟨h2,hr⟩ | ⟨h2,hr⟩
 obtain ⟨x2,h3,hr⟩:=bsome hr
 have h3k:=(qdE9 h3).k rfl rfl rfl
 try simp only [go_sem] at h3k
 rcases iteP hr with ⟨h4,hr⟩ | ⟨h4,hr⟩
 obtain ⟨x12,h5,hr⟩:=bsome hr
 obtain ⟨q5,h5L,h5X⟩:=qsb9.L (g:=[]) h5
 rcases x12 with x13 | ⟨x14,x15⟩
 try dsimp only at hr
 obtain ⟨st5,rfl,h5R⟩:=h5X
 simp only [qfX9,go_sem] at h5L
 obtain rfl:=oiA hr
 refine run_V is25 (nbA rfl) ?_
 rotate_left
 try dsimp only at hr
 obtain ⟨z16,rfl⟩:=h5X
 simp only [qfX9,go_sem] at h5L
 obtain rfl:=oiA hr
 refine run_V is25 (nbA rfl) ?_
 rotate_left
 obtain rfl:=oiA hr
 refine run_V is25 (nbA rfl) ?_
 rotate_left
 obtain rfl:=oiA hr
 refine run_V is25 (nbA rfl) ?_
 rotate_left
 all_goals (simp +decide only [go_sem,decide_not,c25, *])
end Ld

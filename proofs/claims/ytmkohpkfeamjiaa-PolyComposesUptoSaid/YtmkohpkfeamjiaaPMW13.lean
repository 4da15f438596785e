import Derived.Test.YtmkohpkfeamjiaaPMW12
set_option maxHeartbeats 60000000
set_option linter.unusedVariables false
set_option linter.unusedSimpArgs false
set_option linter.unusedSectionVars false
namespace Ld
open Go Go.Proofs Go.Abs
set_option maxRecDepth 8000
def qpT9 : ACode:=.seq (.seq (.reg [] [] [.M 50 6,.M 51 0,.T 52 (.len (.tmp 51)),.K 53 (.bin .lss (.tmp 50) (.tmp 52))]) (.cond (.tmp 53) (some 53) (.skip) (.exit 2))) (.seq (.block 3 2314850208468434944 (.seq (.reg [] [] [.M 56 0,.M 57 6,.T 58 (.ix 2 (.tmp 56) (.tmp 57)),.T 59 (.load (some 2) (.tmp 58)),.T 60 (.call 42 [.tmp 59]),.K 61 (.not (.tmp 60))]) (.cond (.tmp 61) (some 61) (.seq (.reg [] [] [.K 4 (.mv (cI 2))]) (.ret)) (.skip)))) (.reg [] [] [.M 54 6,.T 55 (.bin .add (.tmp 54) (cI 1)),.N 6 55]))
def qnG9 : ACode:=.seq (.seq (.reg [] [] [.M 9 5,.M 10 0,.T 11 (.len (.tmp 10)),.K 12 (.bin .lss (.tmp 9) (.tmp 11))]) (.cond (.tmp 12) (some 12) (.skip) (.exit 0))) (.seq (.block 1 562949953425408 (.seq (.reg [] [] [.M 15 0,.M 16 5,⟨some (17,false),.ix 2 (.tmp 15) (.tmp 16),none,true,false⟩,⟨some (18,false),.load (some 2) (.tmp 17),none,true,false⟩,⟨some (19,false),.call 40 [.tmp 18],none,true,false⟩,.T 20 (.not (.tmp 19)),.M 21 20,.MG 22 21 false 0,.MG 23 21 false 5,⟨some (24,false),.ix 2 (.tmp 22) (.tmp 23),some (21,false),true,false⟩,.TG 25 21 false (.fa 1 (.tmp 24)),⟨some (26,false),.load none (.tmp 25),some (21,false),true,false⟩,⟨some (27,false),.len (.tmp 26),some (21,false),true,false⟩,.MG 28 21 false 1,.TG 29 21 false (.bin .gtr (.tmp 27) (.tmp 28)),.T 30 (.pick (.tmp 21) (.const (.bool true)) (.tmp 29)),.M 31 30,.MG 32 31 false 5,.TG 33 31 false (.bin .gtr (.tmp 32) (cI 0)),.MG 34 31 false 33,.MG 35 34 true 0,.MG 36 34 true 5,.TG 37 34 true (.bin .sub (.tmp 36) (cI 1)),⟨some (38,false),.ix 2 (.tmp 35) (.tmp 37),some (34,true),true,false⟩,.TG 39 34 true (.fa 1 (.tmp 38)),⟨some (40,false),.load none (.tmp 39),some (34,true),true,false⟩,.MG 41 34 true 0,.MG 42 34 true 5,⟨some (43,false),.ix 2 (.tmp 41) (.tmp 42),some (34,true),true,false⟩,.TG 44 34 true (.fa 1 (.tmp 43)),⟨some (45,false),.load none (.tmp 44),some (34,true),true,false⟩,⟨some (46,false),.call 41 [.tmp 40,.tmp 45],some (34,true),true,false⟩,.TG 47 34 true (.bin .geq (.tmp 46) (cI 0)),.TG 48 31 false (.pick (.tmp 34) (.tmp 47) (.const (.bool false))),.K 49 (.pick (.tmp 31) (.const (.bool true)) (.tmp 48))]) (.cond (.tmp 49) (some 49) (.seq (.reg [] [] [.K 4 (.mv (cI 20))]) (.ret)) (.skip)))) (.reg [] [] [.M 13 5,.T 14 (.bin .add (.tmp 13) (cI 1)),.N 5 14]))
def c15 : ACode:=.seq (.reg [] [] [.K 4 (.mv (cI 0))]) (.seq (.seq (.reg [] [] [.M 7 1,.K 8 (.bin .lss (.tmp 7) (cI 0))]) (.cond (.tmp 8) (some 8) (.seq (.reg [] [] [.K 4 (.mv (cI 1))]) (.ret)) (.skip))) (.seq (.seq (.reg [] [] [.K 5 (.mv (cI 0))]) (.block 0 562949953425408 (.loop qnG9))) (.seq (.seq (.reg [] [] [.K 6 (.mv (cI 0))]) (.block 2 2314850208468434944 (.loop qpT9))) (.seq (.seq (.reg [] [] [.M 62 0,.T 63 (.len (.tmp 62)),.K 64 (.bin .gtr (.tmp 63) (cI 256))]) (.cond (.tmp 64) (some 64) (.seq (.reg [] [] [.K 4 (.mv (cI 2))]) (.ret)) (.skip))) (.seq (.reg [] [] [.K 4 (.mv (cI 0))]) (.ret))))))
theorem is15 : IsF C 15 65 20762157232131412339 c15 [.tmp 4]:=⟨⟨Try.f15,_,C_P ▸ Try.func15,rfl,rfl,rfl,by kernel_rfl,rfl⟩⟩
def qeQ9 (s0 : List Mono) (s1 : Int) (s5 : Int) : Int→Unit→St:=fun s6 _=>⟨[(0,.d (.rd (s0.map qa9))),(1,PI s1),(4,PI 0),(5,PI s5),(6,PI s6)],[]⟩
def qoO9 (s0 : List Mono) (s1 : Int) (s5 : Int) : (Int ⊕ Int)→AExit × St→Prop
 | .inl r,q=>XV C [.tmp 4] (PI r) q
 | .inr s6,q=>∃ g,q = (.exit 2,qeQ9 s0 s1 s5 s6 g)
theorem qpQ9 {s0 : List Mono} {s1 : Int} {s5 : Int} : Sim C 20762157232131412339 qpT9 (qcy9 s0 s1 s5) (qeQ9 s0 s1 s5) (qoO9 s0 s1 s5):=by
 intro s g r hr
 have ⟨s6,hs0⟩ : ∃ y,y = s:=⟨_,rfl⟩
 subst hs0
 simp only [qcy9] at hr
 rcases iteP hr with ⟨h1,hr⟩ | ⟨h1,hr⟩
 obtain ⟨x8,h2,x9,h3,hr⟩:=bs2 hr
 have h3k:=fun h=>(qhS9 h3).o rfl rfl rfl (h:=h) (args:=[.ag [.d (.rd (x8.Coef.map qb9)),.d (.rd (x8.Exps.map intD))]]) rfl
 try simp only [go_sem] at h3k
 rcases iteB hr with ⟨h4,hr⟩ | ⟨h4,hr⟩
 obtain rfl:=oiA hr
 refine ⟨(),?_⟩
 rotate_left
 obtain rfl:=oiA hr
 refine xv_of ?_
 rotate_left
 obtain rfl:=oiA hr
 refine xe_of ⟨(),rfl⟩ ?_
 rotate_left
 all_goals (simp +decide only [go_sem,decide_not,qeQ9,qpT9, *])
def qeT9 (s0 : List Mono) (s1 : Int) : Int→Unit→St:=fun s5 _=>⟨[(0,.d (.rd (s0.map qa9))),(1,PI s1),(4,PI 0),(5,PI s5)],[]⟩
def qqd9 (s0 : List Mono) (s1 : Int) : (Int ⊕ Int)→AExit × St→Prop
 | .inl r,q=>XV C [.tmp 4] (PI r) q
 | .inr s5,q=>∃ g,q = (.exit 0,qeT9 s0 s1 s5 g)
theorem qos9 {s0 : List Mono} {s1 : Int} : Sim C 20762157232131412339 qnG9 (qcT9 s0 s1) (qeT9 s0 s1) (qqd9 s0 s1):=by
 intro s g r hr
 have ⟨s5,hs0⟩ : ∃ y,y = s:=⟨_,rfl⟩
 subst hs0
 simp only [qcT9] at hr
 rcases iteP hr with ⟨h1,hr⟩ | ⟨h1,hr⟩
 obtain ⟨x1,h2,x2,h3,hr⟩:=bs2 hr
 have h3k:=fun h=>(qsi9 h3).o rfl rfl rfl (h:=h) (args:=[.ag [.d (.rd (x1.Coef.map qb9)),.d (.rd (x1.Exps.map intD))]]) rfl
 try simp only [go_sem] at h3k
 rcases iteB hr with ⟨h4,hr⟩ | ⟨h4,hr⟩
 rcases iteP hr with ⟨h5,hr⟩ | ⟨h5,hr⟩
 obtain rfl:=oiA hr
 refine xv_of ?_
 rotate_left
 rcases iteP hr with ⟨h6,hr⟩ | ⟨h6,hr⟩
 obtain ⟨x3,h7,x4,h8,hr⟩:=bs2 hr
 have h8k:=(qks9 h8).k rfl rfl rfl
 try simp only [go_sem] at h8k
 rcases iteP hr with ⟨h9,hr⟩ | ⟨h9,hr⟩
 obtain rfl:=oiA hr
 refine xv_of ?_
 rotate_left
 obtain rfl:=oiA hr
 refine ⟨(),?_⟩
 rotate_left
 obtain rfl:=oiA hr
 refine ⟨(),?_⟩
 rotate_left
 obtain rfl:=oiA hr
 refine xv_of ?_
 rotate_left
 obtain rfl:=oiA hr
 refine xe_of ⟨(),rfl⟩ ?_
 rotate_left
 all_goals (simp +decide only [go_sem,decide_not,qeT9,qnG9, *])
theorem qdE9 {a0 : List Mono} {a1 : Int} {r : Int} (hr : qch9 a0 a1 = some r) : Res C 15 [.rd (a0.map qa9),.v (.int .i64 a1)] (PI r):=by
 simp only [qch9] at hr
 rcases iteP hr with ⟨h1,hr⟩ | ⟨h1,hr⟩
 obtain rfl:=oiA hr
 refine run_V is15 (nbA rfl) ?_
 rotate_left
 obtain ⟨x5,h2,hr⟩:=bsome hr
 obtain ⟨q2,h2L,h2X⟩:=qos9.L (g:=()) h2
 rcases x5 with x6 | x7
 try dsimp only at hr
 obtain ⟨st2,rfl,h2R⟩:=h2X
 simp only [qeT9,go_sem] at h2L
 obtain rfl:=oiA hr
 refine run_V is15 (nbA rfl) ?_
 rotate_left
 try dsimp only at hr
 obtain ⟨⟨⟩,rfl⟩:=h2X
 simp only [qeT9,go_sem] at h2L
 obtain ⟨x10,h3,hr⟩:=bsome hr
 obtain ⟨q3,h3L,h3X⟩:=qpQ9.L (g:=()) h3
 rcases x10 with x11 | x12
 try dsimp only at hr
 obtain ⟨st3,rfl,h3R⟩:=h3X
 simp only [qeQ9,go_sem] at h3L
 obtain rfl:=oiA hr
 refine run_V is15 (nbA rfl) ?_
 rotate_left
 try dsimp only at hr
 obtain ⟨⟨⟩,rfl⟩:=h3X
 simp only [qeQ9,go_sem] at h3L
 rcases iteP hr with ⟨h4,hr⟩ | ⟨h4,hr⟩
 obtain rfl:=oiA hr
 refine run_V is15 (nbA rfl) ?_
 rotate_left
 obtain rfl:=oiA hr
 refine run_V is15 (nbA rfl) ?_
 rotate_left
 all_goals (simp +decide only [go_sem,decide_not,c15, *])
def qor9 : ACode:=.seq (.seq (.reg [] [] [.M 31 9,.M 32 1,.T 33 (.len (.tmp 32)),.T 34 (.bin .lss (.tmp 31) (.tmp 33)),.M 35 34,.MG 36 35 false 8,.TG 37 35 false (.bin .gtr (.tmp 36) (.const (.int .u64 0))),.K 38 (.pick (.tmp 35) (.const (.bool true)) (.tmp 37))]) (.cond (.tmp 38) (some 38) (.skip) (.exit 2))) (.seq (.block 3 9007474132647936 (.seq (.reg [] [] [.M 41 8,.M 42 6,.M 43 7,.M 44 9,.T 45 (.bin .add (.tmp 43) (.tmp 44)),.T 46 (.ix 1 (.tmp 42) (.tmp 45)),.T 47 (.load none (.tmp 46)),.T 48 (.wrap .u64 (.tmp 47)),.T 49 (.bin .add (.tmp 41) (.tmp 48)),.N 8 49]) (.seq (.seq (.reg [] [] [.M 50 9,.M 51 1,.T 52 (.len (.tmp 51)),.K 53 (.bin .lss (.tmp 50) (.tmp 52))]) (.cond (.tmp 53) (some 53) (.reg [] [] [.M 54 8,.M 55 0,.M 56 7,⟨some (57,false),.ix 1 (.tmp 55) (.tmp 56),none,true,false⟩,⟨some (58,false),.load none (.tmp 57),none,true,false⟩,.T 59 (.wrap .u64 (.tmp 58)),.M 60 1,.M 61 9,⟨some (62,false),.ix 1 (.tmp 60) (.tmp 61),none,true,false⟩,⟨some (63,false),.load none (.tmp 62),none,true,false⟩,.T 64 (.wrap .u64 (.tmp 63)),.T 65 (.bin .mul (.tmp 59) (.tmp 64)),.T 66 (.bin .add (.tmp 54) (.tmp 65)),.N 8 66]) (.skip))) (.seq (.reg [] [] [.M 67 6,.M 68 7,.M 69 9,.T 70 (.bin .add (.tmp 68) (.tmp 69)),.M 71 8,.T 72 (.wrap .u32 (.tmp 71)),.T 73 (.ix 1 (.tmp 67) (.tmp 70)),⟨none,.store 1 (.tmp 73) (.tmp 72),none,false,false⟩]) (.reg [] [] [.M 74 8,.T 75 (.sh .shr (.tmp 74) (.const (.int .u64 32))),.N 8 75]))))) (.reg [] [] [.M 39 9,.T 40 (.bin .add (.tmp 39) (cI 1)),.N 9 40]))
def qnE9 : ACode:=.seq (.seq (.reg [] [] [.M 25 7,.M 26 0,.T 27 (.len (.tmp 26)),.K 28 (.bin .lss (.tmp 25) (.tmp 27))]) (.cond (.tmp 28) (some 28) (.skip) (.exit 0))) (.seq (.block 1 9007474401084160 (.seq (.reg [] [] [.K 8 (.mv (.const (.int .u64 0)))]) (.seq (.reg [] [] [.K 9 (.mv (cI 0))]) (.block 2 9007474401084160 (.loop qor9))))) (.reg [] [] [.M 29 7,.T 30 (.bin .add (.tmp 29) (cI 1)),.N 7 30]))
def c63 : ACode:=.seq (.reg [] [(4,0)] [.K 4 (.mv (.const (.slice none 0 0))),.K 5 (.mv (cI 0))]) (.seq (.seq (.reg [] [] [.M 10 0,.T 11 (.call 62 [.tmp 10]),.T 12 (.not (.tmp 11)),.M 13 12,.MG 14 13 false 1,.TG 15 13 false (.call 62 [.tmp 14]),.TG 16 13 false (.not (.tmp 15)),.K 17 (.pick (.tmp 13) (.const (.bool true)) (.tmp 16))]) (.cond (.tmp 17) (some 17) (.seq (.reg [] [(4,0)] [.K 4 (.mv (.const (.slice none 0 0))),.K 5 (.mv (cI 10))]) (.ret)) (.skip))) (.seq (.reg [] [] [.M 18 0,.T 19 (.len (.tmp 18)),.M 20 1,.T 21 (.len (.tmp 20)),.T 22 (.bin .add (.tmp 19) (.tmp 21)),.T 23 (.bin .add (.tmp 22) (cI 1)),.T 24 (.mkSl [.d (.v (.int .u32 0))] 1 4 (.tmp 23) (.tmp 23)),.N 6 24]) (.seq (.seq (.reg [] [] [.K 7 (.mv (cI 0))]) (.block 0 9007474401084160 (.loop qnE9))) (.seq (.reg [] [] [.M 76 6,.T 77 (.call 81 [.tmp 76]),.T 78 (.ext (.tmp 77) 0),.T 79 (.ext (.tmp 77) 1),.N 4 78,.N 5 79]) (.ret)))))
theorem is63 : IsF C 63 80 9007474401215475 c63 [.tmp 4,.tmp 5]:=⟨⟨Try.f63,_,C_P ▸ Try.func63,rfl,rfl,rfl,by kernel_rfl,rfl⟩⟩
def qiy9 (s0 : List Int) (s1 : List Int) (s4 : List Int) (s7 : Int) (v6 : Nat) (n6 : Nat) : Int × Int × (List Int)→Unit→St:=fun (s8,s9,o6) _=>⟨[(0,.d (.rd (s0.map qb9))),(1,.d (.rd (s1.map qb9))),(4,.d (.rd (s4.map qb9))),(5,PI 0),(6,.ref 0 v6 0 n6),(7,PI s7),(8,.d (.v (.int .u64 s8))),(9,PI s9)],(.row false v6 1 (rowP qb9 o6)::[])⟩
def qkN9 (s0 : List Int) (s1 : List Int) (s4 : List Int) (s7 : Int) (v6 : Nat) (n6 : Nat) : Int × Int × (List Int)→Prop:=fun (s8,s9,o6)=>o6.length = n6
def qtu9 (s0 : List Int) (s1 : List Int) (s4 : List Int) (s7 : Int) (v6 : Nat) (n6 : Nat) : ((List Int))→AExit × St→Prop:=fun o6 q=>∃ d8 : PV,∃ d9 : PV,q = (.exit 2,⟨[(0,.d (.rd (s0.map qb9))),(1,.d (.rd (s1.map qb9))),(4,.d (.rd (s4.map qb9))),(5,PI 0),(6,.ref 0 v6 0 n6),(7,PI s7),(8,d8),(9,d9)],(.row false v6 1 (rowP qb9 o6)::[])⟩)∧o6.length = n6
theorem qtr9 {s0 : List Int} {s1 : List Int} {s4 : List Int} {s7 : Int} {v6 : Nat} {n6 : Nat} : SimI C 9007474401215475 qor9 (qkN9 s0 s1 s4 s7 v6 n6) (qcc9 s0 s1 s4 s7) (qiy9 s0 s1 s4 s7 v6 n6) (qtu9 s0 s1 s4 s7 v6 n6):=by
 intro s g r hI hr
 obtain ⟨s8,s9,o6⟩:=s
 simp only [qkN9] at hI
 have hI0:=hI
 simp only [qcc9] at hr
 rcases iteP hr with ⟨h1,hr⟩ | ⟨h1,hr⟩
 obtain ⟨x3,h2,x4,h3,x5,h4,x6,h5,hr⟩:=bs4 hr
 have h2a:=eq_true (ql9 h2).1
 have h2b : ((w64 (s7 + s9)) < (n6 : Int)) = True:=eq_true (by have hb : (w64 (s7 + s9)) < (o6.length : Int):=(ql9 h2).2.1; omega)
 have h2c:=(ql9 h2).2.2
 obtain rfl:=oiA hr
 refine ⟨⟨(),?_⟩,(show (o6.set (w64 (s7 + s9)).toNat (IntKind.u32.wrap (IntKind.u64.wrap ((IntKind.u64.wrap (s8 + (IntKind.u64.wrap x3))) + (IntKind.u64.wrap ((IntKind.u64.wrap x4) * (IntKind.u64.wrap x5))))))).length = n6 by first | assumption | (simp only [llA,lrA]; first | done | assumption | omega) | omega)⟩
 rotate_left
 rcases iteP hr with ⟨h6,hr⟩ | ⟨h6,hr⟩
 obtain ⟨x7,h7,x8,h8,hr⟩:=bs2 hr
 have h7a:=eq_true (ql9 h7).1
 have h7b : ((w64 (s7 + s9)) < (n6 : Int)) = True:=eq_true (by have hb : (w64 (s7 + s9)) < (o6.length : Int):=(ql9 h7).2.1; omega)
 have h7c:=(ql9 h7).2.2
 obtain rfl:=oiA hr
 refine ⟨⟨(),?_⟩,(show (o6.set (w64 (s7 + s9)).toNat (IntKind.u32.wrap (IntKind.u64.wrap (s8 + (IntKind.u64.wrap x7))))).length = n6 by first | assumption | (simp only [llA,lrA]; first | done | assumption | omega) | omega)⟩
 rotate_left
 obtain rfl:=oiA hr
 refine xe_of ⟨.d (.v (.int .u64 s8)),PI s9,rfl,(show o6.length = n6 by first | assumption | (simp only [llA,lrA]; first | done | assumption | omega) | omega)⟩ ?_
 rotate_left
 all_goals (simp +decide only [go_sem,decide_not,qiy9,qor9, *])
def qgZ9 (s0 : List Int) (s1 : List Int) (s4 : List Int) (v6 : Nat) (n6 : Nat) : Int × (List Int)→Unit→St:=fun (s7,o6) _=>⟨[(0,.d (.rd (s0.map qb9))),(1,.d (.rd (s1.map qb9))),(4,.d (.rd (s4.map qb9))),(5,PI 0),(6,.ref 0 v6 0 n6),(7,PI s7)],(.row false v6 1 (rowP qb9 o6)::[])⟩
def qlf9 (s0 : List Int) (s1 : List Int) (s4 : List Int) (v6 : Nat) (n6 : Nat) : Int × (List Int)→Prop:=fun (s7,o6)=>o6.length = n6
def qrM9 (s0 : List Int) (s1 : List Int) (s4 : List Int) (v6 : Nat) (n6 : Nat) : (Int × (List Int))→AExit × St→Prop:=fun (s7,o6) q=>∃ g,q = (.exit 0,qgZ9 s0 s1 s4 v6 n6 (s7,o6) g)∧o6.length = n6
theorem qrL9 {s0 : List Int} {s1 : List Int} {s4 : List Int} {v6 : Nat} {n6 : Nat} : SimI C 9007474401215475 qnE9 (qlf9 s0 s1 s4 v6 n6) (qdB9 s0 s1 s4) (qgZ9 s0 s1 s4 v6 n6) (qrM9 s0 s1 s4 v6 n6):=by
 intro s g r hI hr
 obtain ⟨s7,o6⟩:=s
 simp only [qlf9] at hI
 have hI0:=hI
 simp only [qdB9] at hr
 rcases iteP hr with ⟨h1,hr⟩ | ⟨h1,hr⟩
 obtain ⟨x9,h2,hr⟩:=bsome hr
 obtain ⟨q2,h2L,h2X⟩:=(qtr9 (v6:=v6) (n6:=n6)).L (g:=()) h2 (show o6.length = n6 by first | assumption | (simp only [llA,lrA]; first | done | assumption | omega) | omega)
 have ⟨x10,hq2⟩ : ∃ y,y = x9:=⟨_,rfl⟩
 subst hq2
 try dsimp only at hr
 obtain ⟨z11,z12,rfl,h2l0⟩:=h2X
 simp only [qiy9,go_sem] at h2L
 try simp only [hI0] at h2L
 obtain rfl:=oiA hr
 refine ⟨⟨(),?_⟩,(show x10.length = n6 by first | assumption | (simp only [llA,lrA]; first | done | assumption | omega) | omega)⟩
 rotate_left
 obtain rfl:=oiA hr
 refine xe_of ⟨(),rfl,(show o6.length = n6 by first | assumption | (simp only [llA,lrA]; first | done | assumption | omega) | omega)⟩ ?_
 rotate_left
 all_goals (simp +decide only [go_sem,decide_not,qgZ9,qnE9, *])
theorem quk9 {a0 : List Int} {a1 : List Int} {r : (List Int) × Int} (hr : qhn9 a0 a1 = some r) : Res C 63 [.rd (a0.map qb9),.rd (a1.map qb9)] (.tp [.d (.rd (r.1.map qb9)),PI r.2]):=by
 simp only [qhn9] at hr
 obtain ⟨x1,h1,hr⟩:=bsome hr
 have h1k:=(qfn9 h1).k rfl rfl rfl
 try simp only [go_sem] at h1k
 rcases iteB hr with ⟨h2,hr⟩ | ⟨h2,hr⟩
 obtain ⟨x2,h3,hr⟩:=bsome hr
 have h3k:=(qfn9 h3).k rfl rfl rfl
 try simp only [go_sem] at h3k
 rcases iteB hr with ⟨h4,hr⟩ | ⟨h4,hr⟩
 obtain ⟨h5,hr⟩:=gsome hr
 obtain ⟨h6,hr⟩:=gsome hr
 obtain ⟨x13,h7,hr⟩:=bsome hr
 obtain ⟨q7,h7L,h7X⟩:=(qrL9 (v6:=0) (n6:=(List.replicate (w64 ((w64 ((a0.length : Int) + (a1.length : Int))) + 1)).toNat (0 : Int)).length)).L (g:=()) h7 rfl
 obtain ⟨x14,x15⟩:=x13
 try dsimp only at hr
 obtain ⟨⟨⟩,rfl,h7l0⟩:=h7X
 simp only [qgZ9,go_sem] at h7L
 obtain ⟨x16,h8,hr⟩:=bsome hr
 have h8k:=fun h args=>(qkV9 h8).o rfl rfl rfl (h:=h) (args:=args)
 try simp only [go_sem] at h8k
 obtain rfl:=oiA hr
 refine run_V is63 (nbA rfl) ?_
 rotate_left
 obtain rfl:=oiA hr
 refine run_V is63 (nbA rfl) ?_
 rotate_left
 obtain rfl:=oiA hr
 refine run_V is63 (nbA rfl) ?_
 rotate_left
 all_goals (simp +decide only [go_sem,decide_not,c63, *])
end Ld

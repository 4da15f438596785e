import Derived.Test.YtmkohpkfeamjiaaPSW12
set_option maxHeartbeats 60000000
set_option linter.unusedVariables false
set_option linter.unusedSimpArgs false
set_option linter.unusedSectionVars false
namespace Ld
open Go Go.Proofs Go.Abs
set_option maxRecDepth 8000
def qsg9 : ACode:=.seq (.seq (.reg [] [] [.M 50 6,.M 51 0,.T 52 (.len (.tmp 51)),.K 53 (.bin .lss (.tmp 50) (.tmp 52))]) (.cond (.tmp 53) (some 53) (.skip) (.exit 2))) (.seq (.block 3 2314850208468434944 (.seq (.reg [] [] [.M 56 0,.M 57 6,.T 58 (.ix 2 (.tmp 56) (.tmp 57)),.T 59 (.load (some 2) (.tmp 58)),.T 60 (.call 42 [.tmp 59]),.K 61 (.not (.tmp 60))]) (.cond (.tmp 61) (some 61) (.seq (.reg [] [] [.K 4 (.mv (cI 2))]) (.ret)) (.skip)))) (.reg [] [] [.M 54 6,.T 55 (.bin .add (.tmp 54) (cI 1)),.N 6 55]))
def qpC9 : ACode:=.seq (.seq (.reg [] [] [.M 9 5,.M 10 0,.T 11 (.len (.tmp 10)),.K 12 (.bin .lss (.tmp 9) (.tmp 11))]) (.cond (.tmp 12) (some 12) (.skip) (.exit 0))) (.seq (.block 1 562949953425408 (.seq (.reg [] [] [.M 15 0,.M 16 5,⟨some (17,false),.ix 2 (.tmp 15) (.tmp 16),none,true,false⟩,⟨some (18,false),.load (some 2) (.tmp 17),none,true,false⟩,⟨some (19,false),.call 40 [.tmp 18],none,true,false⟩,.T 20 (.not (.tmp 19)),.M 21 20,.MG 22 21 false 0,.MG 23 21 false 5,⟨some (24,false),.ix 2 (.tmp 22) (.tmp 23),some (21,false),true,false⟩,.TG 25 21 false (.fa 1 (.tmp 24)),⟨some (26,false),.load none (.tmp 25),some (21,false),true,false⟩,⟨some (27,false),.len (.tmp 26),some (21,false),true,false⟩,.MG 28 21 false 1,.TG 29 21 false (.bin .gtr (.tmp 27) (.tmp 28)),.T 30 (.pick (.tmp 21) (.const (.bool true)) (.tmp 29)),.M 31 30,.MG 32 31 false 5,.TG 33 31 false (.bin .gtr (.tmp 32) (cI 0)),.MG 34 31 false 33,.MG 35 34 true 0,.MG 36 34 true 5,.TG 37 34 true (.bin .sub (.tmp 36) (cI 1)),⟨some (38,false),.ix 2 (.tmp 35) (.tmp 37),some (34,true),true,false⟩,.TG 39 34 true (.fa 1 (.tmp 38)),⟨some (40,false),.load none (.tmp 39),some (34,true),true,false⟩,.MG 41 34 true 0,.MG 42 34 true 5,⟨some (43,false),.ix 2 (.tmp 41) (.tmp 42),some (34,true),true,false⟩,.TG 44 34 true (.fa 1 (.tmp 43)),⟨some (45,false),.load none (.tmp 44),some (34,true),true,false⟩,⟨some (46,false),.call 41 [.tmp 40,.tmp 45],some (34,true),true,false⟩,.TG 47 34 true (.bin .geq (.tmp 46) (cI 0)),.TG 48 31 false (.pick (.tmp 34) (.tmp 47) (.const (.bool false))),.K 49 (.pick (.tmp 31) (.const (.bool true)) (.tmp 48))]) (.cond (.tmp 49) (some 49) (.seq (.reg [] [] [.K 4 (.mv (cI 20))]) (.ret)) (.skip)))) (.reg [] [] [.M 13 5,.T 14 (.bin .add (.tmp 13) (cI 1)),.N 5 14]))
def c15 : ACode:=.seq (.reg [] [] [.K 4 (.mv (cI 0))]) (.seq (.seq (.reg [] [] [.M 7 1,.K 8 (.bin .lss (.tmp 7) (cI 0))]) (.cond (.tmp 8) (some 8) (.seq (.reg [] [] [.K 4 (.mv (cI 1))]) (.ret)) (.skip))) (.seq (.seq (.reg [] [] [.K 5 (.mv (cI 0))]) (.block 0 562949953425408 (.loop qpC9))) (.seq (.seq (.reg [] [] [.K 6 (.mv (cI 0))]) (.block 2 2314850208468434944 (.loop qsg9))) (.seq (.seq (.reg [] [] [.M 62 0,.T 63 (.len (.tmp 62)),.K 64 (.bin .gtr (.tmp 63) (cI 256))]) (.cond (.tmp 64) (some 64) (.seq (.reg [] [] [.K 4 (.mv (cI 2))]) (.ret)) (.skip))) (.seq (.reg [] [] [.K 4 (.mv (cI 0))]) (.ret))))))
theorem is15 : IsF C 15 65 20762157232131412339 c15 [.tmp 4]:=⟨⟨Try.f15,_,C_P ▸ Try.func15,rfl,rfl,rfl,by kernel_rfl,rfl⟩⟩
def qhb9 (s0 : List Mono) (s1 : Int) (s5 : Int) : Int→Unit→St:=fun s6 _=>⟨[(0,.d (.rd (s0.map qa9))),(1,PI s1),(4,PI 0),(5,PI s5),(6,PI s6)],[]⟩
def qqT9 (s0 : List Mono) (s1 : Int) (s5 : Int) : (Int ⊕ Int)→AExit × St→Prop
 | .inl r,q=>XV C [.tmp 4] (PI r) q
 | .inr s6,q=>∃ g,q = (.exit 2,qhb9 s0 s1 s5 s6 g)
theorem qsa9 {s0 : List Mono} {s1 : Int} {s5 : Int} : Sim C 20762157232131412339 qsg9 (qeL9 s0 s1 s5) (qhb9 s0 s1 s5) (qqT9 s0 s1 s5):=by
 intro s g r hr
 have ⟨s6,hs0⟩ : ∃ y,y = s:=⟨_,rfl⟩
 subst hs0
 simp only [qeL9] at hr
 rcases iteP hr with ⟨h1,hr⟩ | ⟨h1,hr⟩
 obtain ⟨x8,h2,x9,h3,hr⟩:=bs2 hr
 have h3k:=fun h=>(qml9 h3).o rfl rfl rfl (h:=h) (args:=[.ag [.d (.rd (x8.Coef.map qc9)),.d (.rd (x8.Exps.map intD))]]) rfl
 try simp only [go_sem] at h3k
 rcases iteB hr with ⟨h4,hr⟩ | ⟨h4,hr⟩
 obtain rfl:=oiA hr
 refine ⟨(),?_⟩
 rotate_left
 obtain rfl:=oiA hr
 refine xv_of ?_
 rotate_left
 obtain rfl:=oiA hr
 refine xe_of ⟨(),rfl⟩ ?_
 rotate_left
 all_goals (simp +decide only [go_sem,decide_not,qhb9,qsg9, *])
def qhe9 (s0 : List Mono) (s1 : Int) : Int→Unit→St:=fun s5 _=>⟨[(0,.d (.rd (s0.map qa9))),(1,PI s1),(4,PI 0),(5,PI s5)],[]⟩
def qsv9 (s0 : List Mono) (s1 : Int) : (Int ⊕ Int)→AExit × St→Prop
 | .inl r,q=>XV C [.tmp 4] (PI r) q
 | .inr s5,q=>∃ g,q = (.exit 0,qhe9 s0 s1 s5 g)
theorem qqx9 {s0 : List Mono} {s1 : Int} : Sim C 20762157232131412339 qpC9 (qfp9 s0 s1) (qhe9 s0 s1) (qsv9 s0 s1):=by
 intro s g r hr
 have ⟨s5,hs0⟩ : ∃ y,y = s:=⟨_,rfl⟩
 subst hs0
 simp only [qfp9] at hr
 rcases iteP hr with ⟨h1,hr⟩ | ⟨h1,hr⟩
 obtain ⟨x1,h2,x2,h3,hr⟩:=bs2 hr
 have h3k:=fun h=>(quC9 h3).o rfl rfl rfl (h:=h) (args:=[.ag [.d (.rd (x1.Coef.map qc9)),.d (.rd (x1.Exps.map intD))]]) rfl
 try simp only [go_sem] at h3k
 rcases iteB hr with ⟨h4,hr⟩ | ⟨h4,hr⟩
 rcases iteP hr with ⟨h5,hr⟩ | ⟨h5,hr⟩
 obtain rfl:=oiA hr
 refine xv_of ?_
 rotate_left
 rcases iteP hr with ⟨h6,hr⟩ | ⟨h6,hr⟩
 obtain ⟨x3,h7,x4,h8,hr⟩:=bs2 hr
 have h8k:=(qkf9 h8).k rfl rfl rfl
 try simp only [go_sem] at h8k
 rcases iteP hr with ⟨h9,hr⟩ | ⟨h9,hr⟩
 obtain rfl:=oiA hr
 refine xv_of ?_
 rotate_left
 obtain rfl:=oiA hr
 refine ⟨(),?_⟩
 rotate_left
 obtain rfl:=oiA hr
 refine ⟨(),?_⟩
 rotate_left
 obtain rfl:=oiA hr
 refine xv_of ?_
 rotate_left
 obtain rfl:=oiA hr
 refine xe_of ⟨(),rfl⟩ ?_
 rotate_left
 all_goals (simp +decide only [go_sem,decide_not,qhe9,qpC9, *])
theorem qiH9 {a0 : List Mono} {a1 : Int} {r : Int} (hr : qfM9 a0 a1 = some r) : Res C 15 [.rd (a0.map qa9),.v (.int .i64 a1)] (PI r):=by
 simp only [qfM9] at hr
 rcases iteP hr with ⟨h1,hr⟩ | ⟨h1,hr⟩
 obtain rfl:=oiA hr
 refine run_V is15 (nbA rfl) ?_
 rotate_left
 obtain ⟨x5,h2,hr⟩:=bsome hr
 obtain ⟨q2,h2L,h2X⟩:=qqx9.L (g:=()) h2
 rcases x5 with x6 | x7
 try dsimp only at hr
 obtain ⟨st2,rfl,h2R⟩:=h2X
 simp only [qhe9,go_sem] at h2L
 obtain rfl:=oiA hr
 refine run_V is15 (nbA rfl) ?_
 rotate_left
 try dsimp only at hr
 obtain ⟨⟨⟩,rfl⟩:=h2X
 simp only [qhe9,go_sem] at h2L
 obtain ⟨x10,h3,hr⟩:=bsome hr
 obtain ⟨q3,h3L,h3X⟩:=qsa9.L (g:=()) h3
 rcases x10 with x11 | x12
 try dsimp only at hr
 obtain ⟨st3,rfl,h3R⟩:=h3X
 simp only [qhb9,go_sem] at h3L
 obtain rfl:=oiA hr
 refine run_V is15 (nbA rfl) ?_
 rotate_left
 try dsimp only at hr
 obtain ⟨⟨⟩,rfl⟩:=h3X
 simp only [qhb9,go_sem] at h3L
 rcases iteP hr with ⟨h4,hr⟩ | ⟨h4,hr⟩
 obtain rfl:=oiA hr
 refine run_V is15 (nbA rfl) ?_
 rotate_left
 obtain rfl:=oiA hr
 refine run_V is15 (nbA rfl) ?_
 rotate_left
 all_goals (simp +decide only [go_sem,decide_not,c15, *])
def qqe9 : ACode:=.seq (.seq (.reg [] [] [.M 24 8,.M 25 6,.T 26 (.len (.tmp 25)),.K 27 (.bin .lss (.tmp 24) (.tmp 26))]) (.cond (.tmp 27) (some 27) (.skip) (.exit 0))) (.seq (.block 1 17600910196736 (.seq (.seq (.reg [] [] [.M 30 8,.M 31 0,.T 32 (.len (.tmp 31)),.K 33 (.bin .lss (.tmp 30) (.tmp 32))]) (.cond (.tmp 33) (some 33) (.reg [] [] [.M 34 7,.M 35 0,.M 36 8,.T 37 (.ix 1 (.tmp 35) (.tmp 36)),.T 38 (.load none (.tmp 37)),.T 39 (.wrap .u64 (.tmp 38)),.T 40 (.bin .add (.tmp 34) (.tmp 39)),.N 7 40]) (.skip))) (.seq (.seq (.reg [] [] [.M 41 8,.M 42 1,.T 43 (.len (.tmp 42)),.K 44 (.bin .lss (.tmp 41) (.tmp 43))]) (.cond (.tmp 44) (some 44) (.reg [] [] [.M 45 7,.M 46 1,.M 47 8,.T 48 (.ix 1 (.tmp 46) (.tmp 47)),.T 49 (.load none (.tmp 48)),.T 50 (.wrap .u64 (.tmp 49)),.T 51 (.bin .add (.tmp 45) (.tmp 50)),.N 7 51]) (.skip))) (.seq (.reg [] [] [.M 52 6,.M 53 8,.M 54 7,.T 55 (.wrap .u32 (.tmp 54)),.T 56 (.ix 1 (.tmp 52) (.tmp 53)),⟨none,.store 1 (.tmp 56) (.tmp 55),none,false,false⟩]) (.reg [] [] [.M 57 7,.T 58 (.sh .shr (.tmp 57) (.const (.int .u64 32))),.N 7 58]))))) (.reg [] [] [.M 28 8,.T 29 (.bin .add (.tmp 28) (cI 1)),.N 8 29]))
def c64 : ACode := .seq (.reg [] [(4, 0)] [.K 4 (.mv (.const (.slice none 0 0))), .K 5 (.mv (cI 0))]) (.seq (.seq (.reg [] [] [.M 9 0, .T 10 (.call 62 [.tmp 9]), .T 11 (.not (.tmp 10)), .M 12 11, .MG 13 12 false 1, .TG 14 12 false (.call 62 [.tmp 13]), .TG 15 12 false (.not (.tmp 14)), .K 16 (.pick (.tmp 12) (.const (.bool true)) (.tmp 15))]) (.cond (.tmp 16) (some 16) (.seq (.reg [] [(4, 0)] [.K 4 (.mv (.const (.slice none 0 0))), .K 5 (.mv (cI 10))]) (.ret)) (.skip))) (.seq (.reg [] [] [.M 17 0, .T 18 (.len (.tmp 17)), .M 19 1, .T 20 (.len (.tmp 19)), .T 21 (.raw ({ dst := some 21, op := Go.Op.call { callee := Go.Callee.builtin Go.Builtin.max, args := #[.tmp 18, .tmp 20], argTypes := #[3, 3] }, type := 3, pos := "ref.go:36", after := #[{ on := 1, ground := Go.Ground.data }, { on := 3, ground := Go.Ground.data }], guard := none })), .T 22 (.bin .add (.tmp 21) (cI 1)), .T 23 (.mkSl [.d (.v (.int .u32 0))] 1 4 (.tmp 22) (.tmp 22)), .N 6 23]) (.seq (.reg [] [] [.K 7 (.mv (.const (.int .u64 0)))]) (.seq (.seq (.reg [] [] [.K 8 (.mv (cI 0))]) (.block 0 17600910196736 (.loop qqe9))) (.seq (.reg [] [] [.M 59 6, .T 60 (.call 81 [.tmp 59]), .T 61 (.ext (.tmp 60) 0), .T 62 (.ext (.tmp 60) 1), .N 4 61, .N 5 62]) (.ret))))))
theorem is64 : IsF C 64 63 17600910262771 c64 [.tmp 4,.tmp 5]:=⟨⟨Try.f64,_,C_P ▸ Try.func64,rfl,rfl,rfl,by kernel_rfl,rfl⟩⟩
def qjl9 (s0 : List Int) (s1 : List Int) (s4 : List Int) (v6 : Nat) (n6 : Nat) : Int × Int × (List Int)→Unit→St:=fun (s7,s8,o6) _=>⟨[(0,.d (.rd (s0.map qc9))),(1,.d (.rd (s1.map qc9))),(4,.d (.rd (s4.map qc9))),(5,PI 0),(6,.ref 0 v6 0 n6),(7,.d (.v (.int .u64 s7))),(8,PI s8)],(.row false v6 1 (rowP qc9 o6)::[])⟩
def qmS9 (s0 : List Int) (s1 : List Int) (s4 : List Int) (v6 : Nat) (n6 : Nat) : Int × Int × (List Int)→Prop:=fun (s7,s8,o6)=>o6.length = n6
def quS9 (s0 : List Int) (s1 : List Int) (s4 : List Int) (v6 : Nat) (n6 : Nat) : (Int × Int × (List Int))→AExit × St→Prop:=fun (s7,s8,o6) q=>∃ g,q = (.exit 0,qjl9 s0 s1 s4 v6 n6 (s7,s8,o6) g)∧o6.length = n6
theorem quX9 {s0 : List Int} {s1 : List Int} {s4 : List Int} {v6 : Nat} {n6 : Nat} : SimI C 17600910262771 qqe9 (qmS9 s0 s1 s4 v6 n6) (qfF9 s0 s1 s4) (qjl9 s0 s1 s4 v6 n6) (quS9 s0 s1 s4 v6 n6):=by
 intro s g r hI hr
 obtain ⟨s7,s8,o6⟩:=s
 simp only [qmS9] at hI
 have hI0:=hI
 simp only [qfF9] at hr
 rcases iteP hr with ⟨h1,hr⟩ | ⟨h1,hr⟩
 try simp only [hI0] at h1
 rcases iteP hr with ⟨h2,hr⟩ | ⟨h2,hr⟩
 obtain ⟨x3,h3,hr⟩:=bsome hr
 rcases iteP hr with ⟨h4,hr⟩ | ⟨h4,hr⟩
 obtain ⟨x4,h5,x5,h6,x6,h7,hr⟩:=bs3 hr
 have h6a:=eq_true (qb9 h6).1
 have h6b : (s8 < (n6 : Int)) = True:=eq_true (by have hb : s8 < (o6.length : Int):=(qb9 h6).2.1; omega)
 have h6c:=(qb9 h6).2.2
 obtain rfl:=oiA hr
 refine ⟨⟨(),?_⟩,(show (o6.set (s8).toNat (IntKind.u32.wrap (IntKind.u64.wrap ((IntKind.u64.wrap (s7 + (IntKind.u64.wrap x3))) + (IntKind.u64.wrap x4))))).length = n6 by first | assumption | (simp only [llA,lrA]; first | done | assumption | omega) | omega)⟩
 rotate_left
 obtain ⟨x7,h8,x8,h9,hr⟩:=bs2 hr
 have h8a:=eq_true (qb9 h8).1
 have h8b : (s8 < (n6 : Int)) = True:=eq_true (by have hb : s8 < (o6.length : Int):=(qb9 h8).2.1; omega)
 have h8c:=(qb9 h8).2.2
 obtain rfl:=oiA hr
 refine ⟨⟨(),?_⟩,(show (o6.set (s8).toNat (IntKind.u32.wrap (IntKind.u64.wrap (s7 + (IntKind.u64.wrap x3))))).length = n6 by first | assumption | (simp only [llA,lrA]; first | done | assumption | omega) | omega)⟩
 rotate_left
 rcases iteP hr with ⟨h10,hr⟩ | ⟨h10,hr⟩
 obtain ⟨x9,h11,x10,h12,x11,h13,hr⟩:=bs3 hr
 have h12a:=eq_true (qb9 h12).1
 have h12b : (s8 < (n6 : Int)) = True:=eq_true (by have hb : s8 < (o6.length : Int):=(qb9 h12).2.1; omega)
 have h12c:=(qb9 h12).2.2
 obtain rfl:=oiA hr
 refine ⟨⟨(),?_⟩,(show (o6.set (s8).toNat (IntKind.u32.wrap (IntKind.u64.wrap (s7 + (IntKind.u64.wrap x9))))).length = n6 by first | assumption | (simp only [llA,lrA]; first | done | assumption | omega) | omega)⟩
 rotate_left
 obtain ⟨x12,h14,x13,h15,hr⟩:=bs2 hr
 have h14a:=eq_true (qb9 h14).1
 have h14b : (s8 < (n6 : Int)) = True:=eq_true (by have hb : s8 < (o6.length : Int):=(qb9 h14).2.1; omega)
 have h14c:=(qb9 h14).2.2
 obtain rfl:=oiA hr
 refine ⟨⟨(),?_⟩,(show (o6.set (s8).toNat (IntKind.u32.wrap s7)).length = n6 by first | assumption | (simp only [llA,lrA]; first | done | assumption | omega) | omega)⟩
 rotate_left
 try simp only [hI0] at h1
 obtain rfl:=oiA hr
 refine xe_of ⟨(),rfl,(show o6.length = n6 by first | assumption | (simp only [llA,lrA]; first | done | assumption | omega) | omega)⟩ ?_
 rotate_left
 all_goals (simp +decide only [go_sem,decide_not,qjl9,qqe9, *])
theorem qlz9 {a0 : List Int} {a1 : List Int} {r : (List Int) × Int} (hr : qhS9 a0 a1 = some r) : Res C 64 [.rd (a0.map qc9),.rd (a1.map qc9)] (.tp [.d (.rd (r.1.map qc9)),PI r.2]):=by
 simp only [qhS9] at hr
 obtain ⟨x1,h1,hr⟩:=bsome hr
 have h1k:=(qhA9 h1).k rfl rfl rfl
 try simp only [go_sem] at h1k
 rcases iteB hr with ⟨h2,hr⟩ | ⟨h2,hr⟩
 obtain ⟨x2,h3,hr⟩:=bsome hr
 have h3k:=(qhA9 h3).k rfl rfl rfl
 try simp only [go_sem] at h3k
 rcases iteB hr with ⟨h4,hr⟩ | ⟨h4,hr⟩
 obtain ⟨h5,hr⟩:=gsome hr
 obtain ⟨h6,hr⟩:=gsome hr
 obtain ⟨x14,h7,hr⟩:=bsome hr
 obtain ⟨q7,h7L,h7X⟩:=(quX9 (v6:=0) (n6:=(List.replicate (w64 ((max (a0.length : Int) (a1.length : Int)) + 1)).toNat (0 : Int)).length)).L (g:=()) h7 rfl
 obtain ⟨x15,x16,x17⟩:=x14
 try dsimp only at hr
 obtain ⟨⟨⟩,rfl,h7l0⟩:=h7X
 simp only [qjl9,go_sem] at h7L
 obtain ⟨x18,h8,hr⟩:=bsome hr
 have h8k:=fun h args=>(qup9 h8).o rfl rfl rfl (h:=h) (args:=args)
 try simp only [go_sem] at h8k
 obtain rfl:=oiA hr
 refine run_V is64 (nbA rfl) ?_
 rotate_left
 obtain rfl:=oiA hr
 refine run_V is64 (nbA rfl) ?_
 rotate_left
 obtain rfl:=oiA hr
 refine run_V is64 (nbA rfl) ?_
 rotate_left
 all_goals (simp +decide only [go_sem,decide_not,c64, *])
def qqu9 : ACode:=.seq (.seq (.reg [] [] [.M 6 5,.M 7 0,.T 8 (.len (.tmp 7)),.K 9 (.bin .lss (.tmp 6) (.tmp 8))]) (.cond (.tmp 9) (some 9) (.skip) (.exit 0))) (.seq (.block 1 524800 (.seq (.reg [] [] [.M 12 0,.M 13 5,.T 14 (.ix 2 (.tmp 12) (.tmp 13)),.T 15 (.fa 1 (.tmp 14)),.T 16 (.load none (.tmp 15)),.M 17 1,.T 18 (.call 41 [.tmp 16,.tmp 17]),.K 19 (.bin .eql (.tmp 18) (cI 0))]) (.cond (.tmp 19) (some 19) (.seq (.reg [] [] [.M 20 0,.M 21 5,.T 22 (.ix 2 (.tmp 20) (.tmp 21)),.T 23 (.fa 0 (.tmp 22)),.T 24 (.load none (.tmp 23)),.N 4 24]) (.ret)) (.skip)))) (.reg [] [] [.M 10 5,.T 11 (.bin .add (.tmp 10) (cI 1)),.N 5 11]))
def c52 : ACode:=.seq (.reg [] [(4,0)] [.K 4 (.mv (.const (.slice none 0 0)))]) (.seq (.seq (.reg [] [] [.K 5 (.mv (cI 0))]) (.block 0 524800 (.loop qqu9))) (.seq (.reg [] [(4,0)] [.T 25 (.lit 1 []),.N 4 25]) (.ret)))
theorem is52 : IsF C 52 26 524851 c52 [.tmp 4]:=⟨⟨Try.f52,_,C_P ▸ Try.func52,rfl,rfl,rfl,by kernel_rfl,rfl⟩⟩
def qhx9 (s0 : List Mono) (s1 : List Int) (s4 : List Int) : Int→Unit→St:=fun s5 _=>⟨[(0,.d (.rd (s0.map qa9))),(1,.d (.rd (s1.map intD))),(4,.d (.rd (s4.map qc9))),(5,PI s5)],[]⟩
def qsD9 (s0 : List Mono) (s1 : List Int) (s4 : List Int) : (((List Int)) ⊕ Int)→AExit × St→Prop
 | .inl r,q=>XV C [.tmp 4] (.d (.rd (r.map qc9))) q
 | .inr s5,q=>∃ g,q = (.exit 0,qhx9 s0 s1 s4 s5 g)
theorem qtu9 {s0 : List Mono} {s1 : List Int} {s4 : List Int} : Sim C 524851 qqu9 (qfW9 s0 s1 s4) (qhx9 s0 s1 s4) (qsD9 s0 s1 s4):=by
 intro s g r hr
 have ⟨s5,hs0⟩ : ∃ y,y = s:=⟨_,rfl⟩
 subst hs0
 simp only [qfW9] at hr
 rcases iteP hr with ⟨h1,hr⟩ | ⟨h1,hr⟩
 obtain ⟨x1,h2,x2,h3,hr⟩:=bs2 hr
 have h3k:=(qkf9 h3).k rfl rfl rfl
 try simp only [go_sem] at h3k
 rcases iteP hr with ⟨h4,hr⟩ | ⟨h4,hr⟩
 obtain rfl:=oiA hr
 refine xv_of ?_
 rotate_left
 obtain rfl:=oiA hr
 refine ⟨(),?_⟩
 rotate_left
 obtain rfl:=oiA hr
 refine xe_of ⟨(),rfl⟩ ?_
 rotate_left
 all_goals (simp +decide only [go_sem,decide_not,qhx9,qqu9, *])
theorem qkT9 {a0 : List Mono} {a1 : List Int} {r : (List Int)} (hr : qgZ9 a0 a1 = some r) : Res C 52 [.rd (a0.map qa9),.rd (a1.map intD)] (.d (.rd (r.map qc9))):=by
 simp only [qgZ9] at hr
 obtain ⟨x3,h1,hr⟩:=bsome hr
 obtain ⟨q1,h1L,h1X⟩:=qtu9.L (g:=()) h1
 rcases x3 with x4 | x5
 try dsimp only at hr
 obtain ⟨st1,rfl,h1R⟩:=h1X
 simp only [qhx9,go_sem] at h1L
 obtain rfl:=oiA hr
 refine run_V is52 (nbA rfl) ?_
 rotate_left
 try dsimp only at hr
 obtain ⟨⟨⟩,rfl⟩:=h1X
 simp only [qhx9,go_sem] at h1L
 obtain rfl:=oiA hr
 refine run_V is52 (nbA rfl) ?_
 rotate_left
 all_goals (simp +decide only [go_sem,decide_not,c52, *])
end Ld

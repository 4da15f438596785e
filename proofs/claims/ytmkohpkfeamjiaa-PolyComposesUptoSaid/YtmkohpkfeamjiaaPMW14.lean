import Derived.Test.YtmkohpkfeamjiaaPMW12
import Derived.Test.YtmkohpkfeamjiaaPMW13
set_option maxHeartbeats 60000000
set_option linter.unusedVariables false
set_option linter.unusedSimpArgs false
set_option linter.unusedSectionVars false
namespace Ld
open Go Go.Proofs Go.Abs
set_option maxRecDepth 8000
def qnK9 : ACode:=.seq (.seq (.reg [] [] [.M 20 9,.T 21 (.fa 1 (.tmp 2)),.T 22 (.load none (.tmp 21)),.T 23 (.len (.tmp 22)),.T 24 (.bin .lss (.tmp 20) (.tmp 23)),.M 25 24,.MG 26 25 false 9,.TG 27 25 false (.fa 1 (.tmp 3)),.TG 28 25 false (.load none (.tmp 27)),.TG 29 25 false (.len (.tmp 28)),.TG 30 25 false (.bin .lss (.tmp 26) (.tmp 29)),.K 31 (.pick (.tmp 25) (.const (.bool true)) (.tmp 30))]) (.cond (.tmp 31) (some 31) (.skip) (.exit 0))) (.seq (.block 1 2147483648 (.reg [] [] [.T 34 (.fa 1 (.tmp 8)),⟨some (35,false),.load none (.tmp 34),none,true,false⟩,.T 36 (.fa 1 (.tmp 2)),⟨some (37,false),.load none (.tmp 36),none,true,false⟩,.M 38 9,⟨some (39,false),.call 71 [.tmp 37,.tmp 38],none,true,false⟩,.T 40 (.fa 1 (.tmp 3)),⟨some (41,false),.load none (.tmp 40),none,true,false⟩,.M 42 9,⟨some (43,false),.call 71 [.tmp 41,.tmp 42],none,true,false⟩,.T 44 (.bin .add (.tmp 39) (.tmp 43)),.T 45 (.lit 1 [(0,.tmp 44)]),.T 46 (.app 1 8 (.tmp 35) (.tmp 45)),.T 47 (.fa 1 (.tmp 8)),⟨none,.store 1 (.tmp 47) (.tmp 46),none,false,false⟩])) (.reg [] [] [.M 32 9,.T 33 (.bin .add (.tmp 32) (cI 1)),.N 9 33]))
def c54 : ACode:=.seq (.reg [] [(4,4095)] [.K 2 (.box (.tmp 0)),.K 3 (.box (.tmp 1)),.K 4 (.alloc [.im true [],.im true []] 2),.K 5 (.mv (.const (.bool false)))]) (.seq (.reg [] [] [.T 11 (.fa 0 (.tmp 2)),.T 12 (.load none (.tmp 11)),.T 13 (.fa 0 (.tmp 3)),.T 14 (.load none (.tmp 13)),.T 15 (.call 63 [.tmp 12,.tmp 14]),.M 10 15,.T 16 (.ext (.tmp 10) 0),.T 17 (.ext (.tmp 10) 1),.N 6 16,.N 7 17]) (.seq (.reg [] [(8,4097)] [.M 18 6,.T 19 (.build [(0,1),(1,1)] [.im true [],.im true []] [(0,.tmp 18)]),.K 8 (.alloc [.im true [],.im true []] 2),⟨none,.store 2 (.tmp 8) (.tmp 19),none,false,false⟩]) (.seq (.seq (.reg [] [] [.K 9 (.mv (cI 0))]) (.block 0 2147483648 (.loop qnK9))) (.seq (.reg [] [] [⟨some (48,false),.load (some 2) (.tmp 8),none,true,false⟩,.M 49 7,.T 50 (.bin .eql (.tmp 49) (cI 0)),.M 51 50,⟨some (52,false),.load (some 2) (.tmp 8),some (51,true),true,false⟩,⟨some (53,false),.call 42 [.tmp 52],some (51,true),true,false⟩,.T 54 (.pick (.tmp 51) (.tmp 53) (.const (.bool false))),⟨none,.store 2 (.tmp 4) (.tmp 48),none,false,false⟩,.N 5 54]) (.ret)))))
theorem is54 : IsF C 54 55 2147484671 c54 [.cell 4 51,.tmp 5]:=⟨⟨Try.f54,_,C_P ▸ Try.func54,rfl,rfl,rfl,by kernel_rfl,rfl⟩⟩
def qfZ9 (s0 : Mono) (s1 : Mono) (s6 : List Int) (s7 : Int) (b2_0 : List Int) (b2_1 : List Int) (b3_0 : List Int) (b3_1 : List Int) (b4_0 : List Int) (b4_1 : List Int) (b8_0 : List Int) : Int × (List Int)→Nat × AHeap→St:=fun (s9,o8_1) (v8_1,gt)=>⟨[(0,.d (.ag (qa9 s0))),(1,.d (.ag (qa9 s1))),(2,.ptr 0 0 0 0),(3,.ptr 1 0 0 0),(4,.ptr 2 0 0 0),(5,PB false),(6,.d (.rd (s6.map qb9))),(7,PI s7),(8,.ptr 3 0 0 0),(9,PI s9)],(.row false 0 2 [[.d (.rd (b2_0.map qb9)),.d (.rd (b2_1.map intD))]]::(.row false 0 2 [[.d (.rd (b3_0.map qb9)),.d (.rd (b3_1.map intD))]]::(.row false 0 2 [[.d (.rd (b4_0.map qb9)),.d (.rd (b4_1.map intD))]]::(.row false 0 2 [[.d (.rd (b8_0.map qb9)),.ref 4 v8_1 0 o8_1.length]]::(.row false v8_1 1 (rowP intD o8_1)::gt)))))⟩
def qoe9 (s0 : Mono) (s1 : Mono) (s6 : List Int) (s7 : Int) (b2_0 : List Int) (b2_1 : List Int) (b3_0 : List Int) (b3_1 : List Int) (b4_0 : List Int) (b4_1 : List Int) (b8_0 : List Int) : (Int × (List Int))→AExit × St→Prop:=fun (s9,o8_1) q=>∃ g,q = (.exit 0,qfZ9 s0 s1 s6 s7 b2_0 b2_1 b3_0 b3_1 b4_0 b4_1 b8_0 (s9,o8_1) g)
theorem qou9 {s0 : Mono} {s1 : Mono} {s6 : List Int} {s7 : Int} {b2_0 : List Int} {b2_1 : List Int} {b3_0 : List Int} {b3_1 : List Int} {b4_0 : List Int} {b4_1 : List Int} {b8_0 : List Int} : Sim C 2147484671 qnK9 (qcY9 s0 s1 s6 s7 b2_0 b2_1 b3_0 b3_1 b4_0 b4_1 b8_0) (qfZ9 s0 s1 s6 s7 b2_0 b2_1 b3_0 b3_1 b4_0 b4_1 b8_0) (qoe9 s0 s1 s6 s7 b2_0 b2_1 b3_0 b3_1 b4_0 b4_1 b8_0):=by
 intro s g r hr
 obtain ⟨s9,o8_1⟩:=s
 obtain ⟨v8_1,gt⟩:=g
 simp only [qcY9] at hr
 rcases iteP hr with ⟨h1,hr⟩ | ⟨h1,hr⟩
 obtain ⟨x2,h2,x3,h3,hr⟩:=bs2 hr
 have h2k:=(qdW9 h2).k rfl rfl rfl
 try simp only [go_sem] at h2k
 have h3k:=(qdW9 h3).k rfl rfl rfl
 try simp only [go_sem] at h3k
 obtain ⟨h4,hr⟩:=gsome hr
 obtain rfl:=oiA hr
 refine ⟨((v8_1 + 1),gt),?_⟩
 rotate_left
 rcases iteP hr with ⟨h5,hr⟩ | ⟨h5,hr⟩
 obtain ⟨x4,h6,x5,h7,hr⟩:=bs2 hr
 have h6k:=(qdW9 h6).k rfl rfl rfl
 try simp only [go_sem] at h6k
 have h7k:=(qdW9 h7).k rfl rfl rfl
 try simp only [go_sem] at h7k
 obtain ⟨h8,hr⟩:=gsome hr
 obtain rfl:=oiA hr
 refine ⟨((v8_1 + 1),gt),?_⟩
 rotate_left
 obtain rfl:=oiA hr
 refine xe_of ⟨(v8_1,gt),rfl⟩ ?_
 rotate_left
 all_goals (simp +decide only [go_sem,decide_not,qfZ9,qnK9, *])
theorem qqA9 {a0 : Mono} {a1 : Mono} {r : Mono × Bool} (hr : qgS9 a0 a1 = some r) : Res C 54 [.ag (qa9 a0),.ag (qa9 a1)] (.tp [.d (.ag (qa9 r.1)),PB r.2]):=by
 simp only [qgS9] at hr
 obtain ⟨x1,h1,hr⟩:=bsome hr
 have h1k:=(quk9 h1).k rfl rfl rfl
 try simp only [go_sem] at h1k
 obtain ⟨x6,h2,hr⟩:=bsome hr
 obtain ⟨q2,h2L,h2X⟩:=qou9.L (g:=(0,[])) h2
 obtain ⟨x7,x8⟩:=x6
 try dsimp only at hr
 obtain ⟨⟨z9,z10⟩,rfl⟩:=h2X
 simp only [qfZ9,go_sem] at h2L
 rcases iteP hr with ⟨h3,hr⟩ | ⟨h3,hr⟩
 obtain ⟨x11,h4,hr⟩:=bsome hr
 have h4k:=fun h args=>(qhS9 h4).o rfl rfl rfl (h:=h) (args:=args)
 try simp only [go_sem] at h4k
 obtain rfl:=oiA hr
 refine run_V is54 (nbA rfl) ?_
 rotate_left
 obtain rfl:=oiA hr
 refine run_V is54 (nbA rfl) ?_
 rotate_left
 all_goals (simp +decide only [go_sem,decide_not,c54, *])
def qoa9 : ACode:=.seq (.seq (.reg [] [] [.M 24 8,.M 25 6,.T 26 (.len (.tmp 25)),.K 27 (.bin .lss (.tmp 24) (.tmp 26))]) (.cond (.tmp 27) (some 27) (.skip) (.exit 0))) (.seq (.block 1 17600910196736 (.seq (.seq (.reg [] [] [.M 30 8,.M 31 0,.T 32 (.len (.tmp 31)),.K 33 (.bin .lss (.tmp 30) (.tmp 32))]) (.cond (.tmp 33) (some 33) (.reg [] [] [.M 34 7,.M 35 0,.M 36 8,.T 37 (.ix 1 (.tmp 35) (.tmp 36)),.T 38 (.load none (.tmp 37)),.T 39 (.wrap .u64 (.tmp 38)),.T 40 (.bin .add (.tmp 34) (.tmp 39)),.N 7 40]) (.skip))) (.seq (.seq (.reg [] [] [.M 41 8,.M 42 1,.T 43 (.len (.tmp 42)),.K 44 (.bin .lss (.tmp 41) (.tmp 43))]) (.cond (.tmp 44) (some 44) (.reg [] [] [.M 45 7,.M 46 1,.M 47 8,.T 48 (.ix 1 (.tmp 46) (.tmp 47)),.T 49 (.load none (.tmp 48)),.T 50 (.wrap .u64 (.tmp 49)),.T 51 (.bin .add (.tmp 45) (.tmp 50)),.N 7 51]) (.skip))) (.seq (.reg [] [] [.M 52 6,.M 53 8,.M 54 7,.T 55 (.wrap .u32 (.tmp 54)),.T 56 (.ix 1 (.tmp 52) (.tmp 53)),⟨none,.store 1 (.tmp 56) (.tmp 55),none,false,false⟩]) (.reg [] [] [.M 57 7,.T 58 (.sh .shr (.tmp 57) (.const (.int .u64 32))),.N 7 58]))))) (.reg [] [] [.M 28 8,.T 29 (.bin .add (.tmp 28) (cI 1)),.N 8 29]))
def c64 : ACode := .seq (.reg [] [(4, 0)] [.K 4 (.mv (.const (.slice none 0 0))), .K 5 (.mv (cI 0))]) (.seq (.seq (.reg [] [] [.M 9 0, .T 10 (.call 62 [.tmp 9]), .T 11 (.not (.tmp 10)), .M 12 11, .MG 13 12 false 1, .TG 14 12 false (.call 62 [.tmp 13]), .TG 15 12 false (.not (.tmp 14)), .K 16 (.pick (.tmp 12) (.const (.bool true)) (.tmp 15))]) (.cond (.tmp 16) (some 16) (.seq (.reg [] [(4, 0)] [.K 4 (.mv (.const (.slice none 0 0))), .K 5 (.mv (cI 10))]) (.ret)) (.skip))) (.seq (.reg [] [] [.M 17 0, .T 18 (.len (.tmp 17)), .M 19 1, .T 20 (.len (.tmp 19)), .T 21 (.raw ({ dst := some 21, op := Go.Op.call { callee := Go.Callee.builtin Go.Builtin.max, args := #[.tmp 18, .tmp 20], argTypes := #[3, 3] }, type := 3, pos := "ref.go:36", after := #[{ on := 1, ground := Go.Ground.data }, { on := 3, ground := Go.Ground.data }], guard := none })), .T 22 (.bin .add (.tmp 21) (cI 1)), .T 23 (.mkSl [.d (.v (.int .u32 0))] 1 4 (.tmp 22) (.tmp 22)), .N 6 23]) (.seq (.reg [] [] [.K 7 (.mv (.const (.int .u64 0)))]) (.seq (.seq (.reg [] [] [.K 8 (.mv (cI 0))]) (.block 0 17600910196736 (.loop qoa9))) (.seq (.reg [] [] [.M 59 6, .T 60 (.call 81 [.tmp 59]), .T 61 (.ext (.tmp 60) 0), .T 62 (.ext (.tmp 60) 1), .N 4 61, .N 5 62]) (.ret))))))
theorem is64 : IsF C 64 63 17600910262771 c64 [.tmp 4,.tmp 5]:=⟨⟨Try.f64,_,C_P ▸ Try.func64,rfl,rfl,rfl,by kernel_rfl,rfl⟩⟩
def qhh9 (s0 : List Int) (s1 : List Int) (s4 : List Int) (v6 : Nat) (n6 : Nat) : Int × Int × (List Int)→Unit→St:=fun (s7,s8,o6) _=>⟨[(0,.d (.rd (s0.map qb9))),(1,.d (.rd (s1.map qb9))),(4,.d (.rd (s4.map qb9))),(5,PI 0),(6,.ref 0 v6 0 n6),(7,.d (.v (.int .u64 s7))),(8,PI s8)],(.row false v6 1 (rowP qb9 o6)::[])⟩
def qkP9 (s0 : List Int) (s1 : List Int) (s4 : List Int) (v6 : Nat) (n6 : Nat) : Int × Int × (List Int)→Prop:=fun (s7,s8,o6)=>o6.length = n6
def qsy9 (s0 : List Int) (s1 : List Int) (s4 : List Int) (v6 : Nat) (n6 : Nat) : (Int × Int × (List Int))→AExit × St→Prop:=fun (s7,s8,o6) q=>∃ g,q = (.exit 0,qhh9 s0 s1 s4 v6 n6 (s7,s8,o6) g)∧o6.length = n6
theorem qsE9 {s0 : List Int} {s1 : List Int} {s4 : List Int} {v6 : Nat} {n6 : Nat} : SimI C 17600910262771 qoa9 (qkP9 s0 s1 s4 v6 n6) (qdo9 s0 s1 s4) (qhh9 s0 s1 s4 v6 n6) (qsy9 s0 s1 s4 v6 n6):=by
 intro s g r hI hr
 obtain ⟨s7,s8,o6⟩:=s
 simp only [qkP9] at hI
 have hI0:=hI
 simp only [qdo9] at hr
 rcases iteP hr with ⟨h1,hr⟩ | ⟨h1,hr⟩
 try simp only [hI0] at h1
 rcases iteP hr with ⟨h2,hr⟩ | ⟨h2,hr⟩
 obtain ⟨x3,h3,hr⟩:=bsome hr
 rcases iteP hr with ⟨h4,hr⟩ | ⟨h4,hr⟩
 obtain ⟨x4,h5,x5,h6,x6,h7,hr⟩:=bs3 hr
 have h6a:=eq_true (ql9 h6).1
 have h6b : (s8 < (n6 : Int)) = True:=eq_true (by have hb : s8 < (o6.length : Int):=(ql9 h6).2.1; omega)
 have h6c:=(ql9 h6).2.2
 obtain rfl:=oiA hr
 refine ⟨⟨(),?_⟩,(show (o6.set (s8).toNat (IntKind.u32.wrap (IntKind.u64.wrap ((IntKind.u64.wrap (s7 + (IntKind.u64.wrap x3))) + (IntKind.u64.wrap x4))))).length = n6 by first | assumption | (simp only [llA,lrA]; first | done | assumption | omega) | omega)⟩
 rotate_left
 obtain ⟨x7,h8,x8,h9,hr⟩:=bs2 hr
 have h8a:=eq_true (ql9 h8).1
 have h8b : (s8 < (n6 : Int)) = True:=eq_true (by have hb : s8 < (o6.length : Int):=(ql9 h8).2.1; omega)
 have h8c:=(ql9 h8).2.2
 obtain rfl:=oiA hr
 refine ⟨⟨(),?_⟩,(show (o6.set (s8).toNat (IntKind.u32.wrap (IntKind.u64.wrap (s7 + (IntKind.u64.wrap x3))))).length = n6 by first | assumption | (simp only [llA,lrA]; first | done | assumption | omega) | omega)⟩
 rotate_left
 rcases iteP hr with ⟨h10,hr⟩ | ⟨h10,hr⟩
 obtain ⟨x9,h11,x10,h12,x11,h13,hr⟩:=bs3 hr
 have h12a:=eq_true (ql9 h12).1
 have h12b : (s8 < (n6 : Int)) = True:=eq_true (by have hb : s8 < (o6.length : Int):=(ql9 h12).2.1; omega)
 have h12c:=(ql9 h12).2.2
 obtain rfl:=oiA hr
 refine ⟨⟨(),?_⟩,(show (o6.set (s8).toNat (IntKind.u32.wrap (IntKind.u64.wrap (s7 + (IntKind.u64.wrap x9))))).length = n6 by first | assumption | (simp only [llA,lrA]; first | done | assumption | omega) | omega)⟩
 rotate_left
 obtain ⟨x12,h14,x13,h15,hr⟩:=bs2 hr
 have h14a:=eq_true (ql9 h14).1
 have h14b : (s8 < (n6 : Int)) = True:=eq_true (by have hb : s8 < (o6.length : Int):=(ql9 h14).2.1; omega)
 have h14c:=(ql9 h14).2.2
 obtain rfl:=oiA hr
 refine ⟨⟨(),?_⟩,(show (o6.set (s8).toNat (IntKind.u32.wrap s7)).length = n6 by first | assumption | (simp only [llA,lrA]; first | done | assumption | omega) | omega)⟩
 rotate_left
 try simp only [hI0] at h1
 obtain rfl:=oiA hr
 refine xe_of ⟨(),rfl,(show o6.length = n6 by first | assumption | (simp only [llA,lrA]; first | done | assumption | omega) | omega)⟩ ?_
 rotate_left
 all_goals (simp +decide only [go_sem,decide_not,qhh9,qoa9, *])
theorem qjs9 {a0 : List Int} {a1 : List Int} {r : (List Int) × Int} (hr : qfF9 a0 a1 = some r) : Res C 64 [.rd (a0.map qb9),.rd (a1.map qb9)] (.tp [.d (.rd (r.1.map qb9)),PI r.2]):=by
 simp only [qfF9] at hr
 obtain ⟨x1,h1,hr⟩:=bsome hr
 have h1k:=(qfn9 h1).k rfl rfl rfl
 try simp only [go_sem] at h1k
 rcases iteB hr with ⟨h2,hr⟩ | ⟨h2,hr⟩
 obtain ⟨x2,h3,hr⟩:=bsome hr
 have h3k:=(qfn9 h3).k rfl rfl rfl
 try simp only [go_sem] at h3k
 rcases iteB hr with ⟨h4,hr⟩ | ⟨h4,hr⟩
 obtain ⟨h5,hr⟩:=gsome hr
 obtain ⟨h6,hr⟩:=gsome hr
 obtain ⟨x14,h7,hr⟩:=bsome hr
 obtain ⟨q7,h7L,h7X⟩:=(qsE9 (v6:=0) (n6:=(List.replicate (w64 ((max (a0.length : Int) (a1.length : Int)) + 1)).toNat (0 : Int)).length)).L (g:=()) h7 rfl
 obtain ⟨x15,x16,x17⟩:=x14
 try dsimp only at hr
 obtain ⟨⟨⟩,rfl,h7l0⟩:=h7X
 simp only [qhh9,go_sem] at h7L
 obtain ⟨x18,h8,hr⟩:=bsome hr
 have h8k:=fun h args=>(qkV9 h8).o rfl rfl rfl (h:=h) (args:=args)
 try simp only [go_sem] at h8k
 obtain rfl:=oiA hr
 refine run_V is64 (nbA rfl) ?_
 rotate_left
 obtain rfl:=oiA hr
 refine run_V is64 (nbA rfl) ?_
 rotate_left
 obtain rfl:=oiA hr
 refine run_V is64 (nbA rfl) ?_
 rotate_left
 all_goals (simp +decide only [go_sem,decide_not,c64, *])
end Ld

import Derived.Test.YtmkohpkfeamjiaaPVW1
import Derived.Test.YtmkohpkfeamjiaaPVW2
import Derived.Test.YtmkohpkfeamjiaaPVW3
set_option maxHeartbeats 60000000
set_option linter.unusedVariables false
set_option linter.unusedSimpArgs false
set_option linter.unusedSectionVars false
namespace Ld
open Go Go.Proofs Go.Abs
set_option maxRecDepth 8000
def qpt9 : ACode:=.seq (.reg [] [] [.K 32 (.bin .lss (.tmp 31) (.tmp 30))]) (.seq (.cond (.tmp 32) (some 32) (.skip) (.exit 0)) (.seq (.block 1 8800387990272 (.seq (.reg [] [] [.M 33 31,.T 34 (.ix 1 (.tmp 29) (.tmp 31)),.T 35 (.load none (.tmp 34)),.N 8 33,.N 9 35]) (.seq (.reg [] [] [.M 36 7,.M 37 9,.T 38 (.wrap .u64 (.tmp 37)),.T 39 (.bin .add (.tmp 36) (.tmp 38)),.N 7 39]) (.seq (.seq (.reg [] [] [.M 40 8,.M 41 1,.T 42 (.len (.tmp 41)),.K 43 (.bin .lss (.tmp 40) (.tmp 42))]) (.cond (.tmp 43) (some 43) (.reg [] [] [.M 44 7,.M 45 1,.M 46 8,.T 47 (.ix 1 (.tmp 45) (.tmp 46)),.T 48 (.load none (.tmp 47)),.T 49 (.wrap .u64 (.tmp 48)),.T 50 (.bin .add (.tmp 44) (.tmp 49)),.N 7 50]) (.skip))) (.seq (.reg [] [] [.M 51 6,.M 52 8,.M 53 7,.T 54 (.wrap .u32 (.tmp 53)),.T 55 (.ix 1 (.tmp 51) (.tmp 52)),⟨none,.store 1 (.tmp 55) (.tmp 54),none,false,false⟩]) (.reg [] [] [.M 56 7,.T 57 (.sh .shr (.tmp 56) (.const (.int .u64 32))),.N 7 57])))))) (.reg [] [] [.T 58 (.bin .add (.tmp 31) (cI 1)),.N 31 58])))
def c32 : ACode:=.seq (.reg [] [(4,0)] [.K 4 (.mv (.const (.slice none 0 0))),.K 5 (.mv (cI 0))]) (.seq (.seq (.reg [] [] [.M 10 0,.T 11 (.call 59 [.tmp 10]),.T 12 (.not (.tmp 11)),.M 13 12,.MG 14 13 false 1,.TG 15 13 false (.call 59 [.tmp 14]),.TG 16 13 false (.not (.tmp 15)),.K 17 (.pick (.tmp 13) (.const (.bool true)) (.tmp 16))]) (.cond (.tmp 17) (some 17) (.seq (.reg [] [(4,0)] [.K 4 (.mv (.const (.slice none 0 0))),.K 5 (.mv (cI 10))]) (.ret)) (.skip))) (.seq (.seq (.reg [] [] [.M 18 0,.T 19 (.len (.tmp 18)),.M 20 1,.T 21 (.len (.tmp 20)),.K 22 (.bin .lss (.tmp 19) (.tmp 21))]) (.cond (.tmp 22) (some 22) (.reg [] [] [.M 23 1,.M 24 0,.N 0 23,.N 1 24]) (.skip))) (.seq (.reg [] [] [.M 25 0,.T 26 (.len (.tmp 25)),.T 27 (.bin .add (.tmp 26) (cI 1)),.T 28 (.mkSl [.d (.v (.int .u32 0))] 1 4 (.tmp 27) (.tmp 27)),.N 6 28]) (.seq (.reg [] [] [.K 7 (.mv (.const (.int .u64 0)))]) (.seq (.seq (.reg [] [] [.N 29 0,.K 30 (.len (.tmp 29)),.K 31 (.mv (cI 0))]) (.block 0 8800387990272 (.loop qpt9))) (.seq (.reg [] [] [.M 59 6,.M 60 0,.T 61 (.len (.tmp 60)),.M 62 7,.T 63 (.wrap .u32 (.tmp 62)),.T 64 (.ix 1 (.tmp 59) (.tmp 61)),⟨none,.store 1 (.tmp 64) (.tmp 63),none,false,false⟩]) (.seq (.reg [] [] [.M 65 6,.T 66 (.call 65 [.tmp 65]),.T 67 (.ext (.tmp 66) 0),.T 68 (.ext (.tmp 66) 1),.N 4 67,.N 5 68]) (.ret))))))))
theorem is32 : IsF C 32 69 8804150412275 c32 [.tmp 4,.tmp 5]:=⟨⟨Try.f32,_,C_P ▸ Try.func32,rfl,rfl,rfl,by kernel_rfl,rfl⟩⟩
def qib9 (s0 : List Int) (s1 : List Int) (s4 : List Int) (s29 : List Int) (s30 : Int) (v6 : Nat) (n6 : Nat) : Int × Int × (List Int)→Unit→St:=fun (s7,s31,o6) _=>⟨[(0,.d (.rd (s0.map qc9))),(1,.d (.rd (s1.map qc9))),(4,.d (.rd (s4.map qc9))),(5,PI 0),(6,.ref 0 v6 0 n6),(7,.d (.v (.int .u64 s7))),(29,.d (.rd (s29.map qc9))),(30,PI s30),(31,PI s31)],(.row false v6 1 (rowP qc9 o6)::[])⟩
def qmR9 (s0 : List Int) (s1 : List Int) (s4 : List Int) (s29 : List Int) (s30 : Int) (v6 : Nat) (n6 : Nat) : Int × Int × (List Int)→Prop:=fun (s7,s31,o6)=>o6.length = n6
def qtW9 (s0 : List Int) (s1 : List Int) (s4 : List Int) (s29 : List Int) (s30 : Int) (v6 : Nat) (n6 : Nat) : (Int × Int × (List Int))→AExit × St→Prop:=fun (s7,s31,o6) q=>∃ g,q = (.exit 0,qib9 s0 s1 s4 s29 s30 v6 n6 (s7,s31,o6) g)∧o6.length = n6
theorem qmM9 {s0 : List Int} {s1 : List Int} {s4 : List Int} {s29 : List Int} {s30 : Int} {v6 : Nat} {n6 : Nat} : SimI C 8804150412275 qpt9 (qmR9 s0 s1 s4 s29 s30 v6 n6) (qdw9 s0 s1 s4 s29 s30) (qib9 s0 s1 s4 s29 s30 v6 n6) (qtW9 s0 s1 s4 s29 s30 v6 n6):=by
 intro s g r hI hr
 obtain ⟨s7,s31,o6⟩:=s
 simp only [qmR9] at hI
 have hI0:=hI
 simp only [qdw9] at hr
 rcases iteP hr with ⟨h1,hr⟩ | ⟨h1,hr⟩
 obtain ⟨x15,h2,hr⟩:=bsome hr
 rcases iteP hr with ⟨h3,hr⟩ | ⟨h3,hr⟩
 obtain ⟨x16,h4,x17,h5,x18,h6,hr⟩:=bs3 hr
 have h5a:=eq_true (qb9 h5).1
 have h5b : (s31 < (n6 : Int)) = True:=eq_true (by have hb : s31 < (o6.length : Int):=(qb9 h5).2.1; omega)
 have h5c:=(qb9 h5).2.2
 obtain rfl:=oiA hr
 refine ⟨⟨(),?_⟩,(show (o6.set (s31).toNat (IntKind.u32.wrap (IntKind.u64.wrap ((IntKind.u64.wrap (s7 + (IntKind.u64.wrap x15))) + (IntKind.u64.wrap x16))))).length = n6 by first | assumption | (simp only [llA,lrA]; first | done | assumption | omega) | omega)⟩
 rotate_left
 obtain ⟨x19,h7,x20,h8,hr⟩:=bs2 hr
 have h7a:=eq_true (qb9 h7).1
 have h7b : (s31 < (n6 : Int)) = True:=eq_true (by have hb : s31 < (o6.length : Int):=(qb9 h7).2.1; omega)
 have h7c:=(qb9 h7).2.2
 obtain rfl:=oiA hr
 refine ⟨⟨(),?_⟩,(show (o6.set (s31).toNat (IntKind.u32.wrap (IntKind.u64.wrap (s7 + (IntKind.u64.wrap x15))))).length = n6 by first | assumption | (simp only [llA,lrA]; first | done | assumption | omega) | omega)⟩
 rotate_left
 obtain rfl:=oiA hr
 refine xe_of ⟨(),rfl,(show o6.length = n6 by first | assumption | (simp only [llA,lrA]; first | done | assumption | omega) | omega)⟩ ?_
 rotate_left
 all_goals (simp +decide only [go_sem,decide_not,qib9,qpt9, *])
theorem qnO9 {a0 : List Int} {a1 : List Int} {r : (List Int) × Int} (hr : qiZ9 a0 a1 = some r) : Res C 32 [.rd (a0.map qc9),.rd (a1.map qc9)] (.tp [.d (.rd (r.1.map qc9)),PI r.2]):=by
 simp only [qiZ9] at hr
 obtain ⟨x1,h1,hr⟩:=bsome hr
 have h1k:=(qfd9 h1).k rfl rfl rfl
 try simp only [go_sem] at h1k
 rcases iteB hr with ⟨h2,hr⟩ | ⟨h2,hr⟩
 obtain ⟨x2,h3,hr⟩:=bsome hr
 have h3k:=(qfd9 h3).k rfl rfl rfl
 try simp only [go_sem] at h3k
 rcases iteB hr with ⟨h4,hr⟩ | ⟨h4,hr⟩
 rcases iteP hr with ⟨h5,hr⟩ | ⟨h5,hr⟩
 obtain ⟨h6,hr⟩:=gsome hr
 obtain ⟨h7,hr⟩:=gsome hr
 obtain ⟨x9,h8,hr⟩:=bsome hr
 obtain ⟨q8,h8L,h8X⟩:=(qmM9 (v6:=0) (n6:=(List.replicate (w64 ((a1.length : Int) + 1)).toNat (0 : Int)).length)).L (g:=()) h8 rfl
 obtain ⟨x10,x11,x12⟩:=x9
 try dsimp only at hr
 obtain ⟨⟨⟩,rfl,h8l0⟩:=h8X
 simp only [qib9,go_sem] at h8L
 obtain ⟨x13,h9,x14,h10,hr⟩:=bs2 hr
 have h9a:=eq_true (qb9 h9).1
 have h9b : ((a1.length : Int) < (((List.replicate (w64 ((a1.length : Int) + 1)).toNat (0 : Int)).length) : Int)) = True:=eq_true (by have hb : (a1.length : Int) < (x12.length : Int):=(qb9 h9).2.1; omega)
 try simp only [List.length_replicate] at h9b
 have h9c:=(qb9 h9).2.2
 have h10k:=fun h args=>(qkL9 h10).o rfl rfl rfl (h:=h) (args:=args)
 try simp only [go_sem] at h10k
 obtain rfl:=oiA hr
 refine run_V is32 (nbA rfl) ?_
 rotate_left
 obtain ⟨h11,hr⟩:=gsome hr
 obtain ⟨h12,hr⟩:=gsome hr
 obtain ⟨x21,h13,hr⟩:=bsome hr
 obtain ⟨q13,h13L,h13X⟩:=(qmM9 (v6:=0) (n6:=(List.replicate (w64 ((a0.length : Int) + 1)).toNat (0 : Int)).length)).L (g:=()) h13 rfl
 obtain ⟨x22,x23,x24⟩:=x21
 try dsimp only at hr
 obtain ⟨⟨⟩,rfl,h13l0⟩:=h13X
 simp only [qib9,go_sem] at h13L
 obtain ⟨x25,h14,x26,h15,hr⟩:=bs2 hr
 have h14a:=eq_true (qb9 h14).1
 have h14b : ((a0.length : Int) < (((List.replicate (w64 ((a0.length : Int) + 1)).toNat (0 : Int)).length) : Int)) = True:=eq_true (by have hb : (a0.length : Int) < (x24.length : Int):=(qb9 h14).2.1; omega)
 try simp only [List.length_replicate] at h14b
 have h14c:=(qb9 h14).2.2
 have h15k:=fun h args=>(qkL9 h15).o rfl rfl rfl (h:=h) (args:=args)
 try simp only [go_sem] at h15k
 obtain rfl:=oiA hr
 refine run_V is32 (nbA rfl) ?_
 rotate_left
 obtain rfl:=oiA hr
 refine run_V is32 (nbA rfl) ?_
 rotate_left
 obtain rfl:=oiA hr
 refine run_V is32 (nbA rfl) ?_
 rotate_left
 all_goals (simp +decide only [go_sem,decide_not,c32, *])
def c45 : ACode:=.seq (.reg [] [] [.K 3 (.box (.tmp 1)),.K 4 (.mv (.const (.bool false)))]) (.seq (.seq (.reg [] [] [.T 10 (.load (some 2) (.tmp 3)),.T 11 (.call 39 [.tmp 10]),.K 12 (.not (.tmp 11))]) (.cond (.tmp 12) (some 12) (.seq (.reg [] [] [.K 4 (.mv (.const (.bool false)))]) (.ret)) (.skip))) (.seq (.reg [] [] [.T 13 (.fa 1 (.tmp 3)),.T 14 (.load none (.tmp 13)),.T 15 (.call 73 [.tmp 14]),.N 5 15]) (.seq (.seq (.reg [] [] [.M 17 0,.M 18 5,.T 19 (.look (Go.TypeDesc.string) (.ag [.im true [],.im true []]) (.tmp 17) (.tmp 18) true),.M 16 19,.T 20 (.ext (.tmp 16) 0),.T 21 (.ext (.tmp 16) 1),.K 6 (.alloc [.im true [],.im true []] 2),⟨none,.store 2 (.tmp 6) (.tmp 20),none,false,false⟩,.N 7 21]) (.seq (.reg [] [] [.N 22 7]) (.cond (.tmp 22) (some 22) (.seq (.reg [] [] [.T 24 (.fa 0 (.tmp 6)),.T 25 (.load none (.tmp 24)),.T 26 (.fa 0 (.tmp 3)),.T 27 (.load none (.tmp 26)),.T 28 (.call 32 [.tmp 25,.tmp 27]),.M 23 28,.T 29 (.ext (.tmp 23) 0),.T 30 (.ext (.tmp 23) 1),.N 8 29,.N 9 30]) (.seq (.seq (.reg [] [] [.M 31 9,.T 32 (.bin .neq (.tmp 31) (cI 0)),.M 33 32,.MG 34 33 false 8,.TG 35 33 false (.len (.tmp 34)),.TG 36 33 false (.bin .gtr (.tmp 35) (cI 64)),.K 37 (.pick (.tmp 33) (.const (.bool true)) (.tmp 36))]) (.cond (.tmp 37) (some 37) (.seq (.reg [] [] [.K 4 (.mv (.const (.bool false)))]) (.ret)) (.skip))) (.reg [] [] [.M 38 8,.T 39 (.fa 0 (.tmp 3)),⟨none,.store 1 (.tmp 39) (.tmp 38),none,false,false⟩]))) (.skip)))) (.seq (.reg [] [] [.M 40 0,.M 41 5,.T 42 (.load (some 2) (.tmp 3)),⟨none,.mput (Go.TypeDesc.string) (.tmp 40) (.tmp 41) (.tmp 42),none,false,false⟩]) (.seq (.reg [] [] [.M 43 0,.T 44 (.mlen (.tmp 43)),.T 45 (.bin .leq (.tmp 44) (cI 256)),.N 4 45]) (.ret))))))
theorem is45 : IsF C 45 46 137443152891 c45 [.tmp 4]:=⟨⟨Try.f45,_,C_P ▸ Try.func45,rfl,rfl,rfl,by kernel_rfl,rfl⟩⟩
theorem qjK9 {s1_0 : List Int} {s1_1 : List Int} {m0 : List (ByteArray × Mono)} {g1 : AHeap} {g2 : AHeap} {r : Bool × (List (ByteArray × Mono))} (hr : qgb9 s1_0 s1_1 m0 = some r) : ∃ hz : AHeap,Lim C 45 [.mp g1.length,.ag [.d (.rd (s1_0.map qc9)),.d (.rd (s1_1.map intD))]] (g1++(.map (mapP keyS qa9 m0)::g2)) = some (resOf [PB r.1],(g1++(.map (mapP keyS qa9 r.2)::(g2++hz)))):=by
 simp only [qgb9] at hr
 obtain ⟨x1,h1,hr⟩:=bsome hr
 have h1k:=fun h=>(qid9 h1).o rfl rfl rfl (h:=h) (args:=[.ag [.d (.rd (s1_0.map qc9)),.d (.rd (s1_1.map intD))]]) rfl
 try simp only [go_sem] at h1k
 rcases iteB hr with ⟨h2,hr⟩ | ⟨h2,hr⟩
 obtain ⟨x2,h3,hr⟩:=bsome hr
 have h3k:=(qrp9 h3).k rfl rfl rfl
 try simp only [go_sem] at h3k
 rcases h4 : mget m0 x2 with _ | x3
 simp only [h4] at hr
 obtain rfl:=oiA hr
 refine ⟨(.row false 0 2 [[.d (.rd (s1_0.map qc9)),.d (.rd (s1_1.map intD))]]::(.row false 0 2 [[.im true [],.im true []]]::[])),run_L is45 (nbA rfl) ?_⟩
 rotate_left
 simp only [h4] at hr
 obtain ⟨x4,h5,hr⟩:=bsome hr
 have h5k:=(qnO9 h5).k rfl rfl rfl
 try simp only [go_sem] at h5k
 rcases iteP hr with ⟨h6,hr⟩ | ⟨h6,hr⟩
 rcases iteP hr with ⟨h7,hr⟩ | ⟨h7,hr⟩
 obtain rfl:=oiA hr
 refine ⟨(.row false 0 2 [[.d (.rd (s1_0.map qc9)),.d (.rd (s1_1.map intD))]]::(.row false 0 2 [[.d (.rd (x3.Coef.map qc9)),.d (.rd (x3.Exps.map intD))]]::[])),run_L is45 (nbA rfl) ?_⟩
 rotate_left
 obtain rfl:=oiA hr
 refine ⟨(.row false 0 2 [[.d (.rd (x4.1.map qc9)),.d (.rd (s1_1.map intD))]]::(.row false 0 2 [[.d (.rd (x3.Coef.map qc9)),.d (.rd (x3.Exps.map intD))]]::[])),run_L is45 (nbA rfl) ?_⟩
 rotate_left
 obtain rfl:=oiA hr
 refine ⟨(.row false 0 2 [[.d (.rd (s1_0.map qc9)),.d (.rd (s1_1.map intD))]]::(.row false 0 2 [[.d (.rd (x3.Coef.map qc9)),.d (.rd (x3.Exps.map intD))]]::[])),run_L is45 (nbA rfl) ?_⟩
 rotate_left
 obtain rfl:=oiA hr
 refine ⟨(.row false 0 2 [[.d (.rd (s1_0.map qc9)),.d (.rd (s1_1.map intD))]]::[]),run_L is45 (nbA rfl) ?_⟩
 rotate_left
 all_goals (simp +decide only [go_sem,decide_not,c45, *])
def qrj9 : ACode:=.seq (.reg [] [] [.K 24 (.bin .lss (.tmp 23) (.tmp 22))]) (.seq (.cond (.tmp 24) (some 24) (.skip) (.exit 0)) (.seq (.block 1 1090519552 (.seq (.reg [] [] [.T 25 (.ix 2 (.tmp 21) (.tmp 23)),.T 26 (.load (some 2) (.tmp 25)),.K 9 (.alloc [.im true [],.im true []] 2),⟨none,.store 2 (.tmp 9) (.tmp 26),none,false,false⟩]) (.seq (.reg [] [] [.M 27 7,.T 28 (.load (some 2) (.tmp 9)),.T 29 (.call 45 [.tmp 27,.tmp 28]),.K 30 (.not (.tmp 29))]) (.cond (.tmp 30) (some 30) (.seq (.reg [] [(4,0)] [.K 4 (.mv (.const (.slice none 0 0))),.K 5 (.mv (cI 2))]) (.ret)) (.skip))))) (.reg [] [] [.T 31 (.bin .add (.tmp 23) (cI 1)),.N 23 31])))
def c17 : ACode:=.seq (.reg [] [(4,0)] [.K 4 (.mv (.const (.slice none 0 0))),.K 5 (.mv (cI 0))]) (.seq (.seq (.reg [] [] [.M 10 0,.M 11 1,.T 12 (.lit 1 [(0,.tmp 10),(1,.tmp 11)]),.T 13 (.call 43 [.tmp 12]),.N 6 13]) (.seq (.reg [] [] [.M 14 6,.K 15 (.bin .neq (.tmp 14) (cI 0))]) (.cond (.tmp 15) (some 15) (.seq (.reg [] [(4,0)] [.M 16 6,.K 4 (.mv (.const (.slice none 0 0))),.N 5 16]) (.ret)) (.skip)))) (.seq (.reg [] [] [.T 17 (.mkMap),.N 7 17]) (.seq (.seq (.reg [] [] [.M 18 0,.M 19 1,.T 20 (.lit 1 [(0,.tmp 18),(1,.tmp 19)]),.K 21 (.call 44 [.tmp 20]),.K 22 (.len (.tmp 21)),.K 23 (.mv (cI 0))]) (.block 0 1090519552 (.loop qrj9))) (.seq (.reg [] [] [.M 32 7,.T 33 (.call 46 [.tmp 32]),.N 4 33,.K 5 (.mv (cI 0))]) (.ret)))))
theorem is17 : IsF C 17 34 1105232627 c17 [.tmp 4,.tmp 5]:=⟨⟨Try.f17,_,C_P ▸ Try.func17,rfl,rfl,rfl,by kernel_rfl,rfl⟩⟩
def qhl9 (s0 : List Mono) (s1 : List Mono) (s4 : List Mono) (s6 : Int) (s21 : List Mono) (s22 : Int) : Int × (List (ByteArray × Mono))→AHeap→St:=fun (s23,m7) gt=>⟨[(0,.d (.rd (s0.map qa9))),(1,.d (.rd (s1.map qa9))),(4,.d (.rd (s4.map qa9))),(5,PI 0),(6,PI s6),(7,.mp 0),(21,.d (.rd (s21.map qa9))),(22,PI s22),(23,PI s23)],(.map (mapP keyS qa9 m7)::gt)⟩
def qsf9 (s0 : List Mono) (s1 : List Mono) (s4 : List Mono) (s6 : Int) (s21 : List Mono) (s22 : Int) : (((List Mono) × Int) ⊕ (Int × (List (ByteArray × Mono))))→AExit × St→Prop
 | .inl r,q=>XV C [.tmp 4,.tmp 5] (.tp [.d (.rd (r.1.map qa9)),PI r.2]) q
 | .inr (s23,m7),q=>∃ g,q = (.exit 0,qhl9 s0 s1 s4 s6 s21 s22 (s23,m7) g)
theorem qsk9 {s0 : List Mono} {s1 : List Mono} {s4 : List Mono} {s6 : Int} {s21 : List Mono} {s22 : Int} : Sim C 1105232627 qrj9 (qfh9 s0 s1 s4 s6 s21 s22) (qhl9 s0 s1 s4 s6 s21 s22) (qsf9 s0 s1 s4 s6 s21 s22):=by
 intro s g r hr
 obtain ⟨s23,m7⟩:=s
 have ⟨gt,hg0⟩ : ∃ y,y = g:=⟨_,rfl⟩
 subst hg0
 simp only [qfh9] at hr
 rcases iteP hr with ⟨h1,hr⟩ | ⟨h1,hr⟩
 obtain ⟨x3,h2,x4,h3,hr⟩:=bs2 hr
 obtain ⟨z5,h3k⟩:=qjK9 (g1:=[]) (g2:=(gt++(.row false 0 2 [[.d (.rd (x3.Coef.map qc9)),.d (.rd (x3.Exps.map intD))]]::[]))) h3
 replace h3k:=qD9 rfl rfl rfl h3k
 try simp only [go_sem] at h3k
 rcases iteB hr with ⟨h4,hr⟩ | ⟨h4,hr⟩
 obtain rfl:=oiA hr
 refine ⟨(gt++(.row false 0 2 [[.d (.rd (x3.Coef.map qc9)),.d (.rd (x3.Exps.map intD))]]::z5)),?_⟩
 rotate_left
 obtain rfl:=oiA hr
 refine xv_of ?_
 rotate_left
 obtain rfl:=oiA hr
 refine xe_of ⟨gt,rfl⟩ ?_
 rotate_left
 all_goals (simp +decide only [go_sem,decide_not,qhl9,qrj9, *])
theorem qkn9 {a0 : List Mono} {a1 : List Mono} {r : (List Mono) × Int} (hr : qbS9 a0 a1 = some r) : Res C 17 [.rd (a0.map qa9),.rd (a1.map qa9)] (.tp [.d (.rd (r.1.map qa9)),PI r.2]):=by
 simp only [qbS9] at hr
 obtain ⟨x1,h1,hr⟩:=bsome hr
 have h1k:=fun h=>(qfm9 h1).o rfl rfl rfl (h:=h) (args:=[.im true [[.d (.rd (a0.map qa9))],[.d (.rd (a1.map qa9))]]]) rfl
 try simp only [go_sem] at h1k
 rcases iteP hr with ⟨h2,hr⟩ | ⟨h2,hr⟩
 obtain ⟨x2,h3,hr⟩:=bsome hr
 have h3k:=fun h=>(qhc9 h3).o rfl rfl rfl (h:=h) (args:=[.im true [[.d (.rd (a0.map qa9))],[.d (.rd (a1.map qa9))]]]) rfl
 try simp only [go_sem] at h3k
 obtain ⟨x6,h4,hr⟩:=bsome hr
 obtain ⟨q4,h4L,h4X⟩:=qsk9.L (g:=[]) h4
 rcases x6 with x7 | ⟨x8,x9⟩
 try dsimp only at hr
 obtain ⟨st4,rfl,h4R⟩:=h4X
 simp only [qhl9,go_sem] at h4L
 obtain rfl:=oiA hr
 refine run_V is17 (nbA rfl) ?_
 rotate_left
 try dsimp only at hr
 obtain ⟨z10,rfl⟩:=h4X
 simp only [qhl9,go_sem] at h4L
 obtain ⟨x11,h5,hr⟩:=bsome hr
 have h5k:=fun h id ho=>quV9 (h:=h) (id:=id) h5 ho
 obtain rfl:=oiA hr
 refine run_V is17 (nbA rfl) ?_
 rotate_left
 obtain rfl:=oiA hr
 refine run_V is17 (nbA rfl) ?_
 rotate_left
 all_goals (simp +decide only [go_sem,decide_not,c17, *])
def c58 : ACode:=.seq (.reg [] [] [.K 2 (.mv (.const (.bool false)))]) (.seq (.reg [] [] [.M 3 0,.T 4 (.call 59 [.tmp 3]),.T 5 (.not (.tmp 4)),.N 2 5]) (.ret))
theorem is58 : IsF C 58 6 5 c58 [.tmp 2]:=⟨⟨Try.f58,_,C_P ▸ Try.func58,rfl,rfl,rfl,by kernel_rfl,rfl⟩⟩
theorem qmI9 {a0 : List Int} {r : Bool} (hr : qhx9 a0 = some r) : Res C 58 [.rd (a0.map qc9)] (PB r):=by
 simp only [qhx9] at hr
 obtain ⟨x1,h1,hr⟩:=bsome hr
 have h1k:=(qfd9 h1).k rfl rfl rfl
 try simp only [go_sem] at h1k
 obtain rfl:=oiA hr
 refine run_V is58 (nbA rfl) ?_
 rotate_left
 all_goals (simp +decide only [go_sem,decide_not,c58, *])
def c60 : ACode:=.seq (.reg [] [] [.K 3 (.mv (.const (.bool false)))]) (.seq (.reg [] [] [.T 4 (.load none (.tmp 1)),.M 5 0,.T 6 (.ix 1 (.tmp 4) (.tmp 5)),.T 7 (.load none (.tmp 6)),.T 8 (.len (.tmp 7)),.T 9 (.bin .eql (.tmp 8) (cI 0)),.N 3 9]) (.ret))
theorem is60 : IsF C 60 10 11 c60 [.tmp 3]:=⟨⟨Try.f60,_,C_P ▸ Try.func60,rfl,rfl,rfl,by kernel_rfl,rfl⟩⟩
theorem qmk9 {a0 : Int} {a1 : List (List Int)} {r : Bool} (hr : qhv9 a0 a1 = some r) : Res C 60 [.v (.int .i64 a0),.bx ((lsD (lsD qc9)) a1)] (PB r):=by
 simp only [qhv9] at hr
 obtain ⟨x1,h1,hr⟩:=bsome hr
 obtain rfl:=oiA hr
 refine run_V is60 (nbA rfl) ?_
 rotate_left
 all_goals (simp +decide only [go_sem,decide_not,c60, *])
end Ld

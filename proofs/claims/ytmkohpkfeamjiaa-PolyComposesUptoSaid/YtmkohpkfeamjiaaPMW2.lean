import Derived.Test.YtmkohpkfeamjiaaPMW1
set_option maxHeartbeats 60000000
set_option linter.unusedVariables false
set_option linter.unusedSimpArgs false
set_option linter.unusedSectionVars false
namespace Ld
open Go Go.Proofs Go.Abs
set_option maxRecDepth 8000
def qpt9 : ACode:=.seq (.reg [] [] [.K 16 (.bin .lss (.tmp 15) (.tmp 14))]) (.seq (.cond (.tmp 16) (some 16) (.skip) (.exit 0)) (.seq (.block 1 35184372154560 (.seq (.reg [] [] [.M 17 15,.T 18 (.ix 2 (.tmp 13) (.tmp 15)),.T 19 (.load (some 2) (.tmp 18)),.K 7 (.alloc [.im true [],.im true []] 2),.N 6 17,⟨none,.store 2 (.tmp 7) (.tmp 19),none,false,false⟩]) (.seq (.seq (.reg [] [] [⟨some (20,false),.load (some 2) (.tmp 7),none,true,false⟩,⟨some (21,false),.call 37 [.tmp 20],none,true,false⟩,.T 22 (.not (.tmp 21)),.M 23 22,.TG 24 23 false (.fa 1 (.tmp 7)),⟨some (25,false),.load none (.tmp 24),some (23,false),true,false⟩,⟨some (26,false),.len (.tmp 25),some (23,false),true,false⟩,.MG 27 23 false 1,.TG 28 23 false (.bin .gtr (.tmp 26) (.tmp 27)),.T 29 (.pick (.tmp 23) (.const (.bool true)) (.tmp 28)),.M 30 29,.MG 31 30 false 6,.TG 32 30 false (.bin .gtr (.tmp 31) (cI 0)),.MG 33 30 false 32,.MG 34 33 true 0,.MG 35 33 true 6,.TG 36 33 true (.bin .sub (.tmp 35) (cI 1)),⟨some (37,false),.ix 2 (.tmp 34) (.tmp 36),some (33,true),true,false⟩,.TG 38 33 true (.fa 1 (.tmp 37)),⟨some (39,false),.load none (.tmp 38),some (33,true),true,false⟩,.TG 40 33 true (.fa 1 (.tmp 7)),⟨some (41,false),.load none (.tmp 40),some (33,true),true,false⟩,⟨some (42,false),.call 38 [.tmp 39,.tmp 41],some (33,true),true,false⟩,.TG 43 33 true (.bin .geq (.tmp 42) (cI 0)),.TG 44 30 false (.pick (.tmp 33) (.tmp 43) (.const (.bool false))),.K 45 (.pick (.tmp 30) (.const (.bool true)) (.tmp 44))]) (.cond (.tmp 45) (some 45) (.seq (.reg [] [] [.K 4 (.mv (cI 20))]) (.ret)) (.skip))) (.reg [] [] [.M 46 5,.M 47 46,.TG 48 47 true (.load (some 2) (.tmp 7)),.TG 49 47 true (.call 39 [.tmp 48]),.T 50 (.pick (.tmp 47) (.tmp 49) (.const (.bool false))),.N 5 50])))) (.reg [] [] [.T 51 (.bin .add (.tmp 15) (cI 1)),.N 15 51])))
def c14 : ACode:=.seq (.reg [] [] [.K 4 (.mv (cI 0))]) (.seq (.seq (.reg [] [] [.M 8 1,.K 9 (.bin .lss (.tmp 8) (cI 0))]) (.cond (.tmp 9) (some 9) (.seq (.reg [] [] [.K 4 (.mv (cI 1))]) (.ret)) (.skip))) (.seq (.reg [] [] [.M 10 0,.T 11 (.len (.tmp 10)),.T 12 (.bin .leq (.tmp 11) (cI 256)),.N 5 12]) (.seq (.seq (.reg [] [] [.N 13 0,.K 14 (.len (.tmp 13)),.K 15 (.mv (cI 0))]) (.block 0 35184372154560 (.loop qpt9))) (.seq (.seq (.reg [] [] [.M 52 5,.K 53 (.not (.tmp 52))]) (.cond (.tmp 53) (some 53) (.seq (.reg [] [] [.K 4 (.mv (cI 2))]) (.ret)) (.skip))) (.seq (.reg [] [] [.K 4 (.mv (cI 0))]) (.ret))))))
theorem is14 : IsF C 14 54 9042383626953459 c14 [.tmp 4]:=⟨⟨Try.f14,_,C_P ▸ Try.func14,rfl,rfl,rfl,by kernel_rfl,rfl⟩⟩
def qem9 (s0 : List Mono) (s1 : Int) (s13 : List Mono) (s14 : Int) : Bool × Int→AHeap→St:=fun (s5,s15) gt=>⟨[(0,.d (.rd (s0.map qa9))),(1,PI s1),(4,PI 0),(5,PB s5),(13,.d (.rd (s13.map qa9))),(14,PI s14),(15,PI s15)],gt⟩
def qnw9 (s0 : List Mono) (s1 : Int) (s13 : List Mono) (s14 : Int) : (Int ⊕ (Bool × Int))→AExit × St→Prop
 | .inl r,q=>XV C [.tmp 4] (PI r) q
 | .inr (s5,s15),q=>∃ g,q = (.exit 0,qem9 s0 s1 s13 s14 (s5,s15) g)
theorem qnt9 {s0 : List Mono} {s1 : Int} {s13 : List Mono} {s14 : Int} : Sim C 9042383626953459 qpt9 (qI9 s0 s1 s13 s14) (qem9 s0 s1 s13 s14) (qnw9 s0 s1 s13 s14):=by
 intro s g r hr
 obtain ⟨s5,s15⟩:=s
 have ⟨gt,hg0⟩ : ∃ y,y = g:=⟨_,rfl⟩
 subst hg0
 simp only [qI9] at hr
 rcases iteP hr with ⟨h1,hr⟩ | ⟨h1,hr⟩
 obtain ⟨x1,h2,x2,h3,hr⟩:=bs2 hr
 have h3k:=fun h=>(qqS9 h3).o rfl rfl rfl (h:=h) (args:=[.ag [.d (.rd (x1.Coef.map qb9)),.d (.rd (x1.Exps.map intD))]]) rfl
 try simp only [go_sem] at h3k
 rcases iteB hr with ⟨h4,hr⟩ | ⟨h4,hr⟩
 rcases iteP hr with ⟨h5,hr⟩ | ⟨h5,hr⟩
 obtain rfl:=oiA hr
 refine xv_of ?_
 rotate_left
 rcases iteP hr with ⟨h6,hr⟩ | ⟨h6,hr⟩
 obtain ⟨x3,h7,x4,h8,hr⟩:=bs2 hr
 have h8k:=(qfV9 h8).k rfl rfl rfl
 try simp only [go_sem] at h8k
 rcases iteP hr with ⟨h9,hr⟩ | ⟨h9,hr⟩
 obtain rfl:=oiA hr
 refine xv_of ?_
 rotate_left
 rcases iteB hr with ⟨h10,hr⟩ | ⟨h10,hr⟩
 obtain ⟨x5,h11,hr⟩:=bsome hr
 have h11k:=fun h=>(qgd9 h11).o rfl rfl rfl (h:=h) (args:=[.ag [.d (.rd (x1.Coef.map qb9)),.d (.rd (x1.Exps.map intD))]]) rfl
 try simp only [go_sem] at h11k
 obtain rfl:=oiA hr
 refine ⟨(gt++(.row false 0 2 [[.d (.rd (x1.Coef.map qb9)),.d (.rd (x1.Exps.map intD))]]::[])),?_⟩
 rotate_left
 obtain rfl:=oiA hr
 refine ⟨(gt++(.row false 0 2 [[.d (.rd (x1.Coef.map qb9)),.d (.rd (x1.Exps.map intD))]]::[])),?_⟩
 rotate_left
 rcases iteB hr with ⟨h12,hr⟩ | ⟨h12,hr⟩
 obtain ⟨x6,h13,hr⟩:=bsome hr
 have h13k:=fun h=>(qgd9 h13).o rfl rfl rfl (h:=h) (args:=[.ag [.d (.rd (x1.Coef.map qb9)),.d (.rd (x1.Exps.map intD))]]) rfl
 try simp only [go_sem] at h13k
 obtain rfl:=oiA hr
 refine ⟨(gt++(.row false 0 2 [[.d (.rd (x1.Coef.map qb9)),.d (.rd (x1.Exps.map intD))]]::[])),?_⟩
 rotate_left
 obtain rfl:=oiA hr
 refine ⟨(gt++(.row false 0 2 [[.d (.rd (x1.Coef.map qb9)),.d (.rd (x1.Exps.map intD))]]::[])),?_⟩
 rotate_left
 obtain rfl:=oiA hr
 refine xv_of ?_
 rotate_left
 obtain rfl:=oiA hr
 refine xe_of ⟨gt,rfl⟩ ?_
 rotate_left
 all_goals (simp +decide only [go_sem,decide_not,qem9,qpt9, *])
theorem qda9 {a0 : List Mono} {a1 : Int} {r : Int} (hr : qL9 a0 a1 = some r) : Res C 14 [.rd (a0.map qa9),.v (.int .i64 a1)] (PI r):=by
 simp only [qL9] at hr
 rcases iteP hr with ⟨h1,hr⟩ | ⟨h1,hr⟩
 obtain rfl:=oiA hr
 refine run_V is14 (nbA rfl) ?_
 rotate_left
 obtain ⟨x7,h2,hr⟩:=bsome hr
 obtain ⟨q2,h2L,h2X⟩:=qnt9.L (g:=[]) h2
 rcases x7 with x8 | ⟨x9,x10⟩
 try dsimp only at hr
 obtain ⟨st2,rfl,h2R⟩:=h2X
 simp only [qem9,go_sem] at h2L
 obtain rfl:=oiA hr
 refine run_V is14 (nbA rfl) ?_
 rotate_left
 try dsimp only at hr
 obtain ⟨z11,rfl⟩:=h2X
 simp only [qem9,go_sem] at h2L
 rcases iteB hr with ⟨h3,hr⟩ | ⟨h3,hr⟩
 obtain rfl:=oiA hr
 refine run_V is14 (nbA rfl) ?_
 rotate_left
 obtain rfl:=oiA hr
 refine run_V is14 (nbA rfl) ?_
 rotate_left
 all_goals (simp +decide only [go_sem,decide_not,c14, *])
def qpu9 : ACode:=.seq (.reg [] [] [.K 9 (.bin .lss (.tmp 8) (.tmp 7))]) (.seq (.cond (.tmp 9) (some 9) (.skip) (.exit 0)) (.seq (.block 1 33328 (.seq (.reg [] [] [.T 10 (.ix 1 (.tmp 6) (.tmp 8)),.T 11 (.load none (.tmp 10)),.N 4 11]) (.seq (.reg [] [] [.M 12 4,.T 13 (.call 14 [.tmp 12,.const (.int .i64 4611686018427387904)]),.N 5 13]) (.seq (.reg [] [] [.M 14 5,.K 15 (.bin .neq (.tmp 14) (cI 0))]) (.cond (.tmp 15) (some 15) (.seq (.reg [] [] [.M 16 5,.N 2 16]) (.ret)) (.skip)))))) (.reg [] [] [.T 17 (.bin .add (.tmp 8) (cI 1)),.N 8 17])))
def c43 : ACode:=.seq (.reg [] [] [.K 2 (.mv (cI 0))]) (.seq (.seq (.reg [] [] [.N 6 0,.K 7 (.len (.tmp 6)),.K 8 (.mv (cI 0))]) (.block 0 33328 (.loop qpu9))) (.seq (.reg [] [] [.K 2 (.mv (cI 0))]) (.ret)))
theorem is43 : IsF C 43 18 33781 c43 [.tmp 2]:=⟨⟨Try.f43,_,C_P ▸ Try.func43,rfl,rfl,rfl,by kernel_rfl,rfl⟩⟩
def qdq9 (s0 : List (List Mono)) (s6 : List (List Mono)) (s7 : Int) : Int→Unit→St:=fun s8 _=>⟨[(0,.d (.rd (s0.map (lsD qa9)))),(2,PI 0),(6,.d (.rd (s6.map (lsD qa9)))),(7,PI s7),(8,PI s8)],[]⟩
def qln9 (s0 : List (List Mono)) (s6 : List (List Mono)) (s7 : Int) : (Int ⊕ Int)→AExit × St→Prop
 | .inl r,q=>XV C [.tmp 2] (PI r) q
 | .inr s8,q=>∃ g,q = (.exit 0,qdq9 s0 s6 s7 s8 g)
theorem qlb9 {s0 : List (List Mono)} {s6 : List (List Mono)} {s7 : Int} : Sim C 33781 qpu9 (qq9 s0 s6 s7) (qdq9 s0 s6 s7) (qln9 s0 s6 s7):=by
 intro s g r hr
 have ⟨s8,hs0⟩ : ∃ y,y = s:=⟨_,rfl⟩
 subst hs0
 simp only [qq9] at hr
 rcases iteP hr with ⟨h1,hr⟩ | ⟨h1,hr⟩
 obtain ⟨x1,h2,x2,h3,hr⟩:=bs2 hr
 have h3k:=(qda9 h3).k rfl rfl rfl
 try simp only [go_sem] at h3k
 rcases iteP hr with ⟨h4,hr⟩ | ⟨h4,hr⟩
 obtain rfl:=oiA hr
 refine ⟨(),?_⟩
 rotate_left
 obtain rfl:=oiA hr
 refine xv_of ?_
 rotate_left
 obtain rfl:=oiA hr
 refine xe_of ⟨(),rfl⟩ ?_
 rotate_left
 all_goals (simp +decide only [go_sem,decide_not,qdq9,qpu9, *])
theorem qbu9 {a0 : List (List Mono)} {r : Int} (hr : qO9 a0 = some r) : Res C 43 [.rd (a0.map (lsD qa9))] (PI r):=by
 simp only [qO9] at hr
 obtain ⟨x3,h1,hr⟩:=bsome hr
 obtain ⟨q1,h1L,h1X⟩:=qlb9.L (g:=()) h1
 rcases x3 with x4 | x5
 try dsimp only at hr
 obtain ⟨st1,rfl,h1R⟩:=h1X
 simp only [qdq9,go_sem] at h1L
 obtain rfl:=oiA hr
 refine run_V is43 (nbA rfl) ?_
 rotate_left
 try dsimp only at hr
 obtain ⟨⟨⟩,rfl⟩:=h1X
 simp only [qdq9,go_sem] at h1L
 obtain rfl:=oiA hr
 refine run_V is43 (nbA rfl) ?_
 rotate_left
 all_goals (simp +decide only [go_sem,decide_not,c43, *])
def qok9 : ACode:=.seq (.reg [] [] [.K 12 (.bin .lss (.tmp 11) (.tmp 10))]) (.seq (.cond (.tmp 12) (some 12) (.skip) (.exit 0)) (.seq (.block 1 4144 (.seq (.reg [] [] [.M 13 11,.T 14 (.ix 1 (.tmp 9) (.tmp 11)),.T 15 (.load none (.tmp 14)),.N 4 13,.N 5 15]) (.reg [] [] [.M 16 3,.M 17 4,.M 18 5,.T 19 (.wrap .u8 (.tmp 18)),.T 20 (.ix 1 (.tmp 16) (.tmp 17)),⟨none,.store 1 (.tmp 20) (.tmp 19),none,false,false⟩]))) (.reg [] [] [.T 21 (.bin .add (.tmp 11) (cI 1)),.N 11 21])))
def c73 : ACode := .seq (.reg [] [] [.K 2 (.mv (.const (.string { data := #[] })))]) (.seq (.reg [] [] [.M 6 0, .T 7 (.len (.tmp 6)), .T 8 (.mkSl [.d (.v (.int .u8 0))] 1 1 (.tmp 7) (.tmp 7)), .N 3 8]) (.seq (.seq (.reg [] [] [.N 9 0, .K 10 (.len (.tmp 9)), .K 11 (.mv (cI 0))]) (.block 0 4144 (.loop qok9))) (.seq (.reg [(3, 0)] [] [.M 22 3, .T 23 (.raw ({ dst := some 23, op := Go.Op.convert 88 9 (.tmp 22), type := 9, pos := "poly.go:72", after := #[{ on := 0, ground := Go.Ground.data }], guard := none })), .N 2 23]) (.ret))))
theorem is73 : IsF C 73 24 7741 c73 [.tmp 2]:=⟨⟨Try.f73,_,C_P ▸ Try.func73,rfl,rfl,rfl,by kernel_rfl,rfl⟩⟩
def qgc9 (s0 : List Int) (s2 : ByteArray) (s9 : List Int) (s10 : Int) (v3 : Nat) (n3 : Nat) : Int × (List Int)→Unit→St:=fun (s11,o3) _=>⟨[(0,.d (.rd (s0.map intD))),(2,.d (.v (.string s2))),(3,.ref 0 v3 0 n3),(9,.d (.rd (s9.map intD))),(10,PI s10),(11,PI s11)],(.row false v3 1 (rowP qN9 o3)::[])⟩
def qjC9 (s0 : List Int) (s2 : ByteArray) (s9 : List Int) (s10 : Int) (v3 : Nat) (n3 : Nat) : Int × (List Int)→Prop:=fun (s11,o3)=>o3.length = n3
def qpw9 (s0 : List Int) (s2 : ByteArray) (s9 : List Int) (s10 : Int) (v3 : Nat) (n3 : Nat) : (Int × (List Int))→AExit × St→Prop:=fun (s11,o3) q=>∃ g,q = (.exit 0,qgc9 s0 s2 s9 s10 v3 n3 (s11,o3) g)∧o3.length = n3
theorem qpr9 {s0 : List Int} {s2 : ByteArray} {s9 : List Int} {s10 : Int} {v3 : Nat} {n3 : Nat} : SimI C 7741 qok9 (qjC9 s0 s2 s9 s10 v3 n3) (qcE9 s0 s2 s9 s10) (qgc9 s0 s2 s9 s10 v3 n3) (qpw9 s0 s2 s9 s10 v3 n3):=by
 intro s g r hI hr
 obtain ⟨s11,o3⟩:=s
 simp only [qjC9] at hI
 have hI0:=hI
 simp only [qcE9] at hr
 rcases iteP hr with ⟨h1,hr⟩ | ⟨h1,hr⟩
 obtain ⟨x1,h2,x2,h3,hr⟩:=bs2 hr
 have h3a:=eq_true (ql9 h3).1
 have h3b : (s11 < (n3 : Int)) = True:=eq_true (by have hb : s11 < (o3.length : Int):=(ql9 h3).2.1; omega)
 have h3c:=(ql9 h3).2.2
 obtain rfl:=oiA hr
 refine ⟨⟨(),?_⟩,(show (o3.set (s11).toNat (IntKind.u8.wrap x1)).length = n3 by first | assumption | (simp only [llA,lrA]; first | done | assumption | omega) | omega)⟩
 rotate_left
 obtain rfl:=oiA hr
 refine xe_of ⟨(),rfl,(show o3.length = n3 by first | assumption | (simp only [llA,lrA]; first | done | assumption | omega) | omega)⟩ ?_
 rotate_left
 all_goals (simp +decide only [go_sem,decide_not,qgc9,qok9, *])
theorem qqk9 {a0 : List Int} {r : ByteArray} (hr : qgU9 a0 = some r) : Res C 73 [.rd (a0.map intD)] (.d (.v (.string r))):=by
 simp only [qgU9] at hr
 obtain ⟨h1,hr⟩:=gsome hr
 obtain ⟨h2,hr⟩:=gsome hr
 obtain ⟨x3,h3,hr⟩:=bsome hr
 obtain ⟨q3,h3L,h3X⟩:=(qpr9 (v3:=0) (n3:=(List.replicate ((a0.length : Int)).toNat (0 : Int)).length)).L (g:=()) h3 rfl
 obtain ⟨x4,x5⟩:=x3
 try dsimp only at hr
 obtain ⟨⟨⟩,rfl,h3l0⟩:=h3X
 simp only [qgc9,go_sem] at h3L
 obtain rfl:=oiA hr
 refine run_V is73 (nbA rfl) ?_
 rotate_left
 all_goals (simp +decide only [go_sem,decide_not,c73, *])
def qpE9 : ACode:=.seq (.seq (.reg [] [] [.M 6 3,.T 7 (.bin .gtr (.tmp 6) (cI 0)),.M 8 7,.MG 9 8 true 0,.MG 10 8 true 3,.TG 11 8 true (.bin .sub (.tmp 10) (cI 1)),.TG 12 8 true (.ix 1 (.tmp 9) (.tmp 11)),.TG 13 8 true (.load none (.tmp 12)),.TG 14 8 true (.bin .eql (.tmp 13) (.const (.int .u32 0))),.K 15 (.pick (.tmp 8) (.tmp 14) (.const (.bool false)))]) (.cond (.tmp 15) (some 15) (.skip) (.exit 0))) (.block 1 32768 (.reg [] [] [.M 16 3,.T 17 (.bin .sub (.tmp 16) (cI 1)),.N 3 17]))
def c82 : ACode:=.seq (.reg [] [(2,0)] [.K 2 (.mv (.const (.slice none 0 0)))]) (.seq (.reg [] [] [.M 4 0,.T 5 (.len (.tmp 4)),.N 3 5]) (.seq (.block 0 32768 (.loop qpE9)) (.seq (.reg [] [] [.M 18 0,.M 19 3,.T 20 (.cut 1 (.tmp 18) none (some (.tmp 19))),.N 2 20]) (.ret))))
theorem is82 : IsF C 82 21 32781 c82 [.tmp 2]:=⟨⟨Try.f82,_,C_P ▸ Try.func82,rfl,rfl,rfl,by kernel_rfl,rfl⟩⟩
def qeZ9 (s0 : List Int) (s2 : List Int) : Int→Unit→St:=fun s3 _=>⟨[(0,.d (.rd (s0.map qb9))),(2,.d (.rd (s2.map qb9))),(3,PI s3)],[]⟩
def qmk9 (s0 : List Int) (s2 : List Int) : Int→AExit × St→Prop:=fun s3 q=>∃ g,q = (.exit 0,qeZ9 s0 s2 s3 g)
theorem qlR9 {s0 : List Int} {s2 : List Int} : Sim C 32781 qpE9 (qcp9 s0 s2) (qeZ9 s0 s2) (qmk9 s0 s2):=by
 intro s g r hr
 have ⟨s3,hs0⟩ : ∃ y,y = s:=⟨_,rfl⟩
 subst hs0
 simp only [qcp9] at hr
 rcases iteP hr with ⟨h1,hr⟩ | ⟨h1,hr⟩
 obtain ⟨x1,h2,hr⟩:=bsome hr
 rcases iteP hr with ⟨h3,hr⟩ | ⟨h3,hr⟩
 obtain rfl:=oiA hr
 refine ⟨(),?_⟩
 rotate_left
 obtain rfl:=oiA hr
 refine xe_of ⟨(),rfl⟩ ?_
 rotate_left
 obtain rfl:=oiA hr
 refine xe_of ⟨(),rfl⟩ ?_
 rotate_left
 all_goals (simp +decide only [go_sem,decide_not,qeZ9,qpE9, *])
theorem qnz9 {a0 : List Int} {r : (List Int)} (hr : qfl9 a0 = some r) : Res C 82 [.rd (a0.map qb9)] (.d (.rd (r.map qb9))):=by
 simp only [qfl9] at hr
 obtain ⟨x2,h1,hr⟩:=bsome hr
 obtain ⟨q1,h1L,h1X⟩:=qlR9.L (g:=()) h1
 have ⟨x3,hq1⟩ : ∃ y,y = x2:=⟨_,rfl⟩
 subst hq1
 try dsimp only at hr
 obtain ⟨⟨⟩,rfl⟩:=h1X
 simp only [qeZ9,go_sem] at h1L
 obtain ⟨x4,h2,hr⟩:=bsome hr
 obtain rfl:=oiA hr
 refine run_V is82 (nbA rfl) ?_
 rotate_left
 all_goals (simp +decide only [go_sem,decide_not,c82, *])
def c65 : ACode:=.seq (.reg [] [(2,0)] [.K 2 (.mv (.const (.slice none 0 0))),.K 3 (.mv (cI 0))]) (.seq (.seq (.reg [] [] [.M 4 0,.T 5 (.call 82 [.tmp 4]),.N 0 5]) (.seq (.reg [] [] [.M 6 0,.T 7 (.len (.tmp 6)),.K 8 (.bin .gtr (.tmp 7) (cI 64))]) (.cond (.tmp 8) (some 8) (.seq (.reg [] [(2,0)] [.K 2 (.mv (.const (.slice none 0 0))),.K 3 (.mv (cI 2))]) (.ret)) (.skip)))) (.seq (.reg [] [] [.M 9 0,.N 2 9,.K 3 (.mv (cI 0))]) (.ret)))
theorem is65 : IsF C 65 10 269 c65 [.tmp 2,.tmp 3]:=⟨⟨Try.f65,_,C_P ▸ Try.func65,rfl,rfl,rfl,by kernel_rfl,rfl⟩⟩
theorem qjo9 {a0 : List Int} {r : (List Int) × Int} (hr : qfH9 a0 = some r) : Res C 65 [.rd (a0.map qb9)] (.tp [.d (.rd (r.1.map qb9)),PI r.2]):=by
 simp only [qfH9] at hr
 obtain ⟨x1,h1,hr⟩:=bsome hr
 have h1k:=(qnz9 h1).k rfl rfl rfl
 try simp only [go_sem] at h1k
 rcases iteP hr with ⟨h2,hr⟩ | ⟨h2,hr⟩
 obtain rfl:=oiA hr
 refine run_V is65 (nbA rfl) ?_
 rotate_left
 obtain rfl:=oiA hr
 refine run_V is65 (nbA rfl) ?_
 rotate_left
 all_goals (simp +decide only [go_sem,decide_not,c65, *])
def c36 : ACode:=.seq (.reg [] [(0,0)] [.K 0 (.mv (.const (.slice none 0 0)))]) (.seq (.reg [] [(0,0)] [⟨some (1,false),.lit 1 [(0,.const (.int .u32 1))],none,false,true⟩,⟨some (2,false),.lit 1 [(0,.const (.int .i64 0)),(1,.const (.int .i64 1))],none,false,true⟩,.T 3 (.build [(0,1),(1,1)] [.im true [],.im true []] [(0,.tmp 1),(1,.tmp 2)]),.T 4 (.lit 2 [(0,.tmp 3)]),.N 0 4]) (.ret))
theorem is36 : IsF C 36 5 1 c36 [.tmp 0]:=⟨⟨Try.f36,_,C_P ▸ Try.func36,rfl,rfl,rfl,by kernel_rfl,rfl⟩⟩
theorem qyK9  {r : (List Mono)} (hr : qnB9 = some r) : Res C 36 [] (.d (.rd (r.map qa9))):=by
 simp only [qnB9] at hr
 obtain rfl:=oiA hr
 refine run_V is36 (nbA rfl) ?_
 rotate_left
 all_goals (simp +decide only [go_sem,decide_not,c36, *])
def c56 : ACode:=.seq (.reg [] [] [.K 3 (.mv (.const (.bool false)))]) (.seq (.reg [] [] [.T 4 (.load none (.tmp 1)),.M 5 0,.T 6 (.ix 1 (.tmp 4) (.tmp 5)),.T 7 (.load none (.tmp 6)),.T 8 (.len (.tmp 7)),.T 9 (.bin .eql (.tmp 8) (cI 0)),.N 3 9]) (.ret))
theorem is56 : IsF C 56 10 11 c56 [.tmp 3]:=⟨⟨Try.f56,_,C_P ▸ Try.func56,rfl,rfl,rfl,by kernel_rfl,rfl⟩⟩
theorem qjV9 {a0 : Int} {a1 : List (List Mono)} {r : Bool} (hr : qer9 a0 a1 = some r) : Res C 56 [.v (.int .i64 a0),.bx ((lsD (lsD qa9)) a1)] (PB r):=by
 simp only [qer9] at hr
 obtain ⟨x1,h1,hr⟩:=bsome hr
 obtain rfl:=oiA hr
 refine run_V is56 (nbA rfl) ?_
 rotate_left
 all_goals (simp +decide only [go_sem,decide_not,c56, *])
end Ld

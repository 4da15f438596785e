import Derived.Test.YtmkohpkfeamjiaaPMT
import Derived.Lib.ValidU
import Derived.Lib.BitFns
import Derived.Test.YtmkohpkfeamjiaaProg
set_option maxHeartbeats 60000000
set_option linter.unusedVariables false
set_option linter.unusedSimpArgs false
set_option linter.unusedSectionVars false
namespace Lz
open Ld Go Go.Abs
set_option maxRecDepth 8000
noncomputable def qbl9 (s0 : List Int) (s1 : List Int) (s10 : Int) : Int→Option (Int ⊕ (Int ⊕ Int)):=fun s11 =>
 if s11 < s10 then
  (idx s0 s11).bind fun x1 =>
  (idx s1 s11).bind fun x2 =>
  if x1 = x2 then
   some (.inl (w64 (s11 + 1)))
  else
  some (.inr (.inl (w64 (x1 - x2))))
 else
 some (.inr (.inr s11))
noncomputable def poly_order (a0 : List Int) (a1 : List Int) : Option Int :=
 (wh (qbl9 a0 a1 (min (a0.length : Int) (a1.length : Int))) 0).bind fun x3 =>
 match x3 with
 | .inl x4 =>
  some x4
 | .inr x5 =>
  some (w64 ((a0.length : Int) - (a1.length : Int)))
noncomputable def poly_bag_told_c1 (a0 : Mono) (a1 : Mono) : Option Int :=
 (poly_order a0.Exps a1.Exps).bind fun x1 =>
 some x1
end Lz
namespace Lz
open Ld Go Go.Proofs Go.Abs

noncomputable def h38 : Hint:=⟨4201523,0,[(0,4198432),(1,4198432)],[],[],[]⟩
noncomputable def h76 : Hint:=⟨31,0,[],[],[],[]⟩
noncomputable def hint : FuncId→Hint
 | 38=>h38
 | 76=>h76
 | _=>⟨0,0,[],[],[],[]⟩
def mode : FuncId→Nat
 | _=>0
noncomputable def prim : FuncId→Option (List PV→AHeap→Option (PV × AHeap))
 | _=>none
def uses : List FuncId:=[38,76]
def settles : List (Nat × String):=[]
noncomputable def C : Cfg:={ P:=Try.prog,mode:=mode,prim:=prim,hint:=hint,use:=fun g=>uses.contains g,settle:=fun o=>settles.any fun p=>o.dst == some p.1 && o.pos == p.2 }
theorem C_P : C.P = Try.prog:=rfl

end Lz
namespace Lz
open Ld Go Go.Proofs Go.Abs
set_option maxRecDepth 8000
def qhx9 : ACode:=.seq (.reg [] [] [.K 12 (.bin .lss (.tmp 11) (.tmp 10))]) (.seq (.cond (.tmp 12) (some 12) (.skip) (.exit 0)) (.seq (.block 1 4198432 (.seq (.reg [] [] [.M 13 11,.N 5 13]) (.seq (.reg [] [] [.M 14 0,.M 15 5,⟨some (16,false),.ix 1 (.tmp 14) (.tmp 15),none,true,false⟩,⟨some (17,false),.load none (.tmp 16),none,true,false⟩,.M 18 1,.M 19 5,⟨some (20,false),.ix 1 (.tmp 18) (.tmp 19),none,true,false⟩,⟨some (21,false),.load none (.tmp 20),none,true,false⟩,.K 22 (.bin .neq (.tmp 17) (.tmp 21))]) (.cond (.tmp 22) (some 22) (.seq (.reg [] [] [.M 23 0,.M 24 5,⟨some (25,false),.ix 1 (.tmp 23) (.tmp 24),none,true,false⟩,⟨some (26,false),.load none (.tmp 25),none,true,false⟩,.M 27 1,.M 28 5,⟨some (29,false),.ix 1 (.tmp 27) (.tmp 28),none,true,false⟩,⟨some (30,false),.load none (.tmp 29),none,true,false⟩,.T 31 (.bin .sub (.tmp 26) (.tmp 30)),.N 4 31]) (.ret)) (.skip))))) (.reg [] [] [.T 32 (.bin .add (.tmp 11) (cI 1)),.N 11 32])))
def c38 : ACode := .seq (.reg [] [] [.K 4 (.mv (cI 0))]) (.seq (.seq (.reg [] [] [.M 6 0, .T 7 (.len (.tmp 6)), .M 8 1, .T 9 (.len (.tmp 8)), .K 10 (.raw ({ dst := some 10, op := Go.Op.call { callee := Go.Callee.builtin Go.Builtin.min, args := #[.tmp 7, .tmp 9], argTypes := #[3, 3] }, type := 3, pos := "poly.go:13", after := #[{ on := 1, ground := Go.Ground.data }, { on := 3, ground := Go.Ground.data }], guard := none })), .K 11 (.mv (cI 0))]) (.block 0 4198432 (.loop qhx9))) (.seq (.reg [] [] [.M 33 0, .T 34 (.len (.tmp 33)), .M 35 1, .T 36 (.len (.tmp 35)), .T 37 (.bin .sub (.tmp 34) (.tmp 36)), .N 4 37]) (.ret)))
theorem is38 : IsF C 38 38 4201523 c38 [.tmp 4]:=⟨⟨Try.f38,_,C_P ▸ Try.func38,rfl,rfl,rfl,by kernel_rfl,rfl⟩⟩
def qbp9 (s0 : List Int) (s1 : List Int) (s10 : Int) : Int→Unit→St:=fun s11 _=>⟨[(0,.d (.rd (s0.map intD))),(1,.d (.rd (s1.map intD))),(4,PI 0),(10,PI s10),(11,PI s11)],[]⟩
def qgW9 (s0 : List Int) (s1 : List Int) (s10 : Int) : (Int ⊕ Int)→AExit × St→Prop
 | .inl r,q=>XV C [.tmp 4] (PI r) q
 | .inr s11,q=>∃ g,q = (.exit 0,qbp9 s0 s1 s10 s11 g)
theorem qgV9 {s0 : List Int} {s1 : List Int} {s10 : Int} : Sim C 4201523 qhx9 (qbl9 s0 s1 s10) (qbp9 s0 s1 s10) (qgW9 s0 s1 s10):=by
 intro s g r hr
 have ⟨s11,hs0⟩ : ∃ y,y = s:=⟨_,rfl⟩
 subst hs0
 simp only [qbl9] at hr
 rcases iteP hr with ⟨h1,hr⟩ | ⟨h1,hr⟩
 obtain ⟨x1,h2,x2,h3,hr⟩:=bs2 hr
 rcases iteP hr with ⟨h4,hr⟩ | ⟨h4,hr⟩
 obtain rfl:=oiA hr
 refine ⟨(),?_⟩
 rotate_left
 obtain rfl:=oiA hr
 refine xv_of ?_
 rotate_left
 obtain rfl:=oiA hr
 refine xe_of ⟨(),rfl⟩ ?_
 rotate_left
 all_goals (simp +decide only [go_sem,decide_not,qbp9,qhx9, *])
theorem qfV9 {a0 : List Int} {a1 : List Int} {r : Int} (hr : poly_order a0 a1 = some r) : Res C 38 [.rd (a0.map intD),.rd (a1.map intD)] (PI r):=by
 simp only [poly_order] at hr
 obtain ⟨x3,h1,hr⟩:=bsome hr
 obtain ⟨q1,h1L,h1X⟩:=qgV9.L (g:=()) h1
 rcases x3 with x4 | x5
 try dsimp only at hr
 obtain ⟨st1,rfl,h1R⟩:=h1X
 simp only [qbp9,go_sem] at h1L
 obtain rfl:=oiA hr
 refine run_V is38 (nbA rfl) ?_
 rotate_left
 try dsimp only at hr
 obtain ⟨⟨⟩,rfl⟩:=h1X
 simp only [qbp9,go_sem] at h1L
 obtain rfl:=oiA hr
 refine run_V is38 (nbA rfl) ?_
 rotate_left
 all_goals (simp +decide only [go_sem,decide_not,c38, *])
def c76 : ACode:=.seq (.reg [] [] [.K 2 (.box (.tmp 0)),.K 3 (.box (.tmp 1)),.K 4 (.mv (cI 0))]) (.seq (.reg [] [] [.T 5 (.fa 1 (.tmp 2)),.T 6 (.load none (.tmp 5)),.T 7 (.fa 1 (.tmp 3)),.T 8 (.load none (.tmp 7)),.T 9 (.call 38 [.tmp 6,.tmp 8]),.N 4 9]) (.ret))
theorem is76 : IsF C 76 10 31 c76 [.tmp 4]:=⟨⟨Try.f76,_,C_P ▸ Try.func76,rfl,rfl,rfl,by kernel_rfl,rfl⟩⟩
theorem poly_bag_told_c1_R {a0 : Mono} {a1 : Mono} {r : Int} (hr : poly_bag_told_c1 a0 a1 = some r) : Res C 76 [.ag (qa9 a0),.ag (qa9 a1)] (PI r):=by
 simp only [poly_bag_told_c1] at hr
 obtain ⟨x1,h1,hr⟩:=bsome hr
 have h1k:=(qfV9 h1).k rfl rfl rfl
 try simp only [go_sem] at h1k
 obtain rfl:=oiA hr
 refine run_V is76 (nbA rfl) ?_
 rotate_left
 all_goals (simp +decide only [go_sem,decide_not,c76, *])
end Lz

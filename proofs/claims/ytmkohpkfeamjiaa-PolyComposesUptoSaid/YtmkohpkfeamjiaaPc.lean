import Derived.Test.YtmkohpkfeamjiaaK6
import Derived.Test.YtmkohpkfeamjiaaU2
import Derived.Test.YtmkohpkfeamjiaaRows
import Derived.Test.YtmkohpkfeamjiaaAbs28
import Derived.Lay
import Derived.WalkKit
import Derived.ProofKit
import Derived.OpenShut
import Derived.Carry
import Derived.Deep.DeepHandedRow
set_option maxHeartbeats 400000
set_option linter.unusedVariables false
set_option linter.unusedSimpArgs false
set_option linter.unusedSectionVars false
namespace Ld
open Go Go.Proofs Go.Abs Go.Lib
open Go.ChangeShapes Go.WideShapes Go.ChangeAt Go.RowKit
open Go.Proofs.Ytmkohpkfeamjiaa Law
set_option maxRecDepth 100000
theorem bulk (H : Type) : Bulk (H:=H) Rows.uptoBulk Rows.uptoBulkAll where
 nilA:=rfl
 consA:=fun _ _=>rfl
 slice:=fun _ _=>rfl
 agg:=fun _=>rfl
 str:=fun _=>rfl
 one:=fun d=>by cases d <;> first | (rename_i l; cases l <;> simp [Rows.uptoBulk]) | simp [Rows.uptoBulk]
theorem own : ownKnob Try.prog.godebug = none:=by kernel_rfl
theorem qij9 : laidOutB Try.prog = true:=by kernel_rfl
theorem ty48 {ds : List D} (h : Ty Try.prog 48 ds) : ∃ x : Int,ds = qb9 x∧(okI .u32) x:=by
 obtain ⟨n,h1,h2⟩:=Ty.int_inv Try.underlying48 h
 exact ⟨n,h1,h2⟩
theorem ty36 {ds : List D} (h : Ty Try.prog 36 ds) : ∃ x : List Int,ds = (lsD qb9) x∧(okL (okI .u32)) x:=by
 obtain ⟨xs,rfl,hx⟩:=Ty.slice_inv Try.underlying36 h
 obtain ⟨l,rfl,hl⟩:=qfw9 (f:=qb9) (q:=(okI .u32)) (fun cs hc=>ty48 (hx cs hc))
 exact ⟨l,rfl,hl⟩
theorem ty3 {ds : List D} (h : Ty Try.prog 3 ds) : ∃ x : Int,ds = intD x∧(okI .i64) x:=by
 obtain ⟨n,h1,h2⟩:=Ty.int_inv Try.underlying3 h
 exact ⟨n,h1,h2⟩
theorem ty49 {ds : List D} (h : Ty Try.prog 49 ds) : ∃ x : List Int,ds = (lsD intD) x∧(okL (okI .i64)) x:=by
 obtain ⟨xs,rfl,hx⟩:=Ty.slice_inv Try.underlying49 h
 obtain ⟨l,rfl,hl⟩:=qfw9 (f:=intD) (q:=(okI .i64)) (fun cs hc=>ty3 (hx cs hc))
 exact ⟨l,rfl,hl⟩
theorem ty51 {ds : List D} (h : Ty Try.prog 51 ds) : ∃ x : Mono,ds = qa9 x∧qcX9 x:=by
 obtain ⟨h1,h2⟩:=Ty.struct_inv Try.underlying51 h
 rw [show Try.prog.cellsOf 51 = 2 by kernel_rfl] at h1
 match ds,h1 with
 | [d0,d1],_ =>
  have q0:=h2 _ (List.mem_cons_self ..)
  simp only [show Try.prog.cellsOf 36 = 1 by kernel_rfl] at q0
  obtain ⟨x0,e0,o0⟩:=ty36 q0
  have r0 : [d0] = (lsD qb9) x0:=e0
  have q1:=h2 _ (List.mem_cons_of_mem _ (List.mem_cons_self ..))
  simp only [show Try.prog.cellsOf 49 = 1 by kernel_rfl] at q1
  obtain ⟨x1,e1,o1⟩:=ty49 q1
  have r1 : [d1] = (lsD intD) x1:=e1
  exact ⟨⟨x0,x1⟩,(show [d0]++([d1]) = (lsD qb9) x0++((lsD intD) x1) by rw [r0,r1]),⟨o0,o1⟩⟩
theorem ty22 {ds : List D} (h : Ty Try.prog 22 ds) : ∃ x : List Mono,ds = (lsD qa9) x∧(okL qcX9) x:=by
 obtain ⟨xs,rfl,hx⟩:=Ty.slice_inv Try.underlying22 h
 obtain ⟨l,rfl,hl⟩:=qfw9 (f:=qa9) (q:=qcX9) (fun cs hc=>ty51 (hx cs hc))
 exact ⟨l,rfl,hl⟩
theorem ty32 {ds : List D} (h : Ty Try.prog 32 ds) : ∃ x : List (List Mono),ds = (lsD (lsD qa9)) x∧(okL (okL qcX9)) x:=by
 obtain ⟨xs,rfl,hx⟩:=Ty.slice_inv Try.underlying32 h
 obtain ⟨l,rfl,hl⟩:=qfw9 (f:=(lsD qa9)) (q:=(okL qcX9)) (fun cs hc=>ty22 (hx cs hc))
 exact ⟨l,rfl,hl⟩
theorem qmr9 {a0 : List Mono} {a1 : List (List Mono)} (ok0 : (okL qcX9) a0) (ok1 : (okL (okL qcX9)) a1) (hs : szL ((lsD qa9) a0) + szL ((lsD (lsD qa9)) a1)≤1048576) : ∃ h',Lim Le.K.C2 6 [.d (.rd (a0.map qa9)),.d (.rd (a1.map (lsD qa9)))] [] = some (.d (.v (.bool true)),h') :=
 Le.K.composes_run (qiD9 ok0 (by omega)) (qnR9 ok1 (by omega)).1 (qnR9 ok1 (by omega)).2
theorem plain22 : qcz9 Try.prog 6 22 = true:=by kernel_rfl
theorem plain32 : qcz9 Try.prog 6 32 = true:=by kernel_rfl
theorem contract (H : Type) (enc : TypeId × Value→H) (W : World) (base : Nat) (args : Array Value) (ds gs : List (DataW H)) (before : List MemPlace)
  (hval : ∀ (j : Nat) t v,Try.f6.params[j]? = some t→args[j]? = some v→Value.okWide Try.prog W .any base t v)
  (hW : DataW.Whole enc Try.prog Try.f6.params.toList Rows.polyComposesSpec.vars false W args.toList ds gs before) (hL : laidMetH Try.prog Rows.polyComposesUptoRow.laid W) (hsm : Rows.uptoBulkAll (ds++gs)≤1048576) :
  Calls Try.prog 6 args W fun e W'=>∃ v,e = .returned v∧Rows.polyComposesSpec.post enc Try.prog Try.f6 false true false false W args v W':=by
 have hW':=hW
 obtain ⟨p,q,hA0,hV,rfl,hfz,hnd⟩:=hW
 have hA : DataW.TrodAll enc Try.prog W 0 (fun _=>true) true Try.f6.params.toList args.toList ds p:=hA0
 rw [Try.params6] at hA hval
 obtain ⟨v0,v1,d0,d1,p0,p1,rfl,rfl,rfl,h0,h1⟩:=trodAll_two hA
 obtain ⟨rfl,rfl⟩:=trodVars_none hV
 obtain ⟨e0,t0,s0,r0⟩:=arg_D (bulk H) plain22 (hval 0 22 v0 rfl rfl) h0
 obtain ⟨e1,t1,s1,r1⟩:=arg_D (bulk H) plain32 (hval 1 32 v1 rfl rfl) h1
 obtain ⟨a0,rfl,ok0⟩:=ty22 t0
 obtain ⟨a1,rfl,ok1⟩:=ty32 t1
 simp only [List.append_nil,Rows.uptoBulkAll] at hsm
 obtain ⟨h',hl⟩:=qmr9 ok0 ok1 (by omega)
 have hc:=qnc9 (C:=Le.K.C2) (f:=6) (Le.K.cOk2 W) rfl (args:=[.rd (a0.map qa9),.rd (a1.map (lsD qa9))]) (vs:=[v0,v1]) rfl (fun j u y a b=>by
  match j,a,b with
  | 0,a,b=>simp at a b; subst a; subst b; exact r0
  | 1,a,b=>simp at a b; subst a; subst b; exact r1
  | (k + 2),a,b=>simp at a) hl
 clear hA0
 simp only [List.append_nil] at hW'
 refine hc.mono fun e W' ⟨he,hb⟩=>?_
 subst he
 have hlt : ∀ x∈p0++p1,x.block < W.heap.size:=fun x hx=>by simpa using hW'.lt x hx
 refine ⟨_,rfl,_,_,_,[],p0++(p1),[],hW',?_,?_,?_,hb.frame _,fun h=>by cases h⟩
 ·exact trodAll_cons_mk (shut_bool Try.underlying4 _) trodAll_mk0
 ·exact trodAll_mk2 (WideElems.Trod_stays qij9 (by kernel_rfl) (of_decide_eq_true (by kernel_rfl)) h0 (fun x hx=>hb.same (hlt x (by simp [hx]))) (fun x hx=>by simpa using hlt x (by simp [hx]))) (WideElems.Trod_stays qij9 (by kernel_rfl) (of_decide_eq_true (by kernel_rfl)) h1 (fun x hx=>hb.same (hlt x (by simp [hx]))) (fun x hx=>by simpa using hlt x (by simp [hx])))
 ·rfl
noncomputable abbrev args0 : Array Value:=#[.slice none 0 0,.slice none 0 0]
theorem qkH9 (os : Os) : laidMet Try.prog Rows.polyComposesUptoRow.laid ((World.laidAll Try.prog os Rows.polyComposesUptoRow.laid).forCall (fun _ _=>0) ⟨#[],args0,[]⟩).memory :=
 laidMet_laidAll args0 (by kernel_rfl) (by kernel_rfl)
theorem reads (os : Os) {H : Type} (enc : TypeId × Value→H) : ∃ places,DataW.whole enc Try.prog ((World.laidAll Try.prog os Rows.polyComposesUptoRow.laid).forCall (fun _ _=>0) ⟨#[],args0,[]⟩).memory Try.f6.params.toList Rows.polyComposesSpec.vars false args0.toList 8 = some ([.nil,.nil],[],places) :=
 ⟨[],by kernel_rfl⟩
theorem qiK9 (os : Os) (started : os.Started) (H : Type) (enc : TypeId × Value→H) (F : Stop.Interp) :
  ReturnsInHanded {} Try.checked os 6 .any ((Rows.OpenSpec.upto Rows.polyComposesSpec).preRow enc Try.prog Try.f6 Rows.polyComposesUptoRow.domain false Rows.polyComposesUptoRow.laid) (((Rows.OpenSpec.upto Rows.polyComposesSpec).at F).post enc Try.prog Try.f6 false true false false):=by
 obtain ⟨places,hx⟩:=reads os enc
 refine returnsInHanded_of_row (C:=Try.checked) (s:=Rows.OpenSpec.upto Rows.polyComposesSpec) own started (by kernel_rfl) Try.func6
  (witness_row_at (enc:=enc) (C:=Try.checked) false (World.laidAll Try.prog os Rows.polyComposesUptoRow.laid) args0 rfl (by kernel_rfl) (by kernel_rfl) (by kernel_rfl)
   (OpenSpec.preRow_of_cond 8 hx (by kernel_rfl) (fun k hk=>by cases hk; kernel_rfl) (by kernel_rfl) (qkH9 os))) ?_
 intro W base args ds gs before hval hW _ hcond _ hL _ _
 exact contract H enc W base args ds gs before hval hW hL (of_decide_eq_true (hcond _ rfl))
theorem saidUpto : Rows.PolyComposesUptoSaid :=
 OpenClaim.holds_of_cond 6 Try.f6 rfl rfl rfl rfl rfl rfl rfl ⟨rfl,rfl,rfl,rfl,rfl⟩ rfl rfl rfl rfl rfl (by kernel_rfl) Try.func6 (by kernel_rfl)
  (of_decide_eq_true (by kernel_rfl)) (by unfold Func.isWrapper; first | (rw [if_pos (by decide +kernel)]; kernel_rfl) | (rw [if_neg (by decide +kernel)]; exact ⟨rfl,rfl⟩))
  (fun os started H enc _ F=>by rw [OpenClaim.pre_eq_preRow]; exact qiK9 os started H enc F)

end Ld

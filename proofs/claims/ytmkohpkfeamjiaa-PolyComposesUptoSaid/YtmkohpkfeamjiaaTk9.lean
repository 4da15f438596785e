import Derived.Test.YtmkohpkfeamjiaaTSW1
import Derived.Test.YtmkohpkfeamjiaaSf1
import Derived.Test.YtmkohpkfeamjiaaShM
import Derived.Test.YtmkohpkfeamjiaaPMC
import Derived.Test.YtmkohpkfeamjiaaU2
import Derived.Maps.RangeRun
set_option maxHeartbeats 400000
set_option linter.unusedVariables false
set_option linter.unusedSimpArgs false
set_option linter.unusedSectionVars false
namespace Lt
open Ld Go Go.Proofs Go.Abs Go.Lib Go.Shelf Go.RowKit
set_option maxRecDepth 8000
def GoodM (m : Mono) : Prop:=Law.ExOK m.Exps∧m.Exps.length≤1048576∧∀ n∈m.Exps,n≤64
noncomputable def cmpM (x y : Mono) : Int:=(Lz.poly_bag_told_c1 x y).getD 0
theorem qru9 {a b : Mono} (ha : GoodM a) (hb : GoodM b) : ∃ o,Lz.poly_bag_told_c1 a b = some o∧cmpM a b = o∧(o < 0↔Law.ltE a.Exps b.Exps):=by
 have i64 : ∀ (m : Mono),GoodM m→∀ n∈m.Exps,Law.I64 n:=fun m hm n hn=>by
  have h1:=hm.1.1 n hn
  have h2:=hm.2.2 n hn
  exact ⟨by omega,by omega⟩
 obtain ⟨o,h1,h2,_⟩:=Law.order_eq ha.1 hb.1 ha.2.1 hb.2.1 (i64 a ha) (i64 b hb)
 have e : Lz.poly_order a.Exps b.Exps = some o:=h1
 have e2 : Lz.poly_bag_told_c1 a b = some o:=by
  unfold Lz.poly_bag_told_c1
  rw [e]; rfl
 exact ⟨o,e2,by unfold cmpM; rw [e2]; rfl,h2⟩
theorem qfJ9 {a b : Mono} (ha : GoodM a) (hb : GoodM b) : cmpM a b < 0↔Law.ltE a.Exps b.Exps:=by
 obtain ⟨o,_,h1,h2⟩:=qru9 ha hb
 rw [h1]; exact h2
theorem qrt9 : CfOK GoodM cmpM where
 irr:=fun x hx h=>Law.ltE_irrefl _ ((qfJ9 hx hx).1 h)
 tr:=fun x y z hx hy hz h1 h2=>(qfJ9 hx hz).2 (Law.ltE_trans ((qfJ9 hx hy).1 h1) ((qfJ9 hy hz).1 h2))
 nt:=fun x y z hx hy hz h1 h2 h3=>by
  have h3:=(qfJ9 hx hz).1 h3
  have h1:=fun h=>h1 ((qfJ9 hx hy).2 h)
  have h2:=fun h=>h2 ((qfJ9 hy hz).2 h)
  rcases Law.ltE_tri hx.1 hy.1 with c | c | c
  ·exact h1 c
  ·rw [c] at h3; exact h2 h3
  ·exact h2 (Law.ltE_trans c h3)
theorem qws9 (x y : Mono) (h : qa9 x = qa9 y) : x = y:=qkj9 (by rw [h])
theorem callable {g : FuncId} {fn : Func} (h : Try.prog.funcs[g]? = some fn) (h1 : decide (fn.name ≠ "runtime.NumGoroutine") = true) (h2 : fn.body.isSome = true) : Callable Try.prog g := ⟨fn, h, of_decide_eq_true h1, h2⟩
noncomputable def okAll (P : Program) (t : FuncId→Hint) (l : List FuncId) : Bool:=l.all fun g=>match P.funcs[g]? with
 | some fn => decide (fn.name ≠ "runtime.NumGoroutine") && (match fn.body with | some c => okT (t g) c | none => false)
 | none=>false
theorem qzi9 : okAll Try.prog Lz.hint Lz.uses = true:=by kernel_rfl
theorem cOk0 (W : World) : COk W Lz.C:=by
 have all : ∀ g, Lz.C.use g = true → ∃ fn c, Try.prog.funcs[g]? = some fn ∧ fn.name ≠ "runtime.NumGoroutine" ∧ fn.body = some c ∧ okT (Lz.hint g) c = true := by
  intro g hg
  have hm : g∈Lz.uses:=by simpa [Lz.C] using hg
  have h1:=List.all_eq_true.1 qzi9 g hm
  cases hf : Try.prog.funcs[g]? with
  | none=>rw [hf] at h1; cases h1
  | some fn =>
   rw [hf] at h1
   simp only [Bool.and_eq_true,decide_eq_true_eq] at h1
   cases hb : fn.body with
   | none=>rw [hb] at h1; cases h1.2
   | some c=>rw [hb] at h1; exact ⟨fn,c,rfl,h1.1,hb,h1.2⟩
 refine { use:=fun g hg=>?_,prim:=fun g p hg=>(by cases hg),orders:=?_,hints:=fun g fn c hg hf hc=>?_ }
 ·obtain ⟨fn,c,h1,h2,h3,_⟩:=all g hg
  exact ⟨fn,h1,h2,by rw [h3]; rfl⟩
 ·show Try.prog.follows .mixedOrders = true
  kernel_rfl
 ·obtain ⟨fn',c',h1,_,h3,h4⟩:=all g hg
  have e : fn' = fn:=oiA (h1.symm.trans hf)
  subst e
  have e2 : c' = c:=oiA (h3.symm.trans hc)
  subst e2
  exact h4
theorem qAr9 {C : Cfg} {f : FuncId} {ds : List D} {n : Int} (h : Res C f ds (PI n)) : ∃ h1,Lim C f (ds.map .d) [] = some (PI n,h1):=by
 obtain ⟨p,hp,h1,h2⟩:=h
 refine ⟨hp,?_⟩
 rw [h1]
 have : p = PI n:=by
  have gen : ∀ x,(rs hp depth x).map PV.d = some (PI n)→rs hp depth x = some (.v (.int .i64 n)):=fun x hx=>by
   obtain ⟨d,h3,h4⟩:=Option.map_eq_some_iff.1 hx
   rw [h3]; cases h4; rfl
  cases p with
  | tp vs =>
   simp only [rsT] at h2
   obtain ⟨d,_,h4⟩:=Option.map_eq_some_iff.1 h2
   cases h4
  | d x =>
   simp only [rsT,rs_dd,Option.map_some,Option.some.injEq] at h2
   exact h2
  | im a es =>
   have:=gen _ h2
   obtain ⟨x,_,h4⟩:=Option.map_eq_some_iff.1 (show (mapO (mapO (rs hp 39)) es).map D.rd = _ from this)
   cases h4
  | bx cs =>
   have:=gen _ h2
   obtain ⟨x,_,h4⟩:=Option.map_eq_some_iff.1 (show (mapO (rs hp 39) cs).map D.bx = _ from this)
   cases h4
  | ref id ver off len =>
   have:=gen _ h2
   have e : (match Abs.rowAt hp id ver with | some (_,_,es)=>(mapO (mapO (rs hp 39)) ((es.drop off).take len)).map D.rd | none=>none) = some (D.v (.int .i64 n)):=this
   split at e
   ·obtain ⟨x,_,h4⟩:=Option.map_eq_some_iff.1 e
    cases h4
   ·cases e
  | ptr id ver idx off =>
   have:=gen _ h2
   have e : (match Abs.rowAt hp id ver with | some (_,_,es)=>(es[idx]?).bind fun cs=>(mapO (rs hp 39) (cs.drop off)).map D.bx | none=>none) = some (D.v (.int .i64 n)):=this
   split at e
   ·obtain ⟨x,_,h3⟩:=Option.bind_eq_some_iff.1 e
    obtain ⟨x,_,h4⟩:=Option.map_eq_some_iff.1 h3
    cases h4
   ·cases e
  | ag cs =>
   have:=gen _ h2
   obtain ⟨x,_,h4⟩:=Option.map_eq_some_iff.1 (show (mapO (rs hp 39) cs).map D.ag = _ from this)
   cases h4
  | ifc t x =>
   have:=gen _ h2
   obtain ⟨x,_,h4⟩:=Option.map_eq_some_iff.1 (show (rs hp 39 x).map (D.ifc t) = _ from this)
   cases h4
  | fn f cs =>
   have:=gen _ h2
   obtain ⟨x,_,h4⟩:=Option.map_eq_some_iff.1 (show (mapO (rs hp 39) cs).map (D.fn f) = _ from this)
   cases h4
  | mp id=>exact absurd (gen (.mp id) h2) (fun e=>by cases (show (none : Option D) = _ from e))
  | it id=>exact absurd (gen (.it id) h2) (fun e=>by cases (show (none : Option D) = _ from e))
  | junk=>exact absurd (gen .junk h2) (fun e=>by cases (show (none : Option D) = _ from e))
 rw [this]
theorem qsI9 : CmpOK Try.prog 76 qa9 GoodM cmpM:=qxk9 (fun W0=>qbJ9 (cOk0 W0) 76 rfl) (fun x y gx gy=>by
 obtain ⟨o,h1,h2,_⟩:=qru9 gx gy
 rw [h2]
 exact qAr9 (Lz.poly_bag_told_c1_R h1))
noncomputable def primS : List PV→AHeap→Option (PV × AHeap):=qhv9 76 2 qa9 GoodM cmpM
theorem qyq9 (W0 : World) : FSound W0 Try.prog 75 primS:=qrF9 Try.sortM (by decide) Try.isAgg51 Try.sizeOf51 qrt9 (callable Try.func76 (by kernel_rfl) (by kernel_rfl)) qsI9
noncomputable def prim : FuncId→Option (List PV→AHeap→Option (PV × AHeap))
 | 61=>some (qbP9 1 4)
 | 74=>some (qbP9 1 8)
 | 75=>some primS
 | _=>none
noncomputable def C : Cfg:={ P:=Try.prog,mode:=fun _=>0,prim:=prim,hint:=fun _=>⟨0,0,[],[],[],[]⟩,use:=fun _=>false,settle:=fun _=>false }
theorem cOk (W : World) : COk W C:=by
 refine { use:=fun g hg=>(by cases hg),prim:=fun g p hg=>?_,orders:=?_,hints:=fun g fn c hg hf hc=>(by cases hg) }
 ·have hg' : prim g = some p:=hg
  unfold prim at hg'
  split at hg'
  ·cases hg'; exact ⟨callable Try.func61 (by kernel_rfl) (by kernel_rfl),Ld.cls_61 W⟩
  ·cases hg'; exact ⟨callable Try.func74 (by kernel_rfl) (by kernel_rfl),Ld.cls_74 W⟩
  ·cases hg'; exact ⟨callable Try.func75 (by kernel_rfl) (by kernel_rfl),qyq9 W⟩
  ·cases hg'
 ·show Try.prog.follows .mixedOrders = true
  kernel_rfl
theorem qsG9 {args : List PV} {h : AHeap} : callP C (Lim C) 61 args h = qbP9 1 4 args h:=rfl
theorem qsP9 {args : List PV} {h : AHeap} : callP C (Lim C) 74 args h = qbP9 1 8 args h:=rfl
attribute [go_sem] qsG9 qsP9
theorem rc_51 {s : St} {a : Nat} : resP C.P s (.cell a 51) = rcA s a 2:=quK9 (by kernel_rfl) (by kernel_rfl)
end Lt
namespace Lt
open Ld Go Go.Proofs Go.Abs
set_option maxRecDepth 8000
def sL : Code→Code | .seq a _=>a | c=>c
def sR : Code→Code | .seq _ b=>b | c=>c
def bC : Code→Code | .block _ c=>c | c=>c
def lC : Code→Code | .loop c=>c | c=>c
noncomputable def b46 : Code:=match Try.f46.body with | some c=>c | none=>.skip
theorem body46 : Try.f46.body = some b46:=rfl
noncomputable def d0 : Code:=sL b46
noncomputable def d1 : Code:=sL (sR b46)
noncomputable def d2 : Code:=sL (sL (sR (sR b46)))
noncomputable def lbd : Code:=lC (bC (sR (sL (sR (sR b46)))))
noncomputable def d3 : Code:=sL lbd
noncomputable def d4 : Code:=sL (bC (sR (sR lbd)))
noncomputable def d5 : Code:=sR (bC (sR (sR lbd)))
noncomputable def d67 : Code:=sR (sR (sR b46))
theorem qzU9 : lbd = .seq d3 (.seq (.cond (.tmp 9) .skip (.exit 0)) (.block 1 (.seq d4 d5))):=rfl
theorem qAf9 : b46 = .seq d0 (.seq d1 (.seq (.seq d2 (.block 0 (.loop lbd))) d67)):=rfl
def o2 : Array Oper := #[{ dst := some 6, op := Go.Op.move (Go.Operand.tmp 0), type := 56, pos := "poly.go:95", after := #[], guard := none },
 { dst := some 7, op := Go.Op.range 56 (Go.Operand.tmp 6), type := 0, pos := "poly.go:95", after := #[{ on := 0, ground := Go.Ground.data }], guard := none }]
def o3 : Array Oper := #[{ dst := some 8, op := Go.Op.next (Go.Operand.tmp 7) false, type := 0, pos := "poly.go:95", after := #[], guard := none },
 { dst := some 9, op := Go.Op.extract (Go.Operand.tmp 8) 0, type := 4, pos := "poly.go:95", after := #[{ on := 0, ground := Go.Ground.data }], guard := none }]
def o4h : Oper := { dst := some 10, op := Go.Op.entry (Go.Operand.tmp 7), type := 0, pos := "poly.go:95", after := #[], guard := none }
def o4t : List Oper := [{ dst := some 11, op := Go.Op.extract (Go.Operand.tmp 10) 1, type := 51, pos := "poly.go:95", after := #[{ on := 0, ground := Go.Ground.data }], guard := none },
 { dst := some 5, op := Go.Op.alloc 51, type := 0, pos := "poly.go:95", after := #[], guard := none },
 { dst := none, op := Go.Op.store 51 (Go.Operand.tmp 5) (Go.Operand.tmp 11), type := 0, pos := "poly.go:95", after := #[{ on := 2, ground := Go.Ground.data }, { on := 1, ground := Go.Ground.data }, { on := 0, ground := Go.Ground.phase }, { on := 1, ground := Go.Ground.phase }, { on := 2, ground := Go.Ground.phase }], guard := none }]
def o4 : Array Oper:=(o4h::o4t).toArray
theorem d2_eq : d2 = .region 2 o2 false:=rfl
theorem d3_eq : d3 = .region 3 o3 false:=rfl
theorem d4_eq : d4 = .region 4 o4 false:=rfl
def ht : Hint:=⟨685,0,[(0,544),(1,544)],[(5,[3,6,9,1005])],[],[(1,[(3,2)]),(4,[(5,0)])]⟩
def a5 : ACode:=.reg [] [] [.M 12 3,.T 13 (.fa 0 (.tmp 5)),⟨some (14,false),.load none (.tmp 13),none,true,false⟩,.T 15 (.call 61 [.tmp 14]),.T 16 (.fa 1 (.tmp 5)),⟨some (17,false),.loadB none (.tmp 16),none,true,false⟩,.T 18 (.call 74 [.tmp 17]),.T 19 (.build [(0,1),(1,1)] [.im true [],.im true []] [(0,.tmp 15),(1,.tmp 18)]),.T 20 (.lit 2 [(0,.tmp 19)]),.T 21 (.app 2 48 (.tmp 12) (.tmp 20)),.N 3 21]
def a0 : ACode:=.reg [] [] [.K 2 (.mv (.const (.slice none 0 0)))]
def a1 : ACode:=.reg [] [(3,2)] [.K 3 (.mv (.const (.slice none 0 0)))]
def a67 : ACode:=.seq (.reg [] [] [.M 22 3,.T 23 (.call 75 [.tmp 22,.func 76])]) (.seq (.reg [] [] [.M 24 3,.N 2 24]) .ret)
def a4 : List AOper:=[.T 11 (.ext (.tmp 10) 1),.K 5 (.alloc [.im true [],.im true []] 2),⟨none,.store 2 (.tmp 5) (.tmp 11),none,false,false⟩]
theorem st1 : qP9 C.P C.settle ht 25 d1 = some a1:=by kernel_rfl
theorem st5 : qP9 C.P C.settle ht 25 d5 = some a5:=by kernel_rfl
theorem st67 : qP9 C.P C.settle ht 25 d67 = some a67:=by kernel_rfl
theorem st4 : qec9 C.P C.settle ht.keep 25 o4 none 1 o4t = some a4:=by kernel_rfl
theorem ok5 : qbb9 ht d5 = true:=by kernel_rfl
theorem ok67 : qbb9 ht d67 = true:=by kernel_rfl
theorem ok0 : qbb9 ht d0 = true:=by kernel_rfl
theorem ok1 : qbb9 ht d1 = true:=by kernel_rfl
def envL (bm r g v n : Nat) : Env:=[(0,.d (.v (.map (some bm)))),(2,.im true []),(3,.ref g v 0 n),(7,.d (.v (.pointer (some ⟨r,0,none⟩))))]
def env0 (bm : Nat) : Env:=[(0,.d (.v (.map (some bm))))]
def env1 (bm : Nat) : Env:=[(0,.d (.v (.map (some bm)))),(2,.im true []),(3,.ref 0 0 0 0)]
theorem sem0 {bm : Nat} : semA C (Lim C) 685 a0 ⟨env0 bm,[]⟩ = some (.normal,⟨[(0,.d (.v (.map (some bm)))),(2,.im true [])],[]⟩):=by
 simp +decide only [go_sem,a0,env0]
theorem sem1 {bm : Nat} : semA C (Lim C) 685 a1 ⟨[(0,.d (.v (.map (some bm)))),(2,.im true [])],[]⟩ = some (.normal,⟨env1 bm,[.row false 0 2 []]⟩):=by
 simp +decide only [go_sem,a1,env1]
def te4 (key : Value) (m : Mono) : Env:=[(10,.tp [.d (.v key),.d (.ag (qa9 m))])]
theorem ops4 {bm r v n : Nat} {G : AHeap} {es : List (List PV)} {m : Mono} {key : Value} : opsA C (Lim C) a4 (te4 key m) (envL bm r G.length v n) (G++[.row false v 2 es]) = some ⟨(envL bm r G.length v n).set 5 (.ptr (G.length + 1) 0 0 0),G++[.row false v 2 es,.row false 0 2 [(qa9 m).map .d]]⟩:=by
 simp +decide only [go_sem,a4,te4,envL,qa9]
theorem co4 {bm r v n : Nat} {G : AHeap} {es : List (List PV)} {m : Mono} : coE ht (lookC ht.post 4) ⟨(envL bm r G.length v n).set 5 (.ptr (G.length + 1) 0 0 0),G++[.row false v 2 es,.row false 0 2 [(qa9 m).map .d]]⟩ = some ⟨(envL bm r G.length v n).set 5 (.d (.bx (qa9 m))),G++[.row false v 2 es,.row true 0 2 [(qa9 m).map .d]]⟩:=by
 rw [← qvf9]
 simp +decide only [go_sem,ht,lookC,envL,qa9]
def env5 (bm r g v n : Nat) (m : Mono) : Env:=[(0,.d (.v (.map (some bm)))),(2,.im true []),(3,.ref g (v + 1) 0 (n + 1)),(5,.d (.bx (qa9 m))),(7,.d (.v (.pointer (some ⟨r,0,none⟩))))]
def h5 (G : AHeap) (v : Nat) (es : List (List PV)) (m : Mono) : AHeap:=G++[.row false (v + 1) 2 (es++[[.ref (G.length + 2) 0 0 m.Coef.length,.ref (G.length + 3) 0 0 m.Exps.length]]),.row true 0 2 [(qa9 m).map .d],.row false 0 1 (rowP qb9 m.Coef),.row false 0 1 (rowP intD m.Exps)]
set_option maxHeartbeats 4000000 in
theorem sem5 {bm r v n : Nat} {G : AHeap} {es : List (List PV)} {m : Mono} (hn : es.length = n) (hl : n≤1048576) (hc : m.Coef.length≤1048576) (he : m.Exps.length≤1048576) : semA C (Lim C) 685 a5 ⟨(envL bm r G.length v n).set 5 (.d (.bx (qa9 m))),G++[.row false v 2 es,.row true 0 2 [(qa9 m).map .d]]⟩ = some (.normal,⟨env5 bm r G.length v n m,h5 G v es m⟩):=by
 have i1 : m.Coef.length * 4≤140737488355328:=by omega
 have i2 : m.Exps.length * 8≤140737488355328:=by omega
 have i3 : (n + 1) * 48≤140737488355328:=by omega
 have i4 : es.take n = es:=List.take_of_length_le (by omega)
 simp +decide only [go_sem,a5,envL,env5,h5,qa9,i1,i2,i3,i4,hn,if_true]
end Lt
namespace Lt
open Ld Go Go.Proofs Go.Abs
set_option maxRecDepth 8000
structure MK where
 m : Mono
 c : Nat
 e : Nat
def GoodK (G : AHeap) (x : MK) : Prop:=G[x.c]? = some (.row false 0 1 (rowP qb9 x.m.Coef))∧G[x.e]? = some (.row false 0 1 (rowP intD x.m.Exps))∧GoodM x.m
def encK (x : MK) : List PV:=[.ref x.c 0 0 x.m.Coef.length,.ref x.e 0 0 x.m.Exps.length]
def AK (G : AHeap) : Type:={x : MK // GoodK G x}
theorem qby9 {G t : AHeap} {i : Nat} {o : AObj} (h : G[i]? = some o) : (G++t)[i]? = some o:=by
 rw [List.getElem?_append_left (List.getElem?_eq_some_iff.1 h).1]; exact h
theorem qrk9 {α : Type} {f : α→List D} {l : List α} {h : AHeap} {id ver n : Nat} {fz : Bool} {sz : Nat} (ho : h[id]? = some (.row fz ver sz (rowP f l))) (hn : l.length = n) : rs h 39 (.ref id ver 0 n) = some (.rd (l.map f)):=by
 rw [qod9]
 simp only [Abs.rowAt,ho,if_true,List.drop_zero,qiz9 hn]
 rw [qgJ9 (n:=37)]; rfl
theorem qmd9 {h : AHeap} {x : MK} (h1 : h[x.c]? = some (.row false 0 1 (rowP qb9 x.m.Coef))) (h2 : h[x.e]? = some (.row false 0 1 (rowP intD x.m.Exps))) : mapO (rs h 39) (encK x) = some (qa9 x.m):=by
 simp only [encK,mapO,qrk9 h1 rfl,qrk9 h2 rfl]; rfl
theorem qke9 {α : Type} {f : α→List D} {l : List α} {h : AHeap} {id ver n : Nat} {fz : Bool} {sz : Nat} (ho : h[id]? = some (.row fz ver sz (rowP f l))) : reach h 39 (.ref id ver 0 n) = [id]:=by
 show (id::(match Abs.rowAt h id ver with | some (_,_,es)=>es.flatMap fun cs=>cs.flatMap (reach h 38) | none=>[])) = _
 simp only [Abs.rowAt,ho,if_true]
 rw [qgY9 (n:=37)]
theorem rs_ag {h : AHeap} {cs : List PV} : rs h depth (.ag cs) = (mapO (rs h 39) cs).map .ag:=rfl
def rowK {G : AHeap} (l : List (AK G)) : List (List PV):=l.map fun x=>encK x.1
theorem qwG9 {G : AHeap} {l : List (AK G)} {i : Nat} : (rowK l)[i]? = (l[i]?).map fun x=>encK x.1:=by simp [rowK]
theorem qkB9 {G : AHeap} {l : List (AK G)} : (rowK l).length = l.length:=by simp [rowK]
theorem quj9 {α β : Type} {f : α→β} {a b : List β} (h : a.Perm b) : ∀ l : List α,l.map f = a→∃ r,l.Perm r∧r.map f = b:=by
 induction h with
 | nil=>intro l hl; exact ⟨l,.refl _,hl⟩
 | cons x _ ih =>
  intro l hl
  cases l with
  | nil=>cases hl
  | cons y l =>
   rw [List.map_cons,List.cons.injEq] at hl
   obtain ⟨r,h1,h2⟩:=ih l hl.2
   exact ⟨y::r,h1.cons y,by rw [List.map_cons,hl.1,h2]⟩
 | swap x y l0 =>
  intro l hl
  match l,hl with
  | u::v::l,hl =>
   simp only [List.map_cons,List.cons.injEq] at hl
   exact ⟨v::u::l,.swap _ _ _,by simp [hl.1,hl.2.1,hl.2.2]⟩
 | trans _ _ ih1 ih2 =>
  intro l hl
  obtain ⟨r,h1,h2⟩:=ih1 l hl
  obtain ⟨s,h3,h4⟩:=ih2 r h2
  exact ⟨s,h1.trans h3,h4⟩
theorem qsB9 {G : AHeap} {l : List (AK G)} (h : BagOK (l.map fun x=>x.1.m)) : ∃ r : List (AK G),r.Perm l∧(r.map fun x=>x.1.m) = qcB9 (l.map fun x=>x.1.m)∧(r.map fun x=>x.1.m).Pairwise fun x y=>cmpM x y < 0:=by
 obtain ⟨r,hr1,hr2⟩:=quj9 (f:=fun x : AK G=>x.1.m) (Law.sortMo_perm (l.map fun x=>x.1.m)).symm l rfl
 refine ⟨r,hr1.symm,hr2,?_⟩
 have hrise:=Law.sortMo_rise (fun x hx=>(h.2.1 x hx).2.1) h.2.2
 rw [← hr2] at hrise
 refine List.Pairwise.imp_of_mem (fun {x y} hx hy hxy=>?_) hrise
 obtain ⟨x,_,rfl⟩:=List.mem_map.1 hx
 obtain ⟨y,_,rfl⟩:=List.mem_map.1 hy
 exact (qfJ9 x.2.2.2 y.2.2.2).2 hxy
theorem qvt9 {h : AHeap} {x : MK} (h1 : h[x.c]? = some (.row false 0 1 (rowP qb9 x.m.Coef))) (h2 : h[x.e]? = some (.row false 0 1 (rowP intD x.m.Exps))) {i : Nat} (hi : i ≠ x.c∧i ≠ x.e) : ∀ u∈encK x,i ∉ reach h 39 u:=by
 intro u hu
 simp only [encK,List.mem_cons,List.not_mem_nil,or_false] at hu
 rcases hu with rfl | rfl
 ·have:=qke9 (n:=x.m.Coef.length) h1
  rw [this]; simpa using hi.1
 ·have:=qke9 (n:=x.m.Exps.length) h2
  rw [this]; simpa using hi.2
def env6 (bm r g v n : Nat) : Env:=[(0,.d (.v (.map (some bm)))),(2,.ref g v 0 n),(3,.ref g v 0 n),(7,.d (.v (.pointer (some ⟨r,0,none⟩))))]
theorem sem67 {bm r v n : Nat} {G : AHeap} {l k : List (AK G)} (hn : l.length = n) (hs : n < 1073741824) (hp : k.Perm l) (hr : (k.map fun x=>x.1.m).Pairwise fun x y=>cmpM x y < 0) : semA C (Lim C) 685 a67 ⟨envL bm r G.length v n,G++[.row false v 2 (rowK l)]⟩ = some (.ret,⟨env6 bm r G.length v n,G++[.row false v 2 (rowK k)]⟩):=by
 have at0 : (G++[AObj.row false v 2 (rowK l)])[G.length]? = some (.row false v 2 (rowK l)):=by
  rw [List.getElem?_append_right (Nat.le_refl _),Nat.sub_self]; rfl
 have hS : Sorts 2 qa9 GoodM cmpM (G++[.row false v 2 (rowK l)]) G.length v n (l.map fun x=>(x.1.m,encK x.1)) (k.map fun x=>(x.1.m,encK x.1)):=by
  refine ⟨by rw [at0,List.map_map]; rfl,by rw [List.length_map,hn],hs,fun z hz=>?_,hp.map _,by rw [List.pairwise_map] at hr ⊢; exact hr⟩
  obtain ⟨x,_,rfl⟩:=List.mem_map.1 hz
  have g1:=qby9 (t:=[AObj.row false v 2 (rowK l)]) x.2.1
  have g2:=qby9 (t:=[AObj.row false v 2 (rowK l)]) x.2.2.1
  have l1:=(List.getElem?_eq_some_iff.1 x.2.1).1
  have l2:=(List.getElem?_eq_some_iff.1 x.2.2.1).1
  exact ⟨x.2.2.2,rfl,qmd9 g1 g2,qvt9 g1 g2 ⟨by omega,by omega⟩⟩
 have h1:=qql9 qrt9 qws9 (g:=76) hS
 have e : (G++[AObj.row false v 2 (rowK l)]).set G.length (.row false v 2 ((k.map fun x=>(x.1.m,encK x.1)).map (·.2))) = G++[.row false v 2 (rowK k)]:=by
  rw [List.set_append_right _ _ (Nat.le_refl _),Nat.sub_self,List.map_map]; rfl
 rw [e] at h1
 have h1k : callP C (Lim C) 75 [.ref G.length v 0 n,.fn 76 []] (G++[.row false v 2 (rowK l)]) = _:=h1
 simp +decide only [go_sem,a67,envL,env6,h1k]
end Lt
namespace Lt
open Ld Go Go.Proofs Go.Abs
open Go.ChangeMaps (setBlock)
set_option maxRecDepth 8000
section
variable {W0 : World} {E : Nat→Prop} {X : Nat→Prop} {h : AHeap} {m : Places} {w w' : World}
theorem vturn {r : Nat} (hw : ∀ b,b ≠ r→w'.heap[b]? = w.heap[b]?) (hE : E r) (hm : ∀ id o g bo,h[id]? = some o→m id = some (g,bo)→g ≠ r) {x : PV} {v : Value} (hd : VRel E h m w x v) : VRel E h m w' x v:=by
 have blk : ∀ b,¬ E b→w'.heap[b]? = w.heap[b]?:=fun b hb=>hw b (fun e=>hb (by rw [e]; exact hE))
 induction hd with
 | d x v hd=>exact .d x v (hd.move (fun _ _ h=>h) (fun b _ hb=>blk b hb))
 | junk v=>exact .junk v
 | im t xs A c sz f hc ht hsz hA hc1 hr ih =>
  refine .im t xs A c sz f hc ht hsz hA (fun i j cs u ad h1 h2 h3=>?_) ih
  obtain ⟨a1,a2,a3⟩:=hc1 i j cs u ad h1 h2 h3
  exact ⟨a1,(qdg9 (by rw [qbI9]; exact blk _ a1)).trans a2,a3⟩
 | bx cs ad f hc1 hr ih =>
  refine .bx cs ad f (fun j u h1=>?_) ih
  obtain ⟨a1,a2,a3⟩:=hc1 j u h1
  exact ⟨a1,(qdg9 (by rw [qbI9]; exact blk _ a1)).trans a2,a3⟩
 | ref id ver off len v hs =>
  obtain ⟨A,cap,e1,e2,e3,fz,ver',sz,es,ho,hle,hcur⟩:=hs
  refine .ref id ver off len v ⟨A,cap,e1,e2,e3,fz,ver',sz,es,ho,hle,fun e=>?_⟩
  obtain ⟨c1,c2⟩:=hcur e
  refine ⟨c1,?_⟩
  cases hmm : m id with
  | none=>rw [hmm] at c2; exact c2
  | some p =>
   obtain ⟨g,bo⟩:=p
   rw [hmm] at c2
   obtain ⟨cur,e,d1,d2,d3⟩:=c2
   exact ⟨cur,e,(hw g (hm id _ g bo ho hmm)).trans d1,d2,d3⟩
 | ptr id ver idx off v hp=>exact .ptr id ver idx off v hp
 | mp id es g bo ho hm'=>exact .mp id es g bo ho hm'
 | it id s pos g bo ho hm'=>exact .it id s pos g bo ho hm'
 | ag cs vs hl h1 hr ih=>exact .ag cs vs hl h1 ih
 | tp cs vs hl hr ih=>exact .tp cs vs hl ih
 | ifc t x v h ih=>exact .ifc t x v ih
 | fn f cs vs hl hr ih=>exact .fn f cs vs hl ih
theorem oturn {r : Nat} (hw : ∀ b,b ≠ r→w'.heap[b]? = w.heap[b]?) (hE : E r) (hm : ∀ id o g bo,h[id]? = some o→m id = some (g,bo)→g ≠ r) {o : AObj} {p : Option (Nat × Nat)} (hp : ∀ g bo,p = some (g,bo)→g ≠ r) (ho : ORel E h m w o p) : ORel E h m w' o p:=by
 cases o with
 | row fz ver sz es =>
  cases p with
  | none=>exact ho
  | some p =>
   obtain ⟨g,bo⟩:=p
   obtain ⟨h0,cur,e,k1,k2,k3,k4⟩:=ho
   refine ⟨h0,cur,e,(hw g (hp g bo rfl)).trans k1,k2,k3,fun i j cs u a b=>?_⟩
   obtain ⟨x,c1,c2,c3⟩:=k4 i j cs u a b
   exact ⟨x,c1,c2,vturn hw hE hm c3⟩
 | map es =>
  cases p with
  | none=>exact ho
  | some p =>
   obtain ⟨g,bo⟩:=p
   obtain ⟨ents,clock,h1,h2,h3,h4⟩:=ho
   refine ⟨ents,clock,(hw g (hp g bo rfl)).trans h1,h2,fun i k u x a b=>?_,h4⟩
   obtain ⟨c1,c2⟩:=h3 i k u x a b
   exact ⟨c1,vturn hw hE hm c2⟩
 | siter s pos =>
  cases p with
  | none=>exact ho
  | some p=>obtain ⟨g,bo⟩:=p; exact (hw g (hp g bo rfl)).trans ho
theorem hturn {r : Nat} (H : HRel W0 X h m w) (hw : ∀ b,b ≠ r→w'.heap[b]? = w.heap[b]?) (hs : w'.heap.size = w.heap.size) (hX : X r) (hr : W0.heap.size≤r) : HRel W0 X h m w':=by
 have hm : ∀ id o g bo,h[id]? = some o→m id = some (g,bo)→g ≠ r:=fun id o g bo ho hm e=>H.apart id o g bo ho hm (by rw [e]; exact hX)
 exact {
  obj:=fun id o ho=>oturn hw (.inl hX) hm (fun g bo hp=>hm id o g bo ho hp) (H.obj id o ho)
  lt:=fun id o g bo ho h1=>by rw [hs]; exact H.lt id o g bo ho h1
  inj:=H.inj
  apart:=H.apart
  xlt:=fun b hb=>by rw [hs]; exact H.xlt b hb
  osz:=by rw [hs]; exact H.osz
  old:=fun b hb=>(hw b (by omega)).trans (H.old b hb)
  new:=H.new }
theorem sturn {t : Hint} {nt : Nat} {s : St} {a : Act} {r : Nat} (hs : SRel W0 X t 0 nt s m w a) (hw : ∀ b,b ≠ r→w'.heap[b]? = w.heap[b]?) (hz : w'.heap.size = w.heap.size) (hX : X r) (hr : W0.heap.size≤r) : SRel W0 X t 0 nt s m w' a :=
 ⟨hs.size,hs.dfs,hturn hs.heap hw hz hX hr,fun i=>vturn hw (.inl hX) (fun id o g bo ho hm e=>hs.heap.apart id o g bo ho hm (by rw [e]; exact hX)) (hs.env i),hs.keep⟩
theorem qcr9 {a : Act} {d : Nat} {v : Value} {i : Nat} (hd : d < a.tmps.size) : (a.put (some d) v).eval (.tmp i) = if i = d then v else a.eval (.tmp i):=by
 simp only [Act.put,Act.eval,Array.getD_eq_getD_getElem?,Array.getElem?_setIfInBounds]
 by_cases e : i = d
 ·subst e; simp [hd]
 ·rw [if_neg e,if_neg (by omega)]
theorem sput {t : Hint} {nt : Nat} {s : St} {a : Act} {d : Nat} {v : Value} (hs : SRel W0 X t 0 nt s m w a) (hd : d < nt) (hx : s.env.get d = .junk) : SRel W0 X t 0 nt s m w (a.put (some d) v) :=
 ⟨by simp only [Act.put,Array.size_setIfInBounds]; exact hs.size,hs.dfs,hs.heap,fun i=>by
  rw [qcr9 (by rw [hs.size]; exact hd)]
  split
  ·rename_i e; rw [e,hx]; exact .junk _
  ·exact hs.env i,hs.keep⟩
theorem qdY9 {P : Program} {ops : Array Oper} {Q : Exit→Act→World→Prop} {k : Nat} {rest : List Nat} {a : Act} {o : Oper} {v : Value} (ho : ops[k]? = some o) (hg : o.guard = none) (hrun : (execOp a.eval o).run P w = .ok (.value v) w') (hk : wpOps P ops Q rest (a.put o.dst v) w') : wpOps P ops Q (k::rest) a w:=by
 simp only [wpOps,ho]
 have : Region.wanted o (yielded ops a.tmps) = true:=by unfold Region.wanted; rw [hg]
 rw [if_pos this]
 left
 unfold Oper.wp
 rw [hrun,Oper.upon_value]
 exact hk
theorem qhZ9 {h' : AHeap} {m' : Places} {id id' ver off len : Nat} {v : Value} (ho : h'[id']? = h[id]?) (hm : m' id' = m id) (hs : SRef h m w id ver off len v) : SRef h' m' w id' ver off len v:=by
 obtain ⟨A,cap,e1,e2,e3,fz,ver',sz,es,h1,hle,hcur⟩:=hs
 refine ⟨A,cap,e1,e2,e3,fz,ver',sz,es,ho.trans h1,hle,fun e=>?_⟩
 obtain ⟨c1,c2⟩:=hcur e
 exact ⟨c1,by rw [hm]; exact c2⟩
def IsV (es : List (List PV)) : Prop:=∀ cs∈es,∀ u∈cs,∃ x,u = .d (.v x)
def IsInt (o : AObj) : Prop:=∃ fz ver sz es,o = .row fz ver sz es∧IsV es
theorem isV32 {l : List Int} : IsV (rowP qb9 l):=fun cs hcs u hu=>by
 obtain ⟨a,_,rfl⟩:=List.mem_map.1 hcs
 simp [qb9] at hu
 exact ⟨_,hu⟩
theorem isV64 {l : List Int} : IsV (rowP intD l):=fun cs hcs u hu=>by
 obtain ⟨a,_,rfl⟩:=List.mem_map.1 hcs
 simp [intD] at hu
 exact ⟨_,hu⟩
theorem qpF9 {E' : Nat→Prop} {h' : AHeap} {m' : Places} {w' : World} {x v : Value} (hv : VRel E h m w (.d (.v x)) v) : VRel E' h' m' w' (.d (.v x)) v:=by
 cases hv with | d _ _ hd=>cases hd; exact .d _ _ (.v _)
theorem qjb9 {E' : Nat→Prop} {h' : AHeap} {m' : Places} {fz fz' : Bool} {ver ver' sz : Nat} {es : List (List PV)} {p : Option (Nat × Nat)} (hv : IsV es) (ho : ORel E h m w (.row fz ver sz es) p) : ORel E' h' m' w (.row fz' ver' sz es) p:=by
 cases p with
 | none=>exact ho
 | some p =>
  obtain ⟨g,bo⟩:=p
  obtain ⟨h0,cur,e,k1,k2,k3,k4⟩:=ho
  refine ⟨h0,cur,e,k1,k2,k3,fun i j cs u a b=>?_⟩
  obtain ⟨x,c1,c2,c3⟩:=k4 i j cs u a b
  obtain ⟨y,rfl⟩:=hv cs (List.mem_of_getElem? a) u (List.mem_of_getElem? b)
  exact ⟨x,c1,c2,qpF9 c3⟩
theorem HRel.reix (H : HRel W0 X h m w) {h' : AHeap} {φ : Nat→Nat} (hφ : ∀ i j,i < h'.length→j < h'.length→φ i = φ j→i = j) (hd : ∀ i,i < h'.length→φ i < h.length) (ho : ∀ id o,h'[id]? = some o→ORel (Ex X h' (fun i=>m (φ i))) h' (fun i=>m (φ i)) w o (m (φ id))) : HRel W0 X h' (fun i=>m (φ i)) w:=by
 have lt : ∀ {id : Nat} {o : AObj},h'[id]? = some o→id < h'.length:=fun ho=>(List.getElem?_eq_some_iff.1 ho).1
 have ob : ∀ id,id < h'.length→∃ o,h[φ id]? = some o:=fun id hi=>⟨_,List.getElem?_eq_getElem (hd id hi)⟩
 refine ⟨ho,fun id o g bo h1 h2=>?_,fun id id' o o' g bo bo' h1 h1' h2 h2'=>?_,fun id o g bo h1 h2=>?_,H.xlt,H.osz,H.old,fun id o g bo h1 h2=>?_⟩
 ·obtain ⟨o1,k1⟩:=ob id (lt h1)
  exact H.lt (φ id) o1 g bo k1 h2
 ·obtain ⟨o1,k1⟩:=ob id (lt h1)
  obtain ⟨o2,k2⟩:=ob id' (lt h1')
  exact hφ id id' (lt h1) (lt h1') (H.inj (φ id) (φ id') o1 o2 g bo bo' k1 k2 h2 h2')
 ·obtain ⟨o1,k1⟩:=ob id (lt h1)
  exact H.apart (φ id) o1 g bo k1 h2
 ·obtain ⟨o1,k1⟩:=ob id (lt h1)
  exact H.new (φ id) o1 g bo k1 h2
def RefsTo (N : Nat) (es : List (List PV)) : Prop:=∀ cs∈es,cs.length = 2∧∀ u∈cs,∃ id a b n,u = .ref id a b n∧id < N
def phi (N i : Nat) : Nat:=if i < N then i else if i = N then N + 2 else if i = N + 1 then N + 3 else N
def hN (G : AHeap) (v : Nat) (es : List (List PV)) (mo : Mono) : AHeap:=(G++[.row false 0 1 (rowP qb9 mo.Coef),.row false 0 1 (rowP intD mo.Exps)])++[.row false (v + 1) 2 (es++[[.ref G.length 0 0 mo.Coef.length,.ref (G.length + 1) 0 0 mo.Exps.length]])]
section
variable {G : AHeap} {v : Nat} {es : List (List PV)} {mo : Mono}
theorem h5_lt {i : Nat} (h : i < G.length) : (h5 G v es mo)[i]? = G[i]?:=List.getElem?_append_left h
theorem h5_0 : (h5 G v es mo)[G.length]? = some (.row false (v + 1) 2 (es++[[.ref (G.length + 2) 0 0 mo.Coef.length,.ref (G.length + 3) 0 0 mo.Exps.length]])):=by
 unfold h5; rw [List.getElem?_append_right (Nat.le_refl _),Nat.sub_self]; rfl
theorem h5_2 : (h5 G v es mo)[G.length + 2]? = some (.row false 0 1 (rowP qb9 mo.Coef)):=by
 unfold h5; rw [List.getElem?_append_right (by omega),show G.length + 2 - G.length = 2 by omega]; rfl
theorem h5_3 : (h5 G v es mo)[G.length + 3]? = some (.row false 0 1 (rowP intD mo.Exps)):=by
 unfold h5; rw [List.getElem?_append_right (by omega),show G.length + 3 - G.length = 3 by omega]; rfl
theorem hN_lt {i : Nat} (h : i < G.length) : (hN G v es mo)[i]? = G[i]?:=by
 unfold hN; rw [List.append_assoc]; exact List.getElem?_append_left h
theorem hN_0 : (hN G v es mo)[G.length]? = some (.row false 0 1 (rowP qb9 mo.Coef)):=by
 unfold hN; rw [List.append_assoc,List.getElem?_append_right (Nat.le_refl _),Nat.sub_self]; rfl
theorem hN_1 : (hN G v es mo)[G.length + 1]? = some (.row false 0 1 (rowP intD mo.Exps)):=by
 unfold hN; rw [List.append_assoc,List.getElem?_append_right (by omega),show G.length + 1 - G.length = 1 by omega]; rfl
theorem hN_2 : (hN G v es mo)[G.length + 2]? = some (.row false (v + 1) 2 (es++[[.ref G.length 0 0 mo.Coef.length,.ref (G.length + 1) 0 0 mo.Exps.length]])):=by
 unfold hN; rw [List.append_assoc,List.getElem?_append_right (by omega),show G.length + 2 - G.length = 2 by omega]; rfl
theorem qog9 : (hN G v es mo).length = G.length + 3:=by simp [hN]
theorem qzn9 : (h5 G v es mo).length = G.length + 4:=by simp [h5]
theorem qxV9 (hG : ∀ o∈G,IsInt o) (hes : RefsTo G.length es) (H : HRel W0 X (h5 G v es mo) m w) : HRel W0 X (hN G v es mo) (fun i=>m (phi G.length i)) w:=by
 refine HRel.reix H (fun i j hi hj e=>?_) (fun i hi=>?_) (fun id o ho=>?_)
 ·rw [qog9] at hi hj
  unfold phi at e
  split at e <;> split at e <;> (try split at e) <;> (try split at e) <;> (try split at e) <;> (try split at e) <;> omega
 ·rw [qog9] at hi
  rw [qzn9]
  unfold phi
  split
  ·omega
  ·split
   ·omega
   ·split <;> omega
 have hid : id < G.length + 3:=by rw [← qog9 (G:=G) (v:=v) (es:=es) (mo:=mo)]; exact (List.getElem?_eq_some_iff.1 ho).1
 rcases Nat.lt_or_ge id G.length with h0 | h0
 ·rw [hN_lt h0] at ho
  have e : phi G.length id = id:=by unfold phi; rw [if_pos h0]
  rw [e]
  have hb:=H.obj id o (by rw [h5_lt h0]; exact ho)
  obtain ⟨fz,ver,sz,es',rfl,hv⟩:=hG o (List.mem_of_getElem? ho)
  exact qjb9 hv hb
 rcases (show id = G.length∨id = G.length + 1∨id = G.length + 2 by omega) with rfl | rfl | rfl
 ·rw [hN_0] at ho
  cases ho
  have e : phi G.length G.length = G.length + 2:=by unfold phi; rw [if_neg (by omega),if_pos rfl]
  rw [e]
  exact qjb9 isV32 (H.obj _ _ h5_2)
 ·rw [hN_1] at ho
  cases ho
  have e : phi G.length (G.length + 1) = G.length + 3:=by unfold phi; rw [if_neg (by omega),if_neg (by omega),if_pos rfl]
  rw [e]
  exact qjb9 isV64 (H.obj _ _ h5_3)
 ·rw [hN_2] at ho
  cases ho
  have e : phi G.length (G.length + 2) = G.length:=by unfold phi; rw [if_neg (by omega),if_neg (by omega),if_neg (by omega)]
  rw [e]
  have hb:=H.obj _ _ h5_0
  cases hp : m G.length with
  | none =>
   rw [hp] at hb
   have : (es++[[PV.ref (G.length + 2) 0 0 mo.Coef.length,.ref (G.length + 3) 0 0 mo.Exps.length]]) = []:=hb
   simp at this
  | some p =>
   obtain ⟨g,bo⟩:=p
   rw [hp] at hb
   obtain ⟨c0,cur,e',c1,c2,c3,c4⟩:=hb
   refine ⟨c0,cur,e',c1,by simpa using c2,fun i cs hi=>?_,fun i j cs u hi hj=>?_⟩
   ·rcases List.mem_append.1 (List.mem_of_getElem? hi) with hm | hm
    ·exact (hes cs hm).1
    ·rw [List.mem_singleton.1 hm]; rfl
   ·rcases Nat.lt_or_ge i es.length with hlt | hge
    ·rw [List.getElem?_append_left hlt] at hi
     obtain ⟨x,x1,x2,x3⟩:=c4 i j cs u (by rw [List.getElem?_append_left hlt]; exact hi) hj
     refine ⟨x,x1,x2,?_⟩
     obtain ⟨id,a,b,n,rfl,hidl⟩:=(hes cs (List.mem_of_getElem? hi)).2 u (List.mem_of_getElem? hj)
     cases x3 with
     | ref _ _ _ _ _ hs=>exact .ref _ _ _ _ _ (qhZ9 (by rw [hN_lt hidl,h5_lt hidl]) (by unfold phi; rw [if_pos hidl]) hs)
    ·rw [List.getElem?_append_right hge] at hi
     have hi0 : i = es.length:=by
      rcases Nat.lt_or_ge (i - es.length) 1 with c | c
      ·omega
      ·rw [List.getElem?_eq_none (by simpa using c)] at hi; cases hi
     subst hi0
     rw [Nat.sub_self] at hi
     cases hi
     match j,hj with
     | 0,hj =>
      obtain ⟨x,x1,x2,x3⟩:=c4 es.length 0 [PV.ref (G.length + 2) 0 0 mo.Coef.length,.ref (G.length + 3) 0 0 mo.Exps.length] _ (by rw [List.getElem?_append_right (Nat.le_refl _),Nat.sub_self]; rfl) rfl
      cases hj
      refine ⟨x,x1,x2,?_⟩
      cases x3 with
      | ref _ _ _ _ _ hs=>exact .ref _ _ _ _ _ (qhZ9 (by rw [hN_0,h5_2]) (by unfold phi; rw [if_neg (by omega),if_pos rfl]) hs)
     | 1,hj =>
      obtain ⟨x,x1,x2,x3⟩:=c4 es.length 1 [PV.ref (G.length + 2) 0 0 mo.Coef.length,.ref (G.length + 3) 0 0 mo.Exps.length] _ (by rw [List.getElem?_append_right (Nat.le_refl _),Nat.sub_self]; rfl) rfl
      cases hj
      refine ⟨x,x1,x2,?_⟩
      cases x3 with
      | ref _ _ _ _ _ hs=>exact .ref _ _ _ _ _ (qhZ9 (by rw [hN_1,h5_3]) (by unfold phi; rw [if_neg (by omega),if_neg (by omega),if_pos rfl]) hs)
     | j + 2,hj=>simp at hj
end
end
end Lt
namespace Lt
open Ld Go Go.Proofs Go.Abs
open Go.ChangeMaps (setBlock)
set_option maxRecDepth 8000
section
variable {X : Nat→Prop} {m : Places} {W0 w : World} {a : Act}
theorem qvR9 {bm r g v n : Nat} {mo : Mono} : (env5 bm r g v n mo).del 544 = envL bm r g (v + 1) (n + 1):=by
 simp +decide only [go_sem,env5,envL]
theorem qeD9 {bm r g v n i : Nat} : (envL bm r g v n).get i = if i = 0 then .d (.v (.map (some bm))) else if i = 2 then .im true [] else if i = 3 then .ref g v 0 n else if i = 7 then .d (.v (.pointer (some ⟨r,0,none⟩))) else .junk:=by
 simp only [envL,Env.get]
theorem qmT9 {bm r g v n i : Nat} (hk : ht.keep.testBit i = false) : (envL bm r g v n).get i = .junk:=by
 rw [qeD9]
 by_cases e0 : i = 0
 ·subst e0; exact absurd hk (by decide)
 rw [if_neg e0]
 by_cases e2 : i = 2
 ·subst e2; exact absurd hk (by decide)
 rw [if_neg e2]
 by_cases e3 : i = 3
 ·subst e3; exact absurd hk (by decide)
 rw [if_neg e3]
 by_cases e7 : i = 7
 ·subst e7; exact absurd hk (by decide)
 rw [if_neg e7]
theorem qvE9 {bm r v n : Nat} {G : AHeap} {es : List (List PV)} {mo : Mono} (hG : ∀ o∈G,IsInt o) (hes : RefsTo G.length es) (hn : es.length = n) (hs : SRel W0 X ht 0 25 ⟨envL bm r G.length (v + 1) (n + 1),h5 G v es mo⟩ m w a) : SRel W0 X ht 0 25 ⟨envL bm r (G.length + 2) (v + 1) (n + 1),hN G v es mo⟩ (fun i=>m (phi G.length i)) w a:=by
 refine ⟨hs.size,hs.dfs,qxV9 hG hes hs.heap,fun i=>?_,fun i _ hk=>qmT9 hk⟩
 have h1:=hs.env i
 show VRel _ _ _ _ ((envL bm r (G.length + 2) (v + 1) (n + 1)).get i) _
 have h1 : VRel (Ex X (h5 G v es mo) m) (h5 G v es mo) m w ((envL bm r G.length (v + 1) (n + 1)).get i) (a.eval (.tmp i)):=h1
 rw [qeD9] at h1 ⊢
 split
 ·rename_i e
  rw [if_pos e] at h1
  exact qpF9 h1
 rename_i e0
 rw [if_neg e0] at h1
 split
 ·rename_i e
  rw [if_pos e] at h1
  generalize a.eval (.tmp i) = val at h1 ⊢
  cases h1 with
  | im t xs A c sz f hc ht hsz hA hc1 hr=>exact .im _ _ A c sz f hc ht hsz hA (fun i j cs u ad h1=>by simp at h1) (fun i j cs u h1=>by simp at h1)
 rename_i e2
 rw [if_neg e2] at h1
 split
 ·rename_i e
  rw [if_pos e] at h1
  generalize a.eval (.tmp i) = val at h1 ⊢
  cases h1 with
  | ref id ver off len v hs' =>
   obtain ⟨A,cap,e1,e2,e3,fz,ver',sz,es',ho,hle,hcur⟩:=hs'
   rw [h5_0] at ho
   cases ho
   refine .ref _ _ _ _ _ ⟨A,cap,e1,e2,e3,false,_,2,_,hN_2,hle,fun e=>?_⟩
   obtain ⟨c1,c2⟩:=hcur e
   refine ⟨by simpa using c1,?_⟩
   have ep : phi G.length (G.length + 2) = G.length:=by unfold phi; rw [if_neg (by omega),if_neg (by omega),if_neg (by omega)]
   simp only [ep]
   exact c2
 rename_i e3
 rw [if_neg e3] at h1
 split
 ·rename_i e
  rw [if_pos e] at h1
  exact qpF9 h1
 ·exact .junk _
def objs (M : List Mono) : AHeap:=M.flatMap fun m=>[.row false 0 1 (rowP qb9 m.Coef),.row false 0 1 (rowP intD m.Exps)]
def kel : Nat→List Mono→List MK
 | _,[]=>[]
 | k,m::M=>⟨m,k,k + 1⟩::kel (k + 2) M
def qbF9 (M : List Mono) : List (List PV):=(kel 0 M).map encK
theorem qeI9 (M : List Mono) : (objs M).length = 2 * M.length:=by
 induction M with
 | nil=>rfl
 | cons m M ih=>simp only [objs,List.flatMap_cons,List.length_append,List.length_cons,List.length_nil] at ih ⊢; omega
theorem qtU9 (M : List Mono) (m : Mono) : objs (M++[m]) = objs M++[.row false 0 1 (rowP qb9 m.Coef),.row false 0 1 (rowP intD m.Exps)]:=by simp [objs]
theorem qwK9 (m : Mono) : ∀ (M : List Mono) (k : Nat),kel k (M++[m]) = kel k M++[⟨m,k + 2 * M.length,k + 2 * M.length + 1⟩]:=by
 intro M
 induction M with
 | nil=>intro k; rfl
 | cons x M ih =>
  intro k
  rw [List.cons_append,kel,ih (k + 2),kel,List.length_cons,show k + 2 + 2 * M.length = k + 2 * (M.length + 1) by omega]; rfl
theorem kel_m : ∀ (M : List Mono) (k : Nat),(kel k M).map (·.m) = M:=by
 intro M
 induction M with
 | nil=>intro k; rfl
 | cons x M ih=>intro k; rw [kel,List.map_cons,ih]
theorem qhl9 (M : List Mono) (k : Nat) : (kel k M).length = M.length:=by
 have:=congrArg List.length (kel_m M k)
 rwa [List.length_map] at this
theorem qkW9 (M : List Mono) : (qbF9 M).length = M.length:=by unfold qbF9; rw [List.length_map,qhl9]
theorem qwo9 (M : List Mono) : ∀ o∈objs M,IsInt o:=by
 intro o ho
 obtain ⟨m,_,hm⟩:=List.mem_flatMap.1 ho
 rcases List.mem_cons.1 hm with rfl | hm
 ·exact ⟨_,_,_,_,rfl,isV32⟩
 ·rw [List.mem_singleton.1 hm]; exact ⟨_,_,_,_,rfl,isV64⟩
theorem qmZ9 : ∀ (M : List Mono) (k : Nat),∀ x∈kel k M,x.c < k + 2 * M.length∧x.e < k + 2 * M.length:=by
 intro M
 induction M with
 | nil=>intro k x hx; cases hx
 | cons m M ih =>
  intro k x hx
  rw [kel] at hx
  rcases List.mem_cons.1 hx with rfl | hx
  ·simp only [List.length_cons]; omega
  ·have:=ih (k + 2) x hx
   simp only [List.length_cons]; omega
theorem refsK (M : List Mono) : RefsTo (objs M).length (qbF9 M):=by
 intro cs hcs
 obtain ⟨x,hx,rfl⟩:=List.mem_map.1 hcs
 have hb:=qmZ9 M 0 x hx
 rw [qeI9]
 refine ⟨rfl,fun u hu=>?_⟩
 rcases List.mem_cons.1 hu with rfl | hu
 ·exact ⟨_,_,_,_,rfl,by omega⟩
 ·rw [List.mem_singleton.1 hu]; exact ⟨_,_,_,_,rfl,by omega⟩
theorem hN_eq (M : List Mono) (v : Nat) (mo : Mono) : hN (objs M) v (qbF9 M) mo = objs (M++[mo])++[.row false (v + 1) 2 (qbF9 (M++[mo]))]:=by
 unfold hN qbF9
 rw [qtU9,qwK9,List.map_append,qeI9,Nat.zero_add]
 rfl
theorem qkv9 : ∀ (M : List Mono) (pre : AHeap),∀ x∈kel pre.length M,(pre++objs M)[x.c]? = some (.row false 0 1 (rowP qb9 x.m.Coef))∧(pre++objs M)[x.e]? = some (.row false 0 1 (rowP intD x.m.Exps)):=by
 intro M
 induction M with
 | nil=>intro pre x hx; cases hx
 | cons m M ih =>
  intro pre x hx
  have e : pre++objs (m::M) = (pre++[.row false 0 1 (rowP qb9 m.Coef),.row false 0 1 (rowP intD m.Exps)])++objs M:=by simp [objs]
  rw [kel] at hx
  rcases List.mem_cons.1 hx with rfl | hx
  ·refine ⟨?_,?_⟩
   ·rw [e,List.append_assoc,List.getElem?_append_right (Nat.le_refl _),Nat.sub_self]; rfl
   ·rw [e,List.append_assoc,List.getElem?_append_right (by simp),show pre.length + 1 - pre.length = 1 by omega]; rfl
  ·rw [e]
   exact ih _ x (by simpa using hx)
theorem els (M : List Mono) (hM : ∀ m∈M,GoodM m) : ∃ l : List (AK (objs M)),l.map (·.1) = kel 0 M:=by
 have hg : ∀ x∈kel 0 M,GoodK (objs M) x:=fun x hx=>by
  have h1:=qkv9 M [] x hx
  have h2 : x.m∈M:=by
   have : x.m∈(kel 0 M).map (·.m):=List.mem_map.2 ⟨x,hx,rfl⟩
   rw [kel_m] at this
   exact this
  exact ⟨h1.1,h1.2,hM _ h2⟩
 have gen : ∀ L : List MK,(∀ x∈L,GoodK (objs M) x)→∃ l : List (AK (objs M)),l.map (·.1) = L:=by
  intro L
  induction L with
  | nil=>intro _; exact ⟨[],rfl⟩
  | cons x L ih =>
   intro h
   obtain ⟨l,hl⟩:=ih (fun y hy=>h y (List.mem_cons_of_mem _ hy))
   exact ⟨⟨x,h x List.mem_cons_self⟩::l,congrArg (List.cons x) hl⟩
 exact gen _ hg
theorem qwW9 {M : List Mono} {l : List (AK (objs M))} (h : l.map (·.1) = kel 0 M) : rowK l = qbF9 M:=by
 unfold qbF9
 rw [← h,List.map_map]
 rfl
structure Bag (Y : Nat→Prop) (w : World) (g : Nat) (ents : Array MapEntry) (clock : Nat) (Z : List (MapEntry × Mono)) : Prop where
 at' : w.heap[g]? = some (.map ents clock)
 st : StampE ents clock
 z1 : Z.map (·.1) = ents.toList
 dz : ∀ z∈Z,DRel Y w (.ag (qa9 z.2)) z.1.val
 sm : ∀ z∈Z,z.2.Coef.length≤1048576∧z.2.Exps.length≤1048576
structure Rnd (Y : Nat→Prop) (w : World) (g : Nat) (ents : Array MapEntry) (clock : Nat) (Z Dn : List (MapEntry × Mono)) (v : Nat) (m : Places) (seen : Array Nat) (c : Nat) (a : Act) (w' : World) : Prop where
 fr : SRel w (fun b=>Y b∨b = w.heap.size) ht 0 25 ⟨envL g w.heap.size (objs (Dn.map (·.2))).length v Dn.length,objs (Dn.map (·.2))++[.row false v 2 (qbF9 (Dn.map (·.2)))]⟩ m w' a
 os : w'.os = w.os
 tape : w'.tape = w.tape
 output : Outs w w'
 it : w'.heap[w.heap.size]? = some (.mapIter (some g) clock seen c)
 cl : clock≤c
 seen' : seen.toList = Dn.map (·.1.born)
 sub : ∀ z∈Dn,z∈Z
 nd : (Dn.map (·.1.born)).Nodup
theorem qvr9 : ∀ {s l : List Nat},s.Nodup→(∀ x∈s,x∈l)→s.length≤l.length:=by
 intro s
 induction s with
 | nil=>intro l _ _; exact Nat.zero_le _
 | cons x s ih =>
  intro l hs hsub
  rw [List.nodup_cons] at hs
  have hx:=hsub x List.mem_cons_self
  have:=ih (l:=l.erase x) hs.2 (fun y hy=>(List.mem_erase_of_ne (fun e=>hs.1 (by rw [← e]; exact hy))).2 (hsub y (List.mem_cons_of_mem _ hy)))
  rw [List.length_erase_of_mem hx] at this
  have:=List.length_pos_of_mem hx
  rw [List.length_cons]
  omega
theorem qvI9 {ents : Array MapEntry} {clock : Nat} {Z : List (MapEntry × Mono)} (st : StampE ents clock) (z1 : Z.map (·.1) = ents.toList) : (Z.map (·.1.born)).Nodup:=by
 have : Z.map (·.1.born) = ents.toList.map (·.born):=by rw [← z1,List.map_map]; rfl
 rw [this]; exact st.2
theorem qjh9 {α β : Type} {f : α→β} {l : List α} (h : (l.map f).Nodup) : l.Nodup:=by
 induction l with
 | nil=>exact List.nodup_nil
 | cons x l ih =>
  rw [List.map_cons,List.nodup_cons] at h
  exact List.nodup_cons.2 ⟨fun hx=>h.1 (List.mem_map.2 ⟨x,hx,rfl⟩),ih h.2⟩
theorem qsK9 {α β : Type} {f : α→β} {l : List α} (h : (l.map f).Nodup) {x y : α} (hx : x∈l) (hy : y∈l) (e : f x = f y) : x = y:=by
 induction l with
 | nil=>cases hx
 | cons z l ih =>
  rw [List.map_cons,List.nodup_cons] at h
  rcases List.mem_cons.1 hx with hx' | hx' <;> rcases List.mem_cons.1 hy with hy' | hy'
  ·rw [hx',hy']
  ·exact (h.1 (by rw [← hx',e]; exact List.mem_map.2 ⟨y,hy',rfl⟩)).elim
  ·exact (h.1 (by rw [← hy',← e]; exact List.mem_map.2 ⟨x,hx',rfl⟩)).elim
  ·exact ih h.2 hx' hy'
variable {Y : Nat→Prop} {g clock c v : Nat} {ents : Array MapEntry} {Z Dn : List (MapEntry × Mono)} {seen : Array Nat} {w' : World}
theorem Rnd.all (B : Bag Y w g ents clock Z) (R : Rnd Y w g ents clock Z Dn v m seen c a w') (h0 : (leftOf ents seen).size = 0) : Dn.Perm Z:=by
 have hz:=qvI9 B.st B.z1
 refine (List.perm_ext_iff_of_nodup (qjh9 R.nd) (qjh9 hz)).2 (fun z=>⟨R.sub z,fun hz'=>?_⟩)
 have hmem : z.1∈ents.toList:=by rw [← B.z1]; exact List.mem_map.2 ⟨z,hz',rfl⟩
 have:=all_seen ents seen h0 z.1 hmem
 rw [Array.contains_iff_mem,← Array.mem_toList_iff,R.seen'] at this
 obtain ⟨y,hy,e⟩:=List.mem_map.1 this
 rw [← qsK9 hz (R.sub y hy) hz' e]
 exact hy
theorem Rnd.len (B : Bag Y w g ents clock Z) (R : Rnd Y w g ents clock Z Dn v m seen c a w') : Dn.length≤Z.length:=by
 have:=qvr9 R.nd (l:=Z.map (·.1.born)) (fun x hx=>by
  obtain ⟨y,hy,rfl⟩:=List.mem_map.1 hx
  exact List.mem_map.2 ⟨y,R.sub y hy,rfl⟩)
 simpa using this
end
end Lt
namespace Lt
open Ld Go Go.Proofs Go.Abs
open Go.ChangeMaps (setBlock)
set_option maxRecDepth 8000
section
variable {m : Places} {w : World} {a : Act} {Y : Nat→Prop} {g clock c v : Nat} {ents : Array MapEntry} {Z Dn : List (MapEntry × Mono)} {seen : Array Nat} {w' : World}
theorem loc4 {key : Value} {mo : Mono} : locals ht.keep (te4 key mo) = te4 key mo:=by simp +decide [locals,te4,ht]
theorem com4 {key : Value} {mo : Mono} {env : Env} : Env.commit ht.keep (te4 key mo) env = env:=by simp +decide [Env.commit,te4,ht]
theorem Rnd.round (hC : COk w C) (B : Bag Y w g ents clock Z) (hl : Z.length < 1048576 + 1) (hY : ∀ b,Y b→b < w.heap.size) (R : Rnd Y w g ents clock Z Dn v m seen c a w') {Q : Exit→Act→World→Prop}
  (hdone : (leftOf ents seen).size = 0→∀ a',Rnd Y w g ents clock Z Dn v m seen c a' w'→Q (.exit 0) a' w')
  (hnext : ∀ Dn' v' m' seen' c' a'' w'',(leftOf ents seen').size < (leftOf ents seen).size→Rnd Y w g ents clock Z Dn' v' m' seen' c' a'' w''→Q .normal a'' w'') : lbd.wp C.P Q a w':=by
 have hlt : g < w.heap.size:=(Array.getElem?_eq_some_iff.1 B.at').1
 have hgw : w'.heap[g]? = some (.map ents clock):=(R.fr.heap.old g hlt).trans B.at'
 have hrlt : w.heap.size < w'.heap.size:=(Array.getElem?_eq_some_iff.1 R.it).1
 have h7 : a.eval (.tmp 7) = .pointer (some ⟨w.heap.size,0,none⟩):=by
  have:=R.fr.env 7
  exact this.to_v rfl
 have hsz : a.tmps.size = 25:=R.fr.size
 rw [qzU9]
 refine wp_seq ?_
 rw [d3_eq]
 refine wp_region ?_
 show wpOps C.P o3 _ [0,1] a w'
 rcases run_next_at (P:=C.P) w' 0 w.heap.size g clock c seen ents clock R.it hgw B.st.1 R.cl with ⟨h0,hrun⟩ | ⟨e,he,w1,hw1,hrun⟩
 ·refine qdY9 (v:=.tuple #[.bool false]) (w':=w') rfl rfl ?_ ?_
  ·show ((do pure (Next.value (← Instr.next (a.eval (.tmp 7)) false 0))) : Sem Next).run C.P w' = _
   rw [h7,Sem.run_bind,hrun]; rfl
  refine qdY9 (v:=.bool false) (w':=w') rfl rfl ?_ ?_
  ·show ((do pure (Next.value (← Instr.extract ((a.put (some 8) (.tuple #[.bool false])).eval (.tmp 8)) 0))) : Sem Next).run C.P w' = _
   rw [qcr9 (by omega),if_pos rfl]; rfl
  show (Code.seq _ _).wp C.P Q _ w'
  refine wp_seq ?_
  refine wp_cond_false ?_ (wp_exit ?_)
  ·show ((a.put (some 8) (.tuple #[.bool false])).put (some 9) (.bool false)).eval (.tmp 9) = _
   rw [qcr9 (by simp only [Act.put,Array.size_setIfInBounds]; omega),if_pos rfl]
  ·exact hdone h0 _ { R with fr:=sput (sput R.fr (by omega) (by rw [qeD9]; rfl)) (by omega) (by rw [qeD9]; rfl) }
 ·have hh : w1.heap = w'.heap:=by rcases hw1 with rfl | rfl <;> rfl
  have hos : w1.os = w'.os∧w1.tape = w'.tape∧w1.output = w'.output∧w'.drawn≤w1.drawn:=by rcases hw1 with rfl | rfl <;> first | exact ⟨rfl,rfl,rfl,Nat.le_refl _⟩ | exact ⟨rfl,rfl,rfl,Nat.le_succ _⟩
  generalize hw2 : setBlock w1 w.heap.size (.mapIter (some g) clock (seen.push e.born) clock) = w2 at hrun
  have hheap : w2.heap = w'.heap.setIfInBounds w.heap.size (.mapIter (some g) clock (seen.push e.born) clock):=by rw [← hw2,← hh]; rfl
  have hos2 : w2.os = w'.os∧w2.tape = w'.tape∧w2.output = w'.output∧w'.drawn≤w2.drawn:=by rw [← hw2]; exact hos
  have hne : ∀ b,b ≠ w.heap.size→w2.heap[b]? = w'.heap[b]?:=fun b hb=>by
   rw [hheap,Array.getElem?_setIfInBounds,if_neg (fun e=>hb e.symm)]
  have hsz2 : w2.heap.size = w'.heap.size:=by rw [hheap,Array.size_setIfInBounds]
  have hit2 : w2.heap[w.heap.size]? = some (.mapIter (some g) clock (seen.push e.born) clock):=by
   rw [hheap,Array.getElem?_setIfInBounds,if_pos rfl,if_pos hrlt]
  have hg2 : w2.heap[g]? = some (.map ents clock):=(hne g (by omega)).trans hgw
  refine qdY9 (v:=.tuple #[.bool true,e.key,e.val]) (w':=w2) rfl rfl ?_ ?_
  ·show ((do pure (Next.value (← Instr.next (a.eval (.tmp 7)) false 0))) : Sem Next).run C.P w' = _
   rw [h7,Sem.run_bind,hrun]; rfl
  refine qdY9 (v:=.bool true) (w':=w2) rfl rfl ?_ ?_
  ·show ((do pure (Next.value (← Instr.extract ((a.put (some 8) (.tuple #[.bool true,e.key,e.val])).eval (.tmp 8)) 0))) : Sem Next).run C.P w2 = _
   rw [qcr9 (by omega),if_pos rfl]; rfl
  have fr2:=sturn (w':=w2) (sput (d:=9) (v:=.bool true) (sput (d:=8) (v:=.tuple #[.bool true,e.key,e.val]) R.fr (by omega) (by rw [qeD9]; rfl)) (by omega) (by rw [qeD9]; rfl)) hne hsz2 (.inr rfl) (Nat.le_refl _)
  show (Code.seq _ _).wp C.P Q _ w2
  show (Code.seq _ _).wp C.P Q ((a.put (some 8) (.tuple #[.bool true,e.key,e.val])).put (some 9) (.bool true)) w2
  have h9 : ((a.put (some 8) (.tuple #[.bool true,e.key,e.val])).put (some 9) (.bool true)).eval (.tmp 9) = .bool true:=by
   rw [qcr9 (by simp only [Act.put,Array.size_setIfInBounds]; omega),if_pos rfl]
  generalize (a.put (some 8) (.tuple #[.bool true,e.key,e.val])).put (some 9) (.bool true) = a2 at fr2 h9
  have h7' : a2.eval (.tmp 7) = .pointer (some ⟨w.heap.size,0,none⟩):=(fr2.env 7).to_v rfl
  refine wp_seq ?_
  refine wp_cond_true h9 (wp_skip ?_)
  show (Code.block 1 (.seq d4 d5)).wp C.P Q a2 w2
  refine wp_block ?_
  refine wp_seq ?_
  rw [d4_eq]
  refine wp_region ?_
  show wpOps C.P o4 _ (0::(List.range o4.size).drop 1) a2 w2
  have hmem:=mem_left he
  refine qdY9 (v:=.tuple #[e.key,e.val]) (w':=w2) rfl rfl ?_ ?_
  ·show ((do pure (Next.value (← Instr.entry (a2.eval (.tmp 7))))) : Sem Next).run C.P w2 = _
   rw [h7',Sem.run_bind,run_entry_at w2 w.heap.size g clock seen ents clock e hit2 hg2 hmem.1 B.st.2]; rfl
  show wpOps C.P o4 _ ((List.range o4.size).drop 1) (a2.put (some 10) (.tuple #[e.key,e.val])) w2
  obtain ⟨z,hz,rfl⟩ : ∃ z∈Z,z.1 = e:=by
   have:=hmem.1
   rw [← B.z1] at this
   obtain ⟨z,h1,h2⟩:=List.mem_map.1 this
   exact ⟨z,h1,h2⟩
  have fr3:=sput (d:=10) (v:=.tuple #[z.1.key,z.1.val]) fr2 (by omega) (by rw [qeD9]; rfl)
  have hsub : ∀ b,b < w.heap.size→Ex (fun b=>Y b∨b = w.heap.size) (objs (Dn.map (·.2))++[.row false v 2 (qbF9 (Dn.map (·.2)))]) m b→Y b:=by
   intro b hb hx
   rcases hx with (hx | hx) | ⟨id,o,bo,k1,k2,k3⟩
   ·exact hx
   ·omega
   ·have:=fr2.heap.new id o b bo k1 k3
    omega
  have hdat : DRel (Ex (fun b=>Y b∨b = w.heap.size) (objs (Dn.map (·.2))++[.row false v 2 (qbF9 (Dn.map (·.2)))]) m) w2 (.ag (qa9 z.2)) z.1.val:=(B.dz z hz).move hsub (fun b hb _=>fr2.heap.old b hb)
  have ops4':=ops4 (bm:=g) (r:=w.heap.size) (v:=v) (n:=Dn.length) (G:=objs (Dn.map (·.2))) (es:=qbF9 (Dn.map (·.2))) (m:=z.2) (key:=z.1.key)
  have ops4'' : opsA C (Lim C) a4 (locals ht.keep (te4 z.1.key z.2)) (Env.commit ht.keep (te4 z.1.key z.2) (envL g w.heap.size (objs (Dn.map (·.2))).length v Dn.length)) (objs (Dn.map (·.2))++[.row false v 2 (qbF9 (Dn.map (·.2)))]) = some ⟨(envL g w.heap.size (objs (Dn.map (·.2))).length v Dn.length).set 5 (.ptr ((objs (Dn.map (·.2))).length + 1) 0 0 0),(objs (Dn.map (·.2))++[.row false v 2 (qbF9 (Dn.map (·.2))),.row false 0 2 [(qa9 z.2).map .d]])⟩:=by
   rw [loc4,com4]; exact ops4'
  obtain ⟨te1,q1,q2⟩:=qlA9 (C:=C) (L:=Lim C) (nt:=25) (ops:=o4) (keep:=ht.keep) (env:=envL g w.heap.size (objs (Dn.map (·.2))).length v Dn.length) o4t 1 a4 (te4 z.1.key z.2) (objs (Dn.map (·.2))++[.row false v 2 (qbF9 (Dn.map (·.2)))]) _ st4 ops4''
  have hget : ∀ i,get2 (te4 z.1.key z.2) (envL g w.heap.size (objs (Dn.map (·.2))).length v Dn.length) i = if i = 10 then .tp [.d (.v z.1.key),.d (.ag (qa9 z.2))] else (envL g w.heap.size (objs (Dn.map (·.2))).length v Dn.length).get i:=fun i=>rfl
  have hg : TRel (Ex (fun b=>Y b∨b = w.heap.size) (objs (Dn.map (·.2))++[.row false v 2 (qbF9 (Dn.map (·.2)))]) m) (objs (Dn.map (·.2))++[.row false v 2 (qbF9 (Dn.map (·.2)))]) m w2 (get2 (te4 z.1.key z.2) (envL g w.heap.size (objs (Dn.map (·.2))).length v Dn.length)) (a2.put (some 10) (.tuple #[z.1.key,z.1.val])):=by
   intro i
   rw [hget]
   by_cases e10 : i = 10
   ·rw [if_pos e10,qcr9 (by rw [fr2.size]; omega),if_pos e10]
    refine .tp _ [z.1.key,z.1.val] rfl (fun j u x h1 h2=>?_)
    match j,h1,h2 with
    | 0,h1,h2=>cases h1; cases h2; exact .d _ _ (.v _)
    | 1,h1,h2=>cases h1; cases h2; exact .d _ _ hdat
    | j + 2,h1,h2=>simp at h1
   ·rw [if_neg e10]; exact fr3.env i
  refine qlm9 hC.toCSound (qbJ9 hC) o4t 1 rfl fr3.heap fr3.size fr3.dfs hg q1 (fun a' m' w'' b1 b2 b3 b4 b5=>?_)
  have sr : SRel w (fun b=>Y b∨b = w.heap.size) ht 0 25 ⟨Env.commit ht.keep te1 (envL g w.heap.size (objs (Dn.map (·.2))).length v Dn.length),(objs (Dn.map (·.2))++[.row false v 2 (qbF9 (Dn.map (·.2))),.row false 0 2 [(qa9 z.2).map .d]])⟩ m' w'' a':=by
   refine SRel.commit (s:=⟨envL g w.heap.size (objs (Dn.map (·.2))).length v Dn.length,(objs (Dn.map (·.2))++[.row false v 2 (qbF9 (Dn.map (·.2)))])⟩) fr3 (ops:=o4) (fun _ _ _ _=>.inr (Nat.zero_le _)) (fun i hi=>?_) b1 b2 b3 b4
   rw [qoX9 i o4t (fun o ho=>hi o (List.mem_cons_of_mem _ ho)) q1,hget,if_neg]
   intro e10
   exact hi o4h (List.mem_cons_self ..) (by rw [e10]; rfl)
  rw [← q2] at sr
  obtain ⟨m4,sr4,ev4⟩:=qje9 _ _ _ _ sr co4
  have hlen:=R.len B
  show d5.wp C.P _ a' w''
  have hs:=B.sm z hz
  refine qbo9 hC.toCSound (qbJ9 hC) hC.orders ht 25 d5 _ .normal _ (qbe9 d5 a5 _ _ st5 (sem5 (bm:=g) (r:=w.heap.size) (v:=v) (n:=Dn.length) (G:=objs (Dn.map (·.2))) (es:=qbF9 (Dn.map (·.2))) (m:=z.2) (by rw [qkW9,List.length_map]) (by omega) hs.1 hs.2)) ok5 _ m4 w'' a' sr4 (fun a'' m5 w3 k1 k2=>?_)
  show Q .normal a'' w3
  have k3:=k1.del 544
  rw [show ((⟨env5 g w.heap.size (objs (Dn.map (·.2))).length v Dn.length z.2,h5 (objs (Dn.map (·.2))) v (qbF9 (Dn.map (·.2))) z.2⟩ : St).env) = env5 g w.heap.size (objs (Dn.map (·.2))).length v Dn.length z.2 from rfl,qvR9] at k3
  have k4:=qvE9 (qwo9 _) (refsK _) (by rw [qkW9,List.length_map]) k3
  have noR : ∀ {hh : AHeap} {mm : Places} {ww : World},HRel w (fun b=>Y b∨b = w.heap.size) hh mm ww→¬ Ex (fun _=>False) hh mm w.heap.size:=by
   intro hh mm ww H hx
   rcases hx with hx | ⟨id,o,bo,k1,k2,k3⟩
   ·exact hx
   ·exact H.apart id o _ bo k1 k3 (.inr rfl)
  have hrlt2 : w.heap.size < w2.heap.size:=by omega
  have it3 : w''.heap[w.heap.size]? = w2.heap[w.heap.size]?:=b5.blk2 _ hrlt2 (noR fr3.heap)
  have it4 : w3.heap[w.heap.size]? = w''.heap[w.heap.size]?:=k2.blk2 _ (Nat.lt_of_lt_of_le hrlt2 b5.size) (noR sr4.heap)
  have nin : z.1.born ∉ Dn.map (·.1.born):=by
   intro hin
   rw [← R.seen',Array.mem_toList_iff,← Array.contains_iff_mem,hmem.2] at hin
   cases hin
  refine hnext (Dn++[z]) (v + 1) (fun i=>m5 (phi (objs (Dn.map (·.2))).length i)) (seen.push z.1.born) clock a'' w3 (left_shrinks ents seen z.1 he) ⟨?_,?_,?_,?_,it4.trans (it3.trans hit2),Nat.le_refl _,?_,?_,?_⟩
  ·rw [hN_eq] at k4
   rw [List.map_append,List.length_append]
   have e : (objs (Dn.map (·.2)++[z.2])).length = (objs (Dn.map (·.2))).length + 2:=by rw [qeI9,qeI9,List.length_append]; simp; omega
   rw [show List.map (fun x : MapEntry × Mono=>x.2) [z] = [z.2] from rfl,e]
   exact k4
  ·rw [k2.os,b5.os,hos2.1,R.os]
  ·rw [k2.tape,b5.tape,hos2.2.1,R.tape]
  ·exact R.output.trans (Outs.trans (show Outs w' w2 from ⟨hos2.2.2.1,hos2.2.2.2⟩) (b5.output.trans k2.output))
  ·rw [Array.toList_push,R.seen',List.map_append]; rfl
  ·intro y hy
   rcases List.mem_append.1 hy with hy | hy
   ·exact R.sub y hy
   ·rw [List.mem_singleton.1 hy]; exact hz
  ·rw [List.map_append,List.nodup_append]
   refine ⟨R.nd,by simp,fun x hx y hy=>?_⟩
   simp at hy
   rw [hy]
   exact fun e=>nin (by rw [← e]; exact hx)
end
end Lt
namespace Lt
open Ld Go Go.Proofs Go.Abs
open Go.ChangeMaps (setBlock)
set_option maxRecDepth 8000
def oN (d : Nat) (p : String) : Oper:={ dst:=some d,op:=Go.Op.assign (Go.Operand.const (Go.Value.slice none 0 0)),type:=22,pos:=p,after:=#[],guard:=none }
theorem d0_eq : d0 = .region 0 #[oN 2 "poly.go:93"] false := rfl
theorem d1_eq : d1 = .region 1 #[oN 3 "poly.go:94"] false := rfl
def jm (m mc : Places) (N : Nat) (ψ : Nat→Nat) : Places:=fun id=>if id < N then m id else mc (ψ (id - N))
section
variable {W0 : World} {X X2 : Nat→Prop} {h hc : AHeap} {m mc : Places} {w w' : World}
theorem quM9 (H : HRel W0 X h m w) (hos : w'.os = w.os) (htape : w'.tape = w.tape) (hout : Outs w w') (hs : w.heap.size≤w'.heap.size)
  (hb : ∀ b,b < w.heap.size→w'.heap[b]? = w.heap[b]?) (Hc : HRel w X2 hc mc w') (hX : ∀ b,X b→X2 b) {nh : AHeap} {ψ : Nat→Nat}
  (hψ : ∀ i j,i < nh.length→j < nh.length→ψ i = ψ j→i = j) (hd : ∀ j,j < nh.length→ψ j < hc.length)
  (hn : ∀ j o,nh[j]? = some o→ORel (Ex X (h++nh) (jm m mc h.length ψ)) (h++nh) (jm m mc h.length ψ) w' o (mc (ψ j))) :
  Evo (Ex X h m) h m w (Ex X (h++nh) (jm m mc h.length ψ)) (h++nh) (jm m mc h.length ψ) w'∧HRel W0 X (h++nh) (jm m mc h.length ψ) w':=by
 have hold : ∀ id o1,h[id]? = some o1→id < h.length∧(h++nh)[id]? = some o1∧jm m mc h.length ψ id = m id:=by
  intro id o1 h1
  have hlt : id < h.length:=(List.getElem?_eq_some_iff.1 h1).1
  exact ⟨hlt,by rw [List.getElem?_append_left hlt]; exact h1,if_pos hlt⟩
 have hcase : ∀ id o1,(h++nh)[id]? = some o1→(id < h.length∧h[id]? = some o1∧jm m mc h.length ψ id = m id)∨(∃ j,id = h.length + j∧j < nh.length∧nh[j]? = some o1∧jm m mc h.length ψ id = mc (ψ j)):=by
  intro id o1 h1
  rcases Nat.lt_or_ge id h.length with hlt | hge
  ·rw [List.getElem?_append_left hlt] at h1
   exact .inl ⟨hlt,h1,if_pos hlt⟩
  ·rw [List.getElem?_append_right hge] at h1
   exact .inr ⟨id - h.length,by omega,(List.getElem?_eq_some_iff.1 h1).1,h1,if_neg (by omega)⟩
 have hob : ∀ j,j < nh.length→∃ o,hc[ψ j]? = some o:=fun j hj=>⟨_,List.getElem?_eq_getElem (hd j hj)⟩
 have hfresh : ∀ {j : Nat} {g bo : Nat},j < nh.length→mc (ψ j) = some (g,bo)→w.heap.size≤g∧g < w'.heap.size∧¬ X2 g:=fun hj hm=>by
  obtain ⟨o,ho⟩:=hob _ hj
  exact ⟨Hc.new _ o _ _ ho hm,Hc.lt _ o _ _ ho hm,Hc.apart _ o _ _ ho hm⟩
 have hev : Evo (Ex X h m) h m w (Ex X (h++nh) (jm m mc h.length ψ)) (h++nh) (jm m mc h.length ψ) w':=by
  have hown : ∀ (Y : Nat→Prop) b,b < w.heap.size→Ex Y (h++nh) (jm m mc h.length ψ) b→Ex Y h m b:=by
   intro Y b hlt hE
   rcases hE with hx | ⟨id,o1,bo,h1,h2,h3⟩
   ·exact .inl hx
   ·rcases hcase id o1 h1 with ⟨_,k1,k2⟩ | ⟨j,rfl,hj,k1,k2⟩
    ·exact .inr ⟨id,o1,bo,k1,h2,by rw [← k2]; exact h3⟩
    ·rw [k2] at h3
     have:=(hfresh hj h3).1
     omega
  refine ⟨hos,htape,hout,hs,hown X,fun b hlt _=>hb b hlt,hown _,fun b hlt _=>hb b hlt,fun id o1 ho=>?_⟩
  obtain ⟨k0,k1,k2⟩:=hold id o1 ho
  refine ⟨o1,k1,?_⟩
  rw [k2]
  cases o1 with
  | row fz ver sz es =>
   refine ⟨Nat.le_refl _,fun z=>z,rfl,fun _=>⟨Nat.le_refl _,rfl,fun g bo cur e hm hg=>⟨cur,?_,rfl⟩⟩⟩
   rw [hb g (H.lt _ _ g bo ho hm)]
   exact hg
  | map es=>exact rfl
  | siter s q=>exact rfl
 refine ⟨hev,?_,?_,?_,?_,?_,Nat.le_trans H.osz hs,?_,?_⟩
 ·intro id o1 h1
  rcases hcase id o1 h1 with ⟨_,k1,k2⟩ | ⟨j,rfl,hj,k1,k2⟩
  ·rw [k2]
   exact (H.obj id o1 k1).of hev (fun g bo hm=>hb g (H.lt id o1 g bo k1 hm))
  ·rw [k2]
   exact hn j o1 k1
 ·intro id o1 g bo h1 h2
  rcases hcase id o1 h1 with ⟨_,k1,k2⟩ | ⟨j,rfl,hj,k1,k2⟩
  ·rw [k2] at h2; exact Nat.lt_of_lt_of_le (H.lt id o1 g bo k1 h2) hs
  ·rw [k2] at h2; exact (hfresh hj h2).2.1
 ·intro id id' o1 o2 g bo bo' h1 h1' h2 h2'
  rcases hcase id o1 h1 with ⟨_,k1,k2⟩ | ⟨j,rfl,hj,k1,k2⟩ <;> rcases hcase id' o2 h1' with ⟨_,l1,l2⟩ | ⟨j',rfl,hj',l1,l2⟩
  ·rw [k2] at h2; rw [l2] at h2'; exact H.inj id id' o1 o2 g bo bo' k1 l1 h2 h2'
  ·rw [k2] at h2; rw [l2] at h2'
   have a:=H.lt id o1 g bo k1 h2
   have b:=(hfresh hj' h2').1
   omega
  ·rw [k2] at h2; rw [l2] at h2'
   have a:=H.lt id' o2 g bo' l1 h2'
   have b:=(hfresh hj h2).1
   omega
  ·rw [k2] at h2; rw [l2] at h2'
   obtain ⟨q1,p1⟩:=hob j hj
   obtain ⟨q2,p2⟩:=hob j' hj'
   have:=hψ j j' hj hj' (Hc.inj _ _ q1 q2 g bo bo' p1 p2 h2 h2')
   omega
 ·intro id o1 g bo h1 h2
  rcases hcase id o1 h1 with ⟨_,k1,k2⟩ | ⟨j,rfl,hj,k1,k2⟩
  ·rw [k2] at h2; exact H.apart id o1 g bo k1 h2
  ·rw [k2] at h2; exact fun hx=>(hfresh hj h2).2.2 (hX g hx)
 ·exact fun b hx=>Nat.lt_of_lt_of_le (H.xlt b hx) hs
 ·exact fun b hlt=>(hb b (Nat.lt_of_lt_of_le hlt H.osz)).trans (H.old b hlt)
 ·intro id o1 g bo h1 h2
  rcases hcase id o1 h1 with ⟨_,k1,k2⟩ | ⟨j,rfl,hj,k1,k2⟩
  ·rw [k2] at h2; exact H.new id o1 g bo k1 h2
  ·rw [k2] at h2; exact Nat.le_trans H.osz (hfresh hj h2).1
end
end Lt
namespace Lt
open Ld Go Go.Proofs Go.Abs
set_option maxRecDepth 8000
def nestH (N : Nat) (S : List Mono) : AHeap:=objs S++[.row false 0 2 ((kel N S).map encK)]
theorem qiQ9 (N : Nat) (S : List Mono) : (nestH N S).length = 2 * S.length + 1:=by simp [nestH,qeI9]
theorem qoU9 : ∀ (S : List Mono) (i : Nat) (m : Mono),S[i]? = some m→(objs S)[2 * i]? = some (.row false 0 1 (rowP qb9 m.Coef))∧(objs S)[2 * i + 1]? = some (.row false 0 1 (rowP intD m.Exps)):=by
 intro S
 induction S with
 | nil=>intro i m h; simp at h
 | cons a S ih =>
  intro i m h
  have e : objs (a::S) = .row false 0 1 (rowP qb9 a.Coef)::.row false 0 1 (rowP intD a.Exps)::objs S:=rfl
  rw [e]
  cases i with
  | zero=>cases h; exact ⟨rfl,rfl⟩
  | succ i =>
   have:=ih i m (by simpa using h)
   rw [show 2 * (i + 1) = 2 * i + 1 + 1 by omega,show 2 * i + 1 + 1 + 1 = (2 * i + 1) + 1 + 1 by omega]
   simp only [List.getElem?_cons_succ]
   exact this
theorem qoL9 {N : Nat} {S : List Mono} {i : Nat} {m : Mono} (h : S[i]? = some m) : (nestH N S)[2 * i]? = some (.row false 0 1 (rowP qb9 m.Coef)):=qby9 (qoU9 S i m h).1
theorem qot9 {N : Nat} {S : List Mono} {i : Nat} {m : Mono} (h : S[i]? = some m) : (nestH N S)[2 * i + 1]? = some (.row false 0 1 (rowP intD m.Exps)):=qby9 (qoU9 S i m h).2
theorem qiY9 {N : Nat} {S : List Mono} : (nestH N S)[2 * S.length]? = some (.row false 0 2 ((kel N S).map encK)):=by
 unfold nestH
 rw [List.getElem?_append_right (by rw [qeI9]; exact Nat.le_refl _),qeI9,Nat.sub_self]; rfl
theorem qrA9 : ∀ (S : List Mono) (N i : Nat) (m : Mono),S[i]? = some m→(kel N S)[i]? = some ⟨m,N + 2 * i,N + 2 * i + 1⟩:=by
 intro S
 induction S with
 | nil=>intro N i m h; simp at h
 | cons a S ih =>
  intro N i m h
  rw [kel]
  cases i with
  | zero=>cases h; rfl
  | succ i =>
   rw [List.getElem?_cons_succ,ih (N + 2) i m (by simpa using h),show N + 2 + 2 * i = N + 2 * (i + 1) by omega]
theorem qpD9 : ∀ (M : List Mono) (k : Nat),(∀ x∈kel k M,x.e = x.c + 1∧k≤x.c∧(x.c - k) % 2 = 0)∧((kel k M).map (·.c)).Nodup:=by
 intro M
 induction M with
 | nil=>intro k; exact ⟨(fun x hx=>nomatch hx),List.nodup_nil⟩
 | cons a M ih =>
  intro k
  obtain ⟨h1,h2⟩:=ih (k + 2)
  rw [kel]
  refine ⟨fun x hx=>?_,?_⟩
  ·rcases List.mem_cons.1 hx with rfl | hx
   ·simp
   ·have:=h1 x hx; omega
  ·rw [List.map_cons,List.nodup_cons]
   refine ⟨fun hm=>?_,h2⟩
   obtain ⟨x,hx,he⟩:=List.mem_map.1 hm
   have:=h1 x hx
   simp only at he
   omega
def psi {G : AHeap} (k : List (AK G)) (g0 j : Nat) : Nat:=if j = 2 * k.length then g0 else match k[j / 2]? with
 | some x=>if j % 2 = 0 then x.1.c else x.1.e
 | none=>0
section
variable {W0 : World} {X X2 : Nat→Prop} {h : AHeap} {m mc : Places} {w w' : World}
theorem psi_c {G : AHeap} {k : List (AK G)} {g0 i : Nat} {x : AK G} (hx : k[i]? = some x) : psi k g0 (2 * i) = x.1.c:=by
 have:=(List.getElem?_eq_some_iff.1 hx).1
 unfold psi
 rw [if_neg (by omega),show 2 * i / 2 = i by omega,hx]
 simp only []
 rw [if_pos (by omega)]
theorem psi_e {G : AHeap} {k : List (AK G)} {g0 i : Nat} {x : AK G} (hx : k[i]? = some x) : psi k g0 (2 * i + 1) = x.1.e:=by
 have:=(List.getElem?_eq_some_iff.1 hx).1
 unfold psi
 rw [if_neg (by omega),show (2 * i + 1) / 2 = i by omega,hx]
 simp only []
 rw [if_neg (by omega)]
theorem psi_r {G : AHeap} {k : List (AK G)} {g0 : Nat} : psi k g0 (2 * k.length) = g0:=if_pos rfl
theorem qky9 {n j : Nat} (h : j < 2 * n) : ∃ i,i < n∧(j = 2 * i∨j = 2 * i + 1):=⟨j / 2,by omega,by omega⟩
theorem qvg9 (H : HRel W0 X h m w) (hos : w'.os = w.os) (htape : w'.tape = w.tape) (hout : Outs w w') (hs : w.heap.size≤w'.heap.size)
  (hb : ∀ b,b < w.heap.size→w'.heap[b]? = w.heap[b]?) {M : List Mono} {l k : List (AK (objs M))} (hl : l.map (·.1) = kel 0 M) (hp : l.Perm k) {v : Nat} {hz : AHeap}
  (Hc : HRel w X2 (objs M++(.row false v 2 (rowK k)::hz)) mc w') (hX : ∀ b,X b→X2 b) {y : Value}
  (hy : VRel (Ex X2 (objs M++(.row false v 2 (rowK k)::hz)) mc) (objs M++(.row false v 2 (rowK k)::hz)) mc w' (.ref (objs M).length v 0 k.length) y) :
  Out W0 X h m w (.ref (h.length + 2 * k.length) 0 0 k.length) (h++nestH h.length (k.map fun x=>x.1.m)) y w':=by
 have hkm : ∀ x∈k,x.1∈kel 0 M:=fun x hx=>by
  rw [← hl]; exact List.mem_map.2 ⟨x,hp.mem_iff.2 hx,rfl⟩
 have hnd : (k.map fun x=>x.1.c).Nodup:=by
  have h1:=(qpD9 M 0).2
  rw [← hl,List.map_map] at h1
  exact (hp.map _).nodup_iff.1 h1
 have hkb : ∀ x∈k,x.1.c < (objs M).length∧x.1.e < (objs M).length:=fun x hx=>by
  have:=qmZ9 M 0 x.1 (hkm x hx)
  rw [qeI9]; omega
 have hce : ∀ x∈k,x.1.e = x.1.c + 1∧x.1.c % 2 = 0:=fun x hx=>by
  have:=(qpD9 M 0).1 x.1 (hkm x hx)
  exact ⟨this.1,by have:=this.2.2; omega⟩
 have hlen : (k.map fun x=>x.1.m).length = k.length:=List.length_map _
 have at0 : (objs M++(.row false v 2 (rowK k)::hz))[(objs M).length]? = some (.row false v 2 (rowK k)):=by
  rw [List.getElem?_append_right (Nat.le_refl _),Nat.sub_self]; rfl
 have getk : ∀ i,i < k.length→∃ x,k[i]? = some x∧x∈k∧(k.map fun x=>x.1.m)[i]? = some x.1.m:=fun i hi=>by
  refine ⟨k[i],List.getElem?_eq_getElem hi,List.getElem_mem hi,?_⟩
  rw [List.getElem?_map,List.getElem?_eq_getElem hi]; rfl
 have cinj : ∀ (i j : Nat) (x y : AK (objs M)),k[i]? = some x→k[j]? = some y→x.1.c = y.1.c→i = j:=fun i j x y hi hj e=>by
  have a:=(List.getElem?_eq_some_iff.1 hi).1
  have b:=(List.getElem?_eq_some_iff.1 hj).1
  have ga : (k.map fun x=>x.1.c)[i]'(by rw [List.length_map]; exact a) = x.1.c:=by
   rw [List.getElem_map]; rw [List.getElem?_eq_getElem a] at hi; rw [oiA hi]
  have gb : (k.map fun x=>x.1.c)[j]'(by rw [List.length_map]; exact b) = y.1.c:=by
   rw [List.getElem_map]; rw [List.getElem?_eq_getElem b] at hj; rw [oiA hj]
  have hne:=List.pairwise_iff_getElem.1 hnd
  rcases Nat.lt_trichotomy i j with c | c | c
  ·exact absurd (by rw [ga,gb]; exact e) (hne i j (by rw [List.length_map]; exact a) (by rw [List.length_map]; exact b) c)
  ·exact c
  ·exact absurd (by rw [ga,gb]; exact e.symm) (hne j i (by rw [List.length_map]; exact b) (by rw [List.length_map]; exact a) c)
 have J:=quM9 (nh:=nestH h.length (k.map fun x=>x.1.m)) (ψ:=psi k (objs M).length) H hos htape hout hs hb Hc hX (fun i j hi hj e=>?_) (fun j hj=>?_) (fun j o ho=>?_)
 ·obtain ⟨J1,J2⟩:=J
  refine ⟨_,?_,J2,J1⟩
  have hnl : (k.map fun x=>x.1.m).length = k.length:=List.length_map _
  cases hy with
  | ref _ _ _ _ _ hsr =>
   obtain ⟨A,cap,e1,e2,e3,fz,ver',sz,es,ho,hle,hcur⟩:=hsr
   rw [at0] at ho
   cases ho
   have hget : (h++nestH h.length (k.map fun x=>x.1.m))[h.length + 2 * k.length]? = some (.row false 0 2 ((kel h.length (k.map fun x=>x.1.m)).map encK)):=by
    rw [List.getElem?_append_right (by omega),show h.length + 2 * k.length - h.length = 2 * (k.map fun x=>x.1.m).length by rw [hnl]; omega]
    exact qiY9
   refine .ref _ _ _ _ _ ⟨A,cap,e1,e2,e3,false,0,2,_,hget,Nat.le_refl _,fun _=>?_⟩
   obtain ⟨c1,c2⟩:=hcur rfl
   refine ⟨by rw [List.length_map,qhl9,hnl]; omega,?_⟩
   have ej : jm m mc h.length (psi k (objs M).length) (h.length + 2 * k.length) = mc (objs M).length:=by
    unfold jm
    rw [if_neg (by omega),show h.length + 2 * k.length - h.length = 2 * k.length by omega,psi_r]
   rw [ej]
   exact c2
 ·rw [qiQ9,hlen] at hi hj
  have cl : ∀ j,j < 2 * k.length + 1→(j = 2 * k.length∧psi k (objs M).length j = (objs M).length)∨(∃ i x,k[i]? = some x∧x∈k∧((j = 2 * i∧psi k (objs M).length j = x.1.c)∨(j = 2 * i + 1∧psi k (objs M).length j = x.1.e))):=fun j hj=>by
   rcases Nat.lt_or_ge j (2 * k.length) with c | c
   ·obtain ⟨i,hi,e⟩:=qky9 c
    obtain ⟨x,hx,hxm,_⟩:=getk i hi
    rcases e with rfl | rfl
    ·exact .inr ⟨i,x,hx,hxm,.inl ⟨rfl,psi_c hx⟩⟩
    ·exact .inr ⟨i,x,hx,hxm,.inr ⟨rfl,psi_e hx⟩⟩
   ·have : j = 2 * k.length:=by omega
    subst this
    exact .inl ⟨rfl,psi_r⟩
  rcases cl i hi with ⟨a1,a2⟩ | ⟨i1,x1,hx1,hm1,a⟩ <;> rcases cl j hj with ⟨b1,b2⟩ | ⟨j1,y1,hy1,hn1,b⟩
  ·omega
  ·have:=hkb y1 hn1
   rcases b with ⟨_,b⟩ | ⟨_,b⟩ <;> omega
  ·have:=hkb x1 hm1
   rcases a with ⟨_,a⟩ | ⟨_,a⟩ <;> omega
  ·have p1:=hce x1 hm1
   have p2:=hce y1 hn1
   rcases a with ⟨a1,a⟩ | ⟨a1,a⟩ <;> rcases b with ⟨b1,b⟩ | ⟨b1,b⟩
   ·have:=cinj i1 j1 x1 y1 hx1 hy1 (by omega); omega
   ·omega
   ·omega
   ·have:=cinj i1 j1 x1 y1 hx1 hy1 (by omega); omega
 ·rw [qiQ9,hlen] at hj
  rw [List.length_append,List.length_cons]
  rcases Nat.lt_or_ge j (2 * k.length) with c | c
  ·obtain ⟨i,hi,e⟩:=qky9 c
   obtain ⟨x,hx,hxm,_⟩:=getk i hi
   have:=hkb x hxm
   rcases e with rfl | rfl
   ·rw [psi_c hx]; omega
   ·rw [psi_e hx]; omega
  ·have : j = 2 * k.length:=by omega
   subst this
   rw [psi_r]; omega
 ·have hj : j < 2 * k.length + 1:=by
   have:=(List.getElem?_eq_some_iff.1 ho).1
   rwa [qiQ9,hlen] at this
  rcases Nat.lt_or_ge j (2 * k.length) with c | c
  ·obtain ⟨i,hi,e⟩:=qky9 c
   obtain ⟨x,hx,hxm,hxi⟩:=getk i hi
   rcases e with rfl | rfl
   ·rw [qoL9 hxi] at ho
    cases ho
    rw [psi_c hx]
    exact qjb9 isV32 (Hc.obj _ _ (qby9 x.2.1))
   ·rw [qot9 hxi] at ho
    cases ho
    rw [psi_e hx]
    exact qjb9 isV64 (Hc.obj _ _ (qby9 x.2.2.1))
  ·have : j = 2 * k.length:=by omega
   subst this
   rw [show 2 * k.length = 2 * (k.map fun x=>x.1.m).length by rw [hlen],qiY9] at ho
   cases ho
   rw [psi_r]
   have hbr:=Hc.obj _ _ at0
   cases hmp : mc (objs M).length with
   | none =>
    rw [hmp] at hbr
    have h0 : rowK k = []:=hbr
    have : k.length = 0:=by rw [← qkB9 (l:=k),h0]; rfl
    have hk : k = []:=List.eq_nil_of_length_eq_zero this
    subst hk
    exact rfl
   | some p =>
    obtain ⟨g,bo⟩:=p
    rw [hmp] at hbr
    obtain ⟨c0,cur,e',c1,c2,c3,c4⟩:=hbr
    refine ⟨c0,cur,e',c1,by rw [List.length_map,qhl9,hlen,← qkB9 (l:=k)]; exact c2,fun i cs hi=>?_,fun i j cs u hi hj=>?_⟩
    ·obtain ⟨z,hz,rfl⟩:=List.mem_map.1 (List.mem_of_getElem? hi); rfl
    ·have hil : i < k.length:=by
      have:=(List.getElem?_eq_some_iff.1 hi).1
      rwa [List.length_map,qhl9,hlen] at this
     obtain ⟨x,hx,hxm,hxi⟩:=getk i hil
     rw [List.getElem?_map,qrA9 _ _ _ _ hxi] at hi
     cases hi
     have hrow : (rowK k)[i]? = some (encK x.1):=by rw [qwG9,hx]; rfl
     match j,hj with
     | 0,hj =>
      cases hj
      obtain ⟨z,z1,z2,z3⟩:=c4 i 0 _ _ hrow rfl
      refine ⟨z,z1,z2,?_⟩
      cases z3 with
      | ref _ _ _ _ _ hsr =>
       refine .ref _ _ _ _ _ (qhZ9 ?_ ?_ hsr)
       ·show (h++nestH h.length (k.map fun x=>x.1.m))[h.length + 2 * i]? = (objs M++(.row false v 2 (rowK k)::hz))[x.1.c]?
        rw [List.getElem?_append_right (by omega),show h.length + 2 * i - h.length = 2 * i by omega,qoL9 hxi]
        exact (qby9 x.2.1).symm
       ·show jm m mc h.length (psi k (objs M).length) (h.length + 2 * i) = mc x.1.c
        unfold jm
        rw [if_neg (by omega),show h.length + 2 * i - h.length = 2 * i by omega,psi_c hx]
     | 1,hj =>
      cases hj
      obtain ⟨z,z1,z2,z3⟩:=c4 i 1 _ _ hrow rfl
      refine ⟨z,z1,z2,?_⟩
      cases z3 with
      | ref _ _ _ _ _ hsr =>
       refine .ref _ _ _ _ _ (qhZ9 ?_ ?_ hsr)
       ·show (h++nestH h.length (k.map fun x=>x.1.m))[h.length + 2 * i + 1]? = (objs M++(.row false v 2 (rowK k)::hz))[x.1.e]?
        rw [List.getElem?_append_right (by omega),show h.length + 2 * i + 1 - h.length = 2 * i + 1 by omega,qot9 hxi]
        exact (qby9 x.2.2.1).symm
       ·show jm m mc h.length (psi k (objs M).length) (h.length + 2 * i + 1) = mc x.1.e
        unfold jm
        rw [if_neg (by omega),show h.length + 2 * i + 1 - h.length = 2 * i + 1 by omega,psi_e hx]
     | j + 2,hj=>simp [encK] at hj
end
end Lt
namespace Lt
open Ld Go Go.Proofs Go.Abs
open Go.ChangeMaps (setBlock)
set_option maxRecDepth 8000
section
variable {m : Places} {w : World} {a : Act} {Y : Nat→Prop} {g clock c v : Nat} {ents : Array MapEntry} {Z Dn : List (MapEntry × Mono)} {seen : Array Nat} {w' : World}
theorem Rnd.out2 (hC : COk w C) (B : Bag Y w g ents clock Z) (R : Rnd Y w g ents clock Z Dn v m seen c a w') (hB : BagOK (Dn.map (·.2))) {Q : Exit→Act→World→Prop}
  (hQ : ∀ a' w'' x mc (l k : List (AK (objs (Dn.map (·.2))))) hz,a'.defers = []→(results Try.f46 a'.tmps).run C.P w'' = .ok x w''→l.map (·.1) = kel 0 (Dn.map (·.2))→l.Perm k→(k.map fun x=>x.1.m) = qcB9 (Dn.map (·.2)) →
   HRel w (fun b=>Y b∨b = w.heap.size) (objs (Dn.map (·.2))++(.row false v 2 (rowK k)::hz)) mc w'' →
   VRel (Ex (fun b=>Y b∨b = w.heap.size) (objs (Dn.map (·.2))++(.row false v 2 (rowK k)::hz)) mc) (objs (Dn.map (·.2))++(.row false v 2 (rowK k)::hz)) mc w'' (.ref (objs (Dn.map (·.2))).length v 0 k.length) x →
   w''.os = w.os→w''.tape = w.tape→Outs w w''→w.heap.size≤w''.heap.size→(∀ b,b < w.heap.size→w''.heap[b]? = w.heap[b]?)→Q .ret a' w'') : d67.wp C.P Q a w':=by
 obtain ⟨l,hl⟩:=els (Dn.map (·.2)) (fun mo hmo=>⟨(hB.2.1 mo hmo).2.1,(hB.2.1 mo hmo).1.2,(hB.2.1 mo hmo).2.2⟩)
 have hlm : (l.map fun x=>x.1.m) = Dn.map (·.2):=by
  have:=congrArg (List.map (·.m)) hl
  rw [kel_m,List.map_map] at this
  exact this
 obtain ⟨k,hp,hkm,hri⟩:=qsB9 (l:=l) (by rw [hlm]; exact hB)
 rw [hlm] at hkm
 have hll : l.length = Dn.length:=by
  have:=congrArg List.length hlm
  simpa using this
 have hkl : k.length = Dn.length:=by rw [hp.length_eq,hll]
 have h67:=sem67 (bm:=g) (r:=w.heap.size) (v:=v) (n:=Dn.length) hll (by have:=hB.1; rw [List.length_map] at this; omega) hp hri
 rw [qwW9 hl] at h67
 refine qbo9 hC.toCSound (qbJ9 hC) hC.orders ht 25 d67 _ .ret _ (qbe9 d67 a67 _ _ st67 h67) ok67 _ m w' a R.fr (fun a' m' w'' k1 k2=>?_)
 have hr : mapO (resP C.P ⟨env6 g w.heap.size (objs (Dn.map (·.2))).length v Dn.length,objs (Dn.map (·.2))++[.row false v 2 (rowK k)]⟩) Try.f46.results.toList = some [.ref (objs (Dn.map (·.2))).length v 0 Dn.length]:=rfl
 obtain ⟨x,r1,r2⟩:=qfu9 k1.heap k1.env hr
 refine hQ a' w'' x m' l k [] k1.dfs r1 hl hp.symm hkm k1.heap ?_ (k2.os.trans R.os) (k2.tape.trans R.tape) (R.output.trans k2.output) k1.heap.osz (fun b hb=>k1.heap.old b hb)
 rw [hkl]
 exact r2
end
theorem qof9 {a b : List Mono} (hp : a.Perm b) (ha : a.Pairwise fun x y=>Law.ltE x.Exps y.Exps) (hb : b.Pairwise fun x y=>Law.ltE x.Exps y.Exps) : a = b :=
 List.Perm.eq_of_pairwise (le:=fun x y : Mono=>Law.ltE x.Exps y.Exps) (fun x y _ _ h1 h2=>absurd (Law.ltE_trans h1 h2) (Law.ltE_irrefl _)) ha hb hp
theorem qhi9 (w : World) (o : Obj) : (w.alloc o).heap = w.heap.push o:=rfl
noncomputable def primTold2 : List PV→AHeap→Option (PV × AHeap):=fun args h=>match args with
 | [.mp id]=>(match h[id]? with
  | some (.map kvs)=>((bagOf kvs).bind toldP).map fun x=>(.ref (h.length + 2 * x.length) 0 0 x.length,h++nestH h.length x)
  | _=>none)
 | _=>none
theorem qnN9 {h : AHeap} {G : AHeap} : ∀ {k : List (AK G)},(∀ x∈k,h[x.1.c]? = some (.row false 0 1 (rowP qb9 x.1.m.Coef))∧h[x.1.e]? = some (.row false 0 1 (rowP intD x.1.m.Exps)))→mapO (mapO (rs h 39)) (rowK k) = some ((k.map fun x=>x.1.m).map qa9)
 | [],_=>rfl
 | x::k,hk=>by
  have h1:=hk x List.mem_cons_self
  have h2:=qnN9 (k:=k) (fun y hy=>hk y (List.mem_cons_of_mem _ hy))
  show mapO (mapO (rs h 39)) (encK x.1::rowK k) = _
  simp only [mapO,qmd9 h1.1 h1.2,h2]; rfl
theorem qxC9 {h : AHeap} {G : AHeap} {k : List (AK G)} {id v : Nat} (ho : h[id]? = some (.row false v 2 (rowK k))) (hk : ∀ x∈k,h[x.1.c]? = some (.row false 0 1 (rowP qb9 x.1.m.Coef))∧h[x.1.e]? = some (.row false 0 1 (rowP intD x.1.m.Exps))) : rs h depth (.ref id v 0 k.length) = some (.rd ((k.map fun x=>x.1.m).map qa9)):=by
 show (match Abs.rowAt h id v with | some (_,_,es)=>(mapO (mapO (rs h 39)) ((es.drop 0).take k.length)).map D.rd | none=>none) = _
 simp only [Abs.rowAt,ho,if_true]
 rw [List.drop_zero,List.take_of_length_le (by rw [qkB9]; exact Nat.le_refl _),qnN9 hk]; rfl
set_option maxHeartbeats 4000000 in
theorem qnb9 (hC : ∀ w,COk w C) {W0 : World} {X : Nat→Prop} {h : AHeap} {m : Places} {w : World} (H : HRel W0 X h m w) {id : Nat} {kvs : List (Value × PV)} {L0 : List (ByteArray × Mono)} (hk : h[id]? = some (.map kvs)) (hkv : kvs = mapP keyS qa9 L0) (hB : BagOK (L0.map (·.2))) {v0 : Value} (hv0 : VRel (Ex X h m) h m w (.mp id) v0) {K : Value→World→Prop}
  (hK : ∀ (w3 : World) (y : Value) (M : List Mono) (v : Nat) (mc : Places) (l k : List (AK (objs M))) (hz : AHeap) (X2 : Nat→Prop),l.map (·.1) = kel 0 M→l.Perm k→(k.map fun x=>x.1.m) = qcB9 (L0.map (·.2)) →
   HRel w X2 (objs M++(.row false v 2 (rowK k)::hz)) mc w3→(∀ b,Ex X h m b→X2 b) →
   VRel (Ex X2 (objs M++(.row false v 2 (rowK k)::hz)) mc) (objs M++(.row false v 2 (rowK k)::hz)) mc w3 (.ref (objs M).length v 0 k.length) y →
   w3.os = w.os→w3.tape = w.tape→Outs w w3→w.heap.size≤w3.heap.size→(∀ b,b < w.heap.size→w3.heap[b]? = w.heap[b]?)→K y w3) : Calls Try.prog 46 [v0].toArray w (Ret K):=by
 obtain ⟨g,bo,rfl,hm⟩ : ∃ g bo,v0 = .map (some g)∧m id = some (g,bo):=by
  cases hv0 with
  | mp id es g bo ho hm=>exact ⟨g,bo,rfl,hm⟩
 have hobj:=H.obj id _ hk
 rw [hm] at hobj
 obtain ⟨ents,clock,hg,hsz,hent,st⟩:=hobj
 have hlen : ents.toList.length = (L0.map (·.2)).length:=by
  rw [Array.length_toList,hsz,hkv]; simp [mapP]
 have hglt : g < w.heap.size:=(Array.getElem?_eq_some_iff.1 hg).1
 have hY : ∀ b,Ex X h m b→b < w.heap.size:=by
  rintro b (hb | ⟨id',o,bo',k1,_,k3⟩)
  ·exact H.xlt b hb
  ·exact H.lt id' o b bo' k1 k3
 have z2 : (ents.toList.zip (L0.map (·.2))).map (·.2) = L0.map (·.2):=List.map_snd_zip (by omega)
 have B : Bag (Ex X h m) w g ents clock (ents.toList.zip (L0.map (·.2))):=by
  refine ⟨hg,st,List.map_fst_zip (by omega),fun z hz=>?_,fun z hz=>?_⟩
  ·obtain ⟨i,hi⟩:=List.getElem?_of_mem hz
   obtain ⟨h1,h2⟩:=List.getElem?_zip_eq_some.1 hi
   rw [List.getElem?_map] at h2
   cases hp : L0[i]? with
   | none=>rw [hp] at h2; cases h2
   | some p =>
    rw [hp] at h2
    have e2 : p.2 = z.2:=by simpa using h2
    have hki : kvs[i]? = some (keyS p.1,.ag ((qa9 z.2).map PV.d)):=by
     rw [hkv]; simp [mapP,hp,← e2,qa9]
    have h1' : ents[i]? = some z.1:=by simpa using h1
    have:=(hent i _ _ _ hki h1').2
    generalize z.1.val = val at this
    cases this with
    | ag cs vs hl h1 hr =>
     refine .ag _ vs (by simpa using hl) h1 (fun j u y hu hy=>?_)
     have:=hr j (.d u) y (by rw [List.getElem?_map,hu]; rfl) hy
     cases this with | d _ _ hd=>exact hd
  ·have : z.2∈L0.map (·.2):=by rw [← z2]; exact List.mem_map.2 ⟨z,hz,rfl⟩
   exact (hB.2.1 _ this).1
 have hZl : (ents.toList.zip (L0.map (·.2))).length < 1048576 + 1:=by
  have:=hB.1
  rw [List.length_zip,hlen,Nat.min_self]
  omega
 refine calls_of_wp Try.func46 body46 ?_
 have hsz0 : (([Value.map (some g)].toArray++Array.replicate (Try.f46.ntmps - [Value.map (some g)].toArray.size) undef)).size = 25:=by
  simp only [Array.size_append,Array.size_replicate,show Try.f46.ntmps = 25 from rfl]; simp
 have h00 : ({ tmps:=[Value.map (some g)].toArray++Array.replicate (Try.f46.ntmps - [Value.map (some g)].toArray.size) undef,defers:=[] } : Act).eval (.tmp 0) = .map (some g):=by
  simp only [Act.eval,Array.getD_eq_getD_getElem?]
  rw [Array.getElem?_append_left (by simp)]
  simp
 have hdf : ({ tmps:=[Value.map (some g)].toArray++Array.replicate (Try.f46.ntmps - [Value.map (some g)].toArray.size) undef,defers:=[] } : Act).defers = []:=rfl
 generalize ha : ({ tmps:=[Value.map (some g)].toArray++Array.replicate (Try.f46.ntmps - [Value.map (some g)].toArray.size) undef,defers:=[] } : Act) = a at h00 hdf
 have hsa : a.tmps.size = 25:=by rw [← ha]; exact hsz0
 clear ha hsz0
 have sz1 : ∀ (a : Act) (d : Nat) (v : Value),(a.put (some d) v).tmps.size = a.tmps.size:=fun a d v=>by simp [Act.put]
 rw [qAf9]
 refine wp_seq ?_
 rw [d0_eq]
 refine wp_region ?_
 show wpOps C.P _ _ [0] a w
 refine qdY9 (v:=.slice none 0 0) (w':=w) rfl rfl rfl ?_
 show (Code.seq d1 _).wp C.P _ (a.put (some 2) (.slice none 0 0)) w
 refine wp_seq ?_
 rw [d1_eq]
 refine wp_region ?_
 show wpOps C.P _ _ [0] (a.put (some 2) (.slice none 0 0)) w
 refine qdY9 (v:=.slice none 0 0) (w':=w) rfl rfl rfl ?_
 show (Code.seq (.seq d2 _) d67).wp C.P _ ((a.put (some 2) (.slice none 0 0)).put (some 3) (.slice none 0 0)) w
 refine wp_seq (wp_seq ?_)
 rw [d2_eq]
 refine wp_region ?_
 show wpOps C.P _ _ [0,1] ((a.put (some 2) (.slice none 0 0)).put (some 3) (.slice none 0 0)) w
 have e0 : ((a.put (some 2) (.slice none 0 0)).put (some 3) (.slice none 0 0)).eval (.tmp 0) = .map (some g):=by
  rw [qcr9 (by rw [sz1]; omega),if_neg (by omega),qcr9 (by omega),if_neg (by omega)]; exact h00
 refine qdY9 (v:=.map (some g)) (w':=w) rfl rfl ?_ ?_
 ·show (pure (Next.value (((a.put (some 2) (.slice none 0 0)).put (some 3) (.slice none 0 0)).eval (.tmp 0))) : Sem Next).run C.P w = _
  rw [e0]; rfl
 show wpOps C.P _ _ [1] (((a.put (some 2) (.slice none 0 0)).put (some 3) (.slice none 0 0)).put (some 6) (.map (some g))) w
 refine qdY9 (v:=.pointer (some ⟨w.heap.size,0,none⟩)) (w':=w.alloc (.mapIter (some g) clock #[] clock)) rfl rfl ?_ ?_
 ·show ((do pure (Next.value (← Instr.range 56 ((((a.put (some 2) (.slice none 0 0)).put (some 3) (.slice none 0 0)).put (some 6) (.map (some g))).eval (.tmp 6))))) : Sem Next).run C.P w = _
  rw [qcr9 (by rw [sz1,sz1]; omega),if_pos rfl,Sem.run_bind,run_range_map (P:=C.P) w 56 _ _ g ents clock Try.underlying56 hg]; rfl
 show (Code.block 0 (.loop lbd)).wp C.P _ ((((a.put (some 2) (.slice none 0 0)).put (some 3) (.slice none 0 0)).put (some 6) (.map (some g))).put (some 7) (.pointer (some ⟨w.heap.size,0,none⟩))) (w.alloc (.mapIter (some g) clock #[] clock))
 have hfr : SRel w (fun b=>Ex X h m b∨b = w.heap.size) ht 0 25 ⟨envL g w.heap.size (objs []).length 0 0,objs []++[.row false 0 2 (qbF9 [])]⟩ (fun _=>none) (w.alloc (.mapIter (some g) clock #[] clock)) ((((a.put (some 2) (.slice none 0 0)).put (some 3) (.slice none 0 0)).put (some 6) (.map (some g))).put (some 7) (.pointer (some ⟨w.heap.size,0,none⟩))):=by
  refine ⟨by rw [sz1,sz1,sz1,sz1]; exact hsa,hdf,?_,fun i=>?_,fun i _ hk=>qmT9 hk⟩
  ·refine ⟨fun id o ho=>?_,fun id o g bo ho hm=>(by cases hm),fun id id' o o' g bo bo' ho ho' hm=>(by cases hm),fun id o g bo ho hm=>(by cases hm),fun b hb=>?_,?_,fun b hb=>?_,fun id o g bo ho hm=>(by cases hm)⟩
   ·match id,ho with
    | 0,ho=>cases ho; rfl
   ·rw [qhi9,Array.size_push]
    rcases hb with hb | hb
    ·have:=hY b hb; omega
    ·omega
   ·rw [qhi9,Array.size_push]; omega
   ·rw [qhi9,Array.getElem?_push,if_neg (by omega)]
  ·show VRel _ _ _ _ ((envL g w.heap.size (objs []).length 0 0).get i) _
   rw [qeD9,qcr9 (by rw [sz1,sz1,sz1]; omega),qcr9 (by rw [sz1,sz1]; omega),qcr9 (by rw [sz1]; omega),qcr9 (by omega)]
   by_cases i0 : i = 0
   ·subst i0
    rw [if_pos rfl,if_neg (by omega),if_neg (by omega),if_neg (by omega),if_neg (by omega),h00]
    exact .d _ _ (.v _)
   rw [if_neg i0]
   by_cases i2 : i = 2
   ·subst i2
    rw [if_pos rfl,if_neg (by omega),if_neg (by omega),if_neg (by omega),if_pos rfl]
    exact .im true [] none 0 0 (fun _ _=>undef) (Nat.le_refl _) (fun _=>rfl) (fun i cs h=>by simp at h) (fun i cs h=>by simp at h) (fun i j cs u ad h=>by simp at h) (fun i j cs u h=>by simp at h)
   rw [if_neg i2]
   by_cases i3 : i = 3
   ·subst i3
    rw [if_pos rfl,if_neg (by omega),if_neg (by omega),if_pos rfl]
    exact .ref _ _ _ _ _ ⟨none,0,rfl,Nat.le_refl _,fun h=>by omega,false,0,2,_,rfl,Nat.le_refl _,fun _=>⟨Nat.le_refl _,rfl⟩⟩
   rw [if_neg i3]
   by_cases i7 : i = 7
   ·subst i7
    rw [if_pos rfl,if_pos rfl]
    exact .d _ _ (.v _)
   rw [if_neg i7]
   exact .junk _
 generalize ((((a.put (some 2) (.slice none 0 0)).put (some 3) (.slice none 0 0)).put (some 6) (.map (some g))).put (some 7) (.pointer (some ⟨w.heap.size,0,none⟩))) = a1 at hfr
 have R0 : Rnd (Ex X h m) w g ents clock (ents.toList.zip (L0.map (·.2))) [] 0 (fun _=>none) #[] clock a1 (w.alloc (.mapIter (some g) clock #[] clock)) :=
  ⟨hfr,rfl,rfl,⟨rfl,Nat.le_refl _⟩,by rw [qhi9,Array.getElem?_push,if_pos rfl],Nat.le_refl _,rfl,(fun z hz=>nomatch hz),List.nodup_nil⟩
 refine wp_block ?_
 refine wp_loop_ghost (fun k a' w'=>∃ Dn v m' seen c,Rnd (Ex X h m) w g ents clock (ents.toList.zip (L0.map (·.2))) Dn v m' seen c a' w'∧(leftOf ents seen).size = k) _ ⟨[],0,_,#[],clock,R0,rfl⟩ ?_
 rintro n a2 w2 ⟨Dn,v,m2,seen,c,R,hn⟩
 refine R.round (hC w) B hZl hY (fun h0 a' R'=>?_) (fun Dn' v' m' seen' c' a'' w'' hlt R'=>⟨(leftOf ents seen').size,by omega,Dn',v',m',seen',c',R',rfl⟩)
 show d67.wp C.P _ a' w2
 have hp:=R'.all B h0
 have hpm : (Dn.map (·.2)).Perm (L0.map (·.2)):=by rw [← z2]; exact hp.map _
 have hBD : BagOK (Dn.map (·.2)):=⟨by rw [hpm.length_eq]; exact hB.1,fun mo hmo=>hB.2.1 mo (hpm.mem_iff.1 hmo),(hpm.map (·.Exps)).nodup_iff.2 hB.2.2⟩
 have hso : qcB9 (Dn.map (·.2)) = qcB9 (L0.map (·.2)):=qof9 ((Law.sortMo_perm _).trans (hpm.trans (Law.sortMo_perm _).symm)) (Law.sortMo_rise (fun x hx=>(hBD.2.1 x hx).2.1) hBD.2.2) (Law.sortMo_rise (fun x hx=>(hB.2.1 x hx).2.1) hB.2.2)
 refine R'.out2 (hC w) B hBD (fun a3 w3 y mc l k hz p1 p2 p3 p4 p5 p6 p7 p8 p9 p10 p11 p12=>?_)
 rw [hso] at p5
 exact ⟨p1,y,p2,hK w3 y _ v mc l k hz _ p3 p4 p5 p6 (fun b hb=>.inl hb) p7 p8 p9 p10 p11 p12⟩
set_option maxHeartbeats 4000000 in
theorem told2_sound (hC : ∀ w,COk w C) (W0 : World) : FSound W0 Try.prog 46 primTold2:=by
 intro args h rv h' ho X m w vs H hv
 unfold primTold2 at ho
 split at ho
 ·rename_i id
  split at ho
  ·rename_i kvs hk
   cases hb : bagOf kvs with
   | none=>rw [hb] at ho; cases ho
   | some L0 =>
   rw [hb] at ho
   simp only [Option.bind_some,Option.map_eq_some_iff] at ho
   obtain ⟨x,hx,he⟩:=ho
   obtain ⟨rfl,rfl⟩:=Prod.mk.inj he
   have hkv : kvs = mapP keyS qa9 L0:=by
    unfold bagOf at hb
    split at hb
    ·rename_i hh
     cases hb
     exact Classical.choose_spec hh
    ·cases hb
   have hB : BagOK (L0.map (·.2))∧x = qcB9 (L0.map (·.2)):=by
    unfold toldP at hx
    split at hx
    ·rename_i hh; cases hx; exact ⟨hh,rfl⟩
    ·cases hx
   obtain ⟨hB,rfl⟩:=hB
   obtain ⟨v0,rfl⟩ : ∃ v0,vs = [v0]:=by
    have h1:=hv.1
    match vs,h1 with
    | [v0],_=>exact ⟨v0,rfl⟩
   have hv0:=hv.2 0 _ _ rfl rfl
   exact qnb9 hC H hk hkv hB hv0 (fun w3 y M v mc l k hz X2 p3 p4 p5 p6 pX p7 p8 p9 p10 p11 p12=>by
    have hlen : k.length = (qcB9 (L0.map (·.2))).length:=by rw [← p5,List.length_map]
    have hout:=qvg9 H p8 p9 p10 p11 p12 p3 p4 p6 (fun b hb=>pX b (.inl hb)) p7
    rw [p5,hlen] at hout
    exact hout)
  ·cases ho
 ·cases ho
set_option maxHeartbeats 4000000 in
theorem told_sound (hC : ∀ w,COk w C) (W0 : World) : FSound W0 Try.prog 46 qcx9:=by
 intro args h rv h' ho X m w vs H hv
 unfold qcx9 at ho
 split at ho
 ·rename_i id
  split at ho
  ·rename_i kvs hk
   cases hb : bagOf kvs with
   | none=>rw [hb] at ho; cases ho
   | some L0 =>
   rw [hb] at ho
   simp only [Option.bind_some,Option.map_eq_some_iff] at ho
   obtain ⟨x,hx,he⟩:=ho
   obtain ⟨rfl,rfl⟩:=Prod.mk.inj he
   have hkv : kvs = mapP keyS qa9 L0:=by
    unfold bagOf at hb
    split at hb
    ·rename_i hh
     cases hb
     exact Classical.choose_spec hh
    ·cases hb
   have hB : BagOK (L0.map (·.2))∧x = qcB9 (L0.map (·.2)):=by
    unfold toldP at hx
    split at hx
    ·rename_i hh; cases hx; exact ⟨hh,rfl⟩
    ·cases hx
   obtain ⟨hB,rfl⟩:=hB
   obtain ⟨v0,rfl⟩ : ∃ v0,vs = [v0]:=by
    have h1:=hv.1
    match vs,h1 with
    | [v0],_=>exact ⟨v0,rfl⟩
   have hv0:=hv.2 0 _ _ rfl rfl
   exact qnb9 hC H hk hkv hB hv0 (fun w3 y M v mc l k hz X2 p3 p4 p5 p6 pX p7 p8 p9 p10 p11 p12=>by
    have at0 : (objs M++(.row false v 2 (rowK k)::hz))[(objs M).length]? = some (.row false v 2 (rowK k)):=by
     rw [List.getElem?_append_right (Nat.le_refl _),Nat.sub_self]; rfl
    have hrs:=qxC9 at0 (fun x hx=>⟨qby9 x.2.1,qby9 x.2.2.1⟩)
    rw [p5] at hrs
    refine ⟨m,.d _ _ (qed9 p6 (fun b hb=>.inl (pX b hb)) _ _ _ _ hrs (fun id hid g bo fz ver sz es hm ho hy=>p6.apart id _ g bo ho hm (pX g hy)) p7),HRel.grow H p8 p9 p10 p11 p12,Evo.grow H p8 p9 p10 p11 p12⟩)
  ·cases ho
 ·cases ho
end Lt
namespace Lt
open Ld Go Go.Proofs Go.Abs
set_option maxRecDepth 8000
theorem qyy9 {h : AHeap} {id ver off len : Nat} : rs h depth (.ref id ver off len) = match Abs.rowAt h id ver with
   | some p=>(mapO (mapO (rs h 39)) ((p.2.2.drop off).take len)).map D.rd
   | none=>none:=by
 show (match Abs.rowAt h id ver with | some (_,_,es)=>(mapO (mapO (rs h 39)) ((es.drop off).take len)).map D.rd | none=>none) = _
 cases Abs.rowAt h id ver <;> rfl
theorem qsq9 {h : AHeap} {id ver off len : Nat} : reach h depth (.ref id ver off len) = id::(match Abs.rowAt h id ver with
   | some p=>p.2.2.flatMap fun cs=>cs.flatMap (reach h 39)
   | none=>[]):=by
 show (id::(match Abs.rowAt h id ver with | some (_,_,es)=>es.flatMap fun cs=>cs.flatMap (reach h 39) | none=>[])) = _
 cases Abs.rowAt h id ver <;> rfl
theorem qle9 {α : Type} {f : α→List D} {l : List α} {h : AHeap} {id ver n : Nat} {fz : Bool} {sz : Nat} (ho : h[id]? = some (.row fz ver sz (rowP f l))) (hn : l.length = n) : rs h depth (.ref id ver 0 n) = some (.rd (l.map f)):=by
 rw [qyy9]
 simp only [Abs.rowAt,ho,if_true,List.drop_zero,qiz9 hn]
 rw [qgJ9 (n:=38)]; rfl
theorem qjg9 {α : Type} {f : α→List D} {l : List α} {h : AHeap} {id ver n : Nat} {fz : Bool} {sz : Nat} (ho : h[id]? = some (.row fz ver sz (rowP f l))) : reach h depth (.ref id ver 0 n) = [id]:=by
 rw [qsq9]
 simp only [Abs.rowAt,ho,if_true]
 rw [qgY9 (n:=38)]
end Lt

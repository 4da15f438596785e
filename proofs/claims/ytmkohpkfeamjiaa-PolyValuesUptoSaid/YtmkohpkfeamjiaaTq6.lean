import Derived.Test.YtmkohpkfeamjiaaTSW7
import Derived.Test.YtmkohpkfeamjiaaPVC
import Derived.Test.YtmkohpkfeamjiaaTs4
import Derived.Maps.RangeRun
import Derived.Test.YtmkohpkfeamjiaaShP
import Derived.Test.YtmkohpkfeamjiaaAbs28
set_option maxHeartbeats 400000
set_option linter.unusedVariables false
set_option linter.unusedSimpArgs false
set_option linter.unusedSectionVars false
namespace Lt
open Ld Go Go.Proofs Go.Abs
set_option maxRecDepth 8000
def sL : Code→Code | .seq a _=>a | c=>c
def sR : Code→Code | .seq _ b=>b | c=>c
def bC : Code→Code | .block _ c=>c | c=>c
def lC : Code→Code | .loop c=>c | c=>c
noncomputable def b46 : Code:=match Try.f46.body with | some c=>c | none=>.skip
theorem body46 : Try.f46.body = some b46:=rfl
noncomputable def d0 : Code:=sL b46
noncomputable def d1 : Code:=sL (sR b46)
noncomputable def d2 : Code:=sL (sL (sR (sR b46)))
noncomputable def lbd : Code:=lC (bC (sR (sL (sR (sR b46)))))
noncomputable def d3 : Code:=sL lbd
noncomputable def d4 : Code:=sL (bC (sR (sR lbd)))
noncomputable def d5 : Code:=sR (bC (sR (sR lbd)))
noncomputable def d67 : Code:=sR (sR (sR b46))
theorem qAm9 : lbd = .seq d3 (.seq (.cond (.tmp 9) .skip (.exit 0)) (.block 1 (.seq d4 d5))):=rfl
theorem qAu9 : b46 = .seq d0 (.seq d1 (.seq (.seq d2 (.block 0 (.loop lbd))) d67)):=rfl
def o2 : Array Oper := #[{ dst := some 6, op := Go.Op.move (Go.Operand.tmp 0), type := 56, pos := "poly.go:95", after := #[], guard := none },
 { dst := some 7, op := Go.Op.range 56 (Go.Operand.tmp 6), type := 0, pos := "poly.go:95", after := #[{ on := 0, ground := Go.Ground.data }], guard := none }]
def o3 : Array Oper := #[{ dst := some 8, op := Go.Op.next (Go.Operand.tmp 7) false, type := 0, pos := "poly.go:95", after := #[], guard := none },
 { dst := some 9, op := Go.Op.extract (Go.Operand.tmp 8) 0, type := 4, pos := "poly.go:95", after := #[{ on := 0, ground := Go.Ground.data }], guard := none }]
def o4h : Oper := { dst := some 10, op := Go.Op.entry (Go.Operand.tmp 7), type := 0, pos := "poly.go:95", after := #[], guard := none }
def o4t : List Oper := [{ dst := some 11, op := Go.Op.extract (Go.Operand.tmp 10) 1, type := 51, pos := "poly.go:95", after := #[{ on := 0, ground := Go.Ground.data }], guard := none },
 { dst := some 5, op := Go.Op.alloc 51, type := 0, pos := "poly.go:95", after := #[], guard := none },
 { dst := none, op := Go.Op.store 51 (Go.Operand.tmp 5) (Go.Operand.tmp 11), type := 0, pos := "poly.go:95", after := #[{ on := 2, ground := Go.Ground.data }, { on := 1, ground := Go.Ground.data }, { on := 0, ground := Go.Ground.phase }, { on := 1, ground := Go.Ground.phase }, { on := 2, ground := Go.Ground.phase }], guard := none }]
def o4 : Array Oper:=(o4h::o4t).toArray
theorem d2_eq : d2 = .region 2 o2 false:=rfl
theorem d3_eq : d3 = .region 3 o3 false:=rfl
theorem d4_eq : d4 = .region 4 o4 false:=rfl
def ht : Hint:=⟨685,0,[(0,544),(1,544)],[(5,[3,6,9,1005])],[],[(1,[(3,2)]),(4,[(5,0)])]⟩
def a5 : ACode:=.reg [] [] [.M 12 3,.T 13 (.fa 0 (.tmp 5)),⟨some (14,false),.load none (.tmp 13),none,true,false⟩,.T 15 (.call 61 [.tmp 14]),.T 16 (.fa 1 (.tmp 5)),⟨some (17,false),.loadB none (.tmp 16),none,true,false⟩,.T 18 (.call 74 [.tmp 17]),.T 19 (.build [(0,1),(1,1)] [.im true [],.im true []] [(0,.tmp 15),(1,.tmp 18)]),.T 20 (.lit 2 [(0,.tmp 19)]),.T 21 (.app 2 48 (.tmp 12) (.tmp 20)),.N 3 21]
def a0 : ACode:=.reg [] [] [.K 2 (.mv (.const (.slice none 0 0)))]
def a1 : ACode:=.reg [] [(3,2)] [.K 3 (.mv (.const (.slice none 0 0)))]
def a67 : ACode:=.seq (.reg [] [] [.M 22 3,.T 23 (.call 75 [.tmp 22,.func 76])]) (.seq (.reg [] [] [.M 24 3,.N 2 24]) .ret)
def a4 : List AOper:=[.T 11 (.ext (.tmp 10) 1),.K 5 (.alloc [.im true [],.im true []] 2),⟨none,.store 2 (.tmp 5) (.tmp 11),none,false,false⟩]
theorem st1 : qcm9 C.P C.settle ht 25 d1 = some a1:=by kernel_rfl
theorem st5 : qcm9 C.P C.settle ht 25 d5 = some a5:=by kernel_rfl
theorem st67 : qcm9 C.P C.settle ht 25 d67 = some a67:=by kernel_rfl
theorem st4 : qgj9 C.P C.settle ht.keep 25 o4 none 1 o4t = some a4:=by kernel_rfl
theorem ok5 : qcU9 ht d5 = true:=by kernel_rfl
theorem ok67 : qcU9 ht d67 = true:=by kernel_rfl
theorem ok0 : qcU9 ht d0 = true:=by kernel_rfl
theorem ok1 : qcU9 ht d1 = true:=by kernel_rfl
def envL (bm r v n : Nat) : Env:=[(0,.d (.v (.map (some bm)))),(2,.im true []),(3,.ref 0 v 0 n),(7,.d (.v (.pointer (some ⟨r,0,none⟩))))]
def env0 (bm : Nat) : Env:=[(0,.d (.v (.map (some bm))))]
def env1 (bm : Nat) : Env:=[(0,.d (.v (.map (some bm)))),(2,.im true []),(3,.ref 0 0 0 0)]
def te4 (key : Value) (m : Mono) : Env:=[(10,.tp [.d (.v key),.d (.ag (qa9 m))])]
def h4 (v : Nat) (L : List Mono) (m : Mono) : AHeap:=[.row false v 2 (rowP qa9 L),.row false 0 2 [(qa9 m).map .d]]
theorem ops4 {bm r v n : Nat} {L : List Mono} {m : Mono} {key : Value} : opsA C (Lim C) a4 (te4 key m) (envL bm r v n) [.row false v 2 (rowP qa9 L)] = some ⟨(envL bm r v n).set 5 (.ptr 1 0 0 0),h4 v L m⟩:=by
 simp +decide only [go_sem,a4,te4,envL,h4,qa9]
theorem co4 {bm r v n : Nat} {L : List Mono} {m : Mono} : coE ht (lookC ht.post 4) ⟨(envL bm r v n).set 5 (.ptr 1 0 0 0),h4 v L m⟩ = some ⟨(envL bm r v n).set 5 (.d (.bx (qa9 m))),[.row false v 2 (rowP qa9 L),.row true 0 2 [(qa9 m).map .d]]⟩:=by
 rw [← qvS9]
 simp +decide only [go_sem,ht,lookC,envL,h4,qa9]
end Lt
namespace Lt
open Ld Go Go.Proofs Go.Abs
set_option maxRecDepth 8000
def env5 (bm r v n : Nat) (m : Mono) : Env:=[(0,.d (.v (.map (some bm)))),(2,.im true []),(3,.ref 0 (v + 1) 0 (n + 1)),(5,.d (.bx (qa9 m))),(7,.d (.v (.pointer (some ⟨r,0,none⟩))))]
def h5 (v : Nat) (L : List Mono) (m : Mono) : AHeap:=[.row false (v + 1) 2 (rowP qa9 L++[[.ref 2 0 0 m.Coef.length,.ref 3 0 0 m.Exps.length]]),.row true 0 2 [(qa9 m).map .d],.row false 0 1 (rowP qc9 m.Coef),.row false 0 1 (rowP intD m.Exps)]
set_option maxHeartbeats 4000000 in
theorem sem5 {bm r v n : Nat} {L : List Mono} {m : Mono} (hn : L.length = n) (hl : n≤1048576) (hc : m.Coef.length≤1048576) (he : m.Exps.length≤1048576) : semA C (Lim C) 685 a5 ⟨(envL bm r v n).set 5 (.d (.bx (qa9 m))),[.row false v 2 (rowP qa9 L),.row true 0 2 [(qa9 m).map .d]]⟩ = some (.normal,⟨env5 bm r v n m,h5 v L m⟩):=by
 have i1 : m.Coef.length * 4≤140737488355328:=by omega
 have i2 : m.Exps.length * 8≤140737488355328:=by omega
 have i3 : (n + 1) * 48≤140737488355328:=by omega
 have i4 : (rowP qa9 L).length = n:=by rw [qlR9,hn]
 simp +decide only [go_sem,a5,envL,env5,h5,qa9,i1,i2,i3,i4,hn,if_true]
theorem qyT9 {h : AHeap} {id ver off len : Nat} : rs h depth (.ref id ver off len) = match Abs.rowAt h id ver with
   | some p=>(mapO (mapO (rs h 39)) ((p.2.2.drop off).take len)).map D.rd
   | none=>none:=by
 show (match Abs.rowAt h id ver with | some (_,_,es)=>(mapO (mapO (rs h 39)) ((es.drop off).take len)).map D.rd | none=>none) = _
 cases Abs.rowAt h id ver <;> rfl
theorem qtu9 {h : AHeap} {id ver off len : Nat} : reach h depth (.ref id ver off len) = id::(match Abs.rowAt h id ver with
   | some p=>p.2.2.flatMap fun cs=>cs.flatMap (reach h 39)
   | none=>[]):=by
 show (id::(match Abs.rowAt h id ver with | some (_,_,es)=>es.flatMap fun cs=>cs.flatMap (reach h 39) | none=>[])) = _
 cases Abs.rowAt h id ver <;> rfl
theorem qml9 {α : Type} {f : α→List D} {l : List α} {h : AHeap} {id ver n : Nat} {fz : Bool} {sz : Nat} (ho : h[id]? = some (.row fz ver sz (rowP f l))) (hn : l.length = n) : rs h depth (.ref id ver 0 n) = some (.rd (l.map f)):=by
 rw [qyT9]
 simp only [Abs.rowAt,ho,if_true,List.drop_zero,qmn9 hn]
 rw [qjs9 (n:=38)]; rfl
theorem qjy9 {α : Type} {f : α→List D} {l : List α} {h : AHeap} {id ver n : Nat} {fz : Bool} {sz : Nat} (ho : h[id]? = some (.row fz ver sz (rowP f l))) : reach h depth (.ref id ver 0 n) = [id]:=by
 rw [qtu9]
 simp only [Abs.rowAt,ho,if_true]
 rw [qkd9 (n:=38)]
theorem rs5a {v : Nat} {L : List Mono} {m : Mono} : rs (h5 v L m) depth (.ref 2 0 0 m.Coef.length) = some (.rd (m.Coef.map qc9)):=qml9 (h:=h5 v L m) (id:=2) rfl rfl
theorem rs5b {v : Nat} {L : List Mono} {m : Mono} : rs (h5 v L m) depth (.ref 3 0 0 m.Exps.length) = some (.rd (m.Exps.map intD)):=qml9 (h:=h5 v L m) (id:=3) rfl rfl
theorem re5a {v : Nat} {L : List Mono} {m : Mono} : reach (h5 v L m) depth (.ref 2 0 0 m.Coef.length) = [2]:=qjy9 (h:=h5 v L m) (id:=2) rfl
theorem re5b {v : Nat} {L : List Mono} {m : Mono} : reach (h5 v L m) depth (.ref 3 0 0 m.Exps.length) = [3]:=qjy9 (h:=h5 v L m) (id:=3) rfl
def env6 (bm r v n : Nat) : Env:=[(0,.d (.v (.map (some bm)))),(2,.ref 0 v 0 n),(3,.ref 0 v 0 n),(7,.d (.v (.pointer (some ⟨r,0,none⟩))))]
theorem sem67 {bm r v n : Nat} {M : List Mono} (hn : M.length = n) (hb : BagOK M) : ∃ hz,semA C (Lim C) 685 a67 ⟨envL bm r v n,[.row false v 2 (rowP qa9 M)]⟩ = some (.ret,⟨env6 bm r v n,.row false v 2 (rowP qa9 (qdr9 M))::hz⟩):=by
 obtain ⟨hz,h1,h2⟩:=qef9 (v0:=v) hn (So.told_sort hb)
 have h1k : callP C (Lim C) 75 [.ref 0 v 0 n,.fn 76 []] [.row false v 2 (rowP qa9 M)] = _:=qD9 rfl rfl rfl h1
 refine ⟨hz,?_⟩
 simp +decide only [go_sem,a67,envL,env6,h1k]
end Lt
namespace Lt
open Ld Go Go.Proofs Go.Abs
open Go.ChangeMaps (setBlock)
set_option maxRecDepth 8000
section
variable {W0 : World} {E : Nat→Prop} {X : Nat→Prop} {h : AHeap} {m : Places} {w w' : World}
theorem vturn {r : Nat} (hw : ∀ b,b ≠ r→w'.heap[b]? = w.heap[b]?) (hE : E r) (hm : ∀ id o g bo,h[id]? = some o→m id = some (g,bo)→g ≠ r) {x : PV} {v : Value} (hd : VRel E h m w x v) : VRel E h m w' x v:=by
 have blk : ∀ b,¬ E b→w'.heap[b]? = w.heap[b]?:=fun b hb=>hw b (fun e=>hb (by rw [e]; exact hE))
 induction hd with
 | d x v hd=>exact .d x v (hd.move (fun _ _ h=>h) (fun b _ hb=>blk b hb))
 | junk v=>exact .junk v
 | im t xs A c sz f hc ht hsz hA hc1 hr ih =>
  refine .im t xs A c sz f hc ht hsz hA (fun i j cs u ad h1 h2 h3=>?_) ih
  obtain ⟨a1,a2,a3⟩:=hc1 i j cs u ad h1 h2 h3
  exact ⟨a1,(qfB9 (by rw [qdh9]; exact blk _ a1)).trans a2,a3⟩
 | bx cs ad f hc1 hr ih =>
  refine .bx cs ad f (fun j u h1=>?_) ih
  obtain ⟨a1,a2,a3⟩:=hc1 j u h1
  exact ⟨a1,(qfB9 (by rw [qdh9]; exact blk _ a1)).trans a2,a3⟩
 | ref id ver off len v hs =>
  obtain ⟨A,cap,e1,e2,e3,fz,ver',sz,es,ho,hle,hcur⟩:=hs
  refine .ref id ver off len v ⟨A,cap,e1,e2,e3,fz,ver',sz,es,ho,hle,fun e=>?_⟩
  obtain ⟨c1,c2⟩:=hcur e
  refine ⟨c1,?_⟩
  cases hmm : m id with
  | none=>rw [hmm] at c2; exact c2
  | some p =>
   obtain ⟨g,bo⟩:=p
   rw [hmm] at c2
   obtain ⟨cur,e,d1,d2,d3⟩:=c2
   exact ⟨cur,e,(hw g (hm id _ g bo ho hmm)).trans d1,d2,d3⟩
 | ptr id ver idx off v hp=>exact .ptr id ver idx off v hp
 | mp id es g bo ho hm'=>exact .mp id es g bo ho hm'
 | it id s pos g bo ho hm'=>exact .it id s pos g bo ho hm'
 | ag cs vs hl h1 hr ih=>exact .ag cs vs hl h1 ih
 | tp cs vs hl hr ih=>exact .tp cs vs hl ih
 | ifc t x v h ih=>exact .ifc t x v ih
 | fn f cs vs hl hr ih=>exact .fn f cs vs hl ih
theorem oturn {r : Nat} (hw : ∀ b,b ≠ r→w'.heap[b]? = w.heap[b]?) (hE : E r) (hm : ∀ id o g bo,h[id]? = some o→m id = some (g,bo)→g ≠ r) {o : AObj} {p : Option (Nat × Nat)} (hp : ∀ g bo,p = some (g,bo)→g ≠ r) (ho : ORel E h m w o p) : ORel E h m w' o p:=by
 cases o with
 | row fz ver sz es =>
  cases p with
  | none=>exact ho
  | some p =>
   obtain ⟨g,bo⟩:=p
   obtain ⟨h0,cur,e,k1,k2,k3,k4⟩:=ho
   refine ⟨h0,cur,e,(hw g (hp g bo rfl)).trans k1,k2,k3,fun i j cs u a b=>?_⟩
   obtain ⟨x,c1,c2,c3⟩:=k4 i j cs u a b
   exact ⟨x,c1,c2,vturn hw hE hm c3⟩
 | map es =>
  cases p with
  | none=>exact ho
  | some p =>
   obtain ⟨g,bo⟩:=p
   obtain ⟨ents,clock,h1,h2,h3,h4⟩:=ho
   refine ⟨ents,clock,(hw g (hp g bo rfl)).trans h1,h2,fun i k u x a b=>?_,h4⟩
   obtain ⟨c1,c2⟩:=h3 i k u x a b
   exact ⟨c1,vturn hw hE hm c2⟩
 | siter s pos =>
  cases p with
  | none=>exact ho
  | some p=>obtain ⟨g,bo⟩:=p; exact (hw g (hp g bo rfl)).trans ho
theorem hturn {r : Nat} (H : HRel W0 X h m w) (hw : ∀ b,b ≠ r→w'.heap[b]? = w.heap[b]?) (hs : w'.heap.size = w.heap.size) (hX : X r) (hr : W0.heap.size≤r) : HRel W0 X h m w':=by
 have hm : ∀ id o g bo,h[id]? = some o→m id = some (g,bo)→g ≠ r:=fun id o g bo ho hm e=>H.apart id o g bo ho hm (by rw [e]; exact hX)
 exact {
  obj:=fun id o ho=>oturn hw (.inl hX) hm (fun g bo hp=>hm id o g bo ho hp) (H.obj id o ho)
  lt:=fun id o g bo ho h1=>by rw [hs]; exact H.lt id o g bo ho h1
  inj:=H.inj
  apart:=H.apart
  xlt:=fun b hb=>by rw [hs]; exact H.xlt b hb
  osz:=by rw [hs]; exact H.osz
  old:=fun b hb=>(hw b (by omega)).trans (H.old b hb)
  new:=H.new }
theorem sturn {t : Hint} {nt : Nat} {s : St} {a : Act} {r : Nat} (hs : SRel W0 X t 0 nt s m w a) (hw : ∀ b,b ≠ r→w'.heap[b]? = w.heap[b]?) (hz : w'.heap.size = w.heap.size) (hX : X r) (hr : W0.heap.size≤r) : SRel W0 X t 0 nt s m w' a :=
 ⟨hs.size,hs.dfs,hturn hs.heap hw hz hX hr,fun i=>vturn hw (.inl hX) (fun id o g bo ho hm e=>hs.heap.apart id o g bo ho hm (by rw [e]; exact hX)) (hs.env i),hs.keep⟩
theorem qel9 {a : Act} {d : Nat} {v : Value} {i : Nat} (hd : d < a.tmps.size) : (a.put (some d) v).eval (.tmp i) = if i = d then v else a.eval (.tmp i):=by
 simp only [Act.put,Act.eval,Array.getD_eq_getD_getElem?,Array.getElem?_setIfInBounds]
 by_cases e : i = d
 ·subst e; simp [hd]
 ·rw [if_neg e,if_neg (by omega)]
theorem sput {t : Hint} {nt : Nat} {s : St} {a : Act} {d : Nat} {v : Value} (hs : SRel W0 X t 0 nt s m w a) (hd : d < nt) (hx : s.env.get d = .junk) : SRel W0 X t 0 nt s m w (a.put (some d) v) :=
 ⟨by simp only [Act.put,Array.size_setIfInBounds]; exact hs.size,hs.dfs,hs.heap,fun i=>by
  rw [qel9 (by rw [hs.size]; exact hd)]
  split
  ·rename_i e; rw [e,hx]; exact .junk _
  ·exact hs.env i,hs.keep⟩
theorem qgg9 {P : Program} {ops : Array Oper} {Q : Exit→Act→World→Prop} {k : Nat} {rest : List Nat} {a : Act} {o : Oper} {v : Value} (ho : ops[k]? = some o) (hg : o.guard = none) (hrun : (execOp a.eval o).run P w = .ok (.value v) w') (hk : wpOps P ops Q rest (a.put o.dst v) w') : wpOps P ops Q (k::rest) a w:=by
 simp only [wpOps,ho]
 have : Region.wanted o (yielded ops a.tmps) = true:=by unfold Region.wanted; rw [hg]
 rw [if_pos this]
 left
 unfold Oper.wp
 rw [hrun,Oper.upon_value]
 exact hk
theorem qkC9 {v : Nat} {L : List Mono} {mo : Mono} {b : Nat} (hb : Ex X [.row false (v + 1) 2 (rowP qa9 (L++[mo]))] m b) : Ex X (h5 v L mo) m b:=by
 rcases hb with hb | ⟨id,o,bo,k1,k2,k3⟩
 ·exact .inl hb
 ·match id,k1 with
  | 0,k1=>exact .inr ⟨0,_,bo,rfl,rfl,k3⟩
theorem absorb {v : Nat} {L : List Mono} {mo : Mono} (H : HRel W0 X (h5 v L mo) m w) : HRel W0 X [.row false (v + 1) 2 (rowP qa9 (L++[mo]))] m w:=by
 have far : ∀ id,id ≠ 0→∀ g bo fz ver sz es,m id = some (g,bo)→(h5 v L mo)[id]? = some (.row fz ver sz es)→¬ Ex X [.row false (v + 1) 2 (rowP qa9 (L++[mo]))] m g:=by
  intro id hid g bo fz ver sz es hm ho hb
  rcases hb with hb | ⟨id',o,bo',k1,k2,k3⟩
  ·exact H.apart id _ g bo ho hm hb
  ·match id',k1,k3 with
   | 0,k1,k3=>exact hid (H.inj id 0 _ _ g bo bo' ho rfl hm k3)
 have dmv : ∀ {d : D} {x : Value},VRel (Ex X (h5 v L mo) m) (h5 v L mo) m w (.d d) x→VRel (Ex X [.row false (v + 1) 2 (rowP qa9 (L++[mo]))] m) [.row false (v + 1) 2 (rowP qa9 (L++[mo]))] m w (.d d) x:=by
  intro d x hv
  cases hv with
  | d _ _ hd=>exact .d _ _ (hd.move (fun b _ hb=>qkC9 hb) (fun _ _ _=>rfl))
 have one : ∀ id o,([.row false (v + 1) 2 (rowP qa9 (L++[mo]))] : AHeap)[id]? = some o→id = 0∧o = .row false (v + 1) 2 (rowP qa9 (L++[mo])):=by
  intro id o ho
  match id,ho with
  | 0,ho=>exact ⟨rfl,by simpa using ho.symm⟩
 refine ⟨fun id o ho=>?_,fun id o g bo ho hm=>?_,fun id id' o o' g bo bo' ho ho' _ _=>?_,fun id o g bo ho hm=>?_,H.xlt,H.osz,H.old,fun id o g bo ho hm=>?_⟩
 ·obtain ⟨rfl,rfl⟩:=one id o ho
  have h0:=H.obj 0 _ rfl
  cases hp : m 0 with
  | none =>
   rw [hp] at h0
   have : (rowP qa9 L++[[PV.ref 2 0 0 mo.Coef.length,.ref 3 0 0 mo.Exps.length]]) = []:=h0
   simp at this
  | some p =>
   obtain ⟨g,bo⟩:=p
   rw [hp] at h0
   obtain ⟨c0,cur,e,c1,c2,c3,c4⟩:=h0
   have hlen : (rowP qa9 (L++[mo])).length = (rowP qa9 L++[[PV.ref 2 0 0 mo.Coef.length,.ref 3 0 0 mo.Exps.length]]).length:=by simp [rowP]
   refine ⟨c0,cur,e,c1,by rw [hlen]; exact c2,fun i cs hi=>?_,fun i j cs u hi hj=>?_⟩
   ·rw [qlH9] at hi
    cases hx : (L++[mo])[i]? with
    | none=>rw [hx] at hi; cases hi
    | some a=>rw [hx] at hi; cases hi; rfl
   ·rw [qru9] at hi
    rcases Nat.lt_or_ge i (rowP qa9 L).length with hlt | hge
    ·rw [List.getElem?_append_left hlt] at hi
     have hi' : (rowP qa9 L++[[PV.ref 2 0 0 mo.Coef.length,.ref 3 0 0 mo.Exps.length]])[i]? = some cs:=by rw [List.getElem?_append_left hlt]; exact hi
     obtain ⟨x,x1,x2,x3⟩:=c4 i j cs u hi' hj
     refine ⟨x,x1,x2,?_⟩
     rw [qlH9] at hi
     cases hx : L[i]? with
     | none=>rw [hx] at hi; cases hi
     | some a =>
      rw [hx] at hi
      cases hi
      rw [List.getElem?_map] at hj
      cases hy : (qa9 a)[j]? with
      | none=>rw [hy] at hj; cases hj
      | some d=>rw [hy] at hj; cases hj; exact dmv x3
    ·rw [List.getElem?_append_right hge] at hi
     have hi0 : i = (rowP qa9 L).length:=by
      rcases Nat.lt_or_ge (i - (rowP qa9 L).length) 1 with c | c
      ·omega
      ·rw [List.getElem?_eq_none (by simpa [rowP] using c)] at hi; cases hi
     have hi' : (rowP qa9 L++[[PV.ref 2 0 0 mo.Coef.length,.ref 3 0 0 mo.Exps.length]])[i]? = some [PV.ref 2 0 0 mo.Coef.length,.ref 3 0 0 mo.Exps.length]:=by rw [hi0]; simp
     rw [hi0,Nat.sub_self] at hi
     have hcs : cs = [.d (.rd (mo.Coef.map qc9)),.d (.rd (mo.Exps.map intD))]:=by simpa [rowP,qa9] using hi.symm
     subst hcs
     match j,hj with
     | 0,hj =>
      obtain ⟨x,x1,x2,x3⟩:=c4 i 0 _ _ hi' rfl
      cases hj
      exact ⟨x,x1,x2,.d _ _ (qhB9 H (fun b hb=>qkC9 hb) _ _ _ _ rs5a (fun id hid=>by
       rw [re5a,List.mem_singleton] at hid
       exact far id (by omega)) x3)⟩
     | 1,hj =>
      obtain ⟨x,x1,x2,x3⟩:=c4 i 1 _ _ hi' rfl
      cases hj
      exact ⟨x,x1,x2,.d _ _ (qhB9 H (fun b hb=>qkC9 hb) _ _ _ _ rs5b (fun id hid=>by
       rw [re5b,List.mem_singleton] at hid
       exact far id (by omega)) x3)⟩
     | j + 2,hj=>simp at hj
 ·obtain ⟨rfl,rfl⟩:=one id o ho
  exact H.lt 0 _ g bo rfl hm
 ·rw [(one id o ho).1,(one id' o' ho').1]
 ·obtain ⟨rfl,rfl⟩:=one id o ho
  exact H.apart 0 _ g bo rfl hm
 ·obtain ⟨rfl,rfl⟩:=one id o ho
  exact H.new 0 _ g bo rfl hm
end
end Lt
namespace Lt
open Ld Go Go.Proofs Go.Abs
open Go.ChangeMaps (setBlock)
set_option maxRecDepth 8000
section
variable {X : Nat→Prop} {m : Places} {W0 w : World} {a : Act}
theorem qwx9 {bm r v n : Nat} {mo : Mono} : (env5 bm r v n mo).del 544 = envL bm r (v + 1) (n + 1):=by
 simp +decide only [go_sem,env5,envL]
theorem qgH9 {bm r v n i : Nat} : (envL bm r v n).get i = if i = 0 then .d (.v (.map (some bm))) else if i = 2 then .im true [] else if i = 3 then .ref 0 v 0 n else if i = 7 then .d (.v (.pointer (some ⟨r,0,none⟩))) else .junk:=by
 simp only [envL,Env.get]
theorem qnP9 {bm r v n i : Nat} (hk : ht.keep.testBit i = false) : (envL bm r v n).get i = .junk:=by
 rw [qgH9]
 by_cases e0 : i = 0
 ·subst e0; exact absurd hk (by decide)
 rw [if_neg e0]
 by_cases e2 : i = 2
 ·subst e2; exact absurd hk (by decide)
 rw [if_neg e2]
 by_cases e3 : i = 3
 ·subst e3; exact absurd hk (by decide)
 rw [if_neg e3]
 by_cases e7 : i = 7
 ·subst e7; exact absurd hk (by decide)
 rw [if_neg e7]
theorem sabsorb {bm r v n : Nat} {L : List Mono} {mo : Mono} (hs : SRel W0 X ht 0 25 ⟨envL bm r (v + 1) (n + 1),h5 v L mo⟩ m w a) : SRel W0 X ht 0 25 ⟨envL bm r (v + 1) (n + 1),[.row false (v + 1) 2 (rowP qa9 (L++[mo]))]⟩ m w a:=by
 refine ⟨hs.size,hs.dfs,absorb hs.heap,fun i=>?_,fun i _ hk=>qnP9 hk⟩
 have h1:=hs.env i
 show VRel _ _ _ _ ((envL bm r (v + 1) (n + 1)).get i) _
 have h1 : VRel (Ex X (h5 v L mo) m) (h5 v L mo) m w ((envL bm r (v + 1) (n + 1)).get i) (a.eval (.tmp i)):=h1
 rw [qgH9] at h1 ⊢
 split
 ·rename_i e
  rw [if_pos e] at h1
  generalize a.eval (.tmp i) = val at h1 ⊢
  cases h1 with | d _ _ hd=>cases hd; exact .d _ _ (.v _)
 rename_i e0
 rw [if_neg e0] at h1
 split
 ·rename_i e
  rw [if_pos e] at h1
  generalize a.eval (.tmp i) = val at h1 ⊢
  cases h1 with
  | im t xs A c sz f hc ht hsz hA hc1 hr=>exact .im _ _ A c sz f hc ht hsz hA (fun i j cs u ad h1=>by simp at h1) (fun i j cs u h1=>by simp at h1)
 rename_i e2
 rw [if_neg e2] at h1
 split
 ·rename_i e
  rw [if_pos e] at h1
  generalize a.eval (.tmp i) = val at h1 ⊢
  cases h1 with
  | ref id ver off len v hs' =>
   obtain ⟨A,cap,e1,e2,e3,fz,ver',sz,es,ho,hle,hcur⟩:=hs'
   cases ho
   refine .ref _ _ _ _ _ ⟨A,cap,e1,e2,e3,false,_,2,_,rfl,hle,fun e=>?_⟩
   obtain ⟨c1,c2⟩:=hcur e
   exact ⟨by simpa [rowP] using c1,c2⟩
 rename_i e3
 rw [if_neg e3] at h1
 split
 ·rename_i e
  rw [if_pos e] at h1
  generalize a.eval (.tmp i) = val at h1 ⊢
  cases h1 with | d _ _ hd=>cases hd; exact .d _ _ (.v _)
 ·exact .junk _
structure Bag (Y : Nat→Prop) (w : World) (g : Nat) (ents : Array MapEntry) (clock : Nat) (Z : List (MapEntry × Mono)) : Prop where
 at' : w.heap[g]? = some (.map ents clock)
 st : StampE ents clock
 z1 : Z.map (·.1) = ents.toList
 dz : ∀ z∈Z,DRel Y w (.ag (qa9 z.2)) z.1.val
 sm : ∀ z∈Z,z.2.Coef.length≤1048576∧z.2.Exps.length≤1048576
structure Rnd (Y : Nat→Prop) (w : World) (g : Nat) (ents : Array MapEntry) (clock : Nat) (Z Dn : List (MapEntry × Mono)) (v : Nat) (m : Places) (seen : Array Nat) (c : Nat) (a : Act) (w' : World) : Prop where
 fr : SRel w (fun b=>Y b∨b = w.heap.size) ht 0 25 ⟨envL g w.heap.size v Dn.length,[.row false v 2 (rowP qa9 (Dn.map (·.2)))]⟩ m w' a
 os : w'.os = w.os
 tape : w'.tape = w.tape
 output : Outs w w'
 it : w'.heap[w.heap.size]? = some (.mapIter (some g) clock seen c)
 cl : clock≤c
 seen' : seen.toList = Dn.map (·.1.born)
 sub : ∀ z∈Dn,z∈Z
 nd : (Dn.map (·.1.born)).Nodup
theorem qwd9 : ∀ {s l : List Nat},s.Nodup→(∀ x∈s,x∈l)→s.length≤l.length:=by
 intro s
 induction s with
 | nil=>intro l _ _; exact Nat.zero_le _
 | cons x s ih =>
  intro l hs hsub
  rw [List.nodup_cons] at hs
  have hx:=hsub x List.mem_cons_self
  have:=ih (l:=l.erase x) hs.2 (fun y hy=>(List.mem_erase_of_ne (fun e=>hs.1 (by rw [← e]; exact hy))).2 (hsub y (List.mem_cons_of_mem _ hy)))
  rw [List.length_erase_of_mem hx] at this
  have:=List.length_pos_of_mem hx
  rw [List.length_cons]
  omega
theorem qwr9 {ents : Array MapEntry} {clock : Nat} {Z : List (MapEntry × Mono)} (st : StampE ents clock) (z1 : Z.map (·.1) = ents.toList) : (Z.map (·.1.born)).Nodup:=by
 have : Z.map (·.1.born) = ents.toList.map (·.born):=by rw [← z1,List.map_map]; rfl
 rw [this]; exact st.2
theorem qkH9 {α β : Type} {f : α→β} {l : List α} (h : (l.map f).Nodup) : l.Nodup:=by
 induction l with
 | nil=>exact List.nodup_nil
 | cons x l ih =>
  rw [List.map_cons,List.nodup_cons] at h
  exact List.nodup_cons.2 ⟨fun hx=>h.1 (List.mem_map.2 ⟨x,hx,rfl⟩),ih h.2⟩
theorem qtL9 {α β : Type} {f : α→β} {l : List α} (h : (l.map f).Nodup) {x y : α} (hx : x∈l) (hy : y∈l) (e : f x = f y) : x = y:=by
 induction l with
 | nil=>cases hx
 | cons z l ih =>
  rw [List.map_cons,List.nodup_cons] at h
  rcases List.mem_cons.1 hx with hx' | hx' <;> rcases List.mem_cons.1 hy with hy' | hy'
  ·rw [hx',hy']
  ·exact (h.1 (by rw [← hx',e]; exact List.mem_map.2 ⟨y,hy',rfl⟩)).elim
  ·exact (h.1 (by rw [← hy',← e]; exact List.mem_map.2 ⟨x,hx',rfl⟩)).elim
  ·exact ih h.2 hx' hy'
variable {Y : Nat→Prop} {g clock c v : Nat} {ents : Array MapEntry} {Z Dn : List (MapEntry × Mono)} {seen : Array Nat} {w' : World}
theorem Rnd.all (B : Bag Y w g ents clock Z) (R : Rnd Y w g ents clock Z Dn v m seen c a w') (h0 : (leftOf ents seen).size = 0) : Dn.Perm Z:=by
 have hz:=qwr9 B.st B.z1
 refine (List.perm_ext_iff_of_nodup (qkH9 R.nd) (qkH9 hz)).2 (fun z=>⟨R.sub z,fun hz'=>?_⟩)
 have hmem : z.1∈ents.toList:=by rw [← B.z1]; exact List.mem_map.2 ⟨z,hz',rfl⟩
 have:=all_seen ents seen h0 z.1 hmem
 rw [Array.contains_iff_mem,← Array.mem_toList_iff,R.seen'] at this
 obtain ⟨y,hy,e⟩:=List.mem_map.1 this
 rw [← qtL9 hz (R.sub y hy) hz' e]
 exact hy
theorem Rnd.len (B : Bag Y w g ents clock Z) (R : Rnd Y w g ents clock Z Dn v m seen c a w') : Dn.length≤Z.length:=by
 have:=qwd9 R.nd (l:=Z.map (·.1.born)) (fun x hx=>by
  obtain ⟨y,hy,rfl⟩:=List.mem_map.1 hx
  exact List.mem_map.2 ⟨y,R.sub y hy,rfl⟩)
 simpa using this
end
end Lt
namespace Lt
open Ld Go Go.Proofs Go.Abs
open Go.ChangeMaps (setBlock)
set_option maxRecDepth 8000
section
variable {m : Places} {w : World} {a : Act} {Y : Nat→Prop} {g clock c v : Nat} {ents : Array MapEntry} {Z Dn : List (MapEntry × Mono)} {seen : Array Nat} {w' : World}
theorem loc4 {key : Value} {mo : Mono} : locals ht.keep (te4 key mo) = te4 key mo:=by simp +decide [locals,te4,ht]
theorem com4 {key : Value} {mo : Mono} {env : Env} : Env.commit ht.keep (te4 key mo) env = env:=by simp +decide [Env.commit,te4,ht]
theorem Rnd.round (hC : COk w C) (B : Bag Y w g ents clock Z) (hl : Z.length < 1048576 + 1) (hY : ∀ b,Y b→b < w.heap.size) (R : Rnd Y w g ents clock Z Dn v m seen c a w') {Q : Exit→Act→World→Prop}
  (hdone : (leftOf ents seen).size = 0→∀ a',Rnd Y w g ents clock Z Dn v m seen c a' w'→Q (.exit 0) a' w')
  (hnext : ∀ Dn' v' m' seen' c' a'' w'',(leftOf ents seen').size < (leftOf ents seen).size→Rnd Y w g ents clock Z Dn' v' m' seen' c' a'' w''→Q .normal a'' w'') : lbd.wp C.P Q a w':=by
 have hlt : g < w.heap.size:=(Array.getElem?_eq_some_iff.1 B.at').1
 have hgw : w'.heap[g]? = some (.map ents clock):=(R.fr.heap.old g hlt).trans B.at'
 have hrlt : w.heap.size < w'.heap.size:=(Array.getElem?_eq_some_iff.1 R.it).1
 have h7 : a.eval (.tmp 7) = .pointer (some ⟨w.heap.size,0,none⟩):=by
  have:=R.fr.env 7
  exact this.to_v rfl
 have hsz : a.tmps.size = 25:=R.fr.size
 rw [qAm9]
 refine wp_seq ?_
 rw [d3_eq]
 refine wp_region ?_
 show wpOps C.P o3 _ [0,1] a w'
 rcases run_next_at (P:=C.P) w' 0 w.heap.size g clock c seen ents clock R.it hgw B.st.1 R.cl with ⟨h0,hrun⟩ | ⟨e,he,w1,hw1,hrun⟩
 ·refine qgg9 (v:=.tuple #[.bool false]) (w':=w') rfl rfl ?_ ?_
  ·show ((do pure (Next.value (← Instr.next (a.eval (.tmp 7)) false 0))) : Sem Next).run C.P w' = _
   rw [h7,Sem.run_bind,hrun]; rfl
  refine qgg9 (v:=.bool false) (w':=w') rfl rfl ?_ ?_
  ·show ((do pure (Next.value (← Instr.extract ((a.put (some 8) (.tuple #[.bool false])).eval (.tmp 8)) 0))) : Sem Next).run C.P w' = _
   rw [qel9 (by omega),if_pos rfl]; rfl
  show (Code.seq _ _).wp C.P Q _ w'
  refine wp_seq ?_
  refine wp_cond_false ?_ (wp_exit ?_)
  ·show ((a.put (some 8) (.tuple #[.bool false])).put (some 9) (.bool false)).eval (.tmp 9) = _
   rw [qel9 (by simp only [Act.put,Array.size_setIfInBounds]; omega),if_pos rfl]
  ·exact hdone h0 _ { R with fr:=sput (sput R.fr (by omega) (by rw [qgH9]; rfl)) (by omega) (by rw [qgH9]; rfl) }
 ·have hh : w1.heap = w'.heap:=by rcases hw1 with rfl | rfl <;> rfl
  have hos : w1.os = w'.os∧w1.tape = w'.tape∧w1.output = w'.output:=by rcases hw1 with rfl | rfl <;> exact ⟨rfl,rfl,rfl⟩
  generalize hw2 : setBlock w1 w.heap.size (.mapIter (some g) clock (seen.push e.born) clock) = w2 at hrun
  have hheap : w2.heap = w'.heap.setIfInBounds w.heap.size (.mapIter (some g) clock (seen.push e.born) clock):=by rw [← hw2,← hh]; rfl
  have hos2 : w2.os = w'.os∧w2.tape = w'.tape∧w2.output = w'.output:=by rw [← hw2]; exact hos
  have hne : ∀ b,b ≠ w.heap.size→w2.heap[b]? = w'.heap[b]?:=fun b hb=>by
   rw [hheap,Array.getElem?_setIfInBounds,if_neg (fun e=>hb e.symm)]
  have hsz2 : w2.heap.size = w'.heap.size:=by rw [hheap,Array.size_setIfInBounds]
  have hit2 : w2.heap[w.heap.size]? = some (.mapIter (some g) clock (seen.push e.born) clock):=by
   rw [hheap,Array.getElem?_setIfInBounds,if_pos rfl,if_pos hrlt]
  have hg2 : w2.heap[g]? = some (.map ents clock):=(hne g (by omega)).trans hgw
  refine qgg9 (v:=.tuple #[.bool true,e.key,e.val]) (w':=w2) rfl rfl ?_ ?_
  ·show ((do pure (Next.value (← Instr.next (a.eval (.tmp 7)) false 0))) : Sem Next).run C.P w' = _
   rw [h7,Sem.run_bind,hrun]; rfl
  refine qgg9 (v:=.bool true) (w':=w2) rfl rfl ?_ ?_
  ·show ((do pure (Next.value (← Instr.extract ((a.put (some 8) (.tuple #[.bool true,e.key,e.val])).eval (.tmp 8)) 0))) : Sem Next).run C.P w2 = _
   rw [qel9 (by omega),if_pos rfl]; rfl
  have fr2:=sturn (w':=w2) (sput (d:=9) (v:=.bool true) (sput (d:=8) (v:=.tuple #[.bool true,e.key,e.val]) R.fr (by omega) (by rw [qgH9]; rfl)) (by omega) (by rw [qgH9]; rfl)) hne hsz2 (.inr rfl) (Nat.le_refl _)
  show (Code.seq _ _).wp C.P Q _ w2
  show (Code.seq _ _).wp C.P Q ((a.put (some 8) (.tuple #[.bool true,e.key,e.val])).put (some 9) (.bool true)) w2
  have h9 : ((a.put (some 8) (.tuple #[.bool true,e.key,e.val])).put (some 9) (.bool true)).eval (.tmp 9) = .bool true:=by
   rw [qel9 (by simp only [Act.put,Array.size_setIfInBounds]; omega),if_pos rfl]
  generalize (a.put (some 8) (.tuple #[.bool true,e.key,e.val])).put (some 9) (.bool true) = a2 at fr2 h9
  have h7' : a2.eval (.tmp 7) = .pointer (some ⟨w.heap.size,0,none⟩):=(fr2.env 7).to_v rfl
  refine wp_seq ?_
  refine wp_cond_true h9 (wp_skip ?_)
  show (Code.block 1 (.seq d4 d5)).wp C.P Q a2 w2
  refine wp_block ?_
  refine wp_seq ?_
  rw [d4_eq]
  refine wp_region ?_
  show wpOps C.P o4 _ (0::(List.range o4.size).drop 1) a2 w2
  have hmem:=mem_left he
  refine qgg9 (v:=.tuple #[e.key,e.val]) (w':=w2) rfl rfl ?_ ?_
  ·show ((do pure (Next.value (← Instr.entry (a2.eval (.tmp 7))))) : Sem Next).run C.P w2 = _
   rw [h7',Sem.run_bind,run_entry_at w2 w.heap.size g clock seen ents clock e hit2 hg2 hmem.1 B.st.2]; rfl
  show wpOps C.P o4 _ ((List.range o4.size).drop 1) (a2.put (some 10) (.tuple #[e.key,e.val])) w2
  obtain ⟨z,hz,rfl⟩ : ∃ z∈Z,z.1 = e:=by
   have:=hmem.1
   rw [← B.z1] at this
   obtain ⟨z,h1,h2⟩:=List.mem_map.1 this
   exact ⟨z,h1,h2⟩
  have fr3:=sput (d:=10) (v:=.tuple #[z.1.key,z.1.val]) fr2 (by omega) (by rw [qgH9]; rfl)
  have hsub : ∀ b,b < w.heap.size→Ex (fun b=>Y b∨b = w.heap.size) [.row false v 2 (rowP qa9 (Dn.map (·.2)))] m b→Y b:=by
   intro b hb hx
   rcases hx with (hx | hx) | ⟨id,o,bo,k1,k2,k3⟩
   ·exact hx
   ·omega
   ·have:=fr2.heap.new id o b bo k1 k3
    omega
  have hdat : DRel (Ex (fun b=>Y b∨b = w.heap.size) [.row false v 2 (rowP qa9 (Dn.map (·.2)))] m) w2 (.ag (qa9 z.2)) z.1.val:=(B.dz z hz).move hsub (fun b hb _=>fr2.heap.old b hb)
  have ops4':=ops4 (bm:=g) (r:=w.heap.size) (v:=v) (n:=Dn.length) (L:=Dn.map (·.2)) (m:=z.2) (key:=z.1.key)
  have ops4'' : opsA C (Lim C) a4 (locals ht.keep (te4 z.1.key z.2)) (Env.commit ht.keep (te4 z.1.key z.2) (envL g w.heap.size v Dn.length)) [.row false v 2 (rowP qa9 (Dn.map (·.2)))] = some ⟨(envL g w.heap.size v Dn.length).set 5 (.ptr 1 0 0 0),h4 v (Dn.map (·.2)) z.2⟩:=by
   rw [loc4,com4]; exact ops4'
  obtain ⟨te1,q1,q2⟩:=qmH9 (C:=C) (L:=Lim C) (nt:=25) (ops:=o4) (keep:=ht.keep) (env:=envL g w.heap.size v Dn.length) o4t 1 a4 (te4 z.1.key z.2) [.row false v 2 (rowP qa9 (Dn.map (·.2)))] _ st4 ops4''
  have hget : ∀ i,get2 (te4 z.1.key z.2) (envL g w.heap.size v Dn.length) i = if i = 10 then .tp [.d (.v z.1.key),.d (.ag (qa9 z.2))] else (envL g w.heap.size v Dn.length).get i:=fun i=>rfl
  have hg : TRel (Ex (fun b=>Y b∨b = w.heap.size) [.row false v 2 (rowP qa9 (Dn.map (·.2)))] m) [.row false v 2 (rowP qa9 (Dn.map (·.2)))] m w2 (get2 (te4 z.1.key z.2) (envL g w.heap.size v Dn.length)) (a2.put (some 10) (.tuple #[z.1.key,z.1.val])):=by
   intro i
   rw [hget]
   by_cases e10 : i = 10
   ·rw [if_pos e10,qel9 (by rw [fr2.size]; omega),if_pos e10]
    refine .tp _ [z.1.key,z.1.val] rfl (fun j u x h1 h2=>?_)
    match j,h1,h2 with
    | 0,h1,h2=>cases h1; cases h2; exact .d _ _ (.v _)
    | 1,h1,h2=>cases h1; cases h2; exact .d _ _ hdat
    | j + 2,h1,h2=>simp at h1
   ·rw [if_neg e10]; exact fr3.env i
  refine qmu9 hC.toCSound (qiy9 hC) o4t 1 rfl fr3.heap fr3.size fr3.dfs hg q1 (fun a' m' w'' b1 b2 b3 b4 b5=>?_)
  have sr : SRel w (fun b=>Y b∨b = w.heap.size) ht 0 25 ⟨Env.commit ht.keep te1 (envL g w.heap.size v Dn.length),h4 v (Dn.map (·.2)) z.2⟩ m' w'' a':=by
   refine SRel.commit (s:=⟨envL g w.heap.size v Dn.length,[.row false v 2 (rowP qa9 (Dn.map (·.2)))]⟩) fr3 (ops:=o4) (fun _ _ _ _=>.inr (Nat.zero_le _)) (fun i hi=>?_) b1 b2 b3 b4
   rw [qpR9 i o4t (fun o ho=>hi o (List.mem_cons_of_mem _ ho)) q1,hget,if_neg]
   intro e10
   exact hi o4h (List.mem_cons_self ..) (by rw [e10]; rfl)
  rw [← q2] at sr
  obtain ⟨m4,sr4,ev4⟩:=qkG9 _ _ _ _ sr co4
  have hlen:=R.len B
  show d5.wp C.P _ a' w''
  have hs:=B.sm z hz
  refine qeI9 hC.toCSound (qiy9 hC) hC.orders ht 25 d5 _ .normal _ (qdD9 d5 a5 _ _ st5 (sem5 (bm:=g) (r:=w.heap.size) (v:=v) (n:=Dn.length) (L:=Dn.map (·.2)) (m:=z.2) (by simp) (by omega) hs.1 hs.2)) ok5 _ m4 w'' a' sr4 (fun a'' m5 w3 k1 k2=>?_)
  show Q .normal a'' w3
  have k3:=k1.del 544
  rw [show ((⟨env5 g w.heap.size v Dn.length z.2,h5 v (Dn.map (·.2)) z.2⟩ : St).env) = env5 g w.heap.size v Dn.length z.2 from rfl,qwx9] at k3
  have k4:=sabsorb k3
  have noR : ∀ {hh : AHeap} {mm : Places} {ww : World},HRel w (fun b=>Y b∨b = w.heap.size) hh mm ww→¬ Ex (fun _=>False) hh mm w.heap.size:=by
   intro hh mm ww H hx
   rcases hx with hx | ⟨id,o,bo,k1,k2,k3⟩
   ·exact hx
   ·exact H.apart id o _ bo k1 k3 (.inr rfl)
  have hrlt2 : w.heap.size < w2.heap.size:=by omega
  have it3 : w''.heap[w.heap.size]? = w2.heap[w.heap.size]?:=b5.blk2 _ hrlt2 (noR fr3.heap)
  have it4 : w3.heap[w.heap.size]? = w''.heap[w.heap.size]?:=k2.blk2 _ (Nat.lt_of_lt_of_le hrlt2 b5.size) (noR sr4.heap)
  have nin : z.1.born ∉ Dn.map (·.1.born):=by
   intro hin
   rw [← R.seen',Array.mem_toList_iff,← Array.contains_iff_mem,hmem.2] at hin
   cases hin
  refine hnext (Dn++[z]) (v + 1) m5 (seen.push z.1.born) clock a'' w3 (left_shrinks ents seen z.1 he) ⟨?_,?_,?_,?_,it4.trans (it3.trans hit2),Nat.le_refl _,?_,?_,?_⟩
  ·rw [List.map_append,List.length_append]; exact k4
  ·rw [k2.os,b5.os,hos2.1,R.os]
  ·rw [k2.tape,b5.tape,hos2.2.1,R.tape]
  ·exact R.output.trans (Outs.trans (show Outs w' w2 from hos2.2.2) (b5.output.trans k2.output))
  ·rw [Array.toList_push,R.seen',List.map_append]; rfl
  ·intro y hy
   rcases List.mem_append.1 hy with hy | hy
   ·exact R.sub y hy
   ·rw [List.mem_singleton.1 hy]; exact hz
  ·rw [List.map_append,List.nodup_append]
   refine ⟨R.nd,by simp,fun x hx y hy=>?_⟩
   simp at hy
   rw [hy]
   exact fun e=>nin (by rw [← e]; exact hx)
end
end Lt
namespace Lt
open Ld Go Go.Proofs Go.Abs
open Go.ChangeMaps (setBlock)
set_option maxRecDepth 8000
def oN (d : Nat) (p : String) : Oper:={ dst:=some d,op:=Go.Op.assign (Go.Operand.const (Go.Value.slice none 0 0)),type:=22,pos:=p,after:=#[],guard:=none }
theorem d0_eq : d0 = .region 0 #[oN 2 "poly.go:93"] false := rfl
theorem d1_eq : d1 = .region 1 #[oN 3 "poly.go:94"] false := rfl
section
variable {m : Places} {w : World} {a : Act} {Y : Nat→Prop} {g clock c v : Nat} {ents : Array MapEntry} {Z Dn : List (MapEntry × Mono)} {seen : Array Nat} {w' : World}
theorem Rnd.out (hC : COk w C) (B : Bag Y w g ents clock Z) (R : Rnd Y w g ents clock Z Dn v m seen c a w') (hB : BagOK (Dn.map (·.2))) {Q : Exit→Act→World→Prop}
  (hQ : ∀ a' w'' x,a'.defers = []→(results Try.f46 a'.tmps).run C.P w'' = .ok x w''→DRel Y w'' (.rd ((qdr9 (Dn.map (·.2))).map qa9)) x→w''.os = w.os→w''.tape = w.tape→Outs w w''→w.heap.size≤w''.heap.size→(∀ b,b < w.heap.size→w''.heap[b]? = w.heap[b]?)→Q .ret a' w'') : d67.wp C.P Q a w':=by
 obtain ⟨hz,h67⟩:=sem67 (bm:=g) (r:=w.heap.size) (v:=v) (n:=Dn.length) (M:=Dn.map (·.2)) (by simp) hB
 refine qeI9 hC.toCSound (qiy9 hC) hC.orders ht 25 d67 _ .ret _ (qdD9 d67 a67 _ _ st67 h67) ok67 _ m w' a R.fr (fun a' m' w'' k1 k2=>?_)
 have hr : mapO (resP C.P ⟨env6 g w.heap.size v Dn.length,.row false v 2 (rowP qa9 (qdr9 (Dn.map (·.2))))::hz⟩) Try.f46.results.toList = some [.ref 0 v 0 Dn.length]:=rfl
 obtain ⟨x,r1,r2⟩:=qiM9 k1.heap k1.env hr
 have hl : (qdr9 (Dn.map (·.2))).length = Dn.length:=by rw [(Law.sortMo_perm _).length_eq,List.length_map]
 have hrs : rs (.row false v 2 (rowP qa9 (qdr9 (Dn.map (·.2))))::hz) depth (.ref 0 v 0 Dn.length) = some (.rd ((qdr9 (Dn.map (·.2))).map qa9)):=qml9 (id:=0) rfl hl
 have hre : reach (.row false v 2 (rowP qa9 (qdr9 (Dn.map (·.2))))::hz) depth (.ref 0 v 0 Dn.length) = [0]:=qjy9 (id:=0) rfl
 have hd : DRel Y w'' (.rd ((qdr9 (Dn.map (·.2))).map qa9)) x:=qhB9 k1.heap (fun b hb=>.inl (.inl hb)) _ _ _ _ hrs (fun id hid g bo fz ver sz es hm ho hy=>k1.heap.apart id _ g bo ho hm (.inl hy)) r2
 exact hQ a' w'' x k1.dfs r1 hd (k2.os.trans R.os) (k2.tape.trans R.tape) (R.output.trans k2.output) k1.heap.osz (fun b hb=>k1.heap.old b hb)
end
theorem qiW9 (w : World) (o : Obj) : (w.alloc o).heap = w.heap.push o:=rfl
set_option maxHeartbeats 4000000 in
theorem told_sound (hC : ∀ w,COk w C) (W0 : World) : FSound W0 Try.prog 46 qeB9:=by
 intro args h rv h' ho X m w vs H hv
 unfold qeB9 at ho
 split at ho
 ·rename_i id
  split at ho
  ·rename_i kvs hk
   cases hb : bagOf kvs with
   | none=>rw [hb] at ho; cases ho
   | some L0 =>
   rw [hb] at ho
   simp only [Option.bind_some,Option.map_eq_some_iff] at ho
   obtain ⟨x,hx,he⟩:=ho
   obtain ⟨rfl,rfl⟩:=Prod.mk.inj he
   have hkv : kvs = mapP keyS qa9 L0:=by
    unfold bagOf at hb
    split at hb
    ·rename_i hh
     cases hb
     exact Classical.choose_spec hh
    ·cases hb
   have hB : BagOK (L0.map (·.2))∧x = qdr9 (L0.map (·.2)):=by
    unfold toldP at hx
    split at hx
    ·rename_i hh; cases hx; exact ⟨hh,rfl⟩
    ·cases hx
   obtain ⟨hB,rfl⟩:=hB
   obtain ⟨v0,rfl⟩ : ∃ v0,vs = [v0]:=by
    have h1:=hv.1
    match vs,h1 with
    | [v0],_=>exact ⟨v0,rfl⟩
   have hv0:=hv.2 0 _ _ rfl rfl
   obtain ⟨g,bo,rfl,hm⟩ : ∃ g bo,v0 = .map (some g)∧m id = some (g,bo):=by
    cases hv0 with
    | mp id es g bo ho hm=>exact ⟨g,bo,rfl,hm⟩
   have hobj:=H.obj id _ hk
   rw [hm] at hobj
   obtain ⟨ents,clock,hg,hsz,hent,st⟩:=hobj
   have hlen : ents.toList.length = (L0.map (·.2)).length:=by
    rw [Array.length_toList,hsz,hkv]; simp [mapP]
   have hglt : g < w.heap.size:=(Array.getElem?_eq_some_iff.1 hg).1
   have hY : ∀ b,Ex X h m b→b < w.heap.size:=by
    rintro b (hb | ⟨id',o,bo',k1,_,k3⟩)
    ·exact H.xlt b hb
    ·exact H.lt id' o b bo' k1 k3
   have z2 : (ents.toList.zip (L0.map (·.2))).map (·.2) = L0.map (·.2):=List.map_snd_zip (by omega)
   have B : Bag (Ex X h m) w g ents clock (ents.toList.zip (L0.map (·.2))):=by
    refine ⟨hg,st,List.map_fst_zip (by omega),fun z hz=>?_,fun z hz=>?_⟩
    ·obtain ⟨i,hi⟩:=List.getElem?_of_mem hz
     obtain ⟨h1,h2⟩:=List.getElem?_zip_eq_some.1 hi
     rw [List.getElem?_map] at h2
     cases hp : L0[i]? with
     | none=>rw [hp] at h2; cases h2
     | some p =>
      rw [hp] at h2
      have e2 : p.2 = z.2:=by simpa using h2
      have hki : kvs[i]? = some (keyS p.1,.ag ((qa9 z.2).map PV.d)):=by
       rw [hkv]; simp [mapP,hp,← e2,qa9]
      have h1' : ents[i]? = some z.1:=by simpa using h1
      have:=(hent i _ _ _ hki h1').2
      generalize z.1.val = val at this
      cases this with
      | ag cs vs hl h1 hr =>
       refine .ag _ vs (by simpa using hl) h1 (fun j u y hu hy=>?_)
       have:=hr j (.d u) y (by rw [List.getElem?_map,hu]; rfl) hy
       cases this with | d _ _ hd=>exact hd
    ·have : z.2∈L0.map (·.2):=by rw [← z2]; exact List.mem_map.2 ⟨z,hz,rfl⟩
     exact (hB.2.1 _ this).1
   have hZl : (ents.toList.zip (L0.map (·.2))).length < 1048576 + 1:=by
    have:=hB.1
    rw [List.length_zip,hlen,Nat.min_self]
    omega
   refine calls_of_wp Try.func46 body46 ?_
   have hsz0 : (([Value.map (some g)].toArray++Array.replicate (Try.f46.ntmps - [Value.map (some g)].toArray.size) undef)).size = 25:=by
    simp only [Array.size_append,Array.size_replicate,show Try.f46.ntmps = 25 from rfl]; simp
   have h00 : ({ tmps:=[Value.map (some g)].toArray++Array.replicate (Try.f46.ntmps - [Value.map (some g)].toArray.size) undef,defers:=[] } : Act).eval (.tmp 0) = .map (some g):=by
    simp only [Act.eval,Array.getD_eq_getD_getElem?]
    rw [Array.getElem?_append_left (by simp)]
    simp
   have hdf : ({ tmps:=[Value.map (some g)].toArray++Array.replicate (Try.f46.ntmps - [Value.map (some g)].toArray.size) undef,defers:=[] } : Act).defers = []:=rfl
   generalize ha : ({ tmps:=[Value.map (some g)].toArray++Array.replicate (Try.f46.ntmps - [Value.map (some g)].toArray.size) undef,defers:=[] } : Act) = a at h00 hdf
   have hsa : a.tmps.size = 25:=by rw [← ha]; exact hsz0
   clear ha hsz0
   have sz1 : ∀ (a : Act) (d : Nat) (v : Value),(a.put (some d) v).tmps.size = a.tmps.size:=fun a d v=>by simp [Act.put]
   rw [qAu9]
   refine wp_seq ?_
   rw [d0_eq]
   refine wp_region ?_
   show wpOps C.P _ _ [0] a w
   refine qgg9 (v:=.slice none 0 0) (w':=w) rfl rfl rfl ?_
   show (Code.seq d1 _).wp C.P _ (a.put (some 2) (.slice none 0 0)) w
   refine wp_seq ?_
   rw [d1_eq]
   refine wp_region ?_
   show wpOps C.P _ _ [0] (a.put (some 2) (.slice none 0 0)) w
   refine qgg9 (v:=.slice none 0 0) (w':=w) rfl rfl rfl ?_
   show (Code.seq (.seq d2 _) d67).wp C.P _ ((a.put (some 2) (.slice none 0 0)).put (some 3) (.slice none 0 0)) w
   refine wp_seq (wp_seq ?_)
   rw [d2_eq]
   refine wp_region ?_
   show wpOps C.P _ _ [0,1] ((a.put (some 2) (.slice none 0 0)).put (some 3) (.slice none 0 0)) w
   have e0 : ((a.put (some 2) (.slice none 0 0)).put (some 3) (.slice none 0 0)).eval (.tmp 0) = .map (some g):=by
    rw [qel9 (by rw [sz1]; omega),if_neg (by omega),qel9 (by omega),if_neg (by omega)]; exact h00
   refine qgg9 (v:=.map (some g)) (w':=w) rfl rfl ?_ ?_
   ·show (pure (Next.value (((a.put (some 2) (.slice none 0 0)).put (some 3) (.slice none 0 0)).eval (.tmp 0))) : Sem Next).run C.P w = _
    rw [e0]; rfl
   show wpOps C.P _ _ [1] (((a.put (some 2) (.slice none 0 0)).put (some 3) (.slice none 0 0)).put (some 6) (.map (some g))) w
   refine qgg9 (v:=.pointer (some ⟨w.heap.size,0,none⟩)) (w':=w.alloc (.mapIter (some g) clock #[] clock)) rfl rfl ?_ ?_
   ·show ((do pure (Next.value (← Instr.range 56 ((((a.put (some 2) (.slice none 0 0)).put (some 3) (.slice none 0 0)).put (some 6) (.map (some g))).eval (.tmp 6))))) : Sem Next).run C.P w = _
    rw [qel9 (by rw [sz1,sz1]; omega),if_pos rfl,Sem.run_bind,run_range_map (P:=C.P) w 56 _ _ g ents clock Try.underlying56 hg]; rfl
   show (Code.block 0 (.loop lbd)).wp C.P _ ((((a.put (some 2) (.slice none 0 0)).put (some 3) (.slice none 0 0)).put (some 6) (.map (some g))).put (some 7) (.pointer (some ⟨w.heap.size,0,none⟩))) (w.alloc (.mapIter (some g) clock #[] clock))
   have hfr : SRel w (fun b=>Ex X h m b∨b = w.heap.size) ht 0 25 ⟨envL g w.heap.size 0 0,[.row false 0 2 (rowP qa9 [])]⟩ (fun _=>none) (w.alloc (.mapIter (some g) clock #[] clock)) ((((a.put (some 2) (.slice none 0 0)).put (some 3) (.slice none 0 0)).put (some 6) (.map (some g))).put (some 7) (.pointer (some ⟨w.heap.size,0,none⟩))):=by
    refine ⟨by rw [sz1,sz1,sz1,sz1]; exact hsa,hdf,?_,fun i=>?_,fun i _ hk=>qnP9 hk⟩
    ·refine ⟨fun id o ho=>?_,fun id o g bo ho hm=>(by cases hm),fun id id' o o' g bo bo' ho ho' hm=>(by cases hm),fun id o g bo ho hm=>(by cases hm),fun b hb=>?_,?_,fun b hb=>?_,fun id o g bo ho hm=>(by cases hm)⟩
     ·match id,ho with
      | 0,ho=>cases ho; rfl
     ·rw [qiW9,Array.size_push]
      rcases hb with hb | hb
      ·have:=hY b hb; omega
      ·omega
     ·rw [qiW9,Array.size_push]; omega
     ·rw [qiW9,Array.getElem?_push,if_neg (by omega)]
    ·show VRel _ _ _ _ ((envL g w.heap.size 0 0).get i) _
     rw [qgH9,qel9 (by rw [sz1,sz1,sz1]; omega),qel9 (by rw [sz1,sz1]; omega),qel9 (by rw [sz1]; omega),qel9 (by omega)]
     by_cases i0 : i = 0
     ·subst i0
      rw [if_pos rfl,if_neg (by omega),if_neg (by omega),if_neg (by omega),if_neg (by omega),h00]
      exact .d _ _ (.v _)
     rw [if_neg i0]
     by_cases i2 : i = 2
     ·subst i2
      rw [if_pos rfl,if_neg (by omega),if_neg (by omega),if_neg (by omega),if_pos rfl]
      exact .im true [] none 0 0 (fun _ _=>undef) (Nat.le_refl _) (fun _=>rfl) (fun i cs h=>by simp at h) (fun i cs h=>by simp at h) (fun i j cs u ad h=>by simp at h) (fun i j cs u h=>by simp at h)
     rw [if_neg i2]
     by_cases i3 : i = 3
     ·subst i3
      rw [if_pos rfl,if_neg (by omega),if_neg (by omega),if_pos rfl]
      exact .ref _ _ _ _ _ ⟨none,0,rfl,Nat.le_refl _,fun h=>by omega,false,0,2,_,rfl,Nat.le_refl _,fun _=>⟨Nat.le_refl _,rfl⟩⟩
     rw [if_neg i3]
     by_cases i7 : i = 7
     ·subst i7
      rw [if_pos rfl,if_pos rfl]
      exact .d _ _ (.v _)
     rw [if_neg i7]
     exact .junk _
   generalize ((((a.put (some 2) (.slice none 0 0)).put (some 3) (.slice none 0 0)).put (some 6) (.map (some g))).put (some 7) (.pointer (some ⟨w.heap.size,0,none⟩))) = a1 at hfr
   have R0 : Rnd (Ex X h m) w g ents clock (ents.toList.zip (L0.map (·.2))) [] 0 (fun _=>none) #[] clock a1 (w.alloc (.mapIter (some g) clock #[] clock)) :=
    ⟨hfr,rfl,rfl,rfl,by rw [qiW9,Array.getElem?_push,if_pos rfl],Nat.le_refl _,rfl,(fun z hz=>nomatch hz),List.nodup_nil⟩
   refine wp_block ?_
   refine wp_loop_ghost (fun k a' w'=>∃ Dn v m' seen c,Rnd (Ex X h m) w g ents clock (ents.toList.zip (L0.map (·.2))) Dn v m' seen c a' w'∧(leftOf ents seen).size = k) _ ⟨[],0,_,#[],clock,R0,rfl⟩ ?_
   rintro n a2 w2 ⟨Dn,v,m2,seen,c,R,hn⟩
   refine R.round (hC w) B hZl hY (fun h0 a' R'=>?_) (fun Dn' v' m' seen' c' a'' w'' hlt R'=>⟨(leftOf ents seen').size,by omega,Dn',v',m',seen',c',R',rfl⟩)
   show d67.wp C.P _ a' w2
   have hp:=R'.all B h0
   have hpm : (Dn.map (·.2)).Perm (L0.map (·.2)):=by rw [← z2]; exact hp.map _
   have hBD : BagOK (Dn.map (·.2)):=⟨by rw [hpm.length_eq]; exact hB.1,fun mo hmo=>hB.2.1 mo (hpm.mem_iff.1 hmo),(hpm.map (·.Exps)).nodup_iff.2 hB.2.2⟩
   have hso : qdr9 (Dn.map (·.2)) = qdr9 (L0.map (·.2)):=So.rise_unique ((Law.sortMo_perm _).trans (hpm.trans (Law.sortMo_perm _).symm)) (Law.sortMo_rise (fun x hx=>(hBD.2.1 x hx).2.1) hBD.2.2) (Law.sortMo_rise (fun x hx=>(hB.2.1 x hx).2.1) hB.2.2)
   refine R'.out (hC w) B hBD (fun a3 w3 y p1 p2 p3 p4 p5 p6 p7 p8=>?_)
   rw [hso] at p3
   exact ⟨p1,y,p2,m,.d _ _ p3,HRel.grow H p4 p5 p6 p7 p8,Evo.grow H p4 p5 p6 p7 p8⟩
  ·cases ho
 ·cases ho
end Lt
namespace Lt
open Ld Go Go.Proofs Go.Abs Go.Lib Go.Shelf Go.RowKit
theorem qxp9 {W0 : World} {X : Nat→Prop} {h : AHeap} {m : Places} {w w' : World} (H : HRel W0 X h m w) (hb : Below w.heap.size w w') {d : D} {v : Value} (hv : VRel (Ex X h m) h m w' (.d d) v) : Out W0 X h m w (.d d) h v w' :=
 ⟨m,hv,H.grow hb.os hb.tape hb.output hb.size hb.block,Evo.grow H hb.os hb.tape hb.output hb.size hb.block⟩
theorem qvl9 {W0 : World} : FSound W0 Try.prog 87 qeH9:=by
 intro args h r h' ho X m w vs H hv
 unfold qeH9 at ho
 split at ho
 ·rename_i n
  obtain ⟨v,rfl⟩ : ∃ v,vs = [v]:=by
   have h1:=hv.1
   match vs,h1 with
   | [v],_=>exact ⟨v,rfl⟩
  have hx : VRel (Ex X h m) h m w (.d (.v (.int .u64 n))) v:=hv.2 0 _ v rfl rfl
  cases hx with
  | d x v hd =>
   cases hd
   obtain ⟨hsz,ho⟩:=gsome ho
   have hb:=of_eq_true hsz
   have hc : Calls Try.prog 87 #[.int .u64 n] w _:=Any.bits_Len Try.lays125 n w hb.1 hb.2
   refine hc.mono fun e w' ⟨he,hw⟩=>?_
   cases ho
   subst he
   subst hw
   exact qxp9 H (Below.refl _ _) (.d _ _ (.v _))
 ·cases ho
theorem callable {g : FuncId} {fn : Func} (h : Try.prog.funcs[g]? = some fn) (h1 : decide (fn.name ≠ "runtime.NumGoroutine") = true) (h2 : fn.body.isSome = true) : Callable Try.prog g := ⟨fn, h, of_decide_eq_true h1, h2⟩
noncomputable def okAll (P : Program) (t : FuncId→Hint) (l : List FuncId) : Bool:=l.all fun g=>match P.funcs[g]? with
 | some fn => decide (fn.name ≠ "runtime.NumGoroutine") && (match fn.body with | some c => okT (t g) c | none => false)
 | none=>false
theorem qks9 : okAll Try.prog hint uses = true:=by kernel_rfl
theorem cOk (W : World) : COk W C:=by
 have all : ∀ g, C.use g = true → ∃ fn c, Try.prog.funcs[g]? = some fn ∧ fn.name ≠ "runtime.NumGoroutine" ∧ fn.body = some c ∧ okT (hint g) c = true := by
  intro g hg
  have hm : g∈uses:=by simpa [C] using hg
  have h1:=List.all_eq_true.1 qks9 g hm
  cases hf : Try.prog.funcs[g]? with
  | none=>rw [hf] at h1; cases h1
  | some fn =>
   rw [hf] at h1
   simp only [Bool.and_eq_true,decide_eq_true_eq] at h1
   cases hb : fn.body with
   | none=>rw [hb] at h1; cases h1.2
   | some c=>rw [hb] at h1; exact ⟨fn,c,rfl,h1.1,hb,h1.2⟩
 refine { use:=fun g hg=>?_,prim:=fun g p hg=>?_,orders:=?_,hints:=fun g fn c hg hf hc=>?_ }
 ·obtain ⟨fn,c,h1,h2,h3,_⟩:=all g hg
  exact ⟨fn,h1,h2,by rw [h3]; rfl⟩
 ·have hg' : prim g = some p:=hg
  unfold prim at hg'
  split at hg'
  ·cases hg'; exact ⟨callable Try.func61 (by kernel_rfl) (by kernel_rfl),qqm9 W⟩
  ·cases hg'; exact ⟨callable Try.func74 (by kernel_rfl) (by kernel_rfl),qoH9 W⟩
  ·cases hg'; exact ⟨callable Try.func87 (by kernel_rfl) (by kernel_rfl),qvl9⟩
  ·cases hg'
 ·show Try.prog.follows .mixedOrders = true
  kernel_rfl
 ·obtain ⟨fn',c',h1,_,h3,h4⟩:=all g hg
  have e : fn' = fn:=oiA (h1.symm.trans hf)
  subst e
  have e2 : c' = c:=oiA (h3.symm.trans hc)
  subst e2
  exact h4
end Lt

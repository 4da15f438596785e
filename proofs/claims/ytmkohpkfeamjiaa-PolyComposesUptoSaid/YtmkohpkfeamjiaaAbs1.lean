import Derived.Calls
import Derived.Orders
import Derived.Deep.LoopGhost
import Derived.Below
import Derived.Deep.Heap
import Derived.Laws.BytesString
import Derived.Laws.Cells
set_option maxHeartbeats 400000
set_option linter.unusedVariables false
set_option linter.unusedSimpArgs false
set_option linter.unusedSectionVars false
namespace Go.Abs
section
theorem oiA {α : Type} {a b : α} (h : some a = some b) : a = b:=Option.some.inj h
theorem nbA {a b : Nat} (h : Nat.ble a b = true) : a≤b:=Nat.le_of_ble_eq_true h
theorem pcA (a : Prop) : a = True∨a = False:=Classical.propComplete a
theorem llA {α : Type} {l : List α} {i : Nat} {a : α} : (l.set i a).length = l.length:=List.length_set
theorem lrA {α : Type} {n : Nat} {a : α} : (List.replicate n a).length = n:=List.length_replicate
end
open Go

inductive D where
 | v (x : Value)
 | rd (xs : List (List D))
 | ag (cs : List D)
 | bx (cs : List D)
 | ifc (t : TypeId) (x : D)
 | fn (f : FuncId) (caps : List D)
 deriving Inhabited

inductive PV where
 | d (x : D)
 | im (tight : Bool) (es : List (List PV))
 | bx (cs : List PV)
 | ref (id ver off len : Nat)
 | ptr (id ver idx off : Nat)
 | mp (id : Nat)
 | it (id : Nat)
 | ag (cs : List PV)
 | tp (vs : List PV)
 | ifc (t : TypeId) (x : PV)
 | fn (f : FuncId) (caps : List PV)
 | junk
 deriving Inhabited

inductive AObj where
 | row (fz : Bool) (ver sz : Nat) (es : List (List PV))
 | map (es : List (Value × PV))
 | siter (s : ByteArray) (pos : Nat)
 deriving Inhabited

abbrev AHeap:=List AObj
abbrev Places:=Nat→Option (Nat × Nat)

def AObj.active : AObj→Bool
 | .row fz _ _ _=>!fz
 | _=>true

def Ex (X : Nat→Prop) (h : AHeap) (m : Places) (b : Nat) : Prop :=
 X b∨∃ id o bo,h[id]? = some o∧o.active = true∧m id = some (b,bo)

inductive DRel (E : Nat→Prop) (w : World) : D→Value→Prop where
 | v (x : Value) : DRel E w (.v x) x
 | rd (xs : List (List D)) (A : Option Addr) (c : Nat) (sz : Nat) (f : Nat→Nat→Value) (hc : xs.length≤c)
   (hsz : ∀ (i : Nat) (cs : List D),xs[i]? = some cs→cs.length = sz)
   (hA : ∀ (i : Nat) (cs : List D),xs[i]? = some cs→∃ ad,A = some ad)
   (hE : ∀ (i j : Nat) (cs : List D) (u : D) (ad : Addr),xs[i]? = some cs→cs[j]? = some u→A = some ad→¬ E ad.block∧w.cell? (ad.add (i * sz + j)) = some (f i j)∧(f i j).oneCell' = true)
   (hr : ∀ (i j : Nat) (cs : List D) (u : D),xs[i]? = some cs→cs[j]? = some u→DRel E w u (f i j)) : DRel E w (.rd xs) (.slice A xs.length c)
 | ag (cs : List D) (vs : List Value) (hl : vs.length = cs.length) (h1 : ∀ (j : Nat) (x : Value),vs[j]? = some x→x.oneCell' = true)
   (hr : ∀ (j : Nat) (u : D) (x : Value),cs[j]? = some u→vs[j]? = some x→DRel E w u x) : DRel E w (.ag cs) (.agg vs.toArray)
 | bx (cs : List D) (ad : Addr) (f : Nat→Value)
   (hE : ∀ (j : Nat) (u : D),cs[j]? = some u→¬ E ad.block∧w.cell? (ad.add j) = some (f j)∧(f j).oneCell' = true)
   (hr : ∀ (j : Nat) (u : D),cs[j]? = some u→DRel E w u (f j)) : DRel E w (.bx cs) (.pointer (some ad))
 | ifc (t : TypeId) (x : D) (v : Value) (h : DRel E w x v) : DRel E w (.ifc t x) (.iface t v)
 | fn (f : FuncId) (cs : List D) (vs : List Value) (hl : vs.length = cs.length)
   (hr : ∀ (j : Nat) (u : D) (x : Value),cs[j]? = some u→vs[j]? = some x→DRel E w u x) : DRel E w (.fn f cs) (.func (.func f) #[] vs.toArray)

def SRef (h : AHeap) (m : Places) (w : World) (id ver off len : Nat) (v : Value) : Prop :=
 ∃ A cap,v = .slice A len cap∧len≤cap∧(0 < len→∃ a,A = some a)∧∃ fz ver' sz es,h[id]? = some (.row fz ver' sz es)∧ver≤ver'∧(ver = ver'→off + len≤es.length ∧
  match m id with
  | none=>cap = 0
  | some (g,bo)=>∃ cur e,w.heap[g]? = some (.cells cur e (0,0))∧(0 < cap→A = some ⟨g,(bo + off) * sz,none⟩)∧(bo + off + cap) * sz≤cur.size)

def PRef (h : AHeap) (m : Places) (id ver idx off : Nat) (v : Value) : Prop :=
 (∃ a,v = .pointer (some a))∧∃ fz ver' sz es,h[id]? = some (.row fz ver' sz es)∧ver≤ver'∧(ver = ver'→idx < es.length ∧
  match m id with
  | none=>False
  | some (g,bo)=>v = .pointer (some ⟨g,(bo + idx) * sz + off,none⟩))

inductive VRel (E : Nat→Prop) (h : AHeap) (m : Places) (w : World) : PV→Value→Prop where
 | d (x : D) (v : Value) (hd : DRel E w x v) : VRel E h m w (.d x) v
 | junk (v : Value) : VRel E h m w .junk v
 | im (tight : Bool) (xs : List (List PV)) (A : Option Addr) (c : Nat) (sz : Nat) (f : Nat→Nat→Value) (hc : xs.length≤c) (ht : tight = true→xs.length = c)
   (hsz : ∀ (i : Nat) (cs : List PV),xs[i]? = some cs→cs.length = sz)
   (hA : ∀ (i : Nat) (cs : List PV),xs[i]? = some cs→∃ ad,A = some ad)
   (hE : ∀ (i j : Nat) (cs : List PV) (u : PV) (ad : Addr),xs[i]? = some cs→cs[j]? = some u→A = some ad→¬ E ad.block∧w.cell? (ad.add (i * sz + j)) = some (f i j)∧(f i j).oneCell' = true)
   (hr : ∀ (i j : Nat) (cs : List PV) (u : PV),xs[i]? = some cs→cs[j]? = some u→VRel E h m w u (f i j)) : VRel E h m w (.im tight xs) (.slice A xs.length c)
 | bx (cs : List PV) (ad : Addr) (f : Nat→Value)
   (hE : ∀ (j : Nat) (u : PV),cs[j]? = some u→¬ E ad.block∧w.cell? (ad.add j) = some (f j)∧(f j).oneCell' = true)
   (hr : ∀ (j : Nat) (u : PV),cs[j]? = some u→VRel E h m w u (f j)) : VRel E h m w (.bx cs) (.pointer (some ad))
 | ref (id ver off len : Nat) (v : Value) (hs : SRef h m w id ver off len v) : VRel E h m w (.ref id ver off len) v
 | ptr (id ver idx off : Nat) (v : Value) (hp : PRef h m id ver idx off v) : VRel E h m w (.ptr id ver idx off) v
 | mp (id : Nat) (es : List (Value × PV)) (g bo : Nat) (ho : h[id]? = some (.map es)) (hm : m id = some (g,bo)) : VRel E h m w (.mp id) (.map (some g))
 | it (id : Nat) (s : ByteArray) (pos : Nat) (g bo : Nat) (ho : h[id]? = some (.siter s pos)) (hm : m id = some (g,bo)) : VRel E h m w (.it id) (.pointer (some ⟨g,0,none⟩))
 | ag (cs : List PV) (vs : List Value) (hl : vs.length = cs.length) (h1 : ∀ (j : Nat) (x : Value),vs[j]? = some x→x.oneCell' = true)
   (hr : ∀ (j : Nat) (u : PV) (x : Value),cs[j]? = some u→vs[j]? = some x→VRel E h m w u x) : VRel E h m w (.ag cs) (.agg vs.toArray)
 | tp (cs : List PV) (vs : List Value) (hl : vs.length = cs.length)
   (hr : ∀ (j : Nat) (u : PV) (x : Value),cs[j]? = some u→vs[j]? = some x→VRel E h m w u x) : VRel E h m w (.tp cs) (.tuple vs.toArray)
 | ifc (t : TypeId) (x : PV) (v : Value) (hv : VRel E h m w x v) : VRel E h m w (.ifc t x) (.iface t v)
 | fn (f : FuncId) (cs : List PV) (vs : List Value) (hl : vs.length = cs.length)
   (hr : ∀ (j : Nat) (u : PV) (x : Value),cs[j]? = some u→vs[j]? = some x→VRel E h m w u x) : VRel E h m w (.fn f cs) (.func (.func f) #[] vs.toArray)

def OEvo (w w' : World) : AObj→AObj→Option (Nat × Nat)→Option (Nat × Nat)→Prop
 | .row fz ver sz es,.row fz' ver' sz' es',p,p'=>ver≤ver'∧(fz = true→fz' = true)∧sz' = sz∧(ver = ver'→es.length≤es'.length∧p' = p ∧
   ∀ g bo cur e,p = some (g,bo)→w.heap[g]? = some (.cells cur e (0,0))→∃ cur',w'.heap[g]? = some (.cells cur' e (0,0))∧cur'.size = cur.size)
 | .map _,.map _,p,p'=>p' = p
 | .siter _ _,.siter _ _,p,p'=>p' = p
 | _,_,_,_=>False

def Outs (w w' : World) : Prop:=w'.output = w.output∧w.drawn≤w'.drawn
theorem Outs.refl (w : World) : Outs w w:=⟨rfl,Nat.le_refl _⟩
theorem Outs.trans {a b c : World} (h : Outs a b) (k : Outs b c) : Outs a c:=⟨k.1.trans h.1,Nat.le_trans h.2 k.2⟩
theorem Outs.push {w w' : World} {o : Obj} (_hh : w'.heap = w.heap.push o) (_ho : ∀ c e fr,o = .cells c e fr→fr = (0,0)) (h : w'.output = w.output) (h2 : w.drawn≤w'.drawn:=by first | exact Nat.le_refl _ | exact Nat.le_succ _) : Outs w w':=⟨h,h2⟩
theorem Outs.turn {w w' : World} {g : Nat} {o o' : Obj} (_hg : w.heap[g]? = some o) (_hg' : w'.heap[g]? = some o') (_hne : ∀ b,b ≠ g→w'.heap[b]? = w.heap[b]?) (_ho : ∀ c e fr,o = .cells c e fr→fr = (0,0)) (_ho' : ∀ c e fr,o' = .cells c e fr→fr = (0,0)) (h : w'.output = w.output) (h2 : w.drawn≤w'.drawn:=by first | exact Nat.le_refl _ | exact Nat.le_succ _) : Outs w w':=⟨h,h2⟩

structure Evo (E : Nat→Prop) (h : AHeap) (m : Places) (w : World) (E' : Nat→Prop) (h' : AHeap) (m' : Places) (w' : World) : Prop where
 os : w'.os = w.os
 tape : w'.tape = w.tape
 output : Outs w w'
 size : w.heap.size≤w'.heap.size
 ex : ∀ b,b < w.heap.size→E' b→E b
 blk : ∀ b,b < w.heap.size→¬ E b→w'.heap[b]? = w.heap[b]?
 own : ∀ b,b < w.heap.size→Ex (fun _=>False) h' m' b→Ex (fun _=>False) h m b
 blk2 : ∀ b,b < w.heap.size→¬ Ex (fun _=>False) h m b→w'.heap[b]? = w.heap[b]?
 obj : ∀ id o,h[id]? = some o→∃ o',h'[id]? = some o'∧OEvo w w' o o' (m id) (m' id)

theorem qdg9 {w w' : World} {a : Addr} (h : w'.heap[a.block]? = w.heap[a.block]?) : w'.cell? a = w.cell? a:=World.cell?_of_block (w:=w) h
theorem qbI9 (a : Addr) (n : Nat) : (a.add n).block = a.block:=by unfold Addr.add; split <;> rfl
theorem qhe9 {w : World} {a : Addr} {n : Nat} {x : Value} (h : w.cell? (a.add n) = some x) : a.block < w.heap.size:=by
 have:=World.block_lt_of_cell? w _ h
 rwa [qbI9] at this

section
variable {E E' : Nat→Prop} {h h' : AHeap} {m m' : Places} {w w' : World}

theorem DRel.move (hE : ∀ b,b < w.heap.size→E' b→E b) (hw : ∀ b,b < w.heap.size→¬ E b→w'.heap[b]? = w.heap[b]?) {x : D} {v : Value} (hd : DRel E w x v) : DRel E' w' x v:=by
 induction hd with
 | v x=>exact .v x
 | rd xs A c sz f hc hsz hA hc1 hr ih =>
  refine .rd xs A c sz f hc hsz hA (fun i j cs u ad h1 h2 h3=>?_) ih
  obtain ⟨a1,a2,a3⟩:=hc1 i j cs u ad h1 h2 h3
  have hlt:=qhe9 a2
  exact ⟨fun he=>a1 (hE _ hlt he),(qdg9 (by rw [qbI9]; exact hw _ hlt a1)).trans a2,a3⟩
 | ag cs vs hl h1 hr ih=>exact .ag cs vs hl h1 ih
 | bx cs ad f hc1 hr ih =>
  refine .bx cs ad f (fun j u h1=>?_) ih
  obtain ⟨a1,a2,a3⟩:=hc1 j u h1
  have hlt:=qhe9 a2
  exact ⟨fun he=>a1 (hE _ hlt he),(qdg9 (by rw [qbI9]; exact hw _ hlt a1)).trans a2,a3⟩
 | ifc t x v h ih=>exact .ifc t x v ih
 | fn f cs vs hl hr ih=>exact .fn f cs vs hl ih

theorem SRef.evo (hv : Evo E h m w E' h' m' w') {id ver off len : Nat} {v : Value} (hs : SRef h m w id ver off len v) : SRef h' m' w' id ver off len v:=by
 obtain ⟨A,cap,hv0,hv1,hv2,fz,ver1,sz,es,ho,hle,hcur⟩:=hs
 obtain ⟨o',ho',hev⟩:=hv.obj id _ ho
 cases o' with
 | row fz' ver2 sz' es' =>
  obtain ⟨h1,h0,h2,h3⟩:=hev
  subst h2
  refine ⟨A,cap,hv0,hv1,hv2,fz',ver2,sz',es',ho',by omega,fun e=>?_⟩
  obtain ⟨k1,k2,k3⟩:=h3 (by omega)
  obtain ⟨c1,c2⟩:=hcur (by omega)
  refine ⟨by omega,?_⟩
  rw [k2]
  cases hm : m id with
  | none=>rw [hm] at c2; exact c2
  | some p =>
   obtain ⟨g,bo⟩:=p
   rw [hm] at c2
   obtain ⟨cur,e,d1,d2,d3⟩:=c2
   obtain ⟨cur',e1,e2⟩:=k3 g bo cur e hm d1
   exact ⟨cur',e,e1,d2,by rw [e2]; exact d3⟩
 | map _=>exact hev.elim
 | siter _ _=>exact hev.elim

theorem PRef.evo (hv : Evo E h m w E' h' m' w') {id ver idx off : Nat} {v : Value} (hs : PRef h m id ver idx off v) : PRef h' m' id ver idx off v:=by
 obtain ⟨hv0,fz,ver1,sz,es,ho,hle,hcur⟩:=hs
 obtain ⟨o',ho',hev⟩:=hv.obj id _ ho
 cases o' with
 | row fz' ver2 sz' es' =>
  obtain ⟨h1,h0,h2,h3⟩:=hev
  subst h2
  refine ⟨hv0,fz',ver2,sz',es',ho',by omega,fun e=>?_⟩
  obtain ⟨k1,k2,k3⟩:=h3 (by omega)
  obtain ⟨c1,c2⟩:=hcur (by omega)
  refine ⟨by omega,?_⟩
  rw [k2]
  exact c2
 | map _=>exact hev.elim
 | siter _ _=>exact hev.elim

theorem VRel.evo (hv : Evo E h m w E' h' m' w') {x : PV} {v : Value} (hd : VRel E h m w x v) : VRel E' h' m' w' x v:=by
 induction hd with
 | d x v hd=>exact .d x v (hd.move hv.ex hv.blk)
 | junk v=>exact .junk v
 | im t xs A c sz f hc ht hsz hA hc1 hr ih =>
  refine .im t xs A c sz f hc ht hsz hA (fun i j cs u ad h1 h2 h3=>?_) ih
  obtain ⟨a1,a2,a3⟩:=hc1 i j cs u ad h1 h2 h3
  have hlt:=qhe9 a2
  exact ⟨fun he=>a1 (hv.ex _ hlt he),(qdg9 (by rw [qbI9]; exact hv.blk _ hlt a1)).trans a2,a3⟩
 | bx cs ad f hc1 hr ih =>
  refine .bx cs ad f (fun j u h1=>?_) ih
  obtain ⟨a1,a2,a3⟩:=hc1 j u h1
  have hlt:=qhe9 a2
  exact ⟨fun he=>a1 (hv.ex _ hlt he),(qdg9 (by rw [qbI9]; exact hv.blk _ hlt a1)).trans a2,a3⟩
 | ref id ver off len v hs=>exact .ref id ver off len v (hs.evo hv)
 | ptr id ver idx off v hp=>exact .ptr id ver idx off v (hp.evo hv)
 | mp id es g bo ho hm =>
  obtain ⟨o',ho',hev⟩:=hv.obj id _ ho
  cases o' with
  | map es'=>exact .mp id es' g bo ho' (by rw [hev]; exact hm)
  | row _ _ _ _=>exact hev.elim
  | siter _ _=>exact hev.elim
 | it id s pos g bo ho hm =>
  obtain ⟨o',ho',hev⟩:=hv.obj id _ ho
  cases o' with
  | siter s' p'=>exact .it id s' p' g bo ho' (by rw [hev]; exact hm)
  | row _ _ _ _=>exact hev.elim
  | map _=>exact hev.elim
 | ag cs vs hl h1 hr ih=>exact .ag cs vs hl h1 ih
 | tp cs vs hl hr ih=>exact .tp cs vs hl ih
 | ifc t x v h ih=>exact .ifc t x v ih
 | fn f cs vs hl hr ih=>exact .fn f cs vs hl ih

theorem OEvo.refl (w : World) (o : AObj) (p : Option (Nat × Nat)) : OEvo w w o o p p:=by
 cases o with
 | row fz ver sz es=>exact ⟨Nat.le_refl _,id,rfl,fun _=>⟨Nat.le_refl _,rfl,fun g bo cur e _ hg=>⟨cur,hg,rfl⟩⟩⟩
 | map es=>exact rfl
 | siter s p=>exact rfl

theorem OEvo.trans {w1 w2 w3 : World} {o1 o2 o3 : AObj} {p1 p2 p3 : Option (Nat × Nat)} (a : OEvo w1 w2 o1 o2 p1 p2) (b : OEvo w2 w3 o2 o3 p2 p3) : OEvo w1 w3 o1 o3 p1 p3:=by
 cases o1 <;> cases o2 <;> cases o3 <;> simp only [OEvo] at a b ⊢
 ·obtain ⟨a1,a2,a3,a4⟩:=a
  obtain ⟨b1,b2,b3,b4⟩:=b
  refine ⟨by omega,fun h=>b2 (a2 h),by omega,fun e=>?_⟩
  obtain ⟨c1,c2,c3⟩:=a4 (by omega)
  obtain ⟨d1,d2,d3⟩:=b4 (by omega)
  refine ⟨by omega,by rw [d2,c2],fun g bo cur e hp hg=>?_⟩
  obtain ⟨cur1,e1,e2⟩:=c3 g bo cur e hp hg
  obtain ⟨cur2,f1,f2⟩:=d3 g bo cur1 e (by rw [c2]; exact hp) e1
  exact ⟨cur2,f1,by omega⟩
 ·rw [b,a]
 ·rw [b,a]

theorem Evo.refl (E : Nat→Prop) (h : AHeap) (m : Places) (w : World) : Evo E h m w E h m w :=
 ⟨rfl,rfl,Outs.refl w,Nat.le_refl _,fun _ _ h=>h,fun _ _ _=>rfl,fun _ _ h=>h,fun _ _ _=>rfl,fun id o ho=>⟨o,ho,OEvo.refl _ _ _⟩⟩

theorem Evo.trans {E1 E2 E3 : Nat→Prop} {h1 h2 h3 : AHeap} {m1 m2 m3 : Places} {w1 w2 w3 : World} (a : Evo E1 h1 m1 w1 E2 h2 m2 w2) (b : Evo E2 h2 m2 w2 E3 h3 m3 w3) : Evo E1 h1 m1 w1 E3 h3 m3 w3 where
 os:=b.os.trans a.os
 tape:=b.tape.trans a.tape
 output:=a.output.trans b.output
 size:=Nat.le_trans a.size b.size
 ex:=fun k hk he=>a.ex k hk (b.ex k (Nat.lt_of_lt_of_le hk a.size) he)
 blk:=fun k hk hn=>(b.blk k (Nat.lt_of_lt_of_le hk a.size) (fun he=>hn (a.ex k hk he))).trans (a.blk k hk hn)
 own:=fun k hk he=>a.own k hk (b.own k (Nat.lt_of_lt_of_le hk a.size) he)
 blk2:=fun k hk hn=>(b.blk2 k (Nat.lt_of_lt_of_le hk a.size) (fun he=>hn (a.own k hk he))).trans (a.blk2 k hk hn)
 obj:=fun id o ho=>by
  obtain ⟨o2,ho2,e2⟩:=a.obj id o ho
  obtain ⟨o3,ho3,e3⟩:=b.obj id o2 ho2
  exact ⟨o3,ho3,e2.trans e3⟩
end

def StampE (ents : Array MapEntry) (clock : Nat) : Prop:=(∀ x∈ents.toList,x.born < clock)∧(ents.toList.map (·.born)).Nodup
theorem qqm9 {ents : Array MapEntry} {clock : Nat} (h : StampE ents clock) {x : MapEntry} (hx : x.born = clock) : StampE (ents.push x) (clock + 1):=by
 refine ⟨fun y hy=>?_,?_⟩
 ·rw [Array.toList_push,List.mem_append,List.mem_singleton] at hy
  rcases hy with hy | rfl
  ·have:=h.1 y hy; omega
  ·omega
 ·rw [Array.toList_push,List.map_append,List.nodup_append]
  refine ⟨h.2,by simp,fun a ha b hb=>?_⟩
  obtain ⟨y,hy,rfl⟩:=List.mem_map.1 ha
  have:=h.1 y hy
  simp at hb
  omega
theorem qng9 {ents : Array MapEntry} {clock : Nat} (h : StampE ents clock) {i : Nat} {f : MapEntry→MapEntry} (hf : ∀ x,(f x).born = x.born) : StampE (ents.modify i f) clock:=by
 have e : ((ents.modify i f).toList.map (·.born)) = ents.toList.map (·.born):=by
  rw [Array.toList_modify]
  apply List.ext_getElem?
  intro j
  rw [List.getElem?_map,List.getElem?_map,List.getElem?_modify]
  split
  ·cases ents.toList[j]? <;> simp [hf]
  ·cases ents.toList[j]? <;> simp
 refine ⟨fun y hy=>?_,by rw [e]; exact h.2⟩
 have : y.born∈(ents.modify i f).toList.map (·.born):=List.mem_map.2 ⟨y,hy,rfl⟩
 rw [e] at this
 obtain ⟨z,hz,hzy⟩:=List.mem_map.1 this
 rw [← hzy]; exact h.1 z hz
def ORel (E : Nat→Prop) (h : AHeap) (m : Places) (w : World) : AObj→Option (Nat × Nat)→Prop
 | .row _ _ _ es,none=>es = []
 | .row _ _ sz es,some (g,bo)=>0 < sz∧∃ cur e,w.heap[g]? = some (.cells cur e (0,0))∧(bo + es.length) * sz≤cur.size∧(∀ (i : Nat) (cs : List PV),es[i]? = some cs→cs.length = sz) ∧
   ∀ (i j : Nat) (cs : List PV) (u : PV),es[i]? = some cs→cs[j]? = some u→∃ x,cur[(bo + i) * sz + j]? = some x∧x.oneCell' = true∧VRel E h m w u x
 | .map es,some (g,_)=>∃ ents clock,w.heap[g]? = some (.map ents clock)∧ents.size = es.length∧(∀ (i : Nat) (k : Value) (u : PV) (x : MapEntry),es[i]? = some (k,u)→ents[i]? = some x→x.key = k∧VRel E h m w u x.val)∧StampE ents clock
 | .siter s pos,some (g,_)=>w.heap[g]? = some (.stringIter s pos)
 | _,none=>False

structure HRel (W0 : World) (X : Nat→Prop) (h : AHeap) (m : Places) (w : World) : Prop where
 obj : ∀ id o,h[id]? = some o→ORel (Ex X h m) h m w o (m id)
 lt : ∀ id o g bo,h[id]? = some o→m id = some (g,bo)→g < w.heap.size
 inj : ∀ id id' o o' g bo bo',h[id]? = some o→h[id']? = some o'→m id = some (g,bo)→m id' = some (g,bo')→id = id'
 apart : ∀ id o g bo,h[id]? = some o→m id = some (g,bo)→¬ X g
 xlt : ∀ b,X b→b < w.heap.size
 osz : W0.heap.size≤w.heap.size
 old : ∀ b,b < W0.heap.size→w.heap[b]? = W0.heap[b]?
 new : ∀ id o g bo,h[id]? = some o→m id = some (g,bo)→W0.heap.size≤g

end Go.Abs

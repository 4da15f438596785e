import Derived.Test.YtmkohpkfeamjiaaAbs8
import Derived.Laws.MakeOwn
set_option maxHeartbeats 400000
set_option linter.unusedVariables false
set_option linter.unusedSimpArgs false
set_option linter.unusedSectionVars false
namespace Go.Abs
open Go Go.RowKit

section
variable {W0 : World} {E : Nat→Prop} {X : Nat→Prop} {h h' : AHeap} {m : Places} {w w' : World} {P : Program}

theorem qdZ9 {α : Type} {sz : Nat} : ∀ {xs : List (List α)},(∀ (i : Nat) (cs : List α),xs[i]? = some cs→cs.length = sz)→xs.flatten.length = xs.length * sz:=by
 intro xs
 induction xs with
 | nil=>intro _; simp
 | cons a r ih =>
  intro hh
  rw [List.flatten_cons,List.length_append,ih (fun i cs hi=>hh (i + 1) cs (by simpa using hi)),hh 0 a rfl,List.length_cons,Nat.succ_mul,Nat.add_comm]
theorem qfz9 {α : Type} {sz : Nat} : ∀ {xs : List (List α)},(∀ (i : Nat) (cs : List α),xs[i]? = some cs→cs.length = sz)→∀ (i j : Nat),j < sz→xs.flatten[i * sz + j]? = (xs[i]?).bind (·[j]?):=by
 intro xs
 induction xs with
 | nil=>intro _ i j _; simp
 | cons a r ih =>
  intro hh i j hj
  have ha:=hh 0 a rfl
  cases i with
  | zero=>rw [List.flatten_cons,List.getElem?_append_left (by omega)]; simp
  | succ i =>
   rw [List.flatten_cons,List.getElem?_append_right (by rw [ha,Nat.succ_mul]; omega)]
   have e : (i + 1) * sz + j - a.length = i * sz + j:=by rw [ha,Nat.succ_mul]; omega
   rw [e,ih (fun i cs hi=>hh (i + 1) cs (by simpa using hi)) i j hj]
   simp

theorem qpV9 {ys : List (List PV)} {sz : Nat} {A : Option Addr} (hsz : ∀ (i : Nat) (cs : List PV),ys[i]? = some cs→cs.length = sz) (f : Nat→Nat→Value)
  (hf : ∀ (i j : Nat) (cs : List PV) (u : PV),ys[i]? = some cs→cs[j]? = some u→(∃ a,A = some a∧w.cell? (a.add (i * sz + j)) = some (f i j))∧(f i j).oneCell' = true∧VRel E h m w u (f i j)) :
  ∃ news,CRel E h m w ys.flatten news∧∀ (j : Nat) (u : Value),news[j]? = some u→∃ a,A = some a∧w.cell? (a.add j) = some u:=by
 have key : ∀ (k : Nat) (u : PV),ys.flatten[k]? = some u→(∃ a,A = some a∧w.cell? (a.add k) = some (f (k / sz) (k % sz)))∧(f (k / sz) (k % sz)).oneCell' = true∧VRel E h m w u (f (k / sz) (k % sz)):=by
  intro k u hk
  have hlt : k < ys.length * sz:=by rw [← qdZ9 hsz]; exact (List.getElem?_eq_some_iff.1 hk).1
  have h0 : 0 < sz:=by
   rcases Nat.eq_zero_or_pos sz with e | e
   ·rw [e] at hlt; omega
   ·exact e
  have hm:=Nat.mod_lt k h0
  have hd : k / sz * sz + k % sz = k:=by rw [Nat.mul_comm]; exact Nat.div_add_mod k sz
  have hg:=qfz9 hsz (k / sz) (k % sz) hm
  rw [hd,hk] at hg
  cases hy : ys[k / sz]? with
  | none=>simp [hy] at hg
  | some cs =>
   simp only [hy,Option.bind_some] at hg
   have:=hf (k / sz) (k % sz) cs u hy hg.symm
   rw [hd] at this
   exact this
 refine ⟨(List.range ys.flatten.length).map (fun k=>f (k / sz) (k % sz)),⟨by simp,fun j u y h1 h2=>?_⟩,fun j u h2=>?_⟩
 ·have hlt:=(List.getElem?_eq_some_iff.1 h1).1
  rw [List.getElem?_map,List.getElem?_range hlt] at h2
  simp only [Option.map_some,Option.some.injEq] at h2
  subst h2
  exact (key j u h1).2
 ·have hlt : j < ys.flatten.length:=by have:=(List.getElem?_eq_some_iff.1 h2).1; simpa using this
  rw [List.getElem?_map,List.getElem?_range hlt] at h2
  simp only [Option.map_some,Option.some.injEq] at h2
  subst h2
  exact (key j _ (List.getElem?_eq_getElem hlt)).1

def RowAt (E : Nat→Prop) (h : AHeap) (m : Places) (w : World) (ys : List (List PV)) (A : Option Addr) (news : List Value) : Prop :=
 CRel E h m w ys.flatten news∧∀ (j : Nat) (u : Value),news[j]? = some u→∃ a,A = some a∧w.cell? (a.add j) = some u

theorem qhP9 (H : HRel W0 X h m w) {x : PV} {v : Value} {ys : List (List PV)} {sz : Nat} (hv : VRel (Ex X h m) h m w x v) (he : elems h x = some ys) (hsz : ∀ (i : Nat) (cs : List PV),ys[i]? = some cs→cs.length = sz) :
  ∃ A c news,v = .slice A ys.length c∧ys.length≤c∧RowAt (Ex X h m) h m w ys A news:=by
 cases hv with
 | d x v hd =>
  cases hd with
  | rd xs A c sz' f hc hsz' hA hE hr =>
   simp only [elems,Option.some.injEq] at he
   subst he
   obtain ⟨news,h1,h2⟩:=qpV9 (E:=Ex X h m) (h:=h) (m:=m) (w:=w) (A:=A) hsz f (fun i j cs u hi hj=>by
    rw [List.getElem?_map] at hi
    cases hxi : xs[i]? with
    | none=>simp [hxi] at hi
    | some ds =>
     simp only [hxi,Option.map_some,Option.some.injEq] at hi
     subst hi
     rw [List.getElem?_map] at hj
     cases hdj : ds[j]? with
     | none=>simp [hdj] at hj
     | some d =>
      simp only [hdj,Option.map_some,Option.some.injEq] at hj
      subst hj
      obtain ⟨a,ha⟩:=hA i ds hxi
      obtain ⟨_,b1,b2⟩:=hE i j ds d a hxi hdj ha
      have e : sz' = sz:=by rw [← hsz' i ds hxi,← hsz i (ds.map PV.d) (by rw [List.getElem?_map,hxi]; rfl)]; simp
      subst e
      exact ⟨⟨a,ha,b1⟩,b2,.d _ _ (hr i j ds d hxi hdj)⟩)
   exact ⟨A,c,news,by simp,by simpa using hc,h1,h2⟩
  | _=>simp [elems] at he
 | im tight es A c sz' f hc ht hsz' hA hE hr =>
  simp only [elems,Option.some.injEq] at he
  subst he
  obtain ⟨news,h1,h2⟩:=qpV9 (E:=Ex X h m) (h:=h) (m:=m) (w:=w) (A:=A) hsz f (fun i j cs u hi hj=>by
   obtain ⟨a,ha⟩:=hA i cs hi
   obtain ⟨_,b1,b2⟩:=hE i j cs u a hi hj ha
   have e : sz' = sz:=by rw [← hsz' i cs hi,← hsz i cs hi]
   subst e
   exact ⟨⟨a,ha,b1⟩,b2,hr i j cs u hi hj⟩)
  exact ⟨A,c,news,rfl,hc,h1,h2⟩
 | ref id ver off len v hs =>
  simp only [elems] at he
  cases hrow : rowAt h id ver with
  | none=>simp [hrow] at he
  | some p =>
   simp only [hrow,Option.map_some,Option.some.injEq] at he
   obtain ⟨fz,sz',es⟩:=p
   have ho:=qgX9 hrow
   simp only at ho he
   obtain ⟨A,cap,hv0,hv1,hv2,fz1,ver1,sz1,es1,ho1,hle,hcur⟩:=hs
   rw [ho] at ho1
   simp only [Option.some.injEq,AObj.row.injEq] at ho1
   obtain ⟨rfl,rfl,rfl,rfl⟩:=ho1
   obtain ⟨c1,c2⟩:=hcur rfl
   have hlen : ys.length = len:=by rw [← he]; simp; omega
   have hor:=H.obj id _ ho
   have hyi : ∀ (i : Nat) (cs : List PV),ys[i]? = some cs→i < len∧es[off + i]? = some cs:=by
    intro i cs hi
    rw [← he,List.getElem?_take] at hi
    split at hi
    ·rename_i hlt; exact ⟨hlt,by simpa [List.getElem?_drop] using hi⟩
    ·cases hi
   cases hm : m id with
   | none =>
    rw [hm] at hor
    have hes : es = []:=hor
    subst hes
    have : len = 0:=by simp at c1; omega
    subst this
    have hys : ys = []:=List.eq_nil_of_length_eq_zero hlen
    subst hys
    exact ⟨A,cap,[],by simpa using hv0,by simp,⟨by simp,fun j u y h1=>by simp at h1⟩,fun j u hu=>by simp at hu⟩
   | some p =>
    obtain ⟨g,bo⟩:=p
    rw [hm] at hor c2
    obtain ⟨s0,cur,e,r1,r2,r3,r4⟩:=hor
    obtain ⟨cur',e',d1,d2,d3⟩:=c2
    rw [r1] at d1
    simp only [Option.some.injEq,Obj.cells.injEq] at d1
    obtain ⟨rfl,rfl,_⟩:=d1
    have e : ys ≠ []→sz' = sz:=by
     intro hne
     cases hy0 : ys[0]? with
     | none=>simp at hy0; exact absurd hy0 hne
     | some cs0=>rw [← r3 _ cs0 (hyi 0 cs0 hy0).2,← hsz 0 cs0 hy0]
    obtain ⟨news,h1,h2⟩:=qpV9 (E:=Ex X h m) (h:=h) (m:=m) (w:=w) (A:=A) hsz (fun i j=>(cur[(bo + off + i) * sz + j]?).getD (.bool true)) (fun i j cs u hi hj=>by
     obtain ⟨i1,i2⟩:=hyi i cs hi
     obtain ⟨y,y1,y2,y3⟩:=r4 (off + i) j cs u i2 hj
     have e0:=e (by intro h0; subst h0; simp at hi)
     subst e0
     have hA:=d2 (by omega)
     have e1 : (bo + (off + i)) * sz' + j = (bo + off + i) * sz' + j:=by rw [Nat.add_assoc bo off i]
     rw [e1] at y1
     rw [y1]
     refine ⟨⟨_,hA,?_⟩,y2,y3⟩
     have e2 : (bo + off) * sz' + (i * sz' + j) = (bo + off + i) * sz' + j:=by rw [Nat.add_mul (bo + off) i]; omega
     rw [qep9,e2]
     simp [World.cell?,r1,y1])
    exact ⟨A,cap,news,by rw [hlen]; exact hv0,by omega,h1,h2⟩
 | _=>simp [elems] at he

theorem qjN9 (H : HRel W0 X h m w) {news rest : List Value} {e : TypeId} {es : List (List PV)} {sz : Nat} (hheap : w'.heap = w.heap.push (.cells (news++rest).toArray e (0,0))) (hos : w'.os = w.os) (htape : w'.tape = w.tape) (hout : Outs w w')
  (h0 : 0 < sz) (hsz : ∀ (i : Nat) (cs : List PV),es[i]? = some cs→cs.length = sz) (hc : CRel (Ex X h m) h m w es.flatten news) :
  let h':=h++[AObj.row false 0 sz es]; let m':=upd m h.length (some (w.heap.size,0))
  Evo (Ex X h m) h m w (Ex X h' m') h' m' w'∧HRel W0 X h' m' w':=by
 intro h' m'
 have hsize : w'.heap.size = w.heap.size + 1:=by rw [hheap]; simp
 have hnew : w'.heap[w.heap.size]? = some (.cells (news++rest).toArray e (0,0)):=by rw [hheap]; simp
 refine qgl9 H _ _ hos htape hout (by omega) (fun b hb=>by rw [hheap,Array.getElem?_push_lt hb]; exact (Array.getElem?_eq_getElem hb).symm) (fun g bo hp=>by cases hp; omega) (fun hev=>?_)
 have hnl : news.length = es.length * sz:=by rw [hc.1,qdZ9 hsz]
 refine ⟨h0,_,e,hnew,by simp; omega,hsz,fun i j cs u hi hj=>?_⟩
 have hjl : j < sz:=by rw [← hsz i cs hi]; exact (List.getElem?_eq_some_iff.1 hj).1
 have hfl:=qfz9 hsz i j hjl
 rw [hi,Option.bind_some,hj] at hfl
 have hlt : i * sz + j < news.length:=by rw [hc.1]; exact (List.getElem?_eq_some_iff.1 hfl).1
 have hn:=List.getElem?_eq_getElem hlt
 obtain ⟨c1,c2⟩:=hc.2 _ _ _ hfl hn
 refine ⟨news[i * sz + j],?_,c1,c2.evo hev⟩
 simp only [Nat.zero_add,List.getElem?_toArray]
 rw [List.getElem?_append_left hlt,hn]
end
end Go.Abs
namespace Go.Abs
open Go Go.RowKit

section
variable {W0 : World} {E : Nat→Prop} {X : Nat→Prop} {h h' : AHeap} {m : Places} {w w' : World} {P : Program}

theorem HRel.new_not_ex (H : HRel W0 X h m w) : ¬ Ex X h m w.heap.size:=by
 rintro (hx | ⟨id,o,bo,ho,_,hm⟩)
 ·exact absurd (H.xlt _ hx) (by omega)
 ·exact absurd (H.lt id o _ bo ho hm) (by omega)

theorem Out.same (H : HRel W0 X h m w) {y : PV} {v : Value} (hv : VRel (Ex X h m) h m w y v) : Out W0 X h m w y h v w:=⟨m,hv,H,Evo.refl _ _ _ _⟩

theorem qrq9 (H : HRel W0 X h m w) {cs : List PV} {vs : Array Value} {e : TypeId} {n : Nat} (hn : 0 < n) (hcs : cs.length = n) (hc : CRel (Ex X h m) h m w cs vs.toList) :
  Out W0 X h m w (.ptr h.length 0 0 0) (qfK9 h [cs] n) (.pointer (some ⟨w.heap.size,0,none⟩)) { w with heap:=w.heap.push (.cells vs e) }:=by
 have hc' : CRel (Ex X h m) h m w [cs].flatten vs.toList:=by simpa using hc
 have hh:=qjN9 (w':={ w with heap:=w.heap.push (.cells vs e) }) (rest:=[]) (e:=e) (es:=[cs]) (sz:=n) H (by simp) rfl rfl (Outs.push rfl (by rintro _ _ _ ⟨⟩; rfl) rfl) hn (fun i c hi=>by
  cases i with
  | zero=>simp at hi; subst hi; exact hcs
  | succ i=>simp at hi) hc'
 refine ⟨_,?_,hh.2,hh.1⟩
 refine .ptr _ _ _ _ _ ⟨⟨_,rfl⟩,false,0,n,[cs],by simp [qfK9],Nat.le_refl _,fun _=>⟨by simp,?_⟩⟩
 simp

theorem qqJ9 (H : HRel W0 X h m w) {e : TypeId} {y : PV} {h1 : AHeap} (ho : qjS9 P h e = some (y,h1)) : ∃ v w',(Instr.alloc e true (.tuple #[])).run P w = .ok v w'∧Out W0 X h m w y h1 v w':=by
 unfold qjS9 at ho
 cases hz : zeroCells P e with
 | none=>simp [hz] at ho
 | some cs =>
  obtain ⟨i,z,hi,hzz,hs1,hs2,hs3,hs4⟩:=qeh9 (E:=Ex X h m) (h:=h) (m:=m) (w:=w) hz
  simp only [hz,sizeT,hi,Option.map_some] at ho
  split at ho
  ·rename_i hn
   simp only [Option.some.injEq,Prod.mk.injEq] at ho
   obtain ⟨rfl,rfl⟩:=ho
   refine ⟨_,_,?_,qrq9 (vs:=z.cells) (e:=e) H hn hs2 ⟨by simp [hs1,hs2],fun j u y a b=>hs4 j u y a (by simpa using b)⟩⟩
   simp [Instr.alloc,zeroValue,typeInfo,hi,hzz,newVar,newRow]
  ·cases ho

theorem qty9 (H : HRel W0 X h m w) {e : TypeId} {x y : PV} {v : Value} {h1 : AHeap} (hv : VRel (Ex X h m) h m w x v) (ho : opBox h x = some (y,h1)) : ∃ u w',(Instr.box e v).run P w = .ok u w'∧Out W0 X h m w y h1 u w':=by
 unfold opBox at ho
 split at ho
 ·rename_i hn
  simp only [Option.some.injEq,Prod.mk.injEq] at ho
  obtain ⟨rfl,rfl⟩:=ho
  refine ⟨_,_,?_,qrq9 (vs:=v.cells) (e:=e) H hn.2 rfl (CRel.of_cells hv hn.1)⟩
  simp [Instr.box,newVar,newRow]
 ·cases ho

theorem qni9 (H : HRel W0 X h m w) {t : TypeId} {r : Option PV} {rv : Option Value} {y : PV} {h1 : AHeap} (hr : r.isSome = rv.isSome) (hv : ∀ x v,r = some x→rv = some v→VRel (Ex X h m) h m w x v) (ho : qgO9 P h t r = some (y,h1)) :
  ∃ u w',(Instr.makeMap t rv).run P w = .ok u w'∧Out W0 X h m w y h1 u w':=by
 have key : Out W0 X h m w (.mp h.length) (h++[.map []]) (.map (some w.heap.size)) { w with heap:=w.heap.push (.map #[] 0) }:=by
  have hh:=qgl9 (w':={ w with heap:=w.heap.push (.map #[] 0) }) H (.map []) (some (w.heap.size,0)) rfl rfl (Outs.push rfl (by rintro _ _ _ ⟨⟩) rfl) (by simp) (fun b hb=>by simp [Array.getElem?_push,hb]; omega) (fun g bo hp=>by cases hp; simp) (fun _=>⟨#[],0,by simp,rfl,fun i k u x hi=>by simp at hi,by simp [StampE]⟩)
  exact ⟨_,.mp _ [] _ 0 (by simp) (by simp),hh.2,hh.1⟩
 unfold qgO9 at ho
 cases hu : P.underlying t with
 | none=>simp [hu] at ho
 | some d =>
  cases d with
  | map kt et =>
   simp only [hu] at ho
   cases r with
   | none =>
    simp only [Option.some.injEq,Prod.mk.injEq] at ho
    obtain ⟨rfl,rfl⟩:=ho
    cases rv with
    | some v=>simp at hr
    | none=>exact ⟨_,_,by simp [Instr.makeMap],key⟩
   | some x =>
    cases rv with
    | none=>simp at hr
    | some v =>
     have hxv:=hv x v rfl rfl
     split at ho
     ·rename_i heq; cases heq
     ·rename_i k n heq
      simp only [Option.some.injEq] at heq
      subst heq
      simp only [Option.some.injEq,Prod.mk.injEq] at ho
      obtain ⟨rfl,rfl⟩:=ho
      obtain rfl:=hxv.to_v rfl
      exact ⟨_,_,by simp [Instr.makeMap,run_underlying hu,asInt,asIntOf],key⟩
     ·cases ho
  | _=>simp [hu] at ho

theorem qqq9 {n : Nat} : ∀ {ps : List (Nat × PV)} {k : Nat} {es : List (List PV)},qcG9 n k ps = some es→es.length = ps.length∧(∀ (i : Nat) (cs : List PV),es[i]? = some cs→cs.length = n) ∧
  ∀ (pre post : List PV),pre.length = k * n→post.length = es.length * n→qfN9 n (pre++post) ps = some (pre++es.flatten):=by
 intro ps
 induction ps with
 | nil =>
  intro k es hb
  simp only [qcG9,Option.some.injEq] at hb
  subst hb
  refine ⟨rfl,fun i cs hi=>by simp at hi,fun pre post h1 h2=>?_⟩
  obtain rfl : post = []:=List.eq_nil_of_length_eq_zero (by simpa using h2)
  simp [qfN9]
 | cons p r ih =>
  intro k es hb
  obtain ⟨i,x⟩:=p
  simp only [qcG9] at hb
  split at hb
  ·rename_i hc
   obtain ⟨rfl,c2,c3⟩:=hc
   cases hr : qcG9 n (i + 1) r with
   | none=>simp [hr] at hb
   | some es' =>
    simp only [hr,Option.map_some,Option.some.injEq] at hb
    subst hb
    obtain ⟨i1,i2,i3⟩:=ih hr
    refine ⟨by simp [i1],fun j cs hj=>?_,fun pre post h1 h2=>?_⟩
    ·cases j with
     | zero=>simp at hj; subst hj; exact c3
     | succ j=>exact i2 j cs (by simpa using hj)
    ·have hpl : post.length = n + es'.length * n:=by rw [h2,List.length_cons,Nat.succ_mul,Nat.add_comm]
     simp only [qfN9]
     rw [if_pos ⟨c2,c3,by rw [List.length_append,h1,hpl]; omega⟩]
     have hs : splice (pre++post) (i * n) (qU9 x) = (pre++qU9 x)++post.drop n:=by
      unfold splice
      rw [← h1,c3,List.take_left,List.drop_append]
      simp
     rw [hs,i3 (pre++qU9 x) (post.drop n) (by rw [List.length_append,h1,c3,Nat.succ_mul]) (by rw [List.length_drop,hpl]; omega)]
     simp
  ·cases hb

theorem qzp9 (H : HRel W0 X h m w) {news : List Value} {e : TypeId} {es : List (List PV)} {sz : Nat} (tight : Bool) (hsz : ∀ (i : Nat) (cs : List PV),es[i]? = some cs→cs.length = sz) (hc : CRel (Ex X h m) h m w es.flatten news) :
  Out W0 X h m w (.im tight es) h (.slice (some ⟨w.heap.size,0,none⟩) es.length es.length) { w with heap:=w.heap.push (.cells news.toArray e) }:=by
 have hb : ∀ b,b < w.heap.size→(w.heap.push (.cells news.toArray e))[b]? = w.heap[b]?:=fun b hb=>by
  rw [Array.getElem?_push_lt hb]; exact (Array.getElem?_eq_getElem hb).symm
 have hev : Evo (Ex X h m) h m w (Ex X h m) h m { w with heap:=w.heap.push (.cells news.toArray e) }:=Evo.grow H rfl rfl (Outs.push rfl (by rintro _ _ _ ⟨⟩; rfl) rfl) (by simp) hb
 refine ⟨m,?_,HRel.grow H rfl rfl (Outs.push rfl (by rintro _ _ _ ⟨⟩; rfl) rfl) (by simp) hb,hev⟩
 have key : ∀ (i j : Nat) (cs : List PV) (u : PV),es[i]? = some cs→cs[j]? = some u→∃ y,news[i * sz + j]? = some y∧y.oneCell' = true∧VRel (Ex X h m) h m w u y:=by
  intro i j cs u hi hj
  have hjl : j < sz:=by rw [← hsz i cs hi]; exact (List.getElem?_eq_some_iff.1 hj).1
  have hfl:=qfz9 hsz i j hjl
  rw [hi,Option.bind_some,hj] at hfl
  have hlt : i * sz + j < news.length:=by rw [hc.1]; exact (List.getElem?_eq_some_iff.1 hfl).1
  have hn:=List.getElem?_eq_getElem hlt
  obtain ⟨c1,c2⟩:=hc.2 _ _ _ hfl hn
  exact ⟨_,hn,c1,c2⟩
 refine .im tight es _ _ sz (fun i j=>(news[i * sz + j]?).getD (.bool true)) (Nat.le_refl _) (fun _=>rfl) hsz (fun i cs _=>⟨_,rfl⟩) (fun i j cs u ad hi hj ha=>?_) (fun i j cs u hi hj=>?_)
 ·obtain ⟨y,k1,k2,k3⟩:=key i j cs u hi hj
  simp only [Option.some.injEq] at ha
  subst ha
  refine ⟨H.new_not_ex,?_,?_⟩
  ·rw [qep9]
   simp [World.cell?,k1]
  ·simp [k1,k2]
 ·obtain ⟨y,k1,k2,k3⟩:=key i j cs u hi hj
  simp only [k1,Option.getD_some]
  exact k3.evo hev

theorem qkD9 (H : HRel W0 X h m w) {t : TypeId} {len : Nat} {ps : List (Nat × PV)} {qs : Array (Nat × Value)} {y : PV} {h1 : AHeap} (hp : PRelL (Ex X h m) h m w ps qs.toList) (ho : qcD9 P h t len ps = some (y,h1)) :
  ∃ u w',(Instr.buildSlice t len qs).run P w = .ok u w'∧Out W0 X h m w y h1 u w':=by
 unfold qcD9 at ho
 cases ht : qt9 P t with
 | none=>simp [ht] at ho
 | some e =>
  have hu:=qbr9 ht
  cases hz : zeroCells P e with
  | none=>simp [ht,hz] at ho
  | some zs =>
   obtain ⟨i,z,hi,hzz,hs1,hs2,hs3,hs4⟩:=qeh9 (E:=Ex X h m) (h:=h) (m:=m) (w:=w) hz
   simp only [ht,hz,sizeT,hi,Option.map_some] at ho
   split at ho
   ·rename_i hc
    obtain ⟨c1,c2,c3⟩:=hc
    cases hb : qcG9 i.size 0 ps with
    | none=>simp [hb] at ho
    | some es =>
     simp only [hb,Option.map_some,Option.some.injEq,Prod.mk.injEq] at ho
     obtain ⟨rfl,rfl⟩:=ho
     obtain ⟨b1,b2,b3⟩:=qqq9 hb
     have hlen : es.length = len:=by omega
     let zz : Array Value:=if len * i.size = 0 then #[] else z.cells
     let zeros : Array Value:=(Array.range (len * i.size)).map (zz[· % zz.size]!)
     have hzl : zeros.size = len * i.size:=by simp [zeros]
     have hz1 : ∀ v∈zeros.toList,v.oneCell' = true:=by
      intro v hv
      simp only [zeros,Array.toList_map,List.mem_map] at hv
      obtain ⟨k,hk,rfl⟩:=hv
      have hk' : k < len * i.size:=by simpa using hk
      have hne : len * i.size ≠ 0:=by omega
      simp only [zz,if_neg hne]
      have hlt : k % z.cells.size < z.cells.size:=Nat.mod_lt _ (by omega)
      rw [getElem!_pos z.cells _ hlt]
      exact hs3 _ (by simp)
     have h0:=b3 [] (List.replicate (es.length * i.size) .junk) (by simp) (by simp)
     simp only [List.nil_append] at h0
     obtain ⟨vs',f1,f2⟩:=qly9 (E:=Ex X h m) (h:=h) (m:=m) (w:=w) (vs:=zeros) hp ⟨by simp [hzl,hlen],fun j u y a b=>by
      have:=List.getElem?_eq_some_iff.1 a
      obtain ⟨_,rfl⟩:=this
      exact ⟨hz1 y (List.mem_of_getElem? b),by simp; exact .junk y⟩⟩ h0
     have ho:=qzp9 (e:=e) H true b2 f2
     refine ⟨_,_,?_,ho⟩
     have hnl : ¬ (16777216 < len * i.size):=by omega
     have hzv : (zeroValue e).run P w = .ok z w:=by simp [zeroValue,typeInfo,hi,hzz]
     simp only [zeros] at f1
     by_cases h0 : len * i.size = 0
     ·simp only [zz,if_pos h0] at f1
      simp [Instr.buildSlice,run_underlying hu,qbd9 hi,hnl,h0,newRow,hlen] at f1 ⊢
      simp [f1]
     ·simp only [zz,if_neg h0] at f1
      simp only [Instr.buildSlice,Sem.run_bind,run_underlying hu,Result.andThen_ok,qbd9 hi,if_neg h0,if_neg hnl]
      simp [hzv,f1,newRow,hlen,hnl]
   ·cases ho
end
end Go.Abs
namespace Go.Abs
open Go Go.RowKit

section
variable {W0 : World} {E : Nat→Prop} {X : Nat→Prop} {h h' : AHeap} {m : Places} {w w' : World} {P : Program}

theorem qkA9 {x : PV} {v : Value} (hv : VRel E h m w x v) : VRel E h m w (setl x) v:=by
 unfold setl
 split
 ·cases hv with
  | im t xs A c sz f hc ht hsz hA hc1 hr =>
   exact .d _ _ (.rd [] A c 1 (fun _ _=>undef) (by simp) (fun i cs a=>by simp at a) (fun i cs a=>by simp at a) (fun i j cs u ad a=>by simp at a) (fun i j cs u a=>by simp at a))
 ·exact hv
theorem qlC9 (H : HRel W0 X h m w) {t : TypeId} {l c y : PV} {vl vc : Value} {h1 : AHeap} (hl : VRel (Ex X h m) h m w l vl) (hcv : VRel (Ex X h m) h m w c vc) (ho : qgD9 P h t l c = some (y,h1)) :
  ∃ u w',(Instr.makeSlice t vl vc).run P w = .ok u w'∧Out W0 X h m w y h1 u w':=by
 unfold qgD9 at ho
 split at ho
 ·rename_i e n k ht hn hk
  have hu:=qbr9 ht
  obtain ⟨kl,rfl⟩:=hl.as_int hn
  obtain ⟨kc,rfl⟩:=hcv.as_int hk
  split at ho
  ·rename_i i zs hi hz
   obtain ⟨i',z,hi',hzz,hs1,hs2,hs3,hs4⟩:=qeh9 (E:=Ex X h m) (h:=h) (m:=m) (w:=w) hz
   rw [hi] at hi'
   cases hi'
   have hs2 : (zs.map setl).length = i.size:=by rw [List.length_map]; exact hs2
   have hs4 : ∀ (j : Nat) (u : PV) (y : Value),(zs.map setl)[j]? = some u→z.cells[j]? = some y→y.oneCell' = true∧VRel (Ex X h m) h m w u y:=by
    intro j u y a b
    rw [List.getElem?_map] at a
    cases hj : zs[j]? with
    | none=>simp [hj] at a
    | some u0 =>
     simp only [hj,Option.map_some,Option.some.injEq] at a
     subst a
     have:=hs4 j u0 y hj b
     exact ⟨this.1,qkA9 this.2⟩
   clear hz
   generalize zs.map setl = zs at ho hs2 hs4
   split at ho
   ·rename_i hc
    obtain ⟨rfl,c2,c3,c4,c5⟩:=hc
    simp only [Option.some.injEq,Prod.mk.injEq] at ho
    obtain ⟨rfl,rfl⟩:=ho
    have hbig : n≤140737488355328:=by
     have : (1 : Int) * n≤(i.bytes : Int) * n:=Int.mul_le_mul_of_nonneg_right (by omega) c2
     omega
    have hr:=run_make (P:=P) w t e i z hu hi hzz kl kc n n c2 (Int.le_refl _) (by omega) (by omega)
    have hsz : ∀ (j : Nat) (cs : List PV),(List.replicate n.toNat zs)[j]? = some cs→cs.length = i.size:=by
     intro j cs hj
     have:=List.mem_of_getElem? hj
     rw [List.mem_replicate] at this
     rw [this.2]; exact hs2
    have hcr : CRel (Ex X h m) h m w (List.replicate n.toNat zs).flatten (madeCells z.cells (n.toNat * i.size)).toList:=by
     have hfl:=qdZ9 hsz
     refine ⟨by rw [hfl]; simp [size_madeCells],fun j u y a b=>?_⟩
     have hj : j < n.toNat * i.size:=by
      have:=(List.getElem?_eq_some_iff.1 a).1
      rw [hfl] at this
      simpa using this
     have hm:=Nat.mod_lt j c4
     have hd : j / i.size * i.size + j % i.size = j:=by rw [Nat.mul_comm]; exact Nat.div_add_mod j i.size
     have hg:=qfz9 hsz (j / i.size) (j % i.size) hm
     rw [hd,a,List.getElem?_replicate] at hg
     have hlt : j / i.size < n.toNat:=by
      rw [Nat.div_lt_iff_lt_mul c4]; exact hj
     rw [if_pos hlt,Option.bind_some] at hg
     have hb : z.cells[j % i.size]? = some y:=by
      have hlt2 : j % z.cells.size < z.cells.size:=by rw [hs1]; exact hm
      simp only [madeCells,Array.toList_map,List.getElem?_map,Array.toList_range,List.getElem?_range hj,Option.map_some,Option.some.injEq] at b
      rw [getElem!_pos z.cells _ hlt2] at b
      rw [← b,← hs1,Array.getElem?_eq_getElem hlt2]
     exact hs4 _ u y hg.symm hb
    have hh:=qjN9 (w':=w.alloc (.cells (madeCells z.cells (n.toNat * i.size)) e)) (rest:=[]) (e:=e) (es:=List.replicate n.toNat zs) (sz:=i.size) H (by simp only [World.alloc,List.append_nil,Array.toArray_toList]) rfl rfl (Outs.push rfl (by rintro _ _ _ ⟨⟩; rfl) rfl) c4 hsz hcr
    refine ⟨_,_,hr,_,?_,hh.2,hh.1⟩
    refine .ref _ _ _ _ _ ⟨_,n.toNat,rfl,Nat.le_refl _,fun _=>⟨_,rfl⟩,false,0,i.size,List.replicate n.toNat zs,by simp [qfK9],Nat.le_refl _,fun _=>⟨by simp,?_⟩⟩
    simp only [upd_same]
    refine ⟨madeCells z.cells (n.toNat * i.size),e,by simp only [World.alloc,Array.getElem?_push_size],fun _=>by simp,by simp [size_madeCells]⟩
   ·cases ho
  ·cases ho
 ·cases ho

theorem qlg9 (a b : ByteArray) : (a == b) = true↔a = b:=by
 obtain ⟨x⟩:=a
 obtain ⟨y⟩:=b
 show (x == y) = true↔_
 simp
theorem qrO9 {k k' : Value} (h : keyEq k k' = some true) : k' = k:=by
 cases k <;> cases k' <;> simp [keyEq] at h
 ·rename_i a b c d
  obtain ⟨rfl,rfl⟩:=h
  rfl
 ·rw [(qlg9 _ _).1 h]
theorem qoM9 {d : TypeDesc} {k : Value} (hk : keyD d k = true) (n : Nat) : Instr.sameBits n k k = true:=by
 cases d <;> cases k <;> simp [keyD] at hk <;> cases n <;> simp [Instr.sameBits,qlg9]
theorem qiB9 {r : Nat} {o o' : Obj} (hg : w.heap[r]? = some o) (hc : ∀ a b c,o ≠ .cells a b c) : (setObj r o').run P w = .ok () { w with heap:=w.heap.setIfInBounds r o' }:=by
 cases o <;> first | exact absurd rfl (hc _ _ _) | simp only [setObj,Sem.run,hg]
theorem qkE9 {d : TypeDesc} {k : Value} (hk : keyD d k = true) : (Instr.keyThatStays k k).run P w = .ok k w:=by
 unfold Instr.keyThatStays
 rw [if_pos (qoM9 hk _)]
 rfl

theorem qkY9 (H : HRel W0 X h m w) {t : TypeId} {x k v y : PV} {vx vk vv : Value} {h1 : AHeap} (hv : VRel (Ex X h m) h m w x vx) (hk : VRel (Ex X h m) h m w k vk) (hvv : VRel (Ex X h m) h m w v vv) (ho : qgC9 P h t x k v = some (y,h1)) :
  y = .junk∧∃ w',(Instr.mapUpdate t vx vk vv).run P w = .ok () w'∧∀ u,Out W0 X h m w y h1 u w':=by
 unfold qgC9 at ho
 split at ho
 ·rename_i kt et id kv hu hkv
  obtain rfl:=hk.to_v hkv
  split at ho
  ·rename_i es hid
   split at ho
   ·rename_i hkt
    cases hv with
    | mp id es' g bo ho' hm =>
     rw [hid] at ho'
     injection ho' with ho'
     injection ho' with ho'
     subst ho'
     have H1:=H.obj id _ hid
     rw [hm] at H1
     obtain ⟨ents,clock,a1,a2,a3,a4⟩:=H1
     have hgo:=qhf9 (P:=P) a1 (by simp)
     have hgl : g < w.heap.size:=H.lt id _ g bo hid hm
     obtain ⟨d,hd,hkd⟩:=qgx9 hkt
     have hck:=fun b=>qja9 (P:=P) (w:=w) (b:=b) hkt
     have hfind:=fun {r} (hr : lookP vk es = some r)=>qoj9 (E:=Ex X h m) (h:=h) (m:=m) (w:=w) hd hkt (ents:=ents.toList) (by simpa using a2) (fun i k u x p q=>a3 i k u x p (by simpa using q)) hr 0
     have turn : ∀ (es' : List (Value × PV)) (ents' : Array MapEntry) (clock' : Nat),ents'.size = es'.length→(∀ (i : Nat) (k : Value) (u : PV) (x : MapEntry),es'[i]? = some (k,u)→ents'[i]? = some x→x.key = k∧VRel (Ex X h m) h m w u x.val)→StampE ents' clock' →
       ∀ u,Out W0 X h m w .junk (h.set id (.map es')) u { w with heap:=w.heap.setIfInBounds g (.map ents' clock') }:=by
      intro es' ents' clock' hs hr hst u
      have hh:=qeq9 (w':={ w with heap:=w.heap.setIfInBounds g (.map ents' clock') }) H hid rfl (.map es') (m id) rfl rfl (Outs.turn a1 (o':=.map ents' clock') (by simp [hgl]) (fun b hb=>by simp [Ne.symm hb]) (by rintro _ _ _ ⟨⟩) (by rintro _ _ _ ⟨⟩) rfl) (by simp) (fun b hb hne=>by
       have:=hne g bo hm
       simp [Array.getElem?_setIfInBounds,Ne.symm this]) rfl (fun g' bo' hp=>by
       rw [hm] at hp
       cases hp
       exact ⟨by simpa using hgl,.inl ⟨bo,hm⟩⟩) (fun hev=>by
       have hk2 : ∀ (i : Nat) (k : Value) (u : PV) (x : MapEntry),es'[i]? = some (k,u)→ents'[i]? = some x→x.key = k∧VRel _ _ _ _ u x.val:=fun i k u x p q=>⟨(hr i k u x p q).1,(hr i k u x p q).2.evo hev⟩
       clear hev
       rw [hm] at hk2 ⊢
       exact ⟨ents',clock',by simp [hgl],hs,hk2,hst⟩)
      exact ⟨_,.junk _,hh.2,hh.1⟩
     split at ho
     ·cases ho
     ·rename_i hlk
      simp only [Option.some.injEq,Prod.mk.injEq] at ho
      obtain ⟨rfl,rfl⟩:=ho
      have hf:=hfind hlk
      refine ⟨rfl,_,?_,turn (es++[(vk,v)]) (ents.push { key:=vk,val:=vv,born:=clock }) (clock + 1) (by simp [a2]) (fun i k u x p q=>?_) (qqm9 a4 rfl)⟩
      ·simp [Instr.mapUpdate,run_underlying hu,hgo,hck,Instr.findKey,run_underlying hd,hf,qiB9 a1 (by simp)]
      ·rcases Nat.lt_trichotomy i es.length with hlt | rfl | hgt
       ·rw [List.getElem?_append_left hlt] at p
        rw [Array.getElem?_push_lt (by omega)] at q
        exact a3 i k u x p (by rw [Array.getElem?_eq_getElem (by omega)]; exact q)
       ·simp at p
        rw [← a2] at q
        simp at q
        obtain ⟨rfl,rfl⟩:=p
        subst q
        exact ⟨rfl,hvv⟩
       ·rw [List.getElem?_eq_none (by simp; omega)] at p
        cases p
     ·rename_i i u hlk
      simp only [Option.some.injEq,Prod.mk.injEq] at ho
      obtain ⟨rfl,rfl⟩:=ho
      obtain ⟨x,b1,b2,b3,b4,b5⟩:=hfind hlk
      have hxk:=qrO9 b3
      have b1' : ents[i]? = some x:=by simpa using b1
      refine ⟨rfl,_,?_,turn (es.set i (vk,v)) (ents.modify i fun e=>{ e with key:=vk,val:=vv }) clock (by simp [a2]) (fun j k u' x' p q=>?_) (qng9 a4 (fun _=>rfl))⟩
      ·have hks:=qkE9 (P:=P) (w:=w) hkd
       simp [Instr.mapUpdate,run_underlying hu,hgo,hck,Instr.findKey,run_underlying hd,b4,b1',hxk,hks,qiB9 a1 (by simp)]
      ·by_cases hij : j = i
       ·subst hij
        rw [Array.getElem?_modify,if_pos rfl,b1'] at q
        have hlt : j < es.length:=(List.getElem?_eq_some_iff.1 b2).1
        rw [List.getElem?_set_self hlt] at p
        simp at p q
        obtain ⟨rfl,rfl⟩:=p
        subst q
        exact ⟨rfl,hvv⟩
       ·rw [Array.getElem?_modify,if_neg (Ne.symm hij)] at q
        rw [List.getElem?_set_ne (Ne.symm hij)] at p
        exact a3 j k u' x' p q
   ·cases ho
  ·cases ho
 ·cases ho
end
end Go.Abs
namespace Go.Abs
open Go Go.RowKit

section
variable {W0 : World} {E : Nat→Prop} {X : Nat→Prop} {h h' : AHeap} {m : Places} {w w' : World} {P : Program}

theorem qmj9 {α : Type} {l ys : List α} {o : Nat} (hle : o + ys.length≤l.length) (k : Nat) : (l.take o++ys++l.drop (o + ys.length))[k]? = if k < o then l[k]? else if k < o + ys.length then ys[k - o]? else l[k]?:=by
 have e : (l.take o).length = o:=by simp; omega
 rcases Nat.lt_or_ge k o with a | a
 ·rw [if_pos a,List.append_assoc,List.getElem?_append_left (by omega),List.getElem?_take,if_pos a]
 ·rw [if_neg (by omega)]
  rcases Nat.lt_or_ge k (o + ys.length) with b | b
  ·rw [if_pos b,List.append_assoc,List.getElem?_append_right (by omega),List.getElem?_append_left (by omega),e]
  ·rw [if_neg (by omega),List.getElem?_append_right (by simp; omega),List.getElem?_drop]
   congr 1
   simp
   omega

theorem qqu9 (H : HRel W0 X h m w) {t : TypeId} {a x : PV} {va vx : Value} {h1 : AHeap} (hv : VRel (Ex X h m) h m w a va) (hx : VRel (Ex X h m) h m w x vx) (ho : qls9 P h t a x = some h1) :
  ∃ w',(Instr.storeAt t va vx).run P w = .ok () w'∧∀ u,Out W0 X h m w .junk h1 u w':=by
 unfold qls9 at ho
 split at ho
 ·rename_i id ver idx off
  split at ho
  ·rename_i fz ver' sz es n hid hn
   split at ho
   ·rename_i cs hcs
    split at ho
    ·rename_i hc
     obtain ⟨rfl,rfl,hok,hlen,hfit⟩:=hc
     simp only [Option.some.injEq] at ho
     subst ho
     obtain ⟨i,hi,rfl⟩:=qcu9 hn
     cases hv with
     | ptr _ _ _ _ _ hp =>
      obtain ⟨⟨ad,rfl⟩,fz1,ver1,sz1,es1,ho1,hle,hcur⟩:=hp
      rw [hid] at ho1
      simp only [Option.some.injEq,AObj.row.injEq] at ho1
      obtain ⟨rfl,rfl,rfl,rfl⟩:=ho1
      obtain ⟨c1,c2⟩:=hcur rfl
      have hor:=H.obj id _ hid
      cases hm : m id with
      | none=>rw [hm] at c2; exact c2.elim
      | some p =>
       obtain ⟨g,bo⟩:=p
       rw [hm] at hor c2
       simp only [Value.pointer.injEq,Option.some.injEq] at c2
       subst c2
       obtain ⟨s0,cur,e,r1,r2,r3,r4⟩:=hor
       have hcx:=CRel.of_cells hx hok
       have hvl : vx.cells.toList.length = i.size:=by rw [hcx.1,hlen]
       have hsz:=r3 idx cs hcs
       have hpos : (bo + idx) * sz + sz≤(bo + es.length) * sz:=by rw [← Nat.succ_mul]; exact Nat.mul_le_mul_right _ (by omega)
       have hgl : g < w.heap.size:=H.lt id _ g bo hid hm
       let cur' : Array Value:=(cur.toList.take ((bo + idx) * sz + off)++vx.cells.toList++cur.toList.drop ((bo + idx) * sz + off + vx.cells.toList.length)).toArray
       have hrun:=run_storeCells_at P g ((bo + idx) * sz + off) e vx.cells.toList 0 cur w r1 (by rw [hvl]; omega) hcx.one
       simp only [Nat.add_zero] at hrun
       have hsz' : cur'.size = cur.size:=by simp only [cur',List.size_toArray,List.length_append,List.length_take,List.length_drop,hvl,Array.length_toList]; omega
       have hg' : (w.setRow g cur').heap[g]? = some (.cells cur' e (0,0)):=setRow_heap w g cur cur' e (0,0) r1
       have hh:=qeq9 (w':=w.setRow g cur') H hid rfl (.row false ver sz (es.set idx (splice cs off (qU9 x)))) (m id) rfl rfl (Outs.turn r1 hg' (fun b hb=>setRow_other w g b cur' hb) (by rintro _ _ _ ⟨⟩; rfl) (by rintro _ _ _ ⟨⟩; rfl) rfl) (by simp) (fun b hb hne=>setRow_other w g b cur' (hne g bo hm))
        ⟨Nat.le_refl _,fun z=>z,rfl,fun _=>⟨by simp,rfl,fun g1 bo1 cur1 e1 hp1 hg1=>by
         rw [hm] at hp1
         cases hp1
         rw [r1] at hg1
         cases hg1
         exact ⟨cur',hg',hsz'⟩⟩⟩
        (fun g1 bo1 hp1=>by
         rw [hm] at hp1
         cases hp1
         exact ⟨by simpa using hgl,.inl ⟨bo,hm⟩⟩)
        (fun hev=>by
         have hcx' : ∀ (j : Nat) (u : PV) (y : Value),(qU9 x)[j]? = some u→vx.cells.toList[j]? = some y→y.oneCell' = true∧VRel _ _ _ _ u y:=fun j u y p q=>⟨(hcx.2 j u y p q).1,(hcx.2 j u y p q).2.evo hev⟩
         have r4' : ∀ (i j : Nat) (cs : List PV) (u : PV),es[i]? = some cs→cs[j]? = some u→∃ x,cur[(bo + i) * sz + j]? = some x∧x.oneCell' = true∧VRel _ _ _ _ u x:=fun i j cs u p q=>by
          obtain ⟨x,q1,q2,q3⟩:=r4 i j cs u p q
          exact ⟨x,q1,q2,q3.evo hev⟩
         clear hev
         rw [hm] at hcx' r4' ⊢
         have hspl : (splice cs off (qU9 x)).length = sz:=by unfold splice; simp; omega
         have hsz2 : ∀ (i : Nat) (ds : List PV),(es.set idx (splice cs off (qU9 x)))[i]? = some ds→ds.length = sz:=by
          intro i ds hd
          by_cases hii : i = idx
          ·subst hii
           rw [List.getElem?_set_self c1] at hd
           cases hd
           exact hspl
          ·rw [List.getElem?_set_ne (Ne.symm hii)] at hd
           exact r3 i ds hd
         refine ⟨s0,cur',e,hg',by rw [hsz']; simpa using r2,hsz2,fun i' j ds u hd hj=>?_⟩
         have hjl : j < sz:=by rw [← hsz2 i' ds hd]; exact (List.getElem?_eq_some_iff.1 hj).1
         have hget:=fun k=>qmj9 (l:=cur.toList) (ys:=vx.cells.toList) (o:=(bo + idx) * sz + off) (by rw [hvl]; simp; omega) k
         have hcget : ∀ k,cur'[k]? = if k < (bo + idx) * sz + off then cur[k]? else if k < (bo + idx) * sz + off + i.size then vx.cells.toList[k - ((bo + idx) * sz + off)]? else cur[k]?:=by
          intro k
          have:=hget k
          rw [hvl] at this
          simp only [cur',hvl,List.getElem?_toArray,this,Array.getElem?_toList]
         rw [hcget]
         by_cases hii : i' = idx
         ·subst hii
          rw [List.getElem?_set_self c1] at hd
          cases hd
          have hs:=qmj9 (l:=cs) (ys:=qU9 x) (o:=off) (by omega) j
          unfold splice at hj
          rw [hs] at hj
          rcases Nat.lt_or_ge j off with a | a
          ·rw [if_pos a] at hj
           rw [if_pos (by omega)]
           exact r4' i' j cs u hcs hj
          ·rw [if_neg (by omega)] at hj ⊢
           rw [hlen] at hj
           rcases Nat.lt_or_ge j (off + i.size) with b | b
           ·rw [if_pos b] at hj
            rw [if_pos (by omega)]
            have ej : (bo + i') * sz + j - ((bo + i') * sz + off) = j - off:=by omega
            rw [ej]
            have hlt : j - off < vx.cells.toList.length:=by rw [hvl]; omega
            obtain ⟨q1,q2⟩:=hcx' (j - off) u _ hj (List.getElem?_eq_getElem hlt)
            exact ⟨_,List.getElem?_eq_getElem hlt,q1,q2⟩
           ·rw [if_neg (by omega)] at hj ⊢
            exact r4' i' j cs u hcs hj
         ·rw [List.getElem?_set_ne (Ne.symm hii)] at hd
          rcases Nat.lt_or_ge i' idx with a | a
          ·have : (bo + i') * sz + sz≤(bo + idx) * sz:=by rw [← Nat.succ_mul]; exact Nat.mul_le_mul_right _ (by omega)
           rw [if_pos (by omega)]
           exact r4' i' j ds u hd hj
          ·have : (bo + idx) * sz + sz≤(bo + i') * sz:=by rw [← Nat.succ_mul]; exact Nat.mul_le_mul_right _ (by omega)
           rw [if_neg (by omega),if_neg (by omega)]
           exact r4' i' j ds u hd hj)
       refine ⟨_,?_,fun u=>⟨_,.junk u,hh.2,hh.1⟩⟩
       have hne : vx.cells.size = i.size:=by simpa using hvl
       simp only [Instr.storeAt,Instr.sureAddr,storeVar,Sem.run_bind,Sem.run_pure,Result.andThen_ok,qbd9 hi,hne,ne_eq,not_true_eq_false,if_false]
       exact hrun
    ·cases ho
   ·cases ho
  ·cases ho
 ·cases ho
end
end Go.Abs

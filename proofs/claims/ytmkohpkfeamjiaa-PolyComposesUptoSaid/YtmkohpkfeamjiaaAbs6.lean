import Derived.Test.YtmkohpkfeamjiaaAbs4
import Derived.ChangeKeysEq
set_option maxHeartbeats 400000
set_option linter.unusedVariables false
set_option linter.unusedSimpArgs false
set_option linter.unusedSectionVars false
namespace Go.Abs
open Go Go.RowKit

theorem qfE9 (a : Addr) (i j : Nat) : (a.add i).add j = a.add (i + j):=by
 unfold Addr.add
 by_cases hi : i = 0 <;> by_cases hj : j = 0 <;> simp [hi,hj,Nat.add_assoc]
theorem qep9 (g o n : Nat) : (⟨g,o,none⟩ : Addr).add n = ⟨g,o + n,none⟩:=by unfold Addr.add; split <;> simp_all
theorem add_zero (a : Addr) : a.add 0 = a:=by simp [Addr.add]

section
variable {W0 : World} {E : Nat→Prop} {X : Nat→Prop} {h h' : AHeap} {m : Places} {w : World} {P : Program}

theorem qis9 (v : Value) : VRel E h m w (qfh9 v) v:=by
 unfold qfh9
 split
 ·exact .im true [] none 0 0 (fun _ _=>undef) (by simp) (by simp) (by simp) (by simp) (by simp) (by simp)
 ·exact .d _ _ (.v v)
theorem qkq9 (v : Value) : VRel E h m w (qeX9 v) v:=by
 unfold qeX9
 split
 ·rename_i cs
  split
  ·rename_i hone
   have : cs = cs.toList.toArray:=by simp
   rw [this]
   refine .ag _ _ (by simp) (fun j x hx=>?_) (fun j u x hu hx=>?_)
   ·exact List.all_eq_true.1 hone x (by simpa using List.mem_of_getElem? hx)
   ·simp only [List.getElem?_map] at hu
    rw [show cs.toList.toArray.toList = cs.toList by simp] at hu
    rw [hx] at hu
    simp only [Option.map_some,Option.some.injEq] at hu
    subst hu
    exact qis9 x
  ·exact .junk _
 ·exact qis9 v
theorem qnd9 {t : TypeId} {x : PV} (hz : zeroP P t = some x) : ∃ v,(∀ w' : World,(zeroValue t).run P w' = .ok v w')∧VRel E h m w x v:=by
 unfold zeroP at hz
 cases hi : P.info? t with
 | none=>simp [hi] at hz
 | some i =>
  simp only [hi] at hz
  cases hzz : i.zero with
  | none=>simp [hzz] at hz
  | some z =>
   simp only [hzz,Option.map_some,Option.some.injEq] at hz
   subst hz
   exact ⟨z,fun w'=>by simp [zeroValue,typeInfo,hi,hzz],qkq9 z⟩
theorem qeh9 {t : TypeId} {cs : List PV} (hz : zeroCells P t = some cs) : ∃ i z,P.info? t = some i∧i.zero = some z∧z.cells.size = i.size∧cs.length = i.size∧(∀ x∈z.cells.toList,x.oneCell' = true) ∧
  ∀ (j : Nat) (u : PV) (y : Value),cs[j]? = some u→z.cells[j]? = some y→y.oneCell' = true∧VRel E h m w u y:=by
 unfold zeroCells at hz
 cases hi : P.info? t with
 | none=>simp [hi] at hz
 | some i =>
  simp only [hi] at hz
  cases hzz : i.zero with
  | none=>simp [hzz] at hz
  | some z =>
   simp only [hzz] at hz
   split at hz
   ·rename_i hc
    simp only [Option.some.injEq] at hz
    subst hz
    refine ⟨i,z,rfl,hzz,hc.1,by simp [hc.1],fun x hx=>List.all_eq_true.1 hc.2 x hx,fun j u y hu hy=>?_⟩
    rw [List.getElem?_map] at hu
    rw [show z.cells.toList[j]? = z.cells[j]? by simp,hy] at hu
    simp only [Option.map_some,Option.some.injEq] at hu
    subst hu
    exact ⟨List.all_eq_true.1 hc.2 y (List.mem_of_getElem? (by simpa using hy)),qis9 y⟩
   ·cases hz

def At (E : Nat→Prop) (h : AHeap) (m : Places) (w : World) (ad : Addr) (cs : List PV) : Prop :=
 ∃ f : Nat→Value,∀ (j : Nat) (u : PV),cs[j]? = some u→w.cell? (ad.add j) = some (f j)∧(f j).oneCell' = true∧VRel E h m w u (f j)

theorem qgX9 {id ver : Nat} {p : Bool × Nat × List (List PV)} (hr : rowAt h id ver = some p) : h[id]? = some (.row p.1 ver p.2.1 p.2.2):=by
 unfold rowAt at hr
 split at hr
 ·rename_i fz ver' sz es ho
  split at hr
  ·rename_i hv
   simp only [Option.some.injEq] at hr
   subst hr; subst hv
   exact ho
  ·cases hr
 ·cases hr

theorem HRel.elem (H : HRel W0 X h m w) {id : Nat} {fz : Bool} {ver sz : Nat} {es : List (List PV)} (ho : h[id]? = some (.row fz ver sz es)) {idx : Nat} {cs : List PV} (hc : es[idx]? = some cs) :
  ∃ g bo cur e,m id = some (g,bo)∧0 < sz∧w.heap[g]? = some (.cells cur e (0,0))∧(bo + es.length) * sz≤cur.size∧cs.length = sz ∧
   ∀ (j : Nat) (u : PV),cs[j]? = some u→∃ x,cur[(bo + idx) * sz + j]? = some x∧x.oneCell' = true∧VRel (Ex X h m) h m w u x:=by
 have H1:=H.obj id _ ho
 cases hm : m id with
 | none =>
  rw [hm] at H1
  have : es = []:=H1
  subst this
  simp at hc
 | some p =>
  obtain ⟨g,bo⟩:=p
  rw [hm] at H1
  obtain ⟨h0,cur,e,h1,h2,h3,h4⟩:=H1
  exact ⟨g,bo,cur,e,rfl,h0,h1,h2,h3 idx cs hc,fun j u hu=>h4 idx j cs u hc hu⟩

theorem At.of_fun {ad : Addr} {cs : List PV} (hx : ∀ (j : Nat) (u : PV),cs[j]? = some u→∃ x,w.cell? (ad.add j) = some x∧x.oneCell' = true∧VRel E h m w u x) : At E h m w ad cs:=by
 classical
 refine ⟨fun j=>if hj : ∃ x,w.cell? (ad.add j) = some x then Classical.choose hj else undef,fun j u hu=>?_⟩
 obtain ⟨x,h1,h2,h3⟩:=hx j u hu
 have hj : ∃ x,w.cell? (ad.add j) = some x:=⟨x,h1⟩
 have he : Classical.choose hj = x:=by
  have:=Classical.choose_spec hj
  exact Option.some.inj (this.symm.trans h1)
 simp only [dif_pos hj,he]
 exact ⟨h1,h2,h3⟩

theorem qkm9 (H : HRel W0 X h m w) {a : PV} {va : Value} {cs : List PV} (hv : VRel (Ex X h m) h m w a va) (hc : qbs9 h a = some cs) : ∃ ad,va = .pointer (some ad)∧At (Ex X h m) h m w ad cs:=by
 cases hv with
 | d x v hd =>
  cases hd with
  | bx cs ad f hE hr =>
   simp only [qbs9,Option.some.injEq] at hc
   subst hc
   refine ⟨ad,rfl,f,fun j u hu=>?_⟩
   rw [List.getElem?_map] at hu
   cases hcc : cs[j]? with
   | none=>simp [hcc] at hu
   | some c =>
    simp only [hcc,Option.map_some,Option.some.injEq] at hu
    subst hu
    obtain ⟨a1,a2,a3⟩:=hE j c hcc
    exact ⟨a2,a3,.d _ _ (hr j c hcc)⟩
  | _=>simp [qbs9] at hc
 | bx cs ad f hE hr =>
  simp only [qbs9,Option.some.injEq] at hc
  subst hc
  refine ⟨ad,rfl,f,fun j u hu=>?_⟩
  obtain ⟨a1,a2,a3⟩:=hE j u hu
  exact ⟨a2,a3,hr j u hu⟩
 | ptr id ver idx off v hp =>
  simp only [qbs9] at hc
  cases hr : rowAt h id ver with
  | none=>simp [hr] at hc
  | some p =>
   obtain ⟨fz,sz,es⟩:=p
   have ho:=qgX9 hr
   simp only [hr] at hc
   cases hcs : es[idx]? with
   | none=>simp [hcs] at hc
   | some cs0 =>
    simp only [hcs,Option.bind_some] at hc
    split at hc
    ·rename_i hle
     simp only [Option.some.injEq] at hc
     subst hc
     obtain ⟨g,bo,cur,e,hm,h0,h1,h2,h3,h4⟩:=H.elem ho hcs
     obtain ⟨_,fz',ver',sz',es',ho',hle',hcur⟩:=hp
     rw [ho] at ho'
     injection ho' with ho'
     injection ho' with q1 q2 q3 q4
     subst q2; subst q3
     obtain ⟨_,c2⟩:=hcur rfl
     rw [hm] at c2
     subst c2
     refine ⟨_,rfl,At.of_fun fun j u hu=>?_⟩
     rw [List.getElem?_drop] at hu
     obtain ⟨x,k1,k2,k3⟩:=h4 (off + j) u hu
     refine ⟨x,?_,k2,k3⟩
     rw [qep9]
     simp only [World.cell?,h1]
     simpa [Nat.add_assoc] using k1
    ·cases hc
 | _=>simp [qbs9] at hc

theorem qmv9 {t : TypeId} {d : TypeDesc} (hd : P.underlying t = some d) (w : World) : (isAgg t).run P w = .ok (qfp9 d) w:=by
 simp only [isAgg,Sem.run_bind,run_underlying hd,Result.andThen_ok]
 cases d <;> rfl
theorem qbd9 {t : TypeId} {i : TypeInfo} (hi : P.info? t = some i) (w : World) : (sizeOf t).run P w = .ok i.size w:=by
 simp [sizeOf,typeInfo,hi]

theorem qtY9 {t : TypeId} {cs : List PV} {x : PV} {ad : Addr} (ha : At E h m w ad cs) (hp : partP P t cs 0 = some x) : ∃ v,(loadVar t ad).run P w = .ok v w∧VRel E h m w x v:=by
 obtain ⟨f,hf⟩:=ha
 unfold partP at hp
 cases hd : P.underlying t with
 | none=>simp [hd] at hp
 | some d =>
  cases hi : P.info? t with
  | none=>simp [hd,hi] at hp
  | some i =>
   simp only [hd,hi] at hp
   unfold loadVar
   simp only [Sem.run_bind,qmv9 hd,Result.andThen_ok]
   by_cases hg : qfp9 d = true
   ·simp only [hg,if_true,Sem.run_bind,qbd9 hi,Result.andThen_ok] at hp ⊢
    split at hp
    ·rename_i hle
     simp only [Option.some.injEq] at hp
     subst hp
     have hc : ∀ j,j < i.size→w.cell? (ad.add j) = some (f j):=fun j hj=>(hf j (cs[j]'(by omega)) (List.getElem?_eq_getElem _)).1
     rw [run_loadCells w ad i.size f hc]
     refine ⟨_,rfl,.ag _ _ ?_ (fun j x hx=>?_) (fun j u x hu hx=>?_)⟩
     ·simp; omega
     ·rw [List.getElem?_map] at hx
      cases hrr : (List.range i.size)[j]? with
      | none=>simp [hrr] at hx
      | some q =>
       obtain ⟨q1,q2⟩:=List.getElem?_eq_some_iff.1 hrr
       simp at q1 q2
       subst q2
       simp only [hrr,Option.map_some,Option.some.injEq] at hx
       subst hx
       exact (hf _ (cs[j]'(by omega)) (List.getElem?_eq_getElem _)).2.1
     ·rw [List.getElem?_map] at hx
      cases hrr : (List.range i.size)[j]? with
      | none=>simp [hrr] at hx
      | some q =>
       obtain ⟨q1,q2⟩:=List.getElem?_eq_some_iff.1 hrr
       simp at q1 q2
       subst q2
       simp only [hrr,Option.map_some,Option.some.injEq] at hx
       subst hx
       rw [List.getElem?_take] at hu
       simp only [q1,if_true,List.drop_zero] at hu
       exact (hf _ u hu).2.2
    ·cases hp
   ·have hg' : qfp9 d = false:=by simpa using hg
    simp only [hg',Bool.false_eq_true,if_false] at hp ⊢
    obtain ⟨k1,k2,k3⟩:=hf 0 x hp
    rw [add_zero] at k1
    rw [run_load,k1]
    exact ⟨f 0,rfl,k3⟩

theorem qlt9 (H : HRel W0 X h m w) {t : TypeId} {a x : PV} {va : Value} (hv : VRel (Ex X h m) h m w a va) (hl : loadP P h t a = some x) : ∃ v,(Instr.loadAt t va).run P w = .ok v w∧VRel (Ex X h m) h m w x v:=by
 unfold loadP at hl
 cases hc : qbs9 h a with
 | none=>simp [hc] at hl
 | some cs =>
  simp only [hc,Option.bind_some] at hl
  obtain ⟨ad,rfl,ha⟩:=qkm9 H hv hc
  obtain ⟨v,h1,h2⟩:=qtY9 ha hl
  exact ⟨v,by simp [Instr.loadAt,Instr.sureAddr,h1],h2⟩

theorem qoh9 {t : TypeId} {cs : List PV} {vs : Array Value} {x : PV} {off : Nat} (hl : vs.size = cs.length) (hr : ∀ (j : Nat) (u : PV) (y : Value),cs[j]? = some u→vs[j]? = some y→y.oneCell' = true∧VRel E h m w u y)
  (hp : partP P t cs off = some x) : ∃ v,(part t vs off).run P w = .ok v w∧VRel E h m w x v:=by
 unfold partP at hp
 cases hd : P.underlying t with
 | none=>simp [hd] at hp
 | some d =>
  cases hi : P.info? t with
  | none=>simp [hd,hi] at hp
  | some i =>
   simp only [hd,hi] at hp
   unfold part
   simp only [Sem.run_bind,qmv9 hd,Result.andThen_ok]
   by_cases hg : qfp9 d = true
   ·simp only [hg,if_true,Sem.run_bind,qbd9 hi,Result.andThen_ok] at hp ⊢
    split at hp
    ·rename_i hle
     simp only [Option.some.injEq] at hp
     subst hp
     refine ⟨_,rfl,?_⟩
     have e : vs.extract off (off + i.size) = ((vs.toList.drop off).take i.size).toArray:=by
      apply Array.ext'
      simp [Array.toList_extract,List.extract_eq_take_drop]
     rw [e]
     refine .ag _ _ ?_ (fun j x hx=>?_) (fun j u x hu hx=>?_)
     ·simp [hl]
     ·rw [List.getElem?_take] at hx
      split at hx
      ·rw [List.getElem?_drop] at hx
       have hx' : vs[off + j]? = some x:=by simpa using hx
       have hlt : off + j < cs.length:=by rw [← hl]; exact (Array.getElem?_eq_some_iff.1 hx').1
       exact (hr _ _ x (List.getElem?_eq_getElem hlt) hx').1
      ·cases hx
     ·rw [List.getElem?_take] at hx hu
      split at hx
      ·rw [List.getElem?_drop] at hx hu
       simp only [*,if_true] at hu
       exact (hr _ u x hu (by simpa using hx)).2
      ·cases hx
    ·cases hp
   ·have hg' : qfp9 d = false:=by simpa using hg
    simp only [hg',Bool.false_eq_true,if_false] at hp ⊢
    have hlt : off < cs.length:=(List.getElem?_eq_some_iff.1 hp).1
    have hvx : vs[off]? = some (vs[off]'(by omega)):=Array.getElem?_eq_getElem (by omega)
    rw [hvx]
    exact ⟨_,rfl,(hr off x _ hp hvx).2⟩

theorem qkf9 {x : PV} {v : Value} {cs : List PV} (hv : VRel E h m w x v) (hc : qdR9 x = some cs) : ∃ vs : Array Value,v = .agg vs∧vs.size = cs.length ∧
  ∀ (j : Nat) (u : PV) (y : Value),cs[j]? = some u→vs[j]? = some y→y.oneCell' = true∧VRel E h m w u y:=by
 cases hv with
 | d x v hd =>
  cases hd with
  | ag cs vs hl h1 hr =>
   simp only [qdR9,Option.some.injEq] at hc
   subst hc
   refine ⟨vs.toArray,rfl,by simpa using hl,fun j u y hu hy=>?_⟩
   have hy' : vs[j]? = some y:=by simpa using hy
   exact ⟨h1 j y hy',VRel.of_d_cells hr j u y hu hy'⟩
  | _=>simp [qdR9] at hc
 | ag cs vs hl h1 hr =>
  simp only [qdR9,Option.some.injEq] at hc
  subst hc
  refine ⟨vs.toArray,rfl,by simpa using hl,fun j u y hu hy=>?_⟩
  have hy' : vs[j]? = some y:=by simpa using hy
  exact ⟨h1 j y hy',hr j u y hu hy'⟩
 | _=>simp [qdR9] at hc

theorem qiO9 {t : TypeId} {fs : Array Field} (hf : qdb9 P t = some fs) : P.underlying t = some (.struct fs):=by
 unfold qdb9 at hf
 split at hf
 ·rename_i fs' hu
  simp only [Option.some.injEq] at hf
  subst hf
  exact hu
 ·cases hf
theorem qbr9 {t e : TypeId} (hf : qt9 P t = some e) : P.underlying t = some (.slice e):=by
 unfold qt9 at hf
 split at hf
 ·rename_i fs' hu
  simp only [Option.some.injEq] at hf
  subst hf
  exact hu
 ·cases hf
theorem qcu9 {t : TypeId} {n : Nat} (hf : sizeT P t = some n) : ∃ i,P.info? t = some i∧i.size = n:=by
 unfold sizeT at hf
 cases hi : P.info? t with
 | none=>simp [hi] at hf
 | some i=>simp only [hi,Option.map_some,Option.some.injEq] at hf; exact ⟨i,rfl,hf⟩

theorem qqQ9 {t : TypeId} {x y : PV} {v : Value} {f : Nat} {h1 : AHeap} (hv : VRel E h m w x v) (ho : qig9 P h t x f = some (y,h1)) : h1 = h∧∃ u,(Instr.field t v f).run P w = .ok u w∧VRel E h m w y u:=by
 unfold qig9 at ho
 cases hf : qdb9 P t with
 | none=>simp [hf] at ho
 | some fs =>
  cases hc : qdR9 x with
  | none=>simp [hf,hc] at ho
  | some cs =>
   simp only [hf,hc] at ho
   cases hfd : fs[f]? with
   | none=>simp [hfd] at ho
   | some fd =>
    simp only [hfd] at ho
    cases hp : partP P fd.type cs fd.offset with
    | none=>simp [hp] at ho
    | some z =>
     simp only [hp,Option.map_some,Option.some.injEq,Prod.mk.injEq] at ho
     obtain ⟨rfl,rfl⟩:=ho
     obtain ⟨vs,rfl,hl,hr⟩:=qkf9 hv hc
     obtain ⟨u,h2,h3⟩:=qoh9 hl hr hp
     refine ⟨rfl,u,?_,h3⟩
     simp [Instr.field,run_underlying (qiO9 hf),hfd,asAgg,h2]

theorem qmM9 {x y : PV} {v : Value} {off : Nat} (hv : VRel E h m w x v) (hs : qcU9 x off = some y) : ∃ ad,v = .pointer (some ad)∧VRel E h m w y (.pointer (some (ad.add off))):=by
 cases hv with
 | d x v hd =>
  cases hd with
  | bx cs ad f hE hr =>
   simp only [qcU9,Option.some.injEq] at hs
   subst hs
   refine ⟨ad,rfl,.d _ _ (.bx _ _ (fun j=>f (off + j)) (fun j u hu=>?_) (fun j u hu=>?_))⟩
   ·rw [List.getElem?_drop] at hu
    obtain ⟨a1,a2,a3⟩:=hE _ u hu
    exact ⟨by rw [qbI9]; exact a1,by rw [qfE9]; exact a2,a3⟩
   ·rw [List.getElem?_drop] at hu
    exact hr _ u hu
  | _=>simp [qcU9] at hs
 | bx cs ad f hE hr =>
  simp only [qcU9,Option.some.injEq] at hs
  subst hs
  refine ⟨ad,rfl,.bx _ _ (fun j=>f (off + j)) (fun j u hu=>?_) (fun j u hu=>?_)⟩
  ·rw [List.getElem?_drop] at hu
   obtain ⟨a1,a2,a3⟩:=hE _ u hu
   exact ⟨by rw [qbI9]; exact a1,by rw [qfE9]; exact a2,a3⟩
  ·rw [List.getElem?_drop] at hu
   exact hr _ u hu
 | ptr id ver idx o v hp =>
  simp only [qcU9,Option.some.injEq] at hs
  subst hs
  obtain ⟨⟨a,rfl⟩,fz,ver',sz,es,ho,hle,hcur⟩:=hp
  refine ⟨a,rfl,.ptr _ _ _ _ _ ⟨⟨_,rfl⟩,fz,ver',sz,es,ho,hle,fun e=>?_⟩⟩
  obtain ⟨c1,c2⟩:=hcur e
  refine ⟨c1,?_⟩
  cases hm : m id with
  | none=>rw [hm] at c2; exact c2
  | some p =>
   obtain ⟨g,bo⟩:=p
   rw [hm] at c2
   simp only at c2 ⊢
   injection c2 with c2
   injection c2 with c2
   subst c2
   rw [qep9,Nat.add_assoc]
 | _=>simp [qcU9] at hs

theorem qlJ9 {t : TypeId} {x y : PV} {v : Value} {f : Nat} {h1 : AHeap} (hv : VRel E h m w x v) (ho : qfj9 P h t x f = some (y,h1)) : h1 = h∧∃ u,(Instr.fieldAt t v f).run P w = .ok u w∧VRel E h m w y u:=by
 unfold qfj9 at ho
 cases hf : qdb9 P t with
 | none=>simp [hf] at ho
 | some fs =>
  simp only [hf] at ho
  cases hfd : fs[f]? with
  | none=>simp [hfd] at ho
  | some fd =>
   simp only [hfd] at ho
   cases hn : sizeT P fd.type with
   | none=>simp [hn] at ho
   | some n =>
    simp only [hn] at ho
    split at ho
    ·cases ho
    ·rename_i hn0
     cases hs : qcU9 x fd.offset with
     | none=>simp [hs] at ho
     | some z =>
      simp only [hs,Option.map_some,Option.some.injEq,Prod.mk.injEq] at ho
      obtain ⟨rfl,rfl⟩:=ho
      obtain ⟨ad,rfl,hr⟩:=qmM9 hv hs
      obtain ⟨i,hi,rfl⟩:=qcu9 hn
      refine ⟨rfl,_,?_,hr⟩
      simp [Instr.fieldAt,run_underlying (qiO9 hf),hfd,Instr.sureAddr,fieldPlace,qbd9 hi,hn0]

theorem qvs9 {x y : PV} {v : Value} {h1 : AHeap} (hv : VRel E h m w x v) (ho : opNil x h = some (y,h1)) : h1 = h∧y = x∧((∃ a,v = .pointer (some a))∨∃ t u,v = .iface t u):=by
 cases hv with
 | d x v hd=>cases hd <;> simp [opNil] at ho <;> obtain ⟨rfl,rfl⟩:=ho <;> simp
 | bx cs ad f hE hr=>simp [opNil] at ho; obtain ⟨rfl,rfl⟩:=ho; simp
 | ptr id ver idx off v hp =>
  simp [opNil] at ho; obtain ⟨rfl,rfl⟩:=ho
  obtain ⟨⟨a,rfl⟩,_⟩:=hp
  simp
 | ifc t x v hx=>simp [opNil] at ho; obtain ⟨rfl,rfl⟩:=ho; simp
 | _=>simp [opNil] at ho

theorem qza9 {x : PV} {v : Value} {n : Nat} (hv : VRel E h m w x v) (hl : lenP x = some n) : ∃ A c,v = .slice A n c:=by
 cases hv with
 | d x v hd =>
  cases hd with
  | rd xs A c sz f hc hsz hA hE hr=>simp only [lenP,Option.some.injEq] at hl; subst hl; exact ⟨A,c,rfl⟩
  | _=>simp [lenP] at hl
 | im t xs A c sz f hc ht hsz hA hE hr=>simp only [lenP,Option.some.injEq] at hl; subst hl; exact ⟨A,c,rfl⟩
 | ref id ver off len v hs=>simp only [lenP,Option.some.injEq] at hl; subst hl; obtain ⟨A,c,rfl,_⟩:=hs; exact ⟨A,c,rfl⟩
 | _=>simp [lenP] at hl

theorem qkR9 {t : TypeId} {x i y : PV} {v vi : Value} {h1 : AHeap} (hv : VRel E h m w x v) (hi : VRel E h m w i vi) (ho : qeo9 P h t x i = some (y,h1)) : h1 = h∧∃ u,(Instr.indexAt t v vi).run P w = .ok u w∧VRel E h m w y u:=by
 unfold qeo9 at ho
 cases hn : qbj9 i with
 | none=>simp [hn] at ho
 | some n =>
  obtain ⟨k,rfl⟩:=hi.as_int hn
  simp only [hn] at ho
  cases hu : P.underlying t with
  | none=>simp [hu] at ho
  | some d =>
   cases d with
   | slice e =>
    simp only [hu] at ho
    cases hsz : sizeT P e with
    | none=>simp [hsz] at ho
    | some sz =>
     cases hlen : lenP x with
     | none=>simp [hsz,hlen] at ho
     | some l =>
      simp only [hsz,hlen] at ho
      split at ho
      ·rename_i hb
       obtain ⟨b1,b2,b3⟩:=hb
       obtain ⟨ii,hi1,hi2⟩:=qcu9 hsz
       cases hel : qeS9 x n.toNat with
       | none=>simp [hel] at ho
       | some z =>
        simp only [hel] at ho
        split at ho
        ·rename_i hok
         simp only [Option.some.injEq,Prod.mk.injEq] at ho
         obtain ⟨rfl,rfl⟩:=ho
         refine ⟨rfl,?_⟩
         have hrun : ∀ (ad : Addr) (c : Nat),(Instr.indexAt t (.slice (some ad) l c) (.int k n)).run P w = .ok (.pointer (some (ad.add (n.toNat * sz)))) w:=by
          intro ad c
          have b2' : n < (l : Int):=b2
          simp [Instr.indexAt,asIntOf,run_underlying hu,qbd9 hi1,hi2,b1,b2']
         cases hv with
         | d x v hd =>
          cases hd with
          | rd xs A c sz' f hc hsz' hA hE hr =>
           simp only [lenP,Option.some.injEq] at hlen
           subst hlen
           simp only [qeS9] at hel
           cases hx : xs[n.toNat]? with
           | none=>simp [hx] at hel
           | some cs =>
            simp only [hx,Option.map_some,Option.some.injEq] at hel
            subst hel
            have hcs : cs.length = sz:=by simpa [qeK9] using hok
            have hs1:=hsz' _ _ hx
            obtain ⟨ad,rfl⟩:=hA _ _ hx
            refine ⟨_,hrun ad c,.d _ _ (.bx cs _ (f n.toNat) (fun j u hu=>?_) (fun j u hu=>?_))⟩
            ·obtain ⟨a1,a2,a3⟩:=hE n.toNat j cs u ad hx hu rfl
             exact ⟨by rw [qbI9]; exact a1,by rw [qfE9,← hcs,hs1]; exact a2,a3⟩
            ·exact hr n.toNat j cs u hx hu
          | _=>simp [lenP] at hlen
         | im tt xs A c sz' f hc ht hsz' hA hE hr =>
          simp only [lenP,Option.some.injEq] at hlen
          subst hlen
          simp only [qeS9] at hel
          cases hx : xs[n.toNat]? with
          | none=>simp [hx] at hel
          | some cs =>
           simp only [hx,Option.map_some,Option.some.injEq] at hel
           subst hel
           have hcs : cs.length = sz:=by simpa [qeK9] using hok
           have hs1:=hsz' _ _ hx
           obtain ⟨ad,rfl⟩:=hA _ _ hx
           refine ⟨_,hrun ad c,.bx cs _ (f n.toNat) (fun j u hu=>?_) (fun j u hu=>?_)⟩
           ·obtain ⟨a1,a2,a3⟩:=hE n.toNat j cs u ad hx hu rfl
            exact ⟨by rw [qbI9]; exact a1,by rw [qfE9,← hcs,hs1]; exact a2,a3⟩
           ·exact hr n.toNat j cs u hx hu
         | ref id ver off len v hs =>
          simp only [lenP,Option.some.injEq] at hlen
          subst hlen
          simp only [qeS9] at hel
          split at hel
          ·simp only [Option.some.injEq] at hel
           subst hel
           obtain ⟨A,c,rfl,hlc,hA,fz,ver',sz',es,hob,hle,hcur⟩:=hs
           have hsz2 : sz' = sz:=by simpa [qeK9,hob] using hok
           subst hsz2
           have hlt : n.toNat < len:=by assumption
           obtain ⟨ad,rfl⟩:=hA (by omega)
           refine ⟨_,hrun ad c,.ptr _ _ _ _ _ ⟨⟨_,rfl⟩,fz,ver',sz',es,hob,hle,fun e=>?_⟩⟩
           obtain ⟨c1,c2⟩:=hcur e
           refine ⟨by omega,?_⟩
           cases hm : m id with
           | none =>
            rw [hm] at c2
            have c2 : c = 0:=c2
            omega
           | some p =>
            obtain ⟨g,bo⟩:=p
            rw [hm] at c2
            obtain ⟨cur,e,d1,d2,d3⟩:=c2
            have d2:=d2 (by omega)
            injection d2 with d2
            subst d2
            simp only
            rw [qep9,← Nat.add_mul,Nat.add_zero,Nat.add_assoc]
          ·cases hel
         | _=>simp [lenP] at hlen
        ·cases ho
      ·cases ho
   | array len e =>
    simp only [hu] at ho
    cases hsz : sizeT P e with
    | none=>simp [hsz] at ho
    | some sz =>
     simp only [hsz] at ho
     split at ho
     ·rename_i hb
      obtain ⟨b1,b2,b3⟩:=hb
      obtain ⟨ii,hi1,hi2⟩:=qcu9 hsz
      cases hs : qcU9 x (n.toNat * sz) with
      | none=>simp [hs] at ho
      | some z =>
       simp only [hs,Option.map_some,Option.some.injEq,Prod.mk.injEq] at ho
       obtain ⟨rfl,rfl⟩:=ho
       obtain ⟨ad,rfl,hr⟩:=qmM9 hv hs
       refine ⟨rfl,_,?_,hr⟩
       simp [Instr.indexAt,asIntOf,run_underlying hu,Instr.sureAddr,qbd9 hi1,hi2,b1,b2]
     ·cases ho
   | _=>simp [hu] at ho
end
end Go.Abs
namespace Go.Abs
open Go Go.RowKit

section
variable {W0 : World} {E : Nat→Prop} {X : Nat→Prop} {h h' : AHeap} {m : Places} {w : World} {P : Program}

theorem qlM9 {x : PV} {v : Value} {t : TypeId} (hv : VRel E h m w x v) (hn : qkZ9 P t x = true) :
  (∃ e,P.underlying t = some (.pointer e)∧v = .pointer none)∨(∃ ms,P.underlying t = some (.interface ms)∧v = .nilIface):=by
 unfold qkZ9 at hn
 split at hn
 ·rename_i hu; right; exact ⟨_,hu,hv.to_v rfl⟩
 ·rename_i hu; left; exact ⟨_,hu,hv.to_v rfl⟩
 ·cases hn
theorem qli9 {x : PV} {v : Value} {t : TypeId} (hv : VRel E h m w x v) (hn : qhY9 P t x = true) :
  (∃ e,P.underlying t = some (.pointer e)∧∃ a,v = .pointer (some a))∨(∃ ms,P.underlying t = some (.interface ms)∧∃ u y,v = .iface u y):=by
 unfold qhY9 at hn
 split at hn
 ·rename_i hu; left; cases hv with | bx _ ad=>exact ⟨_,hu,ad,rfl⟩
 ·rename_i hu; left; cases hv with | ptr _ _ _ _ _ hp=>obtain ⟨⟨a,rfl⟩,_⟩:=hp; exact ⟨_,hu,a,rfl⟩
 ·rename_i hu; left; cases hv with | d _ _ hd=>cases hd with | bx _ ad=>exact ⟨_,hu,ad,rfl⟩
 ·rename_i hu; right; cases hv with | ifc _ _ _=>exact ⟨_,hu,_,_,rfl⟩
 ·rename_i hu; right; cases hv with | d _ _ hd=>cases hd with | ifc _ _ _=>exact ⟨_,hu,_,_,rfl⟩
 ·cases hn

theorem qlw9 {t : TypeId} {a b : Value} (ha : (∃ e,P.underlying t = some (.pointer e)∧a = .pointer none)∨(∃ ms,P.underlying t = some (.interface ms)∧a = .nilIface))
  (hb : (∃ e,P.underlying t = some (.pointer e)∧∃ ad,b = .pointer (some ad))∨(∃ ms,P.underlying t = some (.interface ms)∧∃ u z,b = .iface u z)) (w : World) :
  (Op.equal t a b).run P w = .ok false w∧(Op.equal t b a).run P w = .ok false w:=by
 have e1 : ∀ x y,Op.equal t x y = Op.equalIn (9999 + 1) t x y:=fun _ _=>rfl
 rcases ha with ⟨e,hu,rfl⟩ | ⟨ms,hu,rfl⟩ <;> rcases hb with ⟨e',hu',ad,rfl⟩ | ⟨ms',hu',u,z,rfl⟩ <;>
  first
  | (rw [hu] at hu'; cases hu'; done)
  | (constructor <;> (rw [e1,Op.equalIn]; simp [run_underlying hu]))
theorem qjY9 {op : BinOp} {t : TypeId} {x y : Operand} {a b : Value} {r : Bool} (hr : (op = .eql∧r = false)∨(op = .neq∧r = true))
  (hab : ((∃ e,P.underlying t = some (.pointer e)∧a = .pointer none)∨(∃ ms,P.underlying t = some (.interface ms)∧a = .nilIface))∧((∃ e,P.underlying t = some (.pointer e)∧∃ ad,b = .pointer (some ad))∨(∃ ms,P.underlying t = some (.interface ms)∧∃ u z,b = .iface u z)) ∨
   ((∃ e,P.underlying t = some (.pointer e)∧b = .pointer none)∨(∃ ms,P.underlying t = some (.interface ms)∧b = .nilIface))∧((∃ e,P.underlying t = some (.pointer e)∧∃ ad,a = .pointer (some ad))∨(∃ ms,P.underlying t = some (.interface ms)∧∃ u z,a = .iface u z))) (w : World) :
  (do eqGuard op t x y a b; binOp op t a b : Sem Value).run P w = .ok (.bool r) w:=by
 have key : (Op.equal t a b).run P w = .ok false w:=by
  rcases hab with ⟨p,q⟩ | ⟨p,q⟩
  ·exact (qlw9 p q w).1
  ·exact (qlw9 p q w).2
 have h1 : (eqGuard op t x y a b).run P w = .ok () w:=by
  rcases hr with ⟨rfl,rfl⟩ | ⟨rfl,rfl⟩ <;> rcases hab with ⟨⟨e,hu,rfl⟩ | ⟨ms,hu,rfl⟩,⟨e',hu',ad,rfl⟩ | ⟨ms',hu',u,z,rfl⟩⟩ | ⟨⟨e,hu,rfl⟩ | ⟨ms,hu,rfl⟩,⟨e',hu',ad,rfl⟩ | ⟨ms',hu',u,z,rfl⟩⟩ <;> simp [eqGuard]
 have h2 : ∀ op',(op' = .eql∨op' = .neq)→binOp op' t a b = (if op' matches .eql then (do pure (.bool (← Op.equal t a b))) else (do pure (.bool (!(← Op.equal t a b))))):=by
  rintro op' (rfl | rfl) <;> rcases hab with ⟨⟨e,hu,rfl⟩ | ⟨ms,hu,rfl⟩,⟨e',hu',ad,rfl⟩ | ⟨ms',hu',u,z,rfl⟩⟩ | ⟨⟨e,hu,rfl⟩ | ⟨ms,hu,rfl⟩,⟨e',hu',ad,rfl⟩ | ⟨ms',hu',u,z,rfl⟩⟩ <;> rfl
 rw [Sem.run_bind,h1]
 rcases hr with ⟨rfl,rfl⟩ | ⟨rfl,rfl⟩
 ·rw [Result.andThen_ok,h2 _ (.inl rfl)]; simp [key]
 ·rw [Result.andThen_ok,h2 _ (.inr rfl)]; simp [key]

theorem quU9 {op : BinOp} {t : TypeId} {x y : Operand} {a b z : PV} {va vb : Value} {h1 : AHeap} (ha : VRel E h m w a va) (hb : VRel E h m w b vb) (ho : opBin P h op t x y a b = some (z,h1)) :
  h1 = h∧∃ u,(do eqGuard op t x y va vb; binOp op t va vb : Sem Value).run P w = .ok u w∧VRel E h m w z u:=by
 unfold opBin at ho
 cases hn : qio9 P op t a b with
 | some r =>
  simp only [hn,Option.some.injEq,Prod.mk.injEq] at ho
  obtain ⟨rfl,rfl⟩:=ho
  refine ⟨rfl,?_⟩
  unfold qio9 at hn
  split at hn
  ·rename_i hc
   have hab:=hc.imp (fun q=>And.intro (qlM9 ha q.1) (qli9 hb q.2)) (fun q=>And.intro (qlM9 hb q.1) (qli9 ha q.2))
   cases op with
   | eql =>
    simp only [Option.some.injEq] at hn
    subst hn
    exact ⟨_,qjY9 (r:=false) (.inl ⟨rfl,rfl⟩) hab w,.d _ _ (.v _)⟩
   | neq =>
    simp only [Option.some.injEq] at hn
    subst hn
    exact ⟨_,qjY9 (r:=true) (.inr ⟨rfl,rfl⟩) hab w,.d _ _ (.v _)⟩
   | _=>simp at hn
  ·cases hn
 | none =>
  simp only [hn] at ho
  cases h2 : toV a with
  | none=>simp [h2] at ho
  | some a' =>
   cases h3 : toV b with
   | none=>simp [h2,h3] at ho
   | some b' =>
    simp only [h2,h3] at ho
    obtain rfl:=ha.to_v h2
    obtain rfl:=hb.to_v h3
    cases hp : pev P (do eqGuard op t x y va vb; binOp op t va vb) with
    | none=>simp [hp] at ho
    | some u =>
     simp only [hp,Option.map_some,Option.some.injEq,Prod.mk.injEq] at ho
     obtain ⟨rfl,rfl⟩:=ho
     exact ⟨rfl,u,qfB9 hp w,.d _ _ (.v u)⟩

theorem qvy9 {op : UnOp} {a z : PV} {va : Value} {h1 : AHeap} (ha : VRel E h m w a va) (ho : opUn P h op a = some (z,h1)) : h1 = h∧∃ u,(Op.unary op va).run P w = .ok u w∧VRel E h m w z u:=by
 unfold opUn at ho
 cases h2 : toV a with
 | none=>simp [h2] at ho
 | some a' =>
  simp only [h2] at ho
  obtain rfl:=ha.to_v h2
  cases hp : pev P (Op.unary op va) with
  | none=>simp [hp] at ho
  | some u =>
   simp only [hp,Option.map_some,Option.some.injEq,Prod.mk.injEq] at ho
   obtain ⟨rfl,rfl⟩:=ho
   exact ⟨rfl,u,qfB9 hp w,.d _ _ (.v u)⟩
theorem qkr9 : ∀ (ns : List Int) (s : ByteArray),ns.foldl (fun r n=>r.push (UInt8.ofNat n.toNat)) s = ⟨s.data++(ns.map fun n=>UInt8.ofNat n.toNat).toArray⟩
 | [],s=>by simp
 | n::ns,s=>by
  rw [List.foldl_cons,qkr9 ns]
  simp [ByteArray.push]
theorem qrb9 {s d : TypeId} {a z : PV} {va : Value} (ha : VRel E h m w a va) (ho : convB P s d a = some z) : ∃ u,(convert s d va).run P w = .ok u w∧VRel E h m w z u:=by
 unfold convB at ho
 split at ho
 ·rename_i xs
  split at ho
  ·rename_i e hs hd
   split at ho
   ·rename_i he
    simp only [Option.map_eq_some_iff] at ho
    obtain ⟨ns,h1,rfl⟩:=ho
    obtain ⟨k1,k2⟩:=qbO9 h1
    cases ha with
    | d _ _ hr=>cases hr with
     | rd _ A c sz f hc hsz hA hE hr =>
      refine ⟨.string (qbx9 ns),?_,.d _ _ (.v _)⟩
      rw [run_convert_bytes_string w s d e A xs.length c hs he hd]
      cases A with
      | none =>
       have : xs = []:=by
        cases xs with
        | nil=>rfl
        | cons x xs=>obtain ⟨ad,h⟩:=hA 0 x rfl; cases h
       subst this
       have : ns = []:=List.eq_nil_of_length_eq_zero (by simpa using k1)
       subst this
       simp [Conv.bytesToString,qbx9]
       rfl
      | some ad =>
       have hl : (loadCells ad xs.length).run P w = .ok (ns.map (Value.int .u8)).toArray w:=by
        have:=run_loadCells_list (P:=P) w ad (ns.map (Value.int .u8)) (fun j v hj=>by
         rw [List.getElem?_map] at hj
         cases hn : ns[j]? with
         | none=>simp [hn] at hj
         | some n =>
          simp only [hn,Option.map_some,Option.some.injEq] at hj
          subst hj
          have hlt : j < xs.length:=by rw [← k1]; exact (List.getElem?_eq_some_iff.1 hn).1
          obtain ⟨y,q1,q2⟩:=k2 j xs[j] (List.getElem?_eq_getElem hlt)
          rw [hn] at q1
          cases q1
          have hx : xs[j] = [.v (.int .u8 n)]:=by
           generalize xs[j] = cs at q2
           unfold byteD at q2
           split at q2
           ·cases q2; rfl
           ·cases q2
          have hxs : xs[j]? = some [.v (.int .u8 n)]:=by rw [List.getElem?_eq_getElem hlt,hx]
          have hz : sz = 1:=(hsz j _ hxs).symm
          subst hz
          have h3:=(hE j 0 _ _ ad hxs rfl rfl).2.1
          have h4:=hr j 0 _ _ hxs rfl
          generalize f j 0 = y at h3 h4
          cases h4
          simpa using h3)
        rw [List.length_map,k1] at this
        exact this
       rw [run_bytesToString w ad xs.length c ns hl,qkr9]
       simp [qbx9,ByteArray.empty,ByteArray.emptyWithCapacity]
       rfl
   ·cases ho
  ·cases ho
 ·cases ho
theorem qsQ9 {s d : TypeId} {a z : PV} {va : Value} {h1 : AHeap} (ha : VRel E h m w a va) (ho : qel9 P h s d a = some (z,h1)) : h1 = h∧∃ u,(convert s d va).run P w = .ok u w∧VRel E h m w z u:=by
 unfold qel9 at ho
 cases h2 : toV a with
 | none =>
  simp only [h2,Option.map_eq_some_iff,Prod.mk.injEq] at ho
  obtain ⟨y,hy,rfl,rfl⟩:=ho
  exact ⟨rfl,qrb9 ha hy⟩
 | some a' =>
  simp only [h2] at ho
  obtain rfl:=ha.to_v h2
  cases hp : pev P (convert s d va) with
  | none=>simp [hp] at ho
  | some u =>
   simp only [hp,Option.map_some,Option.some.injEq,Prod.mk.injEq] at ho
   obtain ⟨rfl,rfl⟩:=ho
   exact ⟨rfl,u,qfB9 hp w,.d _ _ (.v u)⟩

theorem qqr9 {t : TypeId} {a z : PV} {va : Value} {h1 : AHeap} (ha : VRel E h m w a va) (ho : qhp9 P h t a = some (z,h1)) : h1 = h∧∃ u,(Instr.makeInterface t va).run P w = .ok u w∧VRel E h m w z u:=by
 unfold qhp9 at ho
 cases hu : P.underlying t with
 | none=>simp [hu] at ho
 | some d =>
  cases d <;> simp [hu] at ho <;> obtain ⟨rfl,rfl⟩:=ho <;> exact ⟨rfl,_,by simp [Instr.makeInterface,run_underlying hu],.ifc _ _ _ ha⟩

theorem qqn9 {fn : Fn} {first caps : List PV} {z : PV} {vf vc : Array Value} {h1 : AHeap} (hf : vf.size = first.length) (hl : vc.size = caps.length) (hc : ∀ (j : Nat) (u : PV) (x : Value),caps[j]? = some u→vc[j]? = some x→VRel E h m w u x) (ho : qif9 h fn first caps = some (z,h1)) :
  h1 = h∧∃ u,(Instr.makeFunc fn vf vc).run P w = .ok u w∧VRel E h m w z u:=by
 unfold qif9 at ho
 split at ho
 ·simp only [Option.some.injEq,Prod.mk.injEq] at ho
  obtain ⟨rfl,rfl⟩:=ho
  obtain rfl : vf = #[]:=Array.eq_empty_of_size_eq_zero hf
  refine ⟨rfl,_,rfl,?_⟩
  have : vc = vc.toList.toArray:=by simp
  rw [this]
  exact .fn _ _ _ (by simpa using hl) (fun j u x h1 h2=>hc j u x h1 (by simpa using h2))
 ·cases ho

theorem qnl9 {i : Nat} {a z : PV} {va : Value} {h1 : AHeap} (ha : VRel E h m w a va) (ho : qfI9 h a i = some (z,h1)) : h1 = h∧∃ u,(Instr.extract va i).run P w = .ok u w∧VRel E h m w z u:=by
 unfold qfI9 at ho
 split at ho
 ·rename_i vs
  cases ha with
  | tp cs us hl hr =>
   cases hx : vs[i]? with
   | none=>simp [hx] at ho
   | some x =>
    simp only [hx,Option.map_some,Option.some.injEq,Prod.mk.injEq] at ho
    obtain ⟨rfl,rfl⟩:=ho
    have hlt : i < us.length:=by rw [hl]; exact (List.getElem?_eq_some_iff.1 hx).1
    refine ⟨rfl,us[i],?_,hr i _ _ hx (List.getElem?_eq_getElem hlt)⟩
    simp [Instr.extract,hlt]
 ·cases ho

theorem qjU9 {ok b : Bool} {z : PV} {v : Value} (hz : VRel E h m w z v) : VRel E h m w (okTup ok z b) (if ok = true then .tuple #[v,.bool b] else v):=by
 unfold okTup
 split
 ·refine .tp [z,.d (.v (.bool b))] [v,.bool b] rfl (fun j u x h1 h2=>?_)
  match j,h1,h2 with
  | 0,h1,h2=>simp at h1 h2; subst h1; subst h2; exact hz
  | 1,h1,h2=>simp at h1 h2; subst h1; subst h2; exact .d _ _ (.v _)
  | j + 2,h1,_=>simp at h1
 ·exact hz

theorem qxG9 {x : PV} {v : Value} {o : Option (TypeId × PV)} (hv : VRel E h m w x v) (hd : dynOf x = some o) : match o with | none=>v = .nilIface | some (t,y)=>∃ u,v = .iface t u∧VRel E h m w y u:=by
 unfold dynOf at hd
 split at hd
 ·simp only [Option.some.injEq] at hd
  subst hd
  cases hv with | ifc t x u hx=>exact ⟨u,rfl,hx⟩
 ·simp only [Option.some.injEq] at hd
  subst hd
  cases hv with | d _ _ hd=>cases hd with | ifc t x u hx=>exact ⟨u,rfl,.d _ _ hx⟩
 ·simp only [Option.some.injEq] at hd
  subst hd
  exact hv.to_v rfl
 ·cases hd

theorem qoE9 {xt asserted : TypeId} {ok : Bool} {a z : PV} {va : Value} {h1 : AHeap} (ha : VRel E h m w a va) (ho : qeV9 P h a asserted ok = some (z,h1)) :
  h1 = h∧∃ u,(Instr.typeAssert va xt asserted ok).run P w = .ok u w∧VRel E h m w z u:=by
 unfold qeV9 at ho
 cases hu : P.underlying asserted with
 | none=>simp [hu] at ho
 | some d =>
  have hno : ∀ ms,d ≠ .interface ms:=by intro ms e; subst e; simp [hu] at ho
  have ho' : qfA9 P h a asserted ok = some (z,h1):=by
   cases d <;> first | (exact absurd rfl (hno _)) | simpa [hu] using ho
  unfold qfA9 at ho'
  clear ho
  have hfail : ∀ (vz : PV),zeroP P asserted = some vz→∃ u : Value,(∀ w' : World,(zeroValue asserted).run P w' = .ok u w')∧VRel E h m w (.tp [vz,.d (.v (.bool false))]) (.tuple #[u,.bool false]):=by
   intro vz hz
   obtain ⟨u,h2,h3⟩:=qnd9 (E:=E) (h:=h) (m:=m) (w:=w) hz
   exact ⟨u,h2,qjU9 (ok:=true) (b:=false) h3⟩
  cases hd : dynOf a with
  | none=>simp [hd] at ho'
  | some o =>
   have hdr:=qxG9 ha hd
   cases o with
   | none =>
    simp only [hd] at ho'
    subst hdr
    split at ho'
    ·rename_i hok
     subst hok
     cases hz : zeroP P asserted with
     | none=>simp [hz] at ho'
     | some vz =>
      simp only [hz,Option.map_some,Option.some.injEq,Prod.mk.injEq] at ho'
      obtain ⟨rfl,rfl⟩:=ho'
      obtain ⟨u,h2,h3⟩:=hfail vz hz
      refine ⟨rfl,_,?_,h3⟩
      unfold Instr.typeAssert
      simp only [Sem.run_bind,run_underlying hu,Result.andThen_ok]
      cases d <;> first | (exact absurd rfl (hno _)) | simp [h2]
    ·cases ho'
   | some p =>
    obtain ⟨t,y⟩:=p
    simp only [hd] at ho'
    obtain ⟨u,rfl,hy⟩:=hdr
    split at ho'
    ·rename_i ht
     subst ht
     simp only [Option.some.injEq,Prod.mk.injEq] at ho'
     obtain ⟨rfl,rfl⟩:=ho'
     refine ⟨rfl,_,?_,qjU9 hy⟩
     unfold Instr.typeAssert
     simp only [Sem.run_bind,run_underlying hu,Result.andThen_ok]
     cases d <;> first | (exact absurd rfl (hno _)) | simp
    ·rename_i ht
     split at ho'
     ·rename_i hok
      subst hok
      cases hz : zeroP P asserted with
      | none=>simp [hz] at ho'
      | some vz =>
       simp only [hz,Option.map_some,Option.some.injEq,Prod.mk.injEq] at ho'
       obtain ⟨rfl,rfl⟩:=ho'
       obtain ⟨u',h2,h3⟩:=hfail vz hz
       refine ⟨rfl,_,?_,h3⟩
       unfold Instr.typeAssert
       simp only [Sem.run_bind,run_underlying hu,Result.andThen_ok]
       cases d <;> first | (exact absurd rfl (hno _)) | simp [h2,ht]
     ·cases ho'

theorem qqE9 {t : TypeId} {x i y : PV} {v vi : Value} {h1 : AHeap} (hv : VRel E h m w x v) (hi : VRel E h m w i vi) (ho : qhs9 P h t x i = some (y,h1)) : h1 = h∧∃ u,(Instr.index t v vi).run P w = .ok u w∧VRel E h m w y u:=by
 unfold qhs9 at ho
 split at ho
 ·rename_i s
  obtain rfl:=hv.to_v rfl
  cases h2 : toV i with
  | none=>simp [h2] at ho
  | some b =>
   simp only [h2] at ho
   obtain rfl:=hi.to_v h2
   cases hp : pev P (Instr.index t (.string s) vi) with
   | none=>simp [hp] at ho
   | some u =>
    simp only [hp,Option.map_some,Option.some.injEq,Prod.mk.injEq] at ho
    obtain ⟨rfl,rfl⟩:=ho
    exact ⟨rfl,u,qfB9 hp w,.d _ _ (.v u)⟩
 ·split at ho
  ·rename_i len e n cs hu hn hc
   obtain ⟨k,rfl⟩:=hi.as_int hn
   cases hsz : sizeT P e with
   | none=>simp [hsz] at ho
   | some sz =>
    simp only [hsz] at ho
    split at ho
    ·rename_i hb
     obtain ⟨b1,b2⟩:=hb
     obtain ⟨ii,hi1,hi2⟩:=qcu9 hsz
     cases hp : partP P e cs (n.toNat * sz) with
     | none=>simp [hp] at ho
     | some z =>
      simp only [hp,Option.map_some,Option.some.injEq,Prod.mk.injEq] at ho
      obtain ⟨rfl,rfl⟩:=ho
      obtain ⟨vs,rfl,hl,hr⟩:=qkf9 hv hc
      obtain ⟨u,h2,h3⟩:=qoh9 hl hr hp
      refine ⟨rfl,u,?_,h3⟩
      simp [Instr.index,asIntOf,run_underlying hu,qbd9 hi1,hi2,b1,b2,h2]
    ·cases ho
  ·cases ho

theorem qsu9 {t : TypeId} {s : ByteArray} {lo hi : Option PV} {vlo vhi : Option Value} {y : PV} {h1 : AHeap} (hlo : ∀ x,lo = some x→∃ v,vlo = some v∧VRel E h m w x v) (hlo' : lo = none→vlo = none) (hhi : ∀ x,hi = some x→∃ v,vhi = some v∧VRel E h m w x v) (hhi' : hi = none→vhi = none)
  (ho : qlk9 P h t s lo hi = some (y,h1)) : h1 = h∧∃ u,(Instr.sliceAt t (.string s) vlo vhi none).run P w = .ok u w∧VRel E h m w y u:=by
 have key : ∀ {o : Option PV} {vo a : Option Value},(∀ x,o = some x→∃ v,vo = some v∧VRel E h m w x v)→(o = none→vo = none)→optV o = some a→vo = a:=by
  intro o vo a k1 k2 k3
  cases o with
  | none=>simp only [optV,Option.some.injEq] at k3; rw [k2 rfl,k3]
  | some x =>
   simp only [optV] at k3
   cases hx : toV x with
   | none=>simp [hx] at k3
   | some b =>
    simp only [hx,Option.map_some,Option.some.injEq] at k3
    obtain ⟨v,e,r⟩:=k1 x rfl
    rw [e,← k3,r.to_v hx]
 unfold qlk9 at ho
 cases ha : optV lo with
 | none=>simp [ha] at ho
 | some a =>
  cases hb : optV hi with
  | none=>simp [ha,hb] at ho
  | some b =>
   simp only [ha,hb] at ho
   obtain rfl:=key hlo hlo' ha
   obtain rfl:=key hhi hhi' hb
   cases hp : pev P (Instr.sliceAt t (.string s) vlo vhi none) with
   | none=>simp [hp] at ho
   | some u =>
    simp only [hp,Option.map_some,Option.some.injEq,Prod.mk.injEq] at ho
    obtain ⟨rfl,rfl⟩:=ho
    exact ⟨rfl,u,qfB9 hp w,.d _ _ (.v u)⟩
end
end Go.Abs

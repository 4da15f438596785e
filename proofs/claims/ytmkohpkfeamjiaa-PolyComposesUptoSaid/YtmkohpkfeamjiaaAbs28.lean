import Derived.OpenShut
import Derived.Test.YtmkohpkfeamjiaaAbs26
import Derived.Deep.Slices
import Derived.DataReads
import Derived.Carry
set_option maxHeartbeats 400000
set_option linter.unusedVariables false
set_option linter.unusedSimpArgs false
set_option linter.unusedSectionVars false
namespace Go.Abs
open Go Go.RowKit

mutual
def szD : D→Nat
 | .v (.string s)=>s.size + 1
 | .v _=>1
 | .rd xs=>szLL xs + 1
 | .ag cs=>szL cs + 1
 | .bx cs=>szL cs + 1
 | .ifc _ x=>szD x + 1
 | .fn _ cs=>szL cs + 1
def szL : List D→Nat
 | []=>0
 | x::r=>szD x + szL r
def szLL : List (List D)→Nat
 | []=>0
 | x::r=>szL x + szLL r
end
theorem qrx9 (d : D) : 1≤szD d:=by
 cases d with
 | v x=>cases x <;> simp [szD]
 | _=>simp [szD]
theorem qsX9 (a b : List D) : szL (a++b) = szL a + szL b:=by
 induction a with
 | nil=>simp [szL]
 | cons x r ih=>simp [szL,ih]; omega
theorem qyx9 {xs : List (List D)} {a : List D} (h : a∈xs) : szL a≤szLL xs:=by
 induction xs with
 | nil=>cases h
 | cons x r ih =>
  simp only [szLL]
  rcases List.mem_cons.1 h with rfl | h
  ·omega
  ·have:=ih h; omega

inductive Ty (P : Program) : TypeId→List D→Prop where
 | int {t : TypeId} {k : IntKind} {n : Int} (hu : P.underlying t = some (.int k)) (hw : (Lit.int k n).wf = true) : Ty P t [.v (.int k n)]
 | str {t : TypeId} {s : ByteArray} (hu : P.underlying t = some .string) : Ty P t [.v (.string s)]
 | bool {t : TypeId} {b : Bool} (hu : P.underlying t = some .bool) : Ty P t [.v (.bool b)]
 | slice {t e : TypeId} {xs : List (List D)} (hu : P.underlying t = some (.slice e)) (h : ∀ cs,cs∈xs→Ty P e cs) : Ty P t [.rd xs]
 | array {t e : TypeId} {n : Nat} {cs : List D} (hu : P.underlying t = some (.array n e)) (hl : cs.length = P.cellsOf t) (h : ∀ i,i < n→Ty P e ((cs.drop (i * P.cellsOf e)).take (P.cellsOf e))) : Ty P t cs
 | struct {t : TypeId} {fs : Array Field} {cs : List D} (hu : P.underlying t = some (.struct fs)) (hl : cs.length = P.cellsOf t) (h : ∀ f,f∈fs.toList→Ty P f.type ((cs.drop f.offset).take (P.cellsOf f.type))) : Ty P t cs

def qeN9 (P : Program) : List Field→Nat→Nat→Bool
 | [],off,tot=>off == tot
 | f::r,off,tot=>f.offset == off && qeN9 P r (off + P.cellsOf f.type) tot
def qcz9 (P : Program) : Nat→TypeId→Bool
 | 0,_=>false
 | n + 1,t=>match P.underlying t with
  | some (.int _) | some .string | some .bool=>P.cellsOf t == 1
  | some (.slice e)=>P.cellsOf t == 1 && decide (0 < P.cellsOf e) && qcz9 P n e
  | some (.struct fs)=>qeN9 P fs.toList 0 (P.cellsOf t) && fs.toList.all fun f=>qcz9 P n f.type
  | some (.array k e)=>(P.cellsOf t == k * P.cellsOf e) && qcz9 P n e
  | _=>false

structure Bulk {H : Type} (bk : DataW H→Nat) (bkA : List (DataW H)→Nat) : Prop where
 nilA : bkA [] = 0
 consA : ∀ d r,bkA (d::r) = bk d + bkA r
 slice : ∀ e s,bk (.slice e s) = bkA e + bkA s + 1
 agg : ∀ p,bk (.agg p) = bkA p + 1
 str : ∀ b,bk (.lit (.string b)) = b.length + 1
 one : ∀ d,1≤bk d
theorem Bulk.map {H : Type} {bk : DataW H→Nat} {bkA : List (DataW H)→Nat} (B : Bulk bk bkA) {f : Nat→List D} {g : Nat→DataW H} : ∀ (l : List Nat),(∀ i∈l,szL (f i)≤bk (g i))→szLL (l.map f)≤bkA (l.map g):=by
 intro l
 induction l with
 | nil=>intro _; simp [szLL]
 | cons a r ih =>
  intro h
  have h1:=h a (by simp)
  have h2:=ih (fun i hi=>h i (by simp [hi]))
  simp only [List.map_cons,szLL,B.consA]
  omega

section
variable {H : Type} {enc : TypeId × Value→H} {P : Program} {w : World} {base : Nat} {spare : Nat→Bool} {held : Bool} {bk : DataW H→Nat} {bkA : List (DataW H)→Nat}

def Cells (w : World) (ds : List D) (cs : List Value) : Prop:=ds.length = cs.length∧∀ (j : Nat) (u : D) (x : Value),ds[j]? = some u→cs[j]? = some x→x.oneCell' = true∧DRel (fun _=>False) w u x

theorem qqe9 (B : Bulk bk bkA) {n : Nat} (ih : ∀ {t : TypeId},qcz9 P n t = true→∀ {fuel : Nat} {cs : List Value} {x : DataW H × List MemPlace},DataW.trod enc P w base spare held fuel t cs = some x→∃ ds,Cells w ds cs∧cs.length = P.cellsOf t∧Ty P t ds∧szL ds≤bk x.1) {fuel : Nat} {cs : List Value} :
  ∀ (fs : List Field) (off : Nat) (xs : List (DataW H × List MemPlace)),qeN9 P fs off cs.length = true→off≤cs.length→(fs.all fun f=>qcz9 P n f.type) = true→xs.length = fs.length→(∀ (i : Nat) (f : Field),fs[i]? = some f→DataW.trod enc P w base spare held fuel f.type ((cs.drop f.offset).take (P.cellsOf f.type)) = xs[i]?) →
   ∃ ds,Cells w ds (cs.drop off)∧(∀ f,f∈fs→off≤f.offset∧Ty P f.type ((ds.drop (f.offset - off)).take (P.cellsOf f.type)))∧szL ds≤bkA (xs.map (·.1)):=by
 intro fs
 induction fs with
 | nil =>
  intro off xs hlay hle _ hxl hm
  simp only [qeN9,beq_iff_eq] at hlay
  rw [List.drop_eq_nil_of_le (by omega)]
  refine ⟨[],⟨rfl,fun j u x a b=>by simp at a⟩,fun f hf=>(List.not_mem_nil hf).elim,by simp [szL]⟩
 | cons f r ihf =>
  intro off xs hlay hle hall hxl hm
  simp only [qeN9,Bool.and_eq_true,beq_iff_eq] at hlay
  simp only [List.all_cons,Bool.and_eq_true] at hall
  cases xs with
  | nil=>simp at hxl
  | cons y ys =>
    have h1 : DataW.trod enc P w base spare held fuel f.type ((cs.drop f.offset).take (P.cellsOf f.type)) = some y:=hm 0 f rfl
    have h2 : ∀ (i : Nat) (g : Field),r[i]? = some g→DataW.trod enc P w base spare held fuel g.type ((cs.drop g.offset).take (P.cellsOf g.type)) = ys[i]?:=fun i g hg=>by simpa using hm (i + 1) g (by simpa using hg)
    obtain ⟨ds0,c1,c2,c3,c4⟩:=ih hall.1 h1
    rw [List.length_take,List.length_drop] at c2
    obtain ⟨ds1,d1,d2,d3⟩:=ihf (off + P.cellsOf f.type) ys hlay.2 (by omega) hall.2 (by simpa using hxl) h2
    have hl0 : ds0.length = P.cellsOf f.type:=by rw [c1.1,List.length_take,List.length_drop]; exact c2
    refine ⟨ds0++ds1,⟨?_,fun j u x a b=>?_⟩,fun g hg=>?_,?_⟩
    ·rw [List.length_append,hl0,d1.1,List.length_drop,List.length_drop]; omega
    ·rw [List.getElem?_drop] at b
     rcases Nat.lt_or_ge j ds0.length with c | c
     ·rw [List.getElem?_append_left c] at a
      refine c1.2 j u x a ?_
      rw [List.getElem?_take,if_pos (by omega),List.getElem?_drop,hlay.1]
      exact b
     ·rw [List.getElem?_append_right c] at a
      refine d1.2 (j - ds0.length) u x a ?_
      rw [List.getElem?_drop,hl0]
      rw [← b]
      congr 1
      omega
    ·rcases List.mem_cons.1 hg with rfl | hg
     ·refine ⟨by omega,?_⟩
      rw [hlay.1,Nat.sub_self,List.drop_zero,← hl0,List.take_left]
      exact c3
     ·obtain ⟨e1,e2⟩:=d2 g hg
      refine ⟨by omega,?_⟩
      have : g.offset - off = ds0.length + (g.offset - (off + P.cellsOf f.type)):=by omega
      rw [this,List.drop_append]
      simp only [Nat.add_sub_cancel_left,List.drop_eq_nil_of_le (Nat.le_add_right ds0.length _),List.nil_append]
      exact e2
    ·rw [qsX9,List.map_cons,B.consA]; omega

def fakes (P : Program) (e : TypeId) : Nat→Nat→List Field
 | 0,_=>[]
 | k + 1, i => { name := "", type := e, offset := i * P.cellsOf e, embedded := false, tag := "", pkgPath := "", byteOffset := 0 } :: fakes P e k (i + 1)
theorem qmO9 (e : TypeId) : ∀ (k i : Nat),(fakes P e k i).length = k:=by
 intro k
 induction k with
 | zero=>intro i; rfl
 | succ k ih=>intro i; simp [fakes,ih]
theorem qmC9 (e : TypeId) : ∀ (k i j : Nat) (f : Field),(fakes P e k i)[j]? = some f→j < k∧f.type = e∧f.offset = (i + j) * P.cellsOf e:=by
 intro k
 induction k with
 | zero=>intro i j f h; simp [fakes] at h
 | succ k ih =>
  intro i j f h
  cases j with
  | zero=>simp [fakes] at h; subst h; exact ⟨by omega,rfl,rfl⟩
  | succ j =>
   obtain ⟨h1,h2,h3⟩:=ih (i + 1) j f (by simpa [fakes] using h)
   exact ⟨by omega,h2,by rw [h3]; congr 1; omega⟩
theorem qwU9 (e : TypeId) : ∀ (k i j : Nat),j < k→∃ f,f∈fakes P e k i∧f.type = e∧f.offset = (i + j) * P.cellsOf e:=by
 intro k i j h
 have hl : j < (fakes P e k i).length:=by rw [qmO9]; exact h
 obtain ⟨_,h2,h3⟩:=qmC9 e k i j _ (List.getElem?_eq_getElem hl)
 exact ⟨_,List.getElem_mem hl,h2,h3⟩
theorem qvi9 (e : TypeId) (tot : Nat) : ∀ (k i : Nat),(i + k) * P.cellsOf e = tot→qeN9 P (fakes P e k i) (i * P.cellsOf e) tot = true:=by
 intro k
 induction k with
 | zero=>intro i h; simp only [fakes,qeN9,beq_iff_eq]; rw [← h,Nat.add_zero]
 | succ k ih =>
  intro i h
  simp only [fakes,qeN9,beq_self_eq_true,Bool.true_and]
  have:=ih (i + 1) (by rw [← h]; congr 1; omega)
  rw [Nat.add_mul,Nat.one_mul] at this
  exact this
theorem qua9 (e : TypeId) {n : Nat} (h : qcz9 P n e = true) : ∀ (k i : Nat),((fakes P e k i).all fun f=>qcz9 P n f.type) = true:=by
 intro k
 induction k with
 | zero=>intro i; rfl
 | succ k ih=>intro i; simp only [fakes,List.all_cons,h,Bool.true_and]; exact ih (i + 1)
theorem qzP9 (B : Bulk bk bkA) : ∀ (n : Nat) {t : TypeId},qcz9 P n t = true→∀ {fuel : Nat} {cs : List Value} {x : DataW H × List MemPlace},DataW.trod enc P w base spare held fuel t cs = some x→∃ ds,Cells w ds cs∧cs.length = P.cellsOf t∧Ty P t ds∧szL ds≤bk x.1:=by
 intro n
 induction n with
 | zero=>intro t hp; simp [qcz9] at hp
 | succ n ih =>
  intro t hp fuel cs x h
  simp only [qcz9] at hp
  have one : ∀ {v : Value} {d : D},v.oneCell' = true→DRel (fun _=>False) w d v→Cells w [d] [v]:=fun h1 h2=>⟨rfl,fun j u x a b=>by
   cases j with
   | zero=>simp at a b; subst a; subst b; exact ⟨h1,h2⟩
   | succ j=>simp at a⟩
  split at hp
  ·rename_i k hu
   obtain ⟨m,rfl,rfl,hw⟩:=DataW.trod_int hu h
   refine ⟨[.v (.int k m)],one rfl (.v _),(beq_iff_eq.1 hp).symm,.int hu hw,?_⟩
   have:=B.one (.lit (.int k m))
   simpa [szL,szD] using this
  ·rename_i hu
   obtain ⟨s,rfl,rfl,_⟩:=DataW.trod_string hu h
   refine ⟨[.v (.string s)],one rfl (.v _),(beq_iff_eq.1 hp).symm,.str hu,?_⟩
   simp [szL,szD,B.str]
  ·rename_i hu
   obtain ⟨b,rfl,rfl⟩:=DataW.trod_bool hu h
   refine ⟨[.v (.bool b)],one rfl (.v _),(beq_iff_eq.1 hp).symm,.bool hu,?_⟩
   have:=B.one (.lit (.bool b))
   simpa [szL,szD] using this
  ·rename_i e hu
   simp only [Bool.and_eq_true,beq_iff_eq,decide_eq_true_eq] at hp
   obtain ⟨⟨hp1,hp0⟩,hp2⟩:=hp
   rcases Deep.open_slice hu h with ⟨rfl,rfl⟩ | ⟨a,len,cap,m,nn,D',Pl,rfl,hb,hl,hm,hmm,rfl,hel⟩
   ·refine ⟨[.rd []],one rfl (.rd [] none 0 0 (fun _ _=>.bool true) (Nat.le_refl _) (fun i cs hi=>by simp at hi) (fun i cs hi=>by simp at hi) (fun i j cs u ad hi=>by simp at hi) (fun i j cs u hi=>by simp at hi)),by simpa using hp1.symm,.slice hu (fun cs hcs=>by cases hcs),?_⟩
    have:=B.one (DataW.nil (H:=H))
    simpa [szL,szD,szLL] using this
   ·have hlm : len≤m:=by rw [hmm]; split <;> omega
    have hall : ∀ i,∃ p : List D × List Value,i < m→(w.cells? base (a.add (i * P.cellsOf e)) (P.cellsOf e) = some p.2∧Cells w p.1 p.2∧p.2.length = P.cellsOf e∧Ty P e p.1∧szL p.1≤bk (D' i)):=by
     intro i
     by_cases hi : i < m
     ·obtain ⟨cs',c1,c2⟩:=hel i hi
      obtain ⟨ds,d1,d2,d3,d4⟩:=ih hp2 c2
      exact ⟨(ds,cs'),fun _=>⟨c1,d1,d2,d3,d4⟩⟩
     ·exact ⟨([],[]),fun h=>absurd h hi⟩
    have hch : ∀ i,i < m→(w.cells? base (a.add (i * P.cellsOf e)) (P.cellsOf e) = some (Classical.choose (hall i)).2∧Cells w (Classical.choose (hall i)).1 (Classical.choose (hall i)).2∧(Classical.choose (hall i)).2.length = P.cellsOf e∧Ty P e (Classical.choose (hall i)).1∧szL (Classical.choose (hall i)).1≤bk (D' i)):=fun i=>Classical.choose_spec (hall i)
    generalize hfe : (fun i=>Classical.choose (hall i)) = F at *
    have hF : ∀ i,i < m→(w.cells? base (a.add (i * P.cellsOf e)) (P.cellsOf e) = some (F i).2∧Cells w (F i).1 (F i).2∧(F i).2.length = P.cellsOf e∧Ty P e (F i).1∧szL (F i).1≤bk (D' i)):=by
     intro i hi
     rw [← hfe]
     exact hch i hi
    clear hch hfe hall
    have hget : ∀ (i : Nat) (cs : List D),((List.range len).map fun i=>(F i).1)[i]? = some cs→i < len∧cs = (F i).1:=by
     intro i cs hi
     rw [List.getElem?_map] at hi
     rcases Nat.lt_or_ge i len with c | c
     ·rw [List.getElem?_range c] at hi
      simp only [Option.map_some,Option.some.injEq] at hi
      exact ⟨c,hi.symm⟩
     ·rw [List.getElem?_eq_none (by simpa using c)] at hi; cases hi
    have hcell : ∀ (i j : Nat) (u : D),i < len→(F i).1[j]? = some u→∃ y,(F i).2[j]? = some y∧w.cell? (a.add (i * P.cellsOf e + j)) = some y∧y.oneCell' = true∧DRel (fun _=>False) w u y:=by
     intro i j u hi hj
     obtain ⟨c1,c2,c3,c4,c5⟩:=hF i (by omega)
     obtain ⟨_,d1,d2⟩:=World.cells?_some c1
     have hjl : j < (F i).2.length:=by rw [← c2.1]; exact (List.getElem?_eq_some_iff.1 hj).1
     have hy:=List.getElem?_eq_getElem hjl
     obtain ⟨e1,e2⟩:=c2.2 j u _ hj hy
     refine ⟨_,hy,?_,e1,e2⟩
     rw [← qfE9,d2 j (by omega),hy]
    have hlen : ((List.range len).map fun i=>(F i).1).length = len:=by simp
    refine ⟨[.rd ((List.range len).map fun i=>(F i).1)],one rfl ?_,by simpa using hp1.symm,.slice hu (fun cs hcs=>?_),?_⟩
    ·have:=DRel.rd (E:=fun _=>False) (w:=w) ((List.range len).map fun i=>(F i).1) (some a) cap (P.cellsOf e) (fun i j=>((F i).2[j]?).getD (.bool true)) (by rw [hlen]; exact hl)
      (fun i cs hi=>by obtain ⟨h1,rfl⟩:=hget i cs hi; rw [(hF i (by omega)).2.1.1]; exact (hF i (by omega)).2.2.1)
      (fun i cs hi=>⟨a,rfl⟩)
      (fun i j cs u ad hi hj ha=>by
       obtain ⟨h1,rfl⟩:=hget i cs hi
       cases ha
       obtain ⟨y,y1,y2,y3,y4⟩:=hcell i j u h1 hj
       rw [y1]
       exact ⟨fun hf=>hf,y2,y3⟩)
      (fun i j cs u hi hj=>by
       obtain ⟨h1,rfl⟩:=hget i cs hi
       obtain ⟨y,y1,y2,y3,y4⟩:=hcell i j u h1 hj
       rw [y1]
       exact y4)
     rw [hlen] at this
     exact this
    ·obtain ⟨i,hi,rfl⟩:=List.mem_map.1 hcs
     exact (hF i (by have:=List.mem_range.1 hi; omega)).2.2.2.1
    ·have:=B.map (f:=fun i=>(F i).1) (g:=D') (List.range len) (fun i hi=>(hF i (by have:=List.mem_range.1 hi; omega)).2.2.2.2)
     simp only [szL,szD,B.slice]
     omega
  ·rename_i fs hu
   simp only [Bool.and_eq_true] at hp
   obtain ⟨xs,nn,rfl,rfl,hl,hxl,hpt⟩:=DataW.trod_struct hu h
   obtain ⟨ds,d1,d2,d3⟩:=qqe9 B ih fs.toList 0 xs (by rw [hl]; exact hp.1) (Nat.zero_le _) hp.2 (by simpa using hxl) (fun i f hf=>hpt i f (by simpa using hf))
   rw [List.drop_zero] at d1
   refine ⟨ds,d1,hl,.struct hu (by rw [d1.1,hl]) (fun f hf=>?_),?_⟩
   ·have:=(d2 f hf).2
    rw [Nat.sub_zero] at this
    exact this
   ·show szL ds≤bk (.agg (xs.map (·.1)))
    rw [B.agg]; omega
  ·rename_i k e hu
   simp only [Bool.and_eq_true,beq_iff_eq] at hp
   obtain ⟨xs,nn,rfl,rfl,hl,hxl,hpt⟩:=DataW.trod_array hu h
   obtain ⟨ds,d1,d2,d3⟩:=qqe9 B ih (fakes P e k 0) 0 xs (by have:=qvi9 (P:=P) e cs.length k 0 (by rw [Nat.zero_add,hl,hp.1]); rw [Nat.zero_mul] at this; exact this) (Nat.zero_le _) (qua9 e hp.2 k 0) (by rw [qmO9]; exact hxl) (fun i f hf=>by
    obtain ⟨h1,h2,h3⟩:=qmC9 e k 0 i f hf
    rw [h2,h3,Nat.zero_add]
    exact hpt i h1)
   rw [List.drop_zero] at d1
   refine ⟨ds,d1,hl,.array hu (by rw [d1.1,hl]) (fun i hi=>?_),?_⟩
   ·obtain ⟨f,hf,h2,h3⟩:=qwU9 (P:=P) e k 0 i hi
    have:=(d2 f hf).2
    rw [Nat.sub_zero,h2,h3,Nat.zero_add] at this
    exact this
   ·show szL ds≤bk (.agg (xs.map (·.1)))
    rw [B.agg]; omega
  ·cases hp
end
end Go.Abs
namespace Go.Abs
open Go Go.RowKit
section
variable {W : World}

theorem qnc9 {C : Cfg} {f : FuncId} (hC : COk W C) (hu : C.use f = true) {args : List D} {vs : List Value} (hl : vs.length = args.length) (hd : ∀ (j : Nat) (u : D) (y : Value),args[j]? = some u→vs[j]? = some y→DRel (fun _=>False) W u y) {b : Value} {h' : AHeap}
  (hr : Lim C f (args.map PV.d) [] = some (.d (.v b),h')) : Calls C.P f vs.toArray W fun e w'=>e = .returned b∧Below W.heap.size W w':=by
 have H : HRel W (fun _=>False) [] (fun _=>none) W:=⟨fun id o ho=>by simp at ho,fun id o g bo ho=>by simp at ho,fun id id' o o' g bo bo' ho=>by simp at ho,fun id o g bo ho=>by simp at ho,fun b hb=>hb.elim,Nat.le_refl _,fun _ _=>rfl,fun id o g bo ho=>by simp at ho⟩
 have hv : VRels (Ex (fun _=>False) [] (fun _=>none)) [] (fun _=>none) W (args.map PV.d) vs:=by
  refine ⟨by simp [hl],fun j u y a b=>?_⟩
  rw [List.getElem?_map] at a
  cases hj : args[j]? with
  | none=>simp [hj] at a
  | some d =>
   simp only [hj,Option.map_some,Option.some.injEq] at a
   subst a
   refine .d _ _ ((hd j d y hj b).move (fun b _ he=>?_) (fun _ _ _=>rfl))
   rcases he with he | ⟨id,o,bo,k,_⟩
   ·exact he
   ·simp at k
 refine Calls.mono (qbJ9 hC f hu _ _ _ _ hr (fun _=>False) (fun _=>none) W vs H hv) (fun e w' he=>?_)
 cases e with
 | returned v =>
  obtain ⟨m',o1,o2,o3⟩:=he
  have : v = b:=o1.to_v rfl
  subst this
  exact ⟨rfl,⟨o3.os,o3.tape,o3.output.1,o3.size,fun k hk=>o3.blk2 k hk (fun hx=>by
   rcases hx with hx | ⟨id,o,bo,q,_⟩
   ·exact hx
   ·simp at q)⟩⟩
 | panicked c=>exact he.elim
 | outgrown=>exact he.elim
end
end Go.Abs
namespace Go.Abs
open Go Go.RowKit
section
variable {H : Type} {enc : TypeId × Value→H} {P : Program} {w : World} {base : Nat} {spare : Nat→Bool} {held : Bool} {bk : DataW H→Nat} {bkA : List (DataW H)→Nat}
def argOf (P : Program) (t : TypeId) (ds : List D) : D:=match P.underlying t with
 | some (.struct _)=>.ag ds
 | some (.array _ _)=>.ag ds
 | _=>ds.headD (.v (.bool true))
theorem arg_D (B : Bulk bk bkA) {n : Nat} {t : TypeId} {v : Value} {d : DataW H} {ps : List MemPlace} {r : Reach} {b0 : Nat} (hp : qcz9 P n t = true) (hok : Value.okWide P w r b0 t v) (h : DataW.Trod enc P w base spare held t v d ps) :
  ∃ ds,Ty P t ds∧szL ds≤bk d∧DRel (fun _=>False) w (argOf P t ds) v:=by
 obtain ⟨fuel,h⟩:=h
 obtain ⟨ds,c1,c2,c3,c4⟩:=qzP9 B n hp h
 refine ⟨ds,c3,c4,?_⟩
 have one : v.cells = #[v]→argOf P t ds = ds.headD (.v (.bool true))→DRel (fun _=>False) w (argOf P t ds) v:=by
  intro hc ha
  rw [ha]
  rw [hc] at c1
  cases ds with
  | nil=>have:=c1.1; simp at this
  | cons u r=>exact (c1.2 0 u v rfl rfl).2
 cases n with
 | zero=>simp [qcz9] at hp
 | succ n =>
  cases hu : P.underlying t with
  | none=>simp [qcz9,hu] at hp
  | some dd =>
   unfold Value.okWide at hok
   rw [hu] at hok
   have ha : (∀ fs,dd ≠ .struct fs)→(∀ k e,dd ≠ .array k e)→argOf P t ds = ds.headD (.v (.bool true)):=by
    intro hne hna
    unfold argOf
    rw [hu]
    cases dd <;> first | rfl | exact absurd rfl (hne _) | exact absurd rfl (hna _ _)
   cases dd with
   | struct fs =>
    obtain ⟨cs,rfl,_,_⟩:=hok
    have e : argOf P t ds = .ag ds:=by unfold argOf; rw [hu]
    rw [e]
    have : cs = cs.toList.toArray:=by simp
    rw [this]
    exact .ag ds cs.toList (c1.1.symm) (fun j x hx=>by
     have hlt : j < ds.length:=by rw [c1.1]; exact (List.getElem?_eq_some_iff.1 hx).1
     exact (c1.2 j _ x (List.getElem?_eq_getElem hlt) hx).1) (fun j u x a b=>(c1.2 j u x a b).2)
   | array k e =>
    obtain ⟨cs,rfl,_,_⟩:=hok
    have e : argOf P t ds = .ag ds:=by unfold argOf; rw [hu]
    rw [e]
    have : cs = cs.toList.toArray:=by simp
    rw [this]
    exact .ag ds cs.toList (c1.1.symm) (fun j x hx=>by
     have hlt : j < ds.length:=by rw [c1.1]; exact (List.getElem?_eq_some_iff.1 hx).1
     exact (c1.2 j _ x (List.getElem?_eq_getElem hlt) hx).1) (fun j u x a b=>(c1.2 j u x a b).2)
   | int k =>
    refine one ?_ (ha (by simp) (by simp))
    cases v <;> simp [Cell.okWide,Cell.ok,hu] at hok <;> rfl
   | string =>
    refine one ?_ (ha (by simp) (by simp))
    cases v <;> simp [Cell.okWide,Cell.ok,hu] at hok <;> rfl
   | bool =>
    refine one ?_ (ha (by simp) (by simp))
    cases v <;> simp [Cell.okWide,Cell.ok,hu] at hok <;> rfl
   | slice e =>
    refine one ?_ (ha (by simp) (by simp))
    cases v <;> simp [Cell.okWide,Cell.ok,hu] at hok <;> rfl
   | _=>simp [qcz9,hu] at hp

theorem Ty.int_inv {t : TypeId} {k : IntKind} {ds : List D} (hu : P.underlying t = some (.int k)) (h : Ty P t ds) : ∃ n,ds = [.v (.int k n)]∧(Lit.int k n).wf = true:=by
 cases h with
 | int h1 h2=>rw [hu] at h1; cases h1; exact ⟨_,rfl,h2⟩
 | str h1=>rw [hu] at h1; cases h1
 | bool h1=>rw [hu] at h1; cases h1
 | slice h1 _=>rw [hu] at h1; cases h1
 | struct h1 _ _=>rw [hu] at h1; cases h1
 | array h1 _ _=>rw [hu] at h1; cases h1
theorem Ty.slice_inv {t e : TypeId} {ds : List D} (hu : P.underlying t = some (.slice e)) (h : Ty P t ds) : ∃ xs,ds = [.rd xs]∧∀ cs∈xs,Ty P e cs:=by
 cases h with
 | int h1 h2=>rw [hu] at h1; cases h1
 | str h1=>rw [hu] at h1; cases h1
 | bool h1=>rw [hu] at h1; cases h1
 | slice h1 h2=>rw [hu] at h1; cases h1; exact ⟨_,rfl,h2⟩
 | struct h1 _ _=>rw [hu] at h1; cases h1
 | array h1 _ _=>rw [hu] at h1; cases h1
theorem Ty.struct_inv {t : TypeId} {fs : Array Field} {ds : List D} (hu : P.underlying t = some (.struct fs)) (h : Ty P t ds) : ds.length = P.cellsOf t∧∀ f∈fs.toList,Ty P f.type ((ds.drop f.offset).take (P.cellsOf f.type)):=by
 cases h with
 | int h1 h2=>rw [hu] at h1; cases h1
 | str h1=>rw [hu] at h1; cases h1
 | bool h1=>rw [hu] at h1; cases h1
 | slice h1 h2=>rw [hu] at h1; cases h1
 | struct h1 h2 h3=>rw [hu] at h1; cases h1; exact ⟨h2,h3⟩
 | array h1 _ _=>rw [hu] at h1; cases h1
theorem qfw9 {α : Type} {f : α→List D} {q : α→Prop} : ∀ {xs : List (List D)},(∀ cs∈xs,∃ a,cs = f a∧q a)→∃ l : List α,xs = l.map f∧∀ a∈l,q a:=by
 intro xs
 induction xs with
 | nil=>intro _; exact ⟨[],rfl,fun a h=>by cases h⟩
 | cons x r ih =>
  intro h
  obtain ⟨a,rfl,hq⟩:=h x (by simp)
  obtain ⟨l,rfl,hl⟩:=ih (fun cs hc=>h cs (by simp [hc]))
  refine ⟨a::l,rfl,fun b hb=>?_⟩
  rcases List.mem_cons.1 hb with rfl | hb
  ·exact hq
  ·exact hl b hb
end
end Go.Abs
namespace Go.Abs
open Go
section
variable {P : Program} {h : AHeap} {t : TypeId} {x y : Operand}
theorem qwO9 {s : ByteArray} (hu : P.underlying t = some .string) : qia9 P h t (.d (.v (.string s))) = some (.it h.length,h++[.siter s 0]):=by simp [qia9,hu]
theorem qxN9 {a b : ByteArray} : opBin P h .eql t x y (.d (.v (.string a))) (.d (.v (.string b))) = some (.d (.v (.bool (decide (a = b)))),h):=qbL9 qbi9 rfl rfl (by
 have e : (a.toList == b.toList) = decide (a = b):=by
  rw [← Go.beq_toListBytes]
  exact Bool.eq_iff_iff.2 ((qlg9 a b).trans (decide_eq_true_iff).symm)
 simp [eqGuard,binOp,Op.stringOp,e]
 rfl)
theorem qyP9 {a b : ByteArray} : opBin P h .neq t x y (.d (.v (.string a))) (.d (.v (.string b))) = some (.d (.v (.bool (decide (a ≠ b)))),h):=qbL9 qbi9 rfl rfl (by
 have e : (a.toList == b.toList) = decide (a = b):=by
  rw [← Go.beq_toListBytes]
  exact Bool.eq_iff_iff.2 ((qlg9 a b).trans (decide_eq_true_iff).symm)
 simp [eqGuard,binOp,Op.stringOp,e]
 rfl)
theorem qya9 {a b : ByteArray} (hs : ((a.size + b.size : Nat) : Int)≤9223372036854775807) : opBin P h .add t x y (.d (.v (.string a))) (.d (.v (.string b))) = some (.d (.v (.string (a++b))),h):=qbL9 qbi9 rfl rfl (by
 have e : ¬ (((a.size + b.size : Nat) : Int) > IntKind.i64.max):=by simp only [IntKind.max_i64]; omega
 simp only [eqGuard,binOp,Op.stringOp,if_neg e]
 rfl)
theorem qwg9 {s d : TypeId} {ds : TypeDesc} {k' : IntKind} {n : Int} (hs : P.underlying s = some ds) (hd : P.underlying d = some .string) : qel9 P h s d (.d (.v (.int k' n))) = some (.d (.v (.string (Utf8.encode n))),h):=by
 have e : pev P (convert s d (.int k' n)) = some (.string (Utf8.encode n)):=by
  simp only [convert,underlying,program,bind,pure,Sem.bind,pev,hs,hd]
  cases ds <;> rfl
 simp [qel9,toV,e]
theorem qyY9 {C : Cfg} {L : Oracle} {ty : TypeId} {fv : PV} {s : ByteArray} (hu : C.P.underlying t = some .string) : qcA9 C L h (.builtin .len) fv #[t] ty [.d (.v (.string s))] = some (.d (.v (.int .i64 s.size)),h):=by
 have e : pev C.P (Builtin.len_ #[t] ty #[.string s]) = some (.int .i64 s.size):=by
  simp only [Builtin.len_,underlying,program,bind,pure,Sem.bind,pev]
  show pev C.P (Sem.program _) = _
  simp only [pev,List.getElem_toArray,List.getElem_cons_zero,hu]
  rfl
 simp [qcA9,qbh9,lenP,toV,e]
end
end Go.Abs
namespace Go.Abs
open Go
section
variable {P : Program} {h : AHeap} {t : TypeId}
theorem sindex {s : ByteArray} {i : Nat} {k : IntKind} {b : UInt8} (hu : P.underlying t = some .string) (hb : s[i]? = some b) : qhs9 P h t (.d (.v (.string s))) (.d (.v (.int k (i : Int)))) = some (.d (.v (.int .u8 (b.toNat : Nat))),h):=by
 have e : pev P (Instr.index t (.string s) (.int k (i : Int))) = some (.int .u8 (b.toNat : Nat)):=by
  have h1 : (0 : Int)≤(i : Int):=by omega
  simp only [Instr.index,asIntOf,underlying,program,bind,pure,Sem.bind,pev,hu,if_pos h1,Int.toNat_natCast,hb]
 simp [qhs9,toV,e]
end
end Go.Abs

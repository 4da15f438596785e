import Derived.Test.YtmkohpkfeamjiaaAbs2
import Derived.Laws.Sem
import Derived.Laws.World
import Derived.Tactics
import Derived.Laws.Cells
import Derived.Laws.CopyRow
import Derived.Laws.AppendOwn
import Derived.Laws.Append
import Derived.Laws.OwnMore
set_option maxHeartbeats 400000
set_option linter.unusedVariables false
set_option linter.unusedSimpArgs false
set_option linter.unusedSectionVars false
namespace Go.Abs
open Go Go.RowKit

def upd (m : Places) (id : Nat) (p : Option (Nat × Nat)) : Places:=fun i=>if i = id then p else m i
@[simp] theorem upd_same (m : Places) (id : Nat) (p : Option (Nat × Nat)) : upd m id p id = p:=by simp [upd]
theorem qjy9 (m : Places) {id i : Nat} (p : Option (Nat × Nat)) (h : i ≠ id) : upd m id p i = m i:=by simp [upd,h]

section
variable {W0 : World} {X : Nat→Prop} {h : AHeap} {m : Places} {w w' : World}

theorem ORel.of {E' : Nat→Prop} {h' : AHeap} {m' : Places} {o : AObj} {p : Option (Nat × Nat)} (hv : Evo (Ex X h m) h m w E' h' m' w') (hb : ∀ g bo,p = some (g,bo)→w'.heap[g]? = w.heap[g]?)
  (ho : ORel (Ex X h m) h m w o p) : ORel E' h' m' w' o p:=by
 cases o with
 | row fz ver sz es =>
  cases p with
  | none=>exact ho
  | some p =>
   obtain ⟨g,bo⟩:=p
   obtain ⟨h0,cur,e,h1,h2,h3,h4⟩:=ho
   refine ⟨h0,cur,e,(hb g bo rfl).trans h1,h2,h3,fun i j cs u a b=>?_⟩
   obtain ⟨x,c1,c2,c3⟩:=h4 i j cs u a b
   exact ⟨x,c1,c2,c3.evo hv⟩
 | map es =>
  cases p with
  | none=>exact ho
  | some p =>
   obtain ⟨g,bo⟩:=p
   obtain ⟨ents,clock,h1,h2,h3,h4⟩:=ho
   refine ⟨ents,clock,(hb g bo rfl).trans h1,h2,fun i k u x a b=>?_,h4⟩
   obtain ⟨c1,c2⟩:=h3 i k u x a b
   exact ⟨c1,c2.evo hv⟩
 | siter s pos =>
  cases p with
  | none=>exact ho
  | some p=>obtain ⟨g,bo⟩:=p; exact (hb g bo rfl).trans ho

theorem Evo.grow (H : HRel W0 X h m w) (hos : w'.os = w.os) (htape : w'.tape = w.tape) (hout : Outs w w') (hs : w.heap.size≤w'.heap.size)
  (hb : ∀ b,b < w.heap.size→w'.heap[b]? = w.heap[b]?) : Evo (Ex X h m) h m w (Ex X h m) h m w' :=
 ⟨hos,htape,hout,hs,fun _ _ k=>k,fun b hlt _=>hb b hlt,fun _ _ k=>k,fun b hlt _=>hb b hlt,fun id o ho=>⟨o,ho,by
  have H1:=H.obj id o ho
  cases o with
  | row fz ver sz es =>
   refine ⟨Nat.le_refl _,fun z=>z,rfl,fun _=>⟨Nat.le_refl _,rfl,fun g bo cur e hm hg=>⟨cur,?_,rfl⟩⟩⟩
   rw [hb g (H.lt _ _ g bo ho hm)]
   exact hg
  | map es=>exact rfl
  | siter s p=>exact rfl⟩⟩
theorem HRel.grow (H : HRel W0 X h m w) (hos : w'.os = w.os) (htape : w'.tape = w.tape) (hout : Outs w w') (hs : w.heap.size≤w'.heap.size)
  (hb : ∀ b,b < w.heap.size→w'.heap[b]? = w.heap[b]?) : HRel W0 X h m w' where
 obj:=fun id o ho=>(H.obj id o ho).of (Evo.grow H hos htape hout hs hb) (fun g bo hm=>hb g (H.lt id o g bo ho hm))
 lt:=fun id o g bo ho hm=>Nat.lt_of_lt_of_le (H.lt id o g bo ho hm) hs
 inj:=H.inj
 apart:=H.apart
 xlt:=fun b hx=>Nat.lt_of_lt_of_le (H.xlt b hx) hs
 osz:=Nat.le_trans H.osz hs
 old:=fun b hlt=>(hb b (Nat.lt_of_lt_of_le hlt H.osz)).trans (H.old b hlt)
 new:=H.new

theorem qgl9 (H : HRel W0 X h m w) (o : AObj) (p : Option (Nat × Nat)) (hos : w'.os = w.os) (htape : w'.tape = w.tape) (hout : Outs w w') (hs : w.heap.size≤w'.heap.size)
  (hb : ∀ b,b < w.heap.size→w'.heap[b]? = w.heap[b]?) (hp : ∀ g bo,p = some (g,bo)→w.heap.size≤g∧g < w'.heap.size)
  (hn : Evo (Ex X h m) h m w (Ex X (h++[o]) (upd m h.length p)) (h++[o]) (upd m h.length p) w'→ORel (Ex X (h++[o]) (upd m h.length p)) (h++[o]) (upd m h.length p) w' o p) :
  Evo (Ex X h m) h m w (Ex X (h++[o]) (upd m h.length p)) (h++[o]) (upd m h.length p) w'∧HRel W0 X (h++[o]) (upd m h.length p) w':=by
 have hold : ∀ id o1,h[id]? = some o1→id < h.length∧(h++[o])[id]? = some o1∧upd m h.length p id = m id:=by
  intro id o1 h1
  have hlt : id < h.length:=(List.getElem?_eq_some_iff.1 h1).1
  exact ⟨hlt,by rw [List.getElem?_append_left hlt]; exact h1,qjy9 m p (by omega)⟩
 have hcase : ∀ id o1,(h++[o])[id]? = some o1→(id < h.length∧h[id]? = some o1∧upd m h.length p id = m id)∨(id = h.length∧o1 = o):=by
  intro id o1 h1
  rcases Nat.lt_or_ge id h.length with hlt | hge
  ·rw [List.getElem?_append_left hlt] at h1
   exact .inl ⟨hlt,h1,qjy9 m p (by omega)⟩
  ·right
   have hl:=(List.getElem?_eq_some_iff.1 h1).1
   simp at hl
   have : id = h.length:=by omega
   subst this
   simp at h1
   exact ⟨rfl,h1.symm⟩
 have hev : Evo (Ex X h m) h m w (Ex X (h++[o]) (upd m h.length p)) (h++[o]) (upd m h.length p) w':=by
  have hown : ∀ (Y : Nat→Prop) b,b < w.heap.size→Ex Y (h++[o]) (upd m h.length p) b→Ex Y h m b:=by
   intro Y b hlt hE
   rcases hE with hx | ⟨id,o1,bo,h1,h2,h3⟩
   ·exact .inl hx
   ·rcases hcase id o1 h1 with ⟨_,k1,k2⟩ | ⟨rfl,rfl⟩
    ·exact .inr ⟨id,o1,bo,k1,h2,by rw [← k2]; exact h3⟩
    ·rw [upd_same] at h3
     have:=(hp _ _ h3).1
     omega
  refine ⟨hos,htape,hout,hs,hown X,fun b hlt _=>hb b hlt,hown _,fun b hlt _=>hb b hlt,fun id o1 ho=>?_⟩
  ·obtain ⟨k0,k1,k2⟩:=hold id o1 ho
   refine ⟨o1,k1,?_⟩
   rw [k2]
   cases o1 with
   | row fz ver sz es =>
    refine ⟨Nat.le_refl _,fun z=>z,rfl,fun _=>⟨Nat.le_refl _,rfl,fun g bo cur e hm hg=>⟨cur,?_,rfl⟩⟩⟩
    rw [hb g (H.lt _ _ g bo ho hm)]
    exact hg
   | map es=>exact rfl
   | siter s q=>exact rfl
 refine ⟨hev,?_,?_,?_,?_,?_,Nat.le_trans H.osz hs,?_,?_⟩
 ·intro id o1 h1
  rcases hcase id o1 h1 with ⟨_,k1,k2⟩ | ⟨rfl,rfl⟩
  ·rw [k2]
   exact (H.obj id o1 k1).of hev (fun g bo hm=>hb g (H.lt id o1 g bo k1 hm))
  ·rw [upd_same]; exact hn hev
 ·intro id o1 g bo h1 hm
  rcases hcase id o1 h1 with ⟨_,k1,k2⟩ | ⟨rfl,rfl⟩
  ·rw [k2] at hm
   exact Nat.lt_of_lt_of_le (H.lt id o1 g bo k1 hm) hs
  ·rw [upd_same] at hm
   exact (hp g bo hm).2
 ·intro id id' o1 o2 g bo bo' h1 h2 hm hm'
  rcases hcase id o1 h1 with ⟨a0,k1,k2⟩ | ⟨rfl,rfl⟩ <;> rcases hcase id' o2 h2 with ⟨b0,l1,l2⟩ | ⟨rfl,rfl⟩
  ·rw [k2] at hm; rw [l2] at hm'
   exact H.inj id id' o1 o2 g bo bo' k1 l1 hm hm'
  ·rw [k2] at hm; rw [upd_same] at hm'
   have:=H.lt id o1 g bo k1 hm
   have:=(hp _ _ hm').1
   omega
  ·rw [l2] at hm'; rw [upd_same] at hm
   have:=H.lt id' o2 g bo' l1 hm'
   have:=(hp _ _ hm).1
   omega
  ·rfl
 ·intro id o1 g bo h1 hm
  rcases hcase id o1 h1 with ⟨_,k1,k2⟩ | ⟨rfl,rfl⟩
  ·rw [k2] at hm; exact H.apart id o1 g bo k1 hm
  ·rw [upd_same] at hm
   intro hx
   have:=H.xlt g hx
   have:=(hp _ _ hm).1
   omega
 ·exact fun b hx=>Nat.lt_of_lt_of_le (H.xlt b hx) hs
 ·exact fun b hlt=>(hb b (Nat.lt_of_lt_of_le hlt H.osz)).trans (H.old b hlt)
 ·intro id o1 g bo h1 hm
  rcases hcase id o1 h1 with ⟨_,k1,k2⟩ | ⟨rfl,rfl⟩
  ·rw [k2] at hm; exact H.new id o1 g bo k1 hm
  ·rw [upd_same] at hm
   exact Nat.le_trans H.osz (hp g bo hm).1

theorem qeq9 (H : HRel W0 X h m w) {id : Nat} {o : AObj} (ho : h[id]? = some o) (hact : o.active = true) (o' : AObj) (p : Option (Nat × Nat)) (hos : w'.os = w.os) (htape : w'.tape = w.tape) (hout : Outs w w') (hs : w.heap.size≤w'.heap.size)
  (hb : ∀ b,b < w.heap.size→(∀ g bo,m id = some (g,bo)→b ≠ g)→w'.heap[b]? = w.heap[b]?) (hoe : OEvo w w' o o' (m id) p)
  (hp : ∀ g bo,p = some (g,bo)→g < w'.heap.size∧((∃ bo',m id = some (g,bo'))∨w.heap.size≤g))
  (hn : Evo (Ex X h m) h m w (Ex X (h.set id o') (upd m id p)) (h.set id o') (upd m id p) w'→ORel (Ex X (h.set id o') (upd m id p)) (h.set id o') (upd m id p) w' o' p) :
  Evo (Ex X h m) h m w (Ex X (h.set id o') (upd m id p)) (h.set id o') (upd m id p) w'∧HRel W0 X (h.set id o') (upd m id p) w':=by
 have hid : id < h.length:=(List.getElem?_eq_some_iff.1 ho).1
 have hself : (h.set id o')[id]? = some o':=by simp [hid]
 have hother : ∀ i,i ≠ id→(h.set id o')[i]? = h[i]?:=fun i hne=>List.getElem?_set_ne (fun e=>hne e.symm)
 have hcase : ∀ i o1,(h.set id o')[i]? = some o1→(i ≠ id∧h[i]? = some o1∧upd m id p i = m i)∨(i = id∧o1 = o'):=by
  intro i o1 h1
  by_cases hne : i = id
  ·subst hne; rw [hself] at h1; exact .inr ⟨rfl,(Option.some.inj h1).symm⟩
  ·rw [hother i hne] at h1; exact .inl ⟨hne,h1,qjy9 m p hne⟩
 have hne_blk : ∀ i o1 g bo,i ≠ id→h[i]? = some o1→m i = some (g,bo)→∀ g' bo',m id = some (g',bo')→g ≠ g':=by
  intro i o1 g bo hne h1 hm g' bo' hm' e
  subst e
  exact hne (H.inj i id o1 o g bo bo' h1 ho hm hm')
 have hev : Evo (Ex X h m) h m w (Ex X (h.set id o') (upd m id p)) (h.set id o') (upd m id p) w':=by
  have hown : ∀ (Y : Nat→Prop) b,b < w.heap.size→Ex Y (h.set id o') (upd m id p) b→Ex Y h m b:=by
   intro Y b hlt hE
   rcases hE with hx | ⟨i,o1,bo,h1,h2,h3⟩
   ·exact .inl hx
   ·rcases hcase i o1 h1 with ⟨hne,k1,k2⟩ | ⟨rfl,rfl⟩
    ·exact .inr ⟨i,o1,bo,k1,h2,by rw [← k2]; exact h3⟩
    ·rw [upd_same] at h3
     rcases (hp _ _ h3).2 with ⟨bo',hm⟩ | hge
     ·exact .inr ⟨i,o,bo',ho,hact,hm⟩
     ·omega
  have hblk : ∀ (Y : Nat→Prop) b,b < w.heap.size→¬ Ex Y h m b→w'.heap[b]? = w.heap[b]?:=by
   intro Y b hlt hE
   refine hb b hlt fun g bo hm e=>hE ?_
   subst e
   exact .inr ⟨id,o,bo,ho,hact,hm⟩
  refine ⟨hos,htape,hout,hs,hown X,hblk X,hown _,hblk _,fun i o1 h1=>?_⟩
  ·by_cases hne : i = id
   ·subst hne
    rw [ho] at h1
    obtain rfl:=Option.some.inj h1
    refine ⟨o',hself,?_⟩
    rw [upd_same]
    exact hoe
   ·refine ⟨o1,by rw [hother i hne]; exact h1,?_⟩
    rw [qjy9 m p hne]
    cases o1 with
    | row fz ver sz es =>
     refine ⟨Nat.le_refl _,fun z=>z,rfl,fun _=>⟨Nat.le_refl _,rfl,fun g bo cur e hm hg=>⟨cur,?_,rfl⟩⟩⟩
     rw [hb g (H.lt _ _ g bo h1 hm) (hne_blk i _ g bo hne h1 hm)]
     exact hg
    | map es=>exact rfl
    | siter s q=>exact rfl
 refine ⟨hev,?_,?_,?_,?_,?_,Nat.le_trans H.osz hs,?_,?_⟩
 ·intro i o1 h1
  rcases hcase i o1 h1 with ⟨hne,k1,k2⟩ | ⟨rfl,rfl⟩
  ·rw [k2]
   exact (H.obj i o1 k1).of hev (fun g bo hm=>hb g (H.lt i o1 g bo k1 hm) (hne_blk i o1 g bo hne k1 hm))
  ·rw [upd_same]; exact hn hev
 ·intro i o1 g bo h1 hm
  rcases hcase i o1 h1 with ⟨_,k1,k2⟩ | ⟨rfl,rfl⟩
  ·rw [k2] at hm
   exact Nat.lt_of_lt_of_le (H.lt i o1 g bo k1 hm) hs
  ·rw [upd_same] at hm
   exact (hp g bo hm).1
 ·intro i i' o1 o2 g bo bo' h1 h2 hm hm'
  rcases hcase i o1 h1 with ⟨a0,k1,k2⟩ | ⟨rfl,rfl⟩ <;> rcases hcase i' o2 h2 with ⟨b0,l1,l2⟩ | ⟨rfl,rfl⟩
  ·rw [k2] at hm; rw [l2] at hm'
   exact H.inj i i' o1 o2 g bo bo' k1 l1 hm hm'
  ·rw [k2] at hm; rw [upd_same] at hm'
   rcases (hp _ _ hm').2 with ⟨b1,hm1⟩ | hge
   ·exact absurd rfl (hne_blk i o1 g bo a0 k1 hm g b1 hm1)
   ·have:=H.lt i o1 g bo k1 hm; omega
  ·rw [l2] at hm'; rw [upd_same] at hm
   rcases (hp _ _ hm).2 with ⟨b1,hm1⟩ | hge
   ·exact absurd rfl (hne_blk i' o2 g bo' b0 l1 hm' g b1 hm1)
   ·have:=H.lt i' o2 g bo' l1 hm'; omega
  ·rfl
 ·intro i o1 g bo h1 hm
  rcases hcase i o1 h1 with ⟨_,k1,k2⟩ | ⟨rfl,rfl⟩
  ·rw [k2] at hm; exact H.apart i o1 g bo k1 hm
  ·rw [upd_same] at hm
   intro hx
   rcases (hp _ _ hm).2 with ⟨b1,hm1⟩ | hge
   ·exact H.apart i o g b1 ho hm1 hx
   ·have:=H.xlt g hx; omega
 ·exact fun b hx=>Nat.lt_of_lt_of_le (H.xlt b hx) hs
 ·intro b hlt
  refine (hb b (Nat.lt_of_lt_of_le hlt H.osz) fun g bo hm e=>?_).trans (H.old b hlt)
  subst e
  have:=H.new id o b bo ho hm
  omega
 ·intro i o1 g bo h1 hm
  rcases hcase i o1 h1 with ⟨_,k1,k2⟩ | ⟨rfl,rfl⟩
  ·rw [k2] at hm; exact H.new i o1 g bo k1 hm
  ·rw [upd_same] at hm
   rcases (hp _ _ hm).2 with ⟨b1,hm1⟩ | hge
   ·exact H.new i o g b1 ho hm1
   ·exact Nat.le_trans H.osz hge

theorem ORel.fz {E : Nat→Prop} {fz : Bool} {ver sz : Nat} {es : List (List PV)} {p : Option (Nat × Nat)} (h1 : ORel E h m w (.row fz ver sz es) p) (fz' : Bool) : ORel E h m w (.row fz' ver sz es) p:=by
 cases p <;> exact h1
def Fz : AObj→AObj→Prop
 | .row fz ver sz es,.row fz' ver' sz' es'=>(fz = true→fz' = true)∧ver' = ver∧sz' = sz∧es' = es
 | o,o'=>o' = o
structure FzH (h h' : AHeap) : Prop where
 len : h'.length = h.length
 obj : ∀ (id : Nat) (o : AObj),h[id]? = some o→∃ o',h'[id]? = some o'∧Fz o o'
theorem Fz.refl (o : AObj) : Fz o o:=by cases o <;> simp [Fz]
theorem Fz.trans {a b c : AObj} (h : Fz a b) (k : Fz b c) : Fz a c:=by
 cases a <;> cases b <;> cases c <;> simp_all [Fz]
theorem FzH.refl (h : AHeap) : FzH h h:=⟨rfl,fun _ o ho=>⟨o,ho,Fz.refl o⟩⟩
theorem FzH.trans {a b c : AHeap} (h : FzH a b) (k : FzH b c) : FzH a c :=
 ⟨k.len.trans h.len,fun id o ho=>by
  obtain ⟨o1,h1,e1⟩:=h.obj id o ho
  obtain ⟨o2,h2,e2⟩:=k.obj id o1 h1
  exact ⟨o2,h2,e1.trans e2⟩⟩
theorem Fz.freeze (o : AObj) : Fz o o.freeze:=by cases o <;> simp [Fz,AObj.freeze]
theorem FzH.modify (h : AHeap) (i : Nat) : FzH h (h.modify i AObj.freeze):=by
 refine ⟨by simp,fun id o ho=>?_⟩
 rw [List.getElem?_modify]
 by_cases e : i = id
 ·subst e; simp [ho]; exact Fz.freeze o
 ·simp [e,ho]; exact Fz.refl o
theorem FzH.freezeAll (ids : List Nat) : ∀ h : AHeap,FzH h (freezeAll ids h):=by
 induction ids with
 | nil=>exact FzH.refl
 | cons i r ih=>intro h; exact (FzH.modify h i).trans (ih _)
theorem FzH.back {h h' : AHeap} (f : FzH h h') {id : Nat} {o' : AObj} (ho : h'[id]? = some o') : ∃ o,h[id]? = some o∧Fz o o':=by
 have hlt : id < h.length:=by rw [← f.len]; exact (List.getElem?_eq_some_iff.1 ho).1
 obtain ⟨o2,h2,e⟩:=f.obj id h[id] (List.getElem?_eq_getElem hlt)
 rw [ho] at h2
 obtain rfl:=Option.some.inj h2
 exact ⟨_,List.getElem?_eq_getElem hlt,e⟩

theorem qtQ9 {h' : AHeap} (H : HRel W0 X h m w) (f : FzH h h') : Evo (Ex X h m) h m w (Ex X h' m) h' m w∧HRel W0 X h' m w:=by
 have hev : Evo (Ex X h m) h m w (Ex X h' m) h' m w:=by
  have hown : ∀ (Y : Nat→Prop) b,b < w.heap.size→Ex Y h' m b→Ex Y h m b:=by
   intro Y b _ hE
   rcases hE with hx | ⟨id,o',bo,h1,h2,h3⟩
   ·exact .inl hx
   ·obtain ⟨o,k1,k2⟩:=f.back h1
    refine .inr ⟨id,o,bo,k1,?_,h3⟩
    cases o <;> cases o' <;> simp_all [Fz,AObj.active]
  refine ⟨rfl,rfl,Outs.refl w,Nat.le_refl _,hown X,fun _ _ _=>rfl,hown _,fun _ _ _=>rfl,fun id o ho=>?_⟩
  ·obtain ⟨o',k1,k2⟩:=f.obj id o ho
   refine ⟨o',k1,?_⟩
   cases o <;> cases o' <;> simp_all [Fz,OEvo]
 refine ⟨hev,fun id o' ho'=>?_,fun id o' g bo ho' hm=>?_,fun id id' o1 o2 g bo bo' h1 h2 hm hm'=>?_,fun id o' g bo ho' hm=>?_,H.xlt,H.osz,H.old,fun id o' g bo ho' hm=>?_⟩
 ·obtain ⟨o,k1,k2⟩:=f.back ho'
  have:=(H.obj id o k1).of hev (fun _ _ _=>rfl)
  cases o <;> cases o' <;> simp_all [Fz] <;> first | exact this.fz _ | exact this
 ·obtain ⟨o,k1,_⟩:=f.back ho'
  exact H.lt id o g bo k1 hm
 ·obtain ⟨o,k1,_⟩:=f.back h1
  obtain ⟨p,l1,_⟩:=f.back h2
  exact H.inj id id' o p g bo bo' k1 l1 hm hm'
 ·obtain ⟨o,k1,_⟩:=f.back ho'
  exact H.apart id o g bo k1 hm
 ·obtain ⟨o,k1,_⟩:=f.back ho'
  exact H.new id o g bo k1 hm
end
end Go.Abs
namespace Go.Abs
open Go Go.RowKit

theorem qfB9 {α : Type} {P : Program} {s : Sem α} {a : α} (h : pev P s = some a) (w : World) : s.run P w = .ok a w:=by
 induction s generalizing a with
 | pure x=>simp only [pev,Option.some.injEq] at h; subst h; rfl
 | program k ih=>simp only [pev] at h; simp only [Sem.run]; exact ih P h
 | _=>simp [pev] at h

def Out (W0 : World) (X : Nat→Prop) (h : AHeap) (m : Places) (w : World) (r : PV) (h' : AHeap) (v : Value) (w' : World) : Prop :=
 ∃ m',VRel (Ex X h' m') h' m' w' r v∧HRel W0 X h' m' w'∧Evo (Ex X h m) h m w (Ex X h' m') h' m' w'

theorem qbO9 {α β : Type} {f : α→Option β} : ∀ {xs : List α} {ys : List β},mapO f xs = some ys→ys.length = xs.length∧∀ (i : Nat) (x : α),xs[i]? = some x→∃ y,ys[i]? = some y∧f x = some y:=by
 intro xs
 induction xs with
 | nil =>
  intro ys h
  simp only [mapO,Option.some.injEq] at h
  subst h
  exact ⟨rfl,fun i x hx=>by simp at hx⟩
 | cons a r ih =>
  intro ys h
  simp only [mapO] at h
  cases hf : f a with
  | none=>simp [hf] at h
  | some y =>
   simp only [hf] at h
   cases hr : mapO f r with
   | none=>simp [hr] at h
   | some zs =>
    simp only [hr,Option.some.injEq] at h
    subst h
    obtain ⟨h1,h2⟩:=ih hr
    refine ⟨by simp [h1],fun i x hx=>?_⟩
    cases i with
    | zero=>simp at hx; subst hx; exact ⟨y,rfl,hf⟩
    | succ i=>simp at hx; simpa using h2 i x hx

section
variable {W0 : World} {E : Nat→Prop} {X : Nat→Prop} {h h' : AHeap} {m : Places} {w : World} {P : Program}

theorem VRel.cell_v {x : PV} {v u : Value} (hv : VRel E h m w x v) (hc : cellV x = some u) : v = u:=by
 cases hv with
 | d x v hd =>
  cases hd with
  | v x=>simpa [cellV] using hc
  | _=>simp [cellV] at hc
 | _=>simp [cellV] at hc

theorem qmU9 {cs : List PV} {vs l : List Value} (hl : vs.length = cs.length) (hr : ∀ (j : Nat) (u : PV) (x : Value),cs[j]? = some u→vs[j]? = some x→VRel E h m w u x) (hm : mapO cellV cs = some l) : vs = l:=by
 obtain ⟨h1,h2⟩:=qbO9 hm
 apply List.ext_getElem?
 intro i
 rcases Nat.lt_or_ge i cs.length with hlt | hge
 ·have a1 : cs[i]? = some cs[i]:=List.getElem?_eq_getElem hlt
  have a2 : vs[i]? = some (vs[i]'(by omega)):=List.getElem?_eq_getElem (by omega)
  obtain ⟨y,b1,b2⟩:=h2 i _ a1
  rw [a2,b1]
  exact congrArg some ((hr i _ _ a1 a2).cell_v b2)
 ·rw [List.getElem?_eq_none (by omega),List.getElem?_eq_none (by omega)]

theorem VRel.of_d_cells {cs : List D} {vs : List Value} (hr : ∀ (j : Nat) (u : D) (x : Value),cs[j]? = some u→vs[j]? = some x→DRel E w u x) (j : Nat) (u : PV) (x : Value) (h1 : (cs.map PV.d)[j]? = some u) (h2 : vs[j]? = some x) : VRel E h m w u x:=by
 rw [List.getElem?_map] at h1
 cases hc : cs[j]? with
 | none=>simp [hc] at h1
 | some c =>
  simp only [hc,Option.map_some,Option.some.injEq] at h1
  subst h1
  exact .d _ _ (hr j c x hc h2)

theorem VRel.to_v {x : PV} {v u : Value} (hv : VRel E h m w x v) (hc : toV x = some u) : v = u:=by
 cases hv with
 | d x v hd =>
  cases hd with
  | v x=>simpa [toV] using hc
  | ag cs vs hl h1 hr =>
   simp only [toV] at hc
   cases hm : mapO cellV (cs.map PV.d) with
   | none=>simp [hm] at hc
   | some l =>
    simp only [hm,Option.map_some,Option.some.injEq] at hc
    subst hc
    rw [qmU9 (E:=E) (h:=h) (m:=m) (w:=w) (by simpa using hl) (VRel.of_d_cells hr) hm]
  | _=>simp [toV] at hc
 | ag cs vs hl h1 hr =>
  simp only [toV] at hc
  cases hm : mapO cellV cs with
  | none=>simp [hm] at hc
  | some l =>
   simp only [hm,Option.map_some,Option.some.injEq] at hc
   subst hc
   rw [qmU9 hl hr hm]
 | _=>simp [toV] at hc

theorem VRel.as_int {x : PV} {v : Value} {n : Int} (hv : VRel E h m w x v) (hc : qbj9 x = some n) : ∃ k,v = .int k n:=by
 unfold qbj9 at hc
 split at hc
 ·simp only [Option.some.injEq] at hc
  subst hc
  cases hv with | d _ _ hd=>cases hd with | v _=>exact ⟨_,rfl⟩
 ·cases hc

theorem VRel.as_bool {v : Value} {b : Bool} (hv : VRel E h m w (.d (.v (.bool b))) v) : v = .bool b:=hv.to_v rfl

theorem VRel.cells {x : PV} {v : Value} (hv : VRel E h m w x v) (hok : qcP9 x = true) : v.cells.size = (qU9 x).length∧∀ (j : Nat) (u : PV) (y : Value),(qU9 x)[j]? = some u→v.cells[j]? = some y→y.oneCell' = true∧VRel E h m w u y:=by
 have one : ∀ {x : PV} {v : Value},VRel E h m w x v→v.cells = #[v]→qU9 x = [x]→v.oneCell' = true→v.cells.size = (qU9 x).length∧∀ (j : Nat) (u : PV) (y : Value),(qU9 x)[j]? = some u→v.cells[j]? = some y→y.oneCell' = true∧VRel E h m w u y:=by
  intro x v hv h1 h2 h3
  rw [h1,h2]
  refine ⟨rfl,fun j u y a b=>?_⟩
  cases j with
  | zero=>simp at a b; subst a; subst b; exact ⟨h3,hv⟩
  | succ j=>simp at a
 have ags : ∀ (cs : List PV) (vs : List Value),vs.length = cs.length→(∀ (j : Nat) (x : Value),vs[j]? = some x→x.oneCell' = true)→(∀ (j : Nat) (u : PV) (x : Value),cs[j]? = some u→vs[j]? = some x→VRel E h m w u x) →
   (Value.agg vs.toArray).cells.size = cs.length∧∀ (j : Nat) (u : PV) (y : Value),cs[j]? = some u→(Value.agg vs.toArray).cells[j]? = some y→y.oneCell' = true∧VRel E h m w u y:=by
  intro cs vs hl h1 hr
  refine ⟨by simpa [Value.cells] using hl,fun j u y a b=>?_⟩
  simp only [Value.cells,List.getElem?_toArray] at b
  exact ⟨h1 j y b,hr j u y a b⟩
 cases hv with
 | d x v hd =>
  cases hd with
  | v x =>
   have h3 : v.oneCell' = true:=by simpa [qcP9,isOne] using hok
   refine one (.d _ _ (.v v)) ?_ rfl h3
   cases v <;> simp_all [Value.cells,Value.oneCell']
  | ag cs vs hl h1 hr=>exact (ags (cs.map PV.d) vs (by simpa using hl) h1 (VRel.of_d_cells hr))
  | rd xs A c sz f hc hsz hA hE hr=>exact one (.d _ _ (.rd xs A c sz f hc hsz hA hE hr)) rfl rfl rfl
  | bx cs ad f hE hr=>exact one (.d _ _ (.bx cs ad f hE hr)) rfl rfl rfl
  | ifc t x v hx=>exact one (.d _ _ (.ifc t x v hx)) rfl rfl rfl
  | fn f cs vs hl hr=>exact one (.d _ _ (.fn f cs vs hl hr)) rfl rfl rfl
 | junk v=>simp [qcP9,isOne] at hok
 | im t xs A c sz f hc ht hsz hA hE hr=>exact one (.im t xs A c sz f hc ht hsz hA hE hr) rfl rfl rfl
 | bx cs ad f hE hr=>exact one (.bx cs ad f hE hr) rfl rfl rfl
 | ref id ver off len v hs =>
  have hv : VRel E h m w (.ref id ver off len) v:=.ref id ver off len v hs
  obtain ⟨A,cap,rfl,_⟩:=hs
  exact one hv rfl rfl rfl
 | ptr id ver idx off v hp =>
  have hv : VRel E h m w (.ptr id ver idx off) v:=.ptr id ver idx off v hp
  obtain ⟨⟨a,rfl⟩,_⟩:=hp
  exact one hv rfl rfl rfl
 | mp id es g bo ho hm=>exact one (.mp id es g bo ho hm) rfl rfl rfl
 | it id s pos g bo ho hm=>exact one (.it id s pos g bo ho hm) rfl rfl rfl
 | ag cs vs hl h1 hr=>exact ags cs vs hl h1 hr
 | tp cs vs hl hr=>simp [qcP9,isOne] at hok
 | ifc t x v hx=>exact one (.ifc t x v hx) rfl rfl rfl
 | fn f cs vs hl hr=>exact one (.fn f cs vs hl hr) rfl rfl rfl
end
end Go.Abs

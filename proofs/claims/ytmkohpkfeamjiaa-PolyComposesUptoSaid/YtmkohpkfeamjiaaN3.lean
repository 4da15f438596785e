import Derived.Test.YtmkohpkfeamjiaaSf1
set_option maxHeartbeats 400000
set_option linter.unusedVariables false
set_option linter.unusedSimpArgs false
set_option linter.unusedSectionVars false
namespace Ld.Law
open Go Go.Abs
def lw : Nat:=4294967296
theorem qlL9 : 0 < lw:=by decide
def natV : List Int→Nat
 | []=>0
 | x::l=>x.toNat + lw * natV l
def Limbs (a : List Int) : Prop:=∀ x∈a,0≤x∧x < 4294967296
def toL (n : Nat) : List Int:=if h : n = 0 then [] else ((n % lw : Nat) : Int)::toL (n / lw)
termination_by n
decreasing_by exact Nat.div_lt_self (Nat.pos_of_ne_zero h) (by decide)
theorem qdK9 : toL 0 = []:=by unfold toL; simp
theorem qgu9 {n : Nat} (h : n ≠ 0) : toL n = ((n % lw : Nat) : Int)::toL (n / lw):=by
 conv=>lhs; unfold toL
 rw [dif_neg h]
theorem qbZ9 (n : Nat) : natV (toL n) = n:=by
 induction n using Nat.strongRecOn with
 | _ n ih =>
  by_cases h : n = 0
  ·subst h; rw [qdK9]; rfl
  ·rw [qgu9 h,natV,ih _ (Nat.div_lt_self (Nat.pos_of_ne_zero h) (by decide)),Int.toNat_natCast]
   exact Nat.mod_add_div n lw
theorem qgH9 (n : Nat) : Limbs (toL n):=by
 induction n using Nat.strongRecOn with
 | _ n ih =>
  by_cases h : n = 0
  ·subst h; rw [qdK9]; intro x hx; cases hx
  ·rw [qgu9 h]
   intro x hx
   rcases List.mem_cons.1 hx with rfl | hx
   ·have:=Nat.mod_lt n qlL9
    unfold lw at this
    exact ⟨by omega,by unfold lw; omega⟩
   ·exact ih _ (Nat.div_lt_self (Nat.pos_of_ne_zero h) (by decide)) x hx
theorem qcM9 {x : Int} {l : List Int} : Limbs (x::l)↔(0≤x∧x < 4294967296)∧Limbs l:=by
 unfold Limbs; simp
def NoZ (a : List Int) : Prop:=a.getLast? ≠ some 0
theorem qkz9 (a b : List Int) : natV (a++b) = natV a + lw ^ a.length * natV b:=by
 induction a with
 | nil=>simp [natV]
 | cons x a ih =>
  rw [List.cons_append,natV,ih,natV,List.length_cons,Nat.pow_succ,Nat.mul_add,Nat.mul_comm (lw ^ a.length) lw,Nat.mul_assoc]
  omega
theorem qmf9 {a : List Int} (h : Limbs a) : natV a < lw ^ a.length:=by
 induction a with
 | nil=>simp [natV]
 | cons x a ih =>
  have hx:=(qcM9.1 h).1
  have:=ih (qcM9.1 h).2
  rw [natV,List.length_cons,Nat.pow_succ,Nat.mul_comm (lw ^ a.length)]
  have h2 : lw * (natV a + 1)≤lw * lw ^ a.length:=Nat.mul_le_mul_left _ this
  have h3 : x.toNat < lw:=by unfold lw; omega
  rw [Nat.mul_add] at h2
  omega
theorem quL9 {a : List Int} (h : Limbs a) (hz : natV a = 0) : ∀ x∈a,x = 0:=by
 induction a with
 | nil=>intro x hx; cases hx
 | cons y a ih =>
  rw [natV] at hz
  have h1 : y.toNat = 0:=by omega
  have h2 : natV a = 0:=by
   have : lw * natV a = 0:=by omega
   rcases Nat.mul_eq_zero.1 this with h | h
   ·exact absurd h (by decide)
   ·exact h
  have hy:=(qcM9.1 h).1
  intro x hx
  rcases List.mem_cons.1 hx with rfl | hx
  ·omega
  ·exact ih (qcM9.1 h).2 h2 x hx
theorem qeg9 {a : List Int} (h : Limbs a) (hz : NoZ a) : toL (natV a) = a:=by
 induction a with
 | nil=>exact qdK9
 | cons x a ih =>
  have hx:=(qcM9.1 h).1
  have hl:=(qcM9.1 h).2
  have hne : natV (x::a) ≠ 0:=by
   intro e
   have:=quL9 h e
   refine hz ?_
   rw [List.getLast?_eq_some_getLast (List.cons_ne_nil x a)]
   exact congrArg some (this _ (List.getLast_mem _))
  rw [qgu9 hne]
  have h3 : x.toNat < lw:=by unfold lw; omega
  have e1 : natV (x::a) % lw = x.toNat:=by rw [natV,Nat.add_mul_mod_self_left,Nat.mod_eq_of_lt h3]
  have e2 : natV (x::a) / lw = natV a:=by rw [natV,Nat.add_mul_div_left _ _ qlL9,Nat.div_eq_of_lt h3,Nat.zero_add]
  rw [e1,e2]
  have hz' : NoZ a:=by
   intro e
   refine hz ?_
   cases a with
   | nil=>cases e
   | cons y a=>rw [List.getLast?_cons_cons]; exact e
  rw [ih hl hz']
  congr 1
  omega
theorem qjJ9 (n : Nat) : NoZ (toL n):=by
 induction n using Nat.strongRecOn with
 | _ n ih =>
  by_cases h : n = 0
  ·subst h; rw [qdK9]; intro e; cases e
  ·have hi:=ih _ (Nat.div_lt_self (Nat.pos_of_ne_zero h) (by decide : 1 < lw))
   rw [qgu9 h]
   intro e
   cases hq : toL (n / lw) with
   | nil =>
    rw [hq] at e
    simp at e
    have h0 : n / lw = 0:=by
     by_cases h2 : n / lw = 0
     ·exact h2
     ·rw [qgu9 h2] at hq; cases hq
    have:=Nat.mod_add_div n lw
    rw [h0,Nat.mul_zero] at this
    omega
   | cons y a =>
    rw [hq] at e hi
    rw [List.getLast?_cons_cons] at e
    exact hi e
theorem qbQ9 {n k : Nat} : (toL n).length≤k↔n < lw ^ k:=by
 constructor
 ·intro h
  have:=qmf9 (qgH9 n)
  rw [qbZ9] at this
  exact Nat.lt_of_lt_of_le this (Nat.pow_le_pow_right qlL9 h)
 ·induction k generalizing n with
  | zero =>
   intro h
   rw [Nat.pow_zero] at h
   have : n = 0:=by omega
   subst this
   rw [qdK9]
   simp
  | succ k ih =>
   intro h
   by_cases h0 : n = 0
   ·subst h0; rw [qdK9]; simp
   ·rw [qgu9 h0,List.length_cons]
    have:=ih (n:=n / lw) (by rw [Nat.div_lt_iff_lt_mul qlL9]; rw [Nat.pow_succ] at h; exact h)
    omega
def trimL : List Int→List Int
 | []=>[]
 | x::l=>if trimL l = []∧x = 0 then [] else x::trimL l
theorem qtm9 (a : List Int) : natV (trimL a) = natV a:=by
 induction a with
 | nil=>rfl
 | cons x a ih =>
  unfold trimL
  by_cases h : trimL a = []∧x = 0
  ·have h3:=ih
   rw [h.1] at h3
   rw [if_pos h,show natV (x::a) = x.toNat + lw * natV a from rfl,← h3,h.2]; rfl
  ·rw [if_neg h,natV,natV,ih]
theorem qqF9 {a : List Int} (h : Limbs a) : Limbs (trimL a):=by
 induction a with
 | nil=>exact h
 | cons x a ih =>
  unfold trimL
  by_cases c : trimL a = []∧x = 0
  ·rw [if_pos c]; intro y hy; cases hy
  ·rw [if_neg c]; exact qcM9.2 ⟨(qcM9.1 h).1,ih (qcM9.1 h).2⟩
theorem qtL9 (a : List Int) : NoZ (trimL a):=by
 induction a with
 | nil=>intro e; cases e
 | cons x a ih =>
  unfold trimL
  by_cases c : trimL a = []∧x = 0
  ·rw [if_pos c]; intro e; cases e
  ·rw [if_neg c]
   intro e
   cases hq : trimL a with
   | nil =>
    rw [hq] at e
    simp at e
    exact c ⟨hq,e⟩
   | cons y b =>
    rw [hq] at e ih
    rw [List.getLast?_cons_cons] at e
    exact ih e
theorem qqb9 {a : List Int} (h : Limbs a) : trimL a = toL (natV a):=by
 rw [← qtm9,qeg9 (qqF9 h) (qtL9 a)]
theorem qhc9 {a : List Int} {x : Int} : trimL (a++[x]) = if x = 0 then trimL a else a++[x]:=by
 induction a with
 | nil =>
  by_cases h : x = 0
  ·subst h; simp [trimL]
  ·simp [trimL,h]
 | cons y a ih =>
  rw [List.cons_append]
  unfold trimL
  rw [ih]
  by_cases h : x = 0
  ·rw [if_pos h,if_pos h]
  ·rw [if_neg h,if_neg h,if_neg (by simp)]
end Ld.Law
namespace Ld.Law
open Go Go.Abs
abbrev Ex:=List Int
def W (l : List (Nat × Ex)) (φ : Ex→Nat) : Nat:=(l.map fun x=>x.1 * φ x.2).sum
theorem W_nil (φ : Ex→Nat) : W [] φ = 0:=rfl
theorem qdA9 (x : Nat × Ex) (l : List (Nat × Ex)) (φ : Ex→Nat) : W (x::l) φ = x.1 * φ x.2 + W l φ:=by simp [W]
theorem W_app (l m : List (Nat × Ex)) (φ : Ex→Nat) : W (l++m) φ = W l φ + W m φ:=by simp [W]
theorem W_mem {l : List (Nat × Ex)} {x : Nat × Ex} (h : x∈l) (φ : Ex→Nat) : x.1 * φ x.2≤W l φ:=by
 induction l with
 | nil=>cases h
 | cons y l ih =>
  rw [qdA9]
  rcases List.mem_cons.1 h with rfl | h
  ·omega
  ·have:=ih h; omega
def dl (e : Ex) : Ex→Nat:=fun e'=>if e' = e then 1 else 0
def cf (l : List (Nat × Ex)) (e : Ex) : Nat:=W l (dl e)
theorem qdi9 (x : Nat × Ex) (l : List (Nat × Ex)) (e : Ex) : cf (x::l) e = (if x.2 = e then x.1 else 0) + cf l e:=by
 unfold cf
 rw [qdA9]
 unfold dl
 by_cases h : x.2 = e
 ·simp [h]
 ·simp [h]
theorem qjR9 {l : List (Nat × Ex)} {e : Ex} (h : ∀ x∈l,x.2 ≠ e) : cf l e = 0:=by
 induction l with
 | nil=>rfl
 | cons x l ih=>rw [qdi9,if_neg (h x List.mem_cons_self),ih (fun y hy=>h y (List.mem_cons_of_mem _ hy))]
theorem qgR9 {l : List (Nat × Ex)} (hp : ∀ x∈l,0 < x.1) {e : Ex} : 0 < cf l e↔∃ x∈l,x.2 = e:=by
 constructor
 ·intro h
  apply Classical.byContradiction
  intro hn
  rw [qjR9 (fun x hx he=>hn ⟨x,hx,he⟩)] at h
  omega
 ·rintro ⟨x,hx,rfl⟩
  have h1:=W_mem hx (dl x.2)
  have h2:=hp x hx
  have h3 : dl x.2 x.2 = 1:=by simp [dl]
  rw [h3,Nat.mul_one] at h1
  exact Nat.lt_of_lt_of_le h2 h1
theorem cf_of {l : List (Nat × Ex)} (hn : (l.map (·.2)).Nodup) {x : Nat × Ex} (hx : x∈l) : cf l x.2 = x.1:=by
 induction l with
 | nil=>cases hx
 | cons y l ih =>
  rw [qdi9]
  rw [List.map_cons,List.nodup_cons] at hn
  rcases List.mem_cons.1 hx with rfl | hx
  ·rw [if_pos rfl,qjR9 (fun z hz he=>hn.1 (List.mem_map.2 ⟨z,hz,he⟩))]; rfl
  ·rw [if_neg (fun he=>hn.1 (List.mem_map.2 ⟨x,hx,he.symm⟩)),ih hn.2 hx,Nat.zero_add]
def exAt (e : Ex) (i : Nat) : Int:=e.getD i 0
def ExOK (e : Ex) : Prop:=(∀ n∈e,0≤n)∧e.getLast? ≠ some 0
theorem qku9 {e : Ex} (h : ExOK e) (i : Nat) : 0≤exAt e i:=by
 unfold exAt
 rw [List.getD_eq_getElem?_getD]
 cases hq : e[i]? with
 | none=>simp
 | some x=>exact h.1 x (List.mem_of_getElem? hq)
theorem qhH9 {x : Int} {e : Ex} (h : ExOK (x::e)) : ExOK e:=by
 refine ⟨fun n hn=>h.1 n (List.mem_cons_of_mem _ hn),fun he=>h.2 ?_⟩
 cases e with
 | nil=>cases he
 | cons y e=>rw [List.getLast?_cons_cons]; exact he
theorem qoA9 {e : Ex} (h : ExOK e) (hne : e ≠ []) : ∃ i,0 < exAt e i:=by
 have hl : 0 < e.length:=List.length_pos_iff.2 hne
 refine ⟨e.length - 1,?_⟩
 have h1 : e[e.length - 1]? = some (e[e.length - 1]'(by omega)):=List.getElem?_eq_getElem _
 unfold exAt
 rw [List.getD_eq_getElem?_getD,h1,Option.getD_some]
 have h2:=h.1 _ (List.getElem_mem (l:=e) (n:=e.length - 1) (by omega))
 have h3 : e.getLast? = some (e[e.length - 1]'(by omega)):=by rw [List.getLast?_eq_getElem?,h1]
 have h4 : e[e.length - 1]'(by omega) ≠ 0:=fun e0=>h.2 (by rw [h3,e0])
 omega
theorem qoP9 {a b : Ex} (ha : ExOK a) (hb : ExOK b) (h : ∀ i,exAt a i = exAt b i) : a = b:=by
 induction a generalizing b with
 | nil =>
  apply Classical.byContradiction
  intro hne
  obtain ⟨i,hi⟩:=qoA9 hb (Ne.symm hne)
  rw [← h i] at hi
  simp [exAt] at hi
 | cons x a ih =>
  cases b with
  | nil =>
   obtain ⟨i,hi⟩:=qoA9 ha (by simp)
   rw [h i] at hi
   simp [exAt] at hi
  | cons y b =>
   have h0 : x = y:=by have:=h 0; simpa [exAt] using this
   rw [h0,ih (qhH9 ha) (qhH9 hb) (fun i=>by have:=h (i + 1); simpa [exAt] using this)]
def addE : Ex→Ex→Ex
 | [],b=>b
 | a,[]=>a
 | x::a,y::b=>(x + y)::addE a b
theorem qiw9 (a b : Ex) (i : Nat) : exAt (addE a b) i = exAt a i + exAt b i:=by
 induction a generalizing b i with
 | nil=>simp [addE,exAt]
 | cons x a ih =>
  cases b with
  | nil=>simp [addE,exAt]
  | cons y b =>
   cases i with
   | zero=>simp [addE,exAt]
   | succ i=>have:=ih b i; simpa [addE,exAt] using this
theorem qge9 (a b : Ex) : (addE a b).length = max a.length b.length:=by
 induction a generalizing b with
 | nil=>simp [addE]
 | cons x a ih =>
  cases b with
  | nil=>simp [addE]
  | cons y b=>simp [addE,ih]
theorem qhr9 {a b : Ex} (ha : ExOK a) (hb : ExOK b) : ExOK (addE a b):=by
 induction a generalizing b with
 | nil=>exact hb
 | cons x a ih =>
  cases b with
  | nil=>exact ha
  | cons y b =>
   have h:=ih (qhH9 ha) (qhH9 hb)
   have hx:=ha.1 x List.mem_cons_self
   have hy:=hb.1 y List.mem_cons_self
   refine ⟨fun n hn=>?_,fun he=>?_⟩
   ·rcases List.mem_cons.1 hn with rfl | hn
    ·omega
    ·exact h.1 n hn
   ·show False
    have he' : ((x + y)::addE a b).getLast? = some 0:=he
    cases hq : addE a b with
    | nil =>
     rw [hq] at he'
     have hl:=congrArg List.length hq
     rw [qge9] at hl
     simp at hl
     have ha0 : a = []:=hl.1
     subst ha0
     have : x ≠ 0:=fun e0=>ha.2 (by rw [e0]; rfl)
     simp at he'
     omega
    | cons z c =>
     rw [hq,List.getLast?_cons_cons] at he'
     rw [hq] at h
     exact h.2 he'
theorem qvp9 {a b : Ex} (ha : ExOK a) (hb : ExOK b) : addE a b = addE b a :=
 qoP9 (qhr9 ha hb) (qhr9 hb ha) (fun i=>by rw [qiw9,qiw9,Int.add_comm])
def ltE : Ex→Ex→Prop
 | a,b=>∃ i,(∀ j,j < i→exAt a j = exAt b j)∧exAt a i < exAt b i
theorem ltE_irrefl (a : Ex) : ¬ ltE a a:=by
 rintro ⟨i,_,h⟩; omega
theorem ltE_trans {a b c : Ex} (h1 : ltE a b) (h2 : ltE b c) : ltE a c:=by
 obtain ⟨i,p1,p2⟩:=h1
 obtain ⟨k,q1,q2⟩:=h2
 rcases Nat.lt_trichotomy i k with h | rfl | h
 ·exact ⟨i,fun j hj=>(p1 j hj).trans (q1 j (by omega)),by rw [← q1 i h]; exact p2⟩
 ·exact ⟨i,fun j hj=>(p1 j hj).trans (q1 j hj),by omega⟩
 ·exact ⟨k,fun j hj=>(p1 j (by omega)).trans (q1 j hj),by rw [p1 k h]; exact q2⟩
theorem ltE_tri {a b : Ex} (ha : ExOK a) (hb : ExOK b) : ltE a b∨a = b∨ltE b a:=by
 by_cases h : ∀ i,exAt a i = exAt b i
 ·exact .inr (.inl (qoP9 ha hb h))
 ·have ⟨i,hi⟩ : ∃ i,exAt a i ≠ exAt b i:=Classical.not_forall.1 h
  have : ∃ k,exAt a k ≠ exAt b k∧∀ j,j < k→exAt a j = exAt b j:=by
   clear h
   induction i using Nat.strongRecOn with
   | _ i ih =>
    by_cases hj : ∃ j,j < i∧exAt a j ≠ exAt b j
    ·obtain ⟨j,h1,h2⟩:=hj
     exact ih j h1 h2
    ·refine ⟨i,hi,fun j hji=>?_⟩
     apply Classical.byContradiction
     intro hne
     exact hj ⟨j,hji,hne⟩
  obtain ⟨k,h1,h2⟩:=this
  rcases Int.lt_trichotomy (exAt a k) (exAt b k) with c | c | c
  ·exact .inl ⟨k,h2,c⟩
  ·exact absurd c h1
  ·exact .inr (.inr ⟨k,fun j hj=>(h2 j hj).symm,c⟩)
structure PolyOK (l : List (Nat × Ex)) : Prop where
 rise : l.Pairwise (fun x y=>ltE x.2 y.2)
 pos : ∀ x∈l,0 < x.1
 ex : ∀ x∈l,ExOK x.2
theorem PolyOK.nodup {l : List (Nat × Ex)} (h : PolyOK l) : (l.map (·.2)).Nodup:=by
 rw [List.nodup_iff_pairwise_ne,List.pairwise_map]
 exact h.rise.imp (fun hab e=>by rw [e] at hab; exact ltE_irrefl _ hab)
theorem PolyOK.tail {x : Nat × Ex} {l : List (Nat × Ex)} (h : PolyOK (x::l)) : PolyOK l :=
 ⟨(List.pairwise_cons.1 h.rise).2,fun y hy=>h.pos y (List.mem_cons_of_mem _ hy),fun y hy=>h.ex y (List.mem_cons_of_mem _ hy)⟩
theorem qxn9 : ∀ {l m : List (Nat × Ex)},PolyOK l→PolyOK m→(∀ e,cf l e = cf m e)→l = m:=by
 intro l
 induction l with
 | nil =>
  intro m hl hm h
  cases m with
  | nil=>rfl
  | cons y m =>
   have:=(qgR9 hm.pos (e:=y.2)).2 ⟨y,List.mem_cons_self,rfl⟩
   rw [← h] at this
   exact absurd this (Nat.lt_irrefl 0)
 | cons x l ih =>
  intro m hl hm h
  cases m with
  | nil =>
   have:=(qgR9 hl.pos (e:=x.2)).2 ⟨x,List.mem_cons_self,rfl⟩
   rw [h] at this
   exact absurd this (Nat.lt_irrefl 0)
  | cons y m =>
   have e1 : x.2 = y.2:=by
    have hx:=(qgR9 hl.pos (e:=x.2)).2 ⟨x,List.mem_cons_self,rfl⟩
    rw [h] at hx
    obtain ⟨z,hz,hzx⟩:=(qgR9 hm.pos).1 hx
    have hy:=(qgR9 hm.pos (e:=y.2)).2 ⟨y,List.mem_cons_self,rfl⟩
    rw [← h] at hy
    obtain ⟨u,hu,huy⟩:=(qgR9 hl.pos).1 hy
    rcases List.mem_cons.1 hz with rfl | hz
    ·exact hzx.symm
    ·rcases List.mem_cons.1 hu with rfl | hu
     ·exact huy
     ·have a1:=(List.pairwise_cons.1 hm.rise).1 z hz
      have a2:=(List.pairwise_cons.1 hl.rise).1 u hu
      rw [hzx] at a1
      rw [huy] at a2
      exact absurd (ltE_trans a1 a2) (ltE_irrefl _)
   have c1 : cf (x::l) x.2 = x.1:=cf_of hl.nodup List.mem_cons_self
   have c2 : cf (y::m) y.2 = y.1:=cf_of hm.nodup List.mem_cons_self
   have e2 : x.1 = y.1:=by rw [← c1,← c2,h,e1]
   have e3 : x = y:=Prod.ext e2 e1
   subst e3
   rw [ih hl.tail hm.tail (fun e=>by have:=h e; rw [qdi9,qdi9] at this; omega)]
end Ld.Law
namespace Ld.Law
open Go Go.Abs
open Classical in
noncomputable def putP : List (Nat × Ex)→Nat × Ex→List (Nat × Ex)
 | [],x=>[x]
 | y::l,x=>if x.2 = y.2 then (y.1 + x.1,y.2)::l else if ltE x.2 y.2 then x::y::l else y::putP l x
theorem W_put (p : List (Nat × Ex)) (x : Nat × Ex) (φ : Ex→Nat) : W (putP p x) φ = W p φ + x.1 * φ x.2:=by
 induction p with
 | nil=>simp [putP,W]
 | cons y l ih =>
  unfold putP
  by_cases h : x.2 = y.2
  ·rw [if_pos h,qdA9,qdA9,h]
   show (y.1 + x.1) * φ y.2 + W l φ = _
   rw [Nat.add_mul]; omega
  ·rw [if_neg h]
   by_cases c : ltE x.2 y.2
   ·rw [if_pos c,qdA9,qdA9]; omega
   ·rw [if_neg c,qdA9,ih,qdA9]; omega
theorem qxE9 {p : List (Nat × Ex)} {x z : Nat × Ex} (h : z∈putP p x) : z = x∨z∈p∨∃ y∈p,z = (y.1 + x.1,y.2):=by
 induction p with
 | nil=>simp [putP] at h; exact .inl h
 | cons y l ih =>
  unfold putP at h
  by_cases c : x.2 = y.2
  ·rw [if_pos c] at h
   rcases List.mem_cons.1 h with rfl | h
   ·exact .inr (.inr ⟨y,List.mem_cons_self,rfl⟩)
   ·exact .inr (.inl (List.mem_cons_of_mem _ h))
  ·rw [if_neg c] at h
   by_cases d : ltE x.2 y.2
   ·rw [if_pos d] at h
    rcases List.mem_cons.1 h with rfl | h
    ·exact .inl rfl
    ·exact .inr (.inl h)
   ·rw [if_neg d] at h
    rcases List.mem_cons.1 h with rfl | h
    ·exact .inr (.inl List.mem_cons_self)
    ·rcases ih h with h | h | ⟨u,h1,h2⟩
     ·exact .inl h
     ·exact .inr (.inl (List.mem_cons_of_mem _ h))
     ·exact .inr (.inr ⟨u,List.mem_cons_of_mem _ h1,h2⟩)
theorem qik9 {p : List (Nat × Ex)} (hp : PolyOK p) {x : Nat × Ex} (h0 : 0 < x.1) (he : ExOK x.2) : PolyOK (putP p x):=by
 induction p with
 | nil=>exact ⟨by simp [putP],fun y hy=>by simp [putP] at hy; rw [hy]; exact h0,fun y hy=>by simp [putP] at hy; rw [hy]; exact he⟩
 | cons y l ih =>
  have hl:=ih hp.tail
  have hy:=hp.ex y List.mem_cons_self
  have hr:=List.pairwise_cons.1 hp.rise
  unfold putP
  by_cases c : x.2 = y.2
  ·rw [if_pos c]
   refine ⟨List.pairwise_cons.2 ⟨fun z hz=>hr.1 z hz,hr.2⟩,fun z hz=>?_,fun z hz=>?_⟩
   ·rcases List.mem_cons.1 hz with rfl | hz
    ·have:=hp.pos y List.mem_cons_self; simp; omega
    ·exact hp.pos z (List.mem_cons_of_mem _ hz)
   ·rcases List.mem_cons.1 hz with rfl | hz
    ·exact hy
    ·exact hp.ex z (List.mem_cons_of_mem _ hz)
  ·rw [if_neg c]
   by_cases d : ltE x.2 y.2
   ·rw [if_pos d]
    refine ⟨List.pairwise_cons.2 ⟨fun z hz=>?_,hp.rise⟩,fun z hz=>?_,fun z hz=>?_⟩
    ·rcases List.mem_cons.1 hz with rfl | hz
     ·exact d
     ·exact ltE_trans d (hr.1 z hz)
    ·rcases List.mem_cons.1 hz with rfl | hz
     ·exact h0
     ·exact hp.pos z hz
    ·rcases List.mem_cons.1 hz with rfl | hz
     ·exact he
     ·exact hp.ex z hz
   ·rw [if_neg d]
    have hlt : ltE y.2 x.2:=by
     rcases ltE_tri he hy with h | h | h
     ·exact absurd h d
     ·exact absurd h c
     ·exact h
    refine ⟨List.pairwise_cons.2 ⟨fun z hz=>?_,hl.rise⟩,fun z hz=>?_,fun z hz=>?_⟩
    ·rcases qxE9 hz with rfl | h | ⟨u,h1,rfl⟩
     ·exact hlt
     ·exact hr.1 z h
     ·exact hr.1 u h1
    ·rcases List.mem_cons.1 hz with rfl | hz
     ·exact hp.pos _ List.mem_cons_self
     ·exact hl.pos z hz
    ·rcases List.mem_cons.1 hz with rfl | hz
     ·exact hy
     ·exact hl.ex z hz
def SmallM (x : Nat × Ex) : Prop:=x.1 < lw ^ 64∧x.2.length≤512∧∀ n∈x.2,n≤64
def InB (p : List (Nat × Ex)) : Prop:=p.length≤256∧∀ x∈p,SmallM x
theorem qyC9 (p : List (Nat × Ex)) (x : Nat × Ex) : p.length≤(putP p x).length:=by
 induction p with
 | nil=>simp
 | cons y l ih =>
  unfold putP
  by_cases c : x.2 = y.2
  ·rw [if_pos c]; simp
  ·rw [if_neg c]
   by_cases d : ltE x.2 y.2
   ·rw [if_pos d]; simp
   ·rw [if_neg d]; simpa using ih
theorem qvj9 {p : List (Nat × Ex)} {x y : Nat × Ex} (h : y∈p) : ∃ z∈putP p x,z.2 = y.2∧y.1≤z.1:=by
 induction p with
 | nil=>cases h
 | cons u l ih =>
  unfold putP
  by_cases c : x.2 = u.2
  ·rw [if_pos c]
   rcases List.mem_cons.1 h with rfl | h
   ·exact ⟨_,List.mem_cons_self,rfl,by simp⟩
   ·exact ⟨y,List.mem_cons_of_mem _ h,rfl,Nat.le_refl _⟩
  ·rw [if_neg c]
   by_cases d : ltE x.2 u.2
   ·rw [if_pos d]; exact ⟨y,List.mem_cons_of_mem _ h,rfl,Nat.le_refl _⟩
   ·rw [if_neg d]
    rcases List.mem_cons.1 h with rfl | h
    ·exact ⟨_,List.mem_cons_self,rfl,Nat.le_refl _⟩
    ·obtain ⟨z,h1,h2⟩:=ih h
     exact ⟨z,List.mem_cons_of_mem _ h1,h2⟩
theorem qrm9 (p : List (Nat × Ex)) (x : Nat × Ex) : ∃ z∈putP p x,z.2 = x.2∧x.1≤z.1:=by
 induction p with
 | nil=>exact ⟨x,by simp [putP],rfl,Nat.le_refl _⟩
 | cons u l ih =>
  unfold putP
  by_cases c : x.2 = u.2
  ·rw [if_pos c]; exact ⟨_,List.mem_cons_self,c.symm,by simp⟩
  ·rw [if_neg c]
   by_cases d : ltE x.2 u.2
   ·rw [if_pos d]; exact ⟨x,List.mem_cons_self,rfl,Nat.le_refl _⟩
   ·rw [if_neg d]
    obtain ⟨z,h1,h2⟩:=ih
    exact ⟨z,List.mem_cons_of_mem _ h1,h2⟩
theorem SmallM.mono {x z : Nat × Ex} (h : SmallM z) (h2 : z.2 = x.2) (h1 : x.1≤z.1) : SmallM x:=by
 unfold SmallM at *
 rw [h2] at h
 exact ⟨by omega,h.2⟩
theorem qjE9 {p : List (Nat × Ex)} {x : Nat × Ex} (h : InB (putP p x)) : InB p∧SmallM x:=by
 refine ⟨⟨Nat.le_trans (qyC9 p x) h.1,fun y hy=>?_⟩,?_⟩
 ·obtain ⟨z,h1,h2,h3⟩:=qvj9 (x:=x) hy
  exact (h.2 z h1).mono h2 h3
 ·obtain ⟨z,h1,h2,h3⟩:=qrm9 p x
  exact (h.2 z h1).mono h2 h3
theorem qgP9 : ∀ (xs p : List (Nat × Ex)),InB (xs.foldl putP p)→InB p∧∀ x∈xs,SmallM x:=by
 intro xs
 induction xs with
 | nil=>intro p h; exact ⟨h,fun x hx=>by cases hx⟩
 | cons x xs ih =>
  intro p h
  obtain ⟨h1,h2⟩:=ih _ h
  obtain ⟨h3,h4⟩:=qjE9 h1
  refine ⟨h3,fun y hy=>?_⟩
  rcases List.mem_cons.1 hy with rfl | hy
  ·exact h4
  ·exact h2 y hy
open Classical in
noncomputable def putO (p : List (Nat × Ex)) (x : Nat × Ex) : Option (List (Nat × Ex)):=if SmallM x∧InB (putP p x) then some (putP p x) else none
noncomputable def foldO : List (Nat × Ex)→List (Nat × Ex)→Option (List (Nat × Ex))
 | p,[]=>some p
 | p,x::xs=>(putO p x).bind fun r=>foldO r xs
open Classical in
theorem qnQ9 : ∀ (xs p : List (Nat × Ex)),InB p→foldO p xs = if InB (xs.foldl putP p) then some (xs.foldl putP p) else none:=by
 intro xs
 induction xs with
 | nil=>intro p h; rw [List.foldl_nil,if_pos h]; rfl
 | cons x xs ih =>
  intro p h
  unfold foldO putO
  rw [List.foldl_cons]
  by_cases c : SmallM x∧InB (putP p x)
  ·rw [if_pos c,Option.bind_some,ih _ c.2]
  ·rw [if_neg c,Option.bind_none,if_neg]
   intro hc
   obtain ⟨h1,_⟩:=qgP9 _ _ hc
   exact c ⟨(qjE9 h1).2,h1⟩
theorem qlQ9 : ∀ (xs p : List (Nat × Ex)) (φ : Ex→Nat),W (xs.foldl putP p) φ = W p φ + W xs φ:=by
 intro xs
 induction xs with
 | nil=>intro p φ; simp [W]
 | cons x xs ih=>intro p φ; rw [List.foldl_cons,ih,W_put,qdA9]; omega
theorem qiF9 : ∀ (xs p : List (Nat × Ex)),PolyOK p→(∀ x∈xs,0 < x.1∧ExOK x.2)→PolyOK (xs.foldl putP p):=by
 intro xs
 induction xs with
 | nil=>intro p h _; exact h
 | cons x xs ih =>
  intro p h hx
  exact ih _ (qik9 h (hx x List.mem_cons_self).1 (hx x List.mem_cons_self).2) (fun y hy=>hx y (List.mem_cons_of_mem _ hy))
theorem PolyOK.mem {l : List (Nat × Ex)} (h : PolyOK l) : ∀ x∈l,0 < x.1∧ExOK x.2:=fun x hx=>⟨h.pos x hx,h.ex x hx⟩
theorem qdk9 : PolyOK []:=⟨List.Pairwise.nil,(fun x hx=>nomatch hx),(fun x hx=>nomatch hx)⟩
theorem qeJ9 {l m : List (Nat × Ex)} (hl : PolyOK l) (hm : PolyOK m) (h : ∀ φ,W l φ = W m φ) : l = m:=qxn9 hl hm (fun e=>h _)
theorem qtd9 {l : List (Nat × Ex)} (h : PolyOK l) : l.foldl putP [] = l :=
 qeJ9 (qiF9 l [] qdk9 h.mem) h (fun φ=>by rw [qlQ9,W_nil,Nat.zero_add])
noncomputable def addP (p q : List (Nat × Ex)) : List (Nat × Ex):=q.foldl putP p
theorem qie9 {p q : List (Nat × Ex)} (hp : PolyOK p) (hq : PolyOK q) : PolyOK (addP p q):=qiF9 q p hp hq.mem
theorem quX9 (p q : List (Nat × Ex)) (φ : Ex→Nat) : W (addP p q) φ = W p φ + W q φ:=qlQ9 q p φ
def mulL (p q : List (Nat × Ex)) : List (Nat × Ex):=p.flatMap fun x=>q.map fun y=>(x.1 * y.1,addE x.2 y.2)
theorem qzJ9 (x : Nat × Ex) (q : List (Nat × Ex)) (φ : Ex→Nat) : W (q.map fun y=>(x.1 * y.1,addE x.2 y.2)) φ = x.1 * W q (fun b=>φ (addE x.2 b)):=by
 induction q with
 | nil=>simp [W]
 | cons y q ih=>rw [List.map_cons,qdA9,qdA9,ih,Nat.mul_add,Nat.mul_assoc]
theorem qAn9 (p q : List (Nat × Ex)) (φ : Ex→Nat) : W (mulL p q) φ = W p (fun a=>W q (fun b=>φ (addE a b))):=by
 unfold mulL
 induction p with
 | nil=>rfl
 | cons x p ih=>rw [List.flatMap_cons,W_app,ih,qdA9,qzJ9]
noncomputable def mulP (p q : List (Nat × Ex)) : List (Nat × Ex):=(mulL p q).foldl putP []
theorem qoK9 (p q : List (Nat × Ex)) (φ : Ex→Nat) : W (mulP p q) φ = W p (fun a=>W q (fun b=>φ (addE a b))):=by
 unfold mulP
 rw [qlQ9,W_nil,Nat.zero_add,qAn9]
theorem qwF9 {p q : List (Nat × Ex)} {z : Nat × Ex} : z∈mulL p q↔∃ x∈p,∃ y∈q,z = (x.1 * y.1,addE x.2 y.2):=by
 unfold mulL
 rw [List.mem_flatMap]
 constructor
 ·rintro ⟨x,hx,hz⟩
  obtain ⟨y,hy,rfl⟩:=List.mem_map.1 hz
  exact ⟨x,hx,y,hy,rfl⟩
 ·rintro ⟨x,hx,y,hy,rfl⟩
  exact ⟨x,hx,List.mem_map.2 ⟨y,hy,rfl⟩⟩
theorem qgv9 {p q : List (Nat × Ex)} (hp : PolyOK p) (hq : PolyOK q) : PolyOK (mulP p q) :=
 qiF9 _ _ qdk9 (fun z hz=>by
  obtain ⟨x,hx,y,hy,rfl⟩:=qwF9.1 hz
  exact ⟨Nat.mul_pos (hp.pos x hx) (hq.pos y hy),qhr9 (hp.ex x hx) (hq.ex y hy)⟩)
def Sub' (p q : List (Nat × Ex)) : Prop:=∀ e,cf p e≤cf q e
end Ld.Law

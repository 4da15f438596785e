import Derived.Test.YtmkohpkfeamjiaaTSP
import Derived.Test.YtmkohpkfeamjiaaV3
import Derived.Sort.AssemblyPlain
set_option maxHeartbeats 400000
set_option linter.unusedVariables false
set_option linter.unusedSimpArgs false
set_option linter.unusedSectionVars false
namespace Lt.So
open Ld Go Go.Abs Go.Sort
def GoodM (m : Mono) : Prop:=Law.ExOK m.Exps∧m.Exps.length≤1048576∧∀ n∈m.Exps,n≤64
abbrev MG:={ m : Mono // GoodM m }
instance inhE : Inhabited MG:=⟨⟨⟨[],[]⟩,⟨by simp,by simp⟩,by simp,by simp⟩⟩
def lst (d : Array MG) : List Mono:=d.toList.map (·.1)
theorem qxS9 (d : Array MG) : (lst d).length = d.size:=by simp [lst]
theorem qyJ9 (d : Array MG) (i : Nat) (h : i < d.size) : (lst d)[i]? = some d[i]!.1:=by simp [lst,h]
variable {lt : MG→MG→Bool} (hcmp : ∀ a b : MG,∃ n,qt9 a.1 b.1 = some n∧(n < 0↔lt a b = true))
section
theorem idxA {d : Array MG} {i : Nat} (h : i < d.size) : idx (lst d) (i : Int) = some d[i]!.1:=qf9 (qyJ9 d i h)
theorem idxS {d : Array MG} {i : Nat} {x : Mono} {n : Nat} (h : i < d.size) : ∃ y,idx ((lst d).set n x) (i : Int) = some y:=by
 unfold idx
 rw [if_pos (by omega)]
 have : i < ((lst d).set n x).length:=by rw [List.length_set,qxS9]; exact h
 exact ⟨_,by simp only [Int.toNat_natCast]; exact List.getElem?_eq_getElem this⟩
theorem swpA {d : Array MG} {i j : Nat} (hi : i < d.size) (hj : j < d.size) : ((lst d).set i d[j]!.1).set j d[i]!.1 = lst (swp d i j):=by
 unfold swp lst
 simp [Array.setIfInBounds,hi,hj,List.map_set]
theorem swpB {β : Type} {d : Array MG} {i j : Nat} (hi : i < d.size) (hj : j < d.size) {k : List Mono→Option β} : ((idx ((lst d).set ((i : Int)).toNat d[j]!.1) (j : Int)).bind fun _=>k (((lst d).set ((i : Int)).toNat d[j]!.1).set ((j : Int)).toNat d[i]!.1)) = k (lst (swp d i j)):=by
 simp only [Int.toNat_natCast]
 obtain ⟨y,hy⟩:=idxS (d:=d) (i:=j) (x:=d[j]!.1) (n:=i) hj
 rw [hy,swpA hi hj]; rfl
theorem qbK9 (d : Array MG) (i j : Nat) : (swp d i j).size = d.size:=by simp [swp]
include hcmp in
theorem cmpIf {β : Type} (x y : MG) (A B : Option β) : ((qt9 x.1 y.1).bind fun n=>if n < 0 then A else B) = if lt x y = true then A else B:=by
 obtain ⟨n,h1,h2⟩:=hcmp x y
 rw [h1]
 simp only [Option.bind_some]
 by_cases h : n < 0
 ·rw [if_pos h,if_pos (h2.1 h)]
 ·rw [if_neg h,if_neg (fun e=>h (h2.2 e))]
abbrev Sm (n : Nat) : Prop:=n < 1073741824
theorem wN {x : Int} {n : Nat} (h : x = (n : Int)) (hn : n < 4611686018427387904) : w64 x = (n : Int):=by rw [h,qbf9 (by omega) (by omega)]
theorem wZ {x : Int} (h1 : -4611686018427387904≤x) (h2 : x < 4611686018427387904) : w64 x = x:=qbf9 h1 h2
include hcmp in
theorem qsb9 (a b : Nat) (s8 : Int) : ∀ (j : Nat) (d : Array MG),j < d.size→Sm d.size→wh (qw9 (a : Int) (b : Int) s8) ((j : Int),(lst d)) = some (lst (insInner lt a j d)):=by
 intro j
 induction j with
 | zero =>
  intro d _ _
  refine qi9 ?_
  simp only [qw9]
  rw [if_neg (by omega)]; rfl
 | succ j ih =>
  intro d hj hs
  have w1 : w64 (((j + 1 : Nat) : Int) - 1) = (j : Int):=wN (by omega) (by omega)
  have step : qw9 (a : Int) (b : Int) s8 (((j + 1 : Nat) : Int),(lst d)) = if (decide (j + 1 > a) && lt d[j + 1]! d[j]!) = true then some (.inl ((j : Int),(lst (swp d (j + 1) j)))) else some (.inr (lst d)):=by
   simp only [qw9,w1]
   by_cases ha : j + 1 > a
   ·rw [if_pos (by omega),idxA hj,idxA (by omega)]
    simp only [Option.bind_some,cmpIf hcmp,swpB hj (show j < d.size by omega) (k:=fun l=>some (Sum.inl ((j : Int),l))),decide_eq_true ha,Bool.true_and]
   ·rw [if_neg (by omega),decide_eq_false ha]; rfl
  by_cases hc : (decide (j + 1 > a) && lt d[j + 1]! d[j]!) = true
  ·rw [if_pos hc] at step
   rw [qE9 step,insInner,if_pos hc]
   exact ih _ (by rw [qbK9]; omega) (by rw [qbK9]; exact hs)
  ·rw [if_neg hc] at step
   rw [qi9 step,insInner,if_neg hc]
theorem qrB9 (a : Nat) : ∀ (j : Nat) (d : Array MG),(insInner lt a j d).size = d.size:=by
 intro j
 induction j with
 | zero=>intro d; rfl
 | succ j ih=>intro d; simp only [insInner]; split <;> simp [ih,qbK9]
include hcmp in
theorem qrt9 (a b : Nat) : ∀ (n i : Nat) (d : Array MG),b - i≤n→b≤d.size→Sm d.size→∃ k,wh (qp9 (a : Int) (b : Int)) ((i : Int),(lst d)) = some (k,(lst (insOuter lt a b i d))):=by
 intro n
 induction n with
 | zero =>
  intro i d hn hb hs
  refine ⟨(i : Int),qi9 ?_⟩
  simp only [qp9]
  rw [if_neg (by omega),insOuter,if_neg (by omega)]
 | succ n ih =>
  intro i d hn hb hs
  by_cases hi : i < b
  ·have step : qp9 (a : Int) (b : Int) ((i : Int),(lst d)) = some (.inl (((i + 1 : Nat) : Int),(lst (insInner lt a i d)))):=by
    simp only [qp9]
    rw [if_pos (by omega),qsb9 hcmp a b _ i d (by omega) hs]
    simp only [Option.bind_some]
    rw [wN (n:=i + 1) (by omega) (by omega)]
   rw [qE9 step,insOuter,if_pos hi]
   have hz:=qrB9 (lt:=lt) a i d
   exact ih (i + 1) _ (by omega) (by rw [hz]; exact hb) (by rw [hz]; exact hs)
  ·refine ⟨(i : Int),qi9 ?_⟩
   simp only [qp9]
   rw [if_neg (by omega),insOuter,if_neg hi]
include hcmp in
theorem qlN9 {a b : Nat} {d : Array MG} (hb : b≤d.size) (hab : a≤b) (hs : Sm d.size) : qS9 (a : Int) (b : Int) (lst d) = some (lst (insertionSort lt d a b)):=by
 simp only [qS9]
 rw [wN (n:=a + 1) (by omega) (by omega)]
 obtain ⟨k,hk⟩:=qrt9 hcmp a b (b - (a + 1)) (a + 1) d (Nat.le_refl _) hb hs
 rw [hk]; rfl
theorem qjE9 (hi first : Nat) : ∀ (n root : Nat) (d : Array MG),hi - root≤n→(siftDown lt hi first root d).size = d.size:=by
 intro n
 induction n with
 | zero=>intro root d hn; rw [siftDown,dif_pos (by omega)]
 | succ n ih =>
  intro root d hn
  rw [siftDown]
  split
  ·rfl
  split
  ·split
   ·rfl
   ·split
    ·rw [ih _ _ (by omega),qbK9]
    ·rfl
  ·split
   ·rfl
   ·rw [ih _ _ (by omega),qbK9]
include hcmp in
theorem qof9 (lo hi first : Nat) : ∀ (n root : Nat) (d : Array MG),hi - root≤n→first + hi≤d.size→Sm d.size→root≤d.size→∃ x,wh (qj9 (lo : Int) (hi : Int) (first : Int)) ((root : Int),(lst d)) = some x ∧
  (match x with | .inl p=>p.2 | .inr o=>o) = (lst (siftDown lt hi first root d)):=by
 intro n
 induction n with
 | zero =>
  intro root d hn hf hs hr
  refine ⟨_,qi9 (r:=.inl ((root : Int),(lst d))) ?_,by rw [siftDown,dif_pos (by omega)]⟩
  simp only [qj9]
  rw [wN (x:=2 * (root : Int)) (n:=2 * root) (by omega) (by omega),wN (x:=((2 * root : Nat) : Int) + 1) (n:=2 * root + 1) (by omega) (by omega),if_pos (by omega)]
 | succ n ih =>
  intro root d hn hf hs hr
  by_cases h0 : 2 * root + 1 ≥ hi
  ·refine ⟨_,qi9 (r:=.inl ((root : Int),(lst d))) ?_,by rw [siftDown,dif_pos h0]⟩
   simp only [qj9]
   rw [wN (x:=2 * (root : Int)) (n:=2 * root) (by omega) (by omega),wN (x:=((2 * root : Nat) : Int) + 1) (n:=2 * root + 1) (by omega) (by omega),if_pos (by omega)]
  ·have e1 : w64 (2 * (root : Int)) = ((2 * root : Nat) : Int):=wN (by omega) (by omega)
   have e2 : w64 (((2 * root : Nat) : Int) + 1) = ((2 * root + 1 : Nat) : Int):=wN (by omega) (by omega)
   have e3 : w64 (((2 * root + 1 : Nat) : Int) + 1) = ((2 * root + 2 : Nat) : Int):=wN (by omega) (by omega)
   have f1 : w64 ((first : Int) + ((2 * root + 1 : Nat) : Int)) = ((first + (2 * root + 1) : Nat) : Int):=wN (by omega) (by omega)
   have f2 : w64 (((first + (2 * root + 1) : Nat) : Int) + 1) = ((first + (2 * root + 1) + 1 : Nat) : Int):=wN (by omega) (by omega)
   have f3 : w64 ((first : Int) + (root : Int)) = ((first + root : Nat) : Int):=wN (by omega) (by omega)
   have f4 : w64 ((first : Int) + ((2 * root + 2 : Nat) : Int)) = ((first + (2 * root + 2) : Nat) : Int):=wN (by omega) (by omega)
   have go : ∀ (c : Nat),root < c→c < hi→first + c < d.size→∀ (r : Option (Int × List Mono ⊕ (Int × List Mono) ⊕ List Mono)),qj9 (lo : Int) (hi : Int) (first : Int) ((root : Int),(lst d)) = some (.inl ((c : Int),(lst (swp d (first + root) (first + c)))))→∃ x,wh (qj9 (lo : Int) (hi : Int) (first : Int)) ((root : Int),(lst d)) = some x ∧
     (match x with | .inl p=>p.2 | .inr o=>o) = (lst (siftDown lt hi first c (swp d (first + root) (first + c)))):=by
    intro c h1 h2 h3 _ hstep
    rw [qE9 hstep]
    exact ih c _ (by omega) (by rw [qbK9]; exact hf) (by rw [qbK9]; exact hs) (by rw [qbK9]; omega)
   have stop : qj9 (lo : Int) (hi : Int) (first : Int) ((root : Int),(lst d)) = some (.inr (.inr (lst d)))→∃ x,wh (qj9 (lo : Int) (hi : Int) (first : Int)) ((root : Int),(lst d)) = some x ∧
     (match x with | .inl p=>p.2 | .inr o=>o) = (lst d):=fun h=>⟨_,qi9 h,rfl⟩
   have step : qj9 (lo : Int) (hi : Int) (first : Int) ((root : Int),(lst d)) =
     if 2 * root + 1 + 1 < hi then (if lt d[first + (2 * root + 1)]! d[first + (2 * root + 1) + 1]! = true then (if lt d[first + root]! d[first + (2 * root + 2)]! = true then some (.inl (((2 * root + 2 : Nat) : Int),(lst (swp d (first + root) (first + (2 * root + 2)))))) else some (.inr (.inr (lst d))))
      else (if lt d[first + root]! d[first + (2 * root + 1)]! = true then some (.inl (((2 * root + 1 : Nat) : Int),(lst (swp d (first + root) (first + (2 * root + 1)))))) else some (.inr (.inr (lst d)))))
     else (if lt d[first + root]! d[first + (2 * root + 1)]! = true then some (.inl (((2 * root + 1 : Nat) : Int),(lst (swp d (first + root) (first + (2 * root + 1)))))) else some (.inr (.inr (lst d)))):=by
    simp only [qj9,e1,e2,e3,f1,f2,f3,f4]
    rw [if_neg (by omega)]
    have b1 : first + (2 * root + 1) < d.size:=by omega
    have b2 : first + root < d.size:=by omega
    by_cases hc : 2 * root + 1 + 1 < hi
    ·have b3 : first + (2 * root + 2) < d.size:=by omega
     rw [if_pos (by omega),if_pos hc,idxA b1,idxA (show first + (2 * root + 1) + 1 < d.size by omega),idxA b2,idxA b3]
     simp only [Option.bind_some,cmpIf hcmp,swpB b2 b3 (k:=fun l=>some (Sum.inl (((2 * root + 2 : Nat) : Int),l))),swpB b2 b1 (k:=fun l=>some (Sum.inl (((2 * root + 1 : Nat) : Int),l)))]
    ·rw [if_neg (by omega),if_neg hc,idxA b1,idxA b2]
     simp only [Option.bind_some,cmpIf hcmp,swpB b2 b1 (k:=fun l=>some (Sum.inl (((2 * root + 1 : Nat) : Int),l)))]
   rw [siftDown,dif_neg h0]
   by_cases hc : 2 * root + 1 + 1 < hi
   ·rw [if_pos hc] at step
    by_cases h1 : lt d[first + (2 * root + 1)]! d[first + (2 * root + 1) + 1]! = true
    ·rw [if_pos h1] at step
     rw [if_pos (by simp [hc,h1])]
     by_cases h2 : lt d[first + root]! d[first + (2 * root + 2)]! = true
     ·rw [if_pos h2] at step
      rw [if_neg (by simp [h2]),dif_pos (by omega)]
      exact go (2 * root + 2) (by omega) (by omega) (by omega) none step
     ·rw [if_neg h2] at step
      rw [if_pos (by simpa using h2)]
      exact stop step
    ·rw [if_neg h1] at step
     rw [if_neg (by simp [h1])]
     by_cases h2 : lt d[first + root]! d[first + (2 * root + 1)]! = true
     ·rw [if_pos h2] at step
      rw [if_neg (by simp [h2])]
      exact go (2 * root + 1) (by omega) (by omega) (by omega) none step
     ·rw [if_neg h2] at step
      rw [if_pos (by simpa using h2)]
      exact stop step
   ·rw [if_neg hc] at step
    rw [if_neg (by simp [hc])]
    by_cases h2 : lt d[first + root]! d[first + (2 * root + 1)]! = true
    ·rw [if_pos h2] at step
     rw [if_neg (by simp [h2])]
     exact go (2 * root + 1) (by omega) (by omega) (by omega) none step
    ·rw [if_neg h2] at step
     rw [if_pos (by simpa using h2)]
     exact stop step
include hcmp in
theorem qlF9 {root hi first : Nat} {d : Array MG} (hf : first + hi≤d.size) (hs : Sm d.size) (hr : root≤d.size) : qG9 (root : Int) (hi : Int) (first : Int) (lst d) = some (lst (siftDown lt hi first root d)):=by
 obtain ⟨x,h1,h2⟩:=qof9 hcmp root hi first (hi - root) root d (Nat.le_refl _) hf hs hr
 simp only [qG9,h1,Option.bind_some]
 cases x with
 | inl p=>obtain ⟨p1,p2⟩:=p; exact congrArg some h2
 | inr o=>exact congrArg some h2
include hcmp in
theorem qqN9 (a b hi first : Nat) : ∀ (k : Nat) (d : Array MG),first + hi≤d.size→k≤d.size→Sm d.size→∃ x,wh (qC9 (a : Int) (b : Int) (first : Int) (hi : Int)) ((k : Int) - 1,(lst d)) = some (x,(lst (heapBuild lt hi first k d))):=by
 intro k
 induction k with
 | zero =>
  intro d hf hk hs
  refine ⟨_,qi9 (r:=(((0 : Nat) : Int) - 1,(lst d))) ?_⟩
  simp only [qC9]
  rw [if_neg (by omega)]
 | succ k ih =>
  intro d hf hk hs
  have hz:=qjE9 (lt:=lt) hi first (hi - k) k d (Nat.le_refl _)
  have step : qC9 (a : Int) (b : Int) (first : Int) (hi : Int) (((k + 1 : Nat) : Int) - 1,(lst d)) = some (.inl ((k : Int) - 1,(lst (siftDown lt hi first k d)))):=by
   simp only [qC9]
   rw [if_pos (by omega),show ((k + 1 : Nat) : Int) - 1 = (k : Int) by omega,qlF9 hcmp hf hs (by omega)]
   simp only [Option.bind_some]
   rw [wZ (by omega) (by omega)]
  rw [qE9 step]
  exact ih _ (by rw [hz]; exact hf) (by rw [hz]; omega) (by rw [hz]; exact hs)
theorem qpB9 (hi first : Nat) : ∀ (k : Nat) (d : Array MG),(heapBuild lt hi first k d).size = d.size:=by
 intro k
 induction k with
 | zero=>intro d; rfl
 | succ k ih=>intro d; rw [heapBuild,ih,qjE9 hi first (hi - k) k d (Nat.le_refl _)]
include hcmp in
theorem qtV9 (a b hi first : Nat) (s11 : Int) : ∀ (k : Nat) (d : Array MG),first + k≤d.size→Sm d.size→∃ x,wh (qB9 (a : Int) (b : Int) (first : Int) (hi : Int) s11) ((k : Int) - 1,(lst d)) = some (x,(lst (heapPop lt first k d))):=by
 intro k
 induction k with
 | zero =>
  intro d hf hs
  refine ⟨_,qi9 (r:=(((0 : Nat) : Int) - 1,(lst d))) ?_⟩
  simp only [qB9]
  rw [if_neg (by omega)]
 | succ k ih =>
  intro d hf hs
  have hz:=qjE9 (lt:=lt) k first k 0 (swp d first (first + k)) (Nat.le_refl _)
  rw [qbK9] at hz
  have b1 : first < d.size:=by omega
  have b2 : first + k < d.size:=by omega
  have step : qB9 (a : Int) (b : Int) (first : Int) (hi : Int) s11 (((k + 1 : Nat) : Int) - 1,(lst d)) = some (.inl ((k : Int) - 1,(lst (siftDown lt k first 0 (swp d first (first + k)))))):=by
   simp only [qB9]
   rw [if_pos (by omega),show ((k + 1 : Nat) : Int) - 1 = (k : Int) by omega,wN (x:=(first : Int) + (k : Int)) (n:=first + k) (by omega) (by omega),idxA b1,idxA b2]
   simp only [Option.bind_some]
   rw [swpB b1 b2 (k:=fun l=>(qG9 0 (k : Int) (first : Int) l).bind fun x11=>some (Sum.inl (w64 ((k : Int) - 1),x11)))]
   have:=qlF9 hcmp (root:=0) (hi:=k) (first:=first) (d:=swp d first (first + k)) (by rw [qbK9]; omega) (by rw [qbK9]; exact hs) (by omega)
   rw [Int.natCast_zero] at this
   rw [this]
   simp only [Option.bind_some]
   rw [wZ (by omega) (by omega)]
  rw [qE9 step]
  exact ih _ (by rw [hz]; omega) (by rw [hz]; exact hs)
include hcmp in
theorem qsc9 {a b : Nat} {d : Array MG} (hb : b≤d.size) (hab : a < b) (hs : Sm d.size) : qbg9 (a : Int) (b : Int) (lst d) = some (lst (heapSort lt d a b)):=by
 simp only [qbg9]
 have e1 : w64 ((b : Int) - (a : Int)) = ((b - a : Nat) : Int):=wN (by omega) (by omega)
 have e2 : w64 (((b - a : Nat) : Int) - 1) = ((b - a - 1 : Nat) : Int):=wN (by omega) (by omega)
 have e3 : quoV .i64 ((b - a - 1 : Nat) : Int) 2 = some ((((b - a - 1) / 2 + 1 : Nat) : Int) - 1):=by
  unfold quoV
  rw [if_neg (by decide)]
  have : (((b - a - 1 : Nat) : Int)).tdiv 2 = (((b - a - 1) / 2 : Nat) : Int):=by
   rw [Int.tdiv_eq_ediv_of_nonneg (by omega)]; omega
  rw [this]
  exact congrArg some ((wZ (x:=(((b - a - 1) / 2 : Nat) : Int)) (by omega) (by omega)).trans (by omega))
 rw [e1,e2,e3]
 simp only [Option.bind_some]
 obtain ⟨x,hx⟩:=qqN9 hcmp a b (b - a) a ((b - a - 1) / 2 + 1) d (by omega) (by omega) hs
 rw [hx]
 simp only [Option.bind_some]
 have hz:=qpB9 (lt:=lt) (b - a) a ((b - a - 1) / 2 + 1) d
 obtain ⟨y,hy⟩:=qtV9 hcmp a b (b - a) a x (b - a) (heapBuild lt (b - a) a ((b - a - 1) / 2 + 1) d) (by rw [hz]; omega) (by rw [hz]; exact hs)
 rw [show ((b - a - 1 : Nat) : Int) = ((b - a : Nat) : Int) - 1 by omega,hy]
 rfl
theorem qne9 (a b : Nat) : ∀ (n i j : Nat) (d : Array MG),j - i≤n→j < d.size→Sm d.size→∃ x y,wh (qs9 (a : Int) (b : Int)) ((i : Int),(j : Int),(lst d)) = some (x,y,(lst (reverseLoop i j d))):=by
 intro n
 induction n with
 | zero =>
  intro i j d hn hj hs
  refine ⟨_,_,qi9 (r:=((i : Int),(j : Int),(lst (reverseLoop i j d)))) ?_⟩
  simp only [qs9]
  rw [if_neg (by omega),reverseLoop,if_neg (by omega)]
 | succ n ih =>
  intro i j d hn hj hs
  by_cases h : i < j
  ·have b1 : i < d.size:=by omega
   have step : qs9 (a : Int) (b : Int) ((i : Int),(j : Int),(lst d)) = some (.inl (((i + 1 : Nat) : Int),((j - 1 : Nat) : Int),(lst (swp d i j)))):=by
    simp only [qs9]
    rw [if_pos (by omega),idxA hj,idxA b1,wN (x:=(i : Int) + 1) (n:=i + 1) (by omega) (by omega),wN (x:=(j : Int) - 1) (n:=j - 1) (by omega) (by omega)]
    simp only [Option.bind_some]
    rw [swpB b1 hj (k:=fun l=>some (Sum.inl (((i + 1 : Nat) : Int),((j - 1 : Nat) : Int),l)))]
   rw [qE9 step,reverseLoop,if_pos h]
   exact ih (i + 1) (j - 1) _ (by omega) (by rw [qbK9]; omega) (by rw [qbK9]; exact hs)
  ·refine ⟨_,_,qi9 (r:=((i : Int),(j : Int),(lst (reverseLoop i j d)))) ?_⟩
   simp only [qs9]
   rw [if_neg (by omega),reverseLoop,if_neg h]
theorem qmA9 {a b : Nat} {d : Array MG} (hb : b≤d.size) (hab : a < b) (hs : Sm d.size) : qA9 (a : Int) (b : Int) (lst d) = some (lst (reverseRange d a b)):=by
 simp only [qA9]
 rw [wN (x:=(b : Int) - 1) (n:=b - 1) (by omega) (by omega)]
 obtain ⟨x,y,h⟩:=qne9 a b (b - 1 - a) a (b - 1) d (Nat.le_refl _) (by omega) hs
 rw [h]; rfl
end
end Lt.So
namespace Lt.So
open Ld Go Go.Abs Go.Sort
variable {lt : MG→MG→Bool} (hcmp : ∀ a b : MG,∃ n,qt9 a.1 b.1 = some n∧(n < 0↔lt a b = true))
section
theorem qnk9 (d : Array MG) (b : Nat) : ∀ (n i : Nat),b - i≤n→i≤b→i≤scanSorted lt d b i∧scanSorted lt d b i≤b:=by
 intro n
 induction n with
 | zero=>intro i hn hi; rw [scanSorted,if_neg (by simp; omega)]; omega
 | succ n ih =>
  intro i hn hi
  rw [scanSorted]
  split
  ·rename_i h
   simp only [Bool.and_eq_true,decide_eq_true_eq] at h
   have:=ih (i + 1) (by omega) (by omega)
   omega
  ·omega
include hcmp in
theorem qol9 (a b : Nat) (s10 : Int) {d : Array MG} (hb : b≤d.size) (hs : Sm d.size) : ∀ (n i : Nat),b - i≤n→1≤i→i≤b→wh (qn9 (a : Int) (b : Int) s10 (lst d)) (i : Int) = some ((scanSorted lt d b i : Nat) : Int):=by
 intro n
 induction n with
 | zero =>
  intro i hn h1 hi
  refine qi9 ?_
  simp only [qn9]
  rw [if_neg (by omega),scanSorted,if_neg (by simp; omega)]
 | succ n ih =>
  intro i hn h1 hi
  by_cases hlt : i < b
  ·have step : qn9 (a : Int) (b : Int) s10 (lst d) (i : Int) = if lt d[i]! d[i - 1]! = true then some (.inr (i : Int)) else some (.inl ((i + 1 : Nat) : Int)):=by
    simp only [qn9]
    rw [if_pos (by omega),wN (x:=(i : Int) - 1) (n:=i - 1) (by omega) (by omega),wN (x:=(i : Int) + 1) (n:=i + 1) (by omega) (by omega),idxA (show i < d.size by omega),idxA (show i - 1 < d.size by omega)]
    simp only [Option.bind_some,cmpIf hcmp]
   rw [scanSorted]
   by_cases hc : lt d[i]! d[i - 1]! = true
   ·rw [if_pos hc] at step
    rw [qi9 step,if_neg (by simp [hc])]
   ·rw [if_neg hc] at step
    rw [qE9 step,if_pos (by simp [hlt,hc])]
    exact ih (i + 1) (by omega) (by omega) (by omega)
  ·refine qi9 ?_
   simp only [qn9]
   rw [if_neg (by omega),scanSorted,if_neg (by simp; omega)]
theorem qkV9 : ∀ (j : Nat) (d : Array MG),(shiftDown lt j d).size = d.size:=by
 intro j
 induction j with
 | zero=>intro d; rfl
 | succ j ih=>intro d; simp only [shiftDown]; split <;> simp [ih,qbK9]
include hcmp in
theorem qpk9 (a b : Nat) (s9 s10 : Int) : ∀ (j : Nat) (d : Array MG),j < d.size→Sm d.size→wh (qr9 (a : Int) (b : Int) s9 s10) ((j : Int),(lst d)) = some (lst (shiftDown lt j d)):=by
 intro j
 induction j with
 | zero =>
  intro d _ _
  refine qi9 ?_
  simp only [qr9]
  rw [if_neg (by omega)]; rfl
 | succ j ih =>
  intro d hj hs
  have step : qr9 (a : Int) (b : Int) s9 s10 (((j + 1 : Nat) : Int),(lst d)) = if lt d[j + 1]! d[j]! = true then some (.inl ((j : Int),(lst (swp d (j + 1) j)))) else some (.inr (lst d)):=by
   simp only [qr9]
   rw [if_pos (by omega),wN (x:=((j + 1 : Nat) : Int) - 1) (n:=j) (by omega) (by omega),idxA hj,idxA (show j < d.size by omega)]
   simp only [Option.bind_some,cmpIf hcmp,swpB hj (show j < d.size by omega) (k:=fun l=>some (Sum.inl ((j : Int),l)))]
  by_cases hc : lt d[j + 1]! d[j]! = true
  ·rw [if_pos hc] at step
   rw [qE9 step,shiftDown,if_neg (by simp [hc])]
   exact ih _ (by rw [qbK9]; omega) (by rw [qbK9]; exact hs)
  ·rw [if_neg hc] at step
   rw [qi9 step,shiftDown,if_pos (by simpa using hc)]
theorem qtw9 (b : Nat) : ∀ (n j : Nat) (d : Array MG),b - j≤n→(shiftUp lt b j d).size = d.size:=by
 intro n
 induction n with
 | zero=>intro j d hn; rw [shiftUp,if_neg (by omega)]
 | succ n ih =>
  intro j d hn
  rw [shiftUp]
  split
  ·split
   ·rfl
   ·rw [ih _ _ (by omega),qbK9]
  ·rfl
include hcmp in
theorem qmm9 (a b : Nat) (s9 s10 : Int) : ∀ (n j : Nat) (d : Array MG),b - j≤n→1≤j→b≤d.size→Sm d.size→j≤d.size + 1→wh (ql9 (a : Int) (b : Int) s9 s10) ((j : Int),(lst d)) = some (lst (shiftUp lt b j d)):=by
 intro n
 induction n with
 | zero =>
  intro j d hn h1 hb hs hj
  refine qi9 ?_
  simp only [ql9]
  rw [if_neg (by omega),shiftUp,if_neg (by omega)]
 | succ n ih =>
  intro j d hn h1 hb hs hj
  by_cases hlt : j < b
  ·have b1 : j < d.size:=by omega
   have b2 : j - 1 < d.size:=by omega
   have step : ql9 (a : Int) (b : Int) s9 s10 ((j : Int),(lst d)) = if lt d[j]! d[j - 1]! = true then some (.inl (((j + 1 : Nat) : Int),(lst (swp d j (j - 1))))) else some (.inr (lst d)):=by
    simp only [ql9]
    rw [if_pos (by omega),wN (x:=(j : Int) - 1) (n:=j - 1) (by omega) (by omega),wN (x:=(j : Int) + 1) (n:=j + 1) (by omega) (by omega),idxA b1,idxA b2]
    simp only [Option.bind_some,cmpIf hcmp,swpB b1 b2 (k:=fun l=>some (Sum.inl (((j + 1 : Nat) : Int),l)))]
   rw [shiftUp,if_pos hlt]
   by_cases hc : lt d[j]! d[j - 1]! = true
   ·rw [if_pos hc] at step
    rw [qE9 step,if_neg (by simp [hc])]
    exact ih (j + 1) _ (by omega) (by omega) (by rw [qbK9]; exact hb) (by rw [qbK9]; exact hs) (by rw [qbK9]; omega)
   ·rw [if_neg hc] at step
    rw [qi9 step,if_pos (by simpa using hc)]
  ·refine qi9 ?_
   simp only [ql9]
   rw [if_neg (by omega),shiftUp,if_neg hlt]
include hcmp in
theorem qoi9 {a b : Nat} (hab : a < b) : ∀ (s i : Nat) (d : Array MG),s≤5→a < i→i≤b→b≤d.size→Sm d.size→∃ x,wh (qq9 (a : Int) (b : Int)) ((i : Int),((5 - s : Nat) : Int),(lst d)) = some x ∧
  (match x with | .inl p=>p | .inr q=>(false,q.2.2)) = ((partialIns lt a b s i d).2,(lst (partialIns lt a b s i d).1)):=by
 intro s
 induction s with
 | zero =>
  intro i d _ h1 h2 hb hs
  refine ⟨_,qi9 (r:=.inr ((i : Int),((5 - 0 : Nat) : Int),(lst d))) ?_,rfl⟩
  simp only [qq9]
  rw [if_neg (by omega)]
 | succ s ih =>
  intro i d h5 h1 h2 hb hs
  have hsc:=qnk9 (lt:=lt) d b (b - i) i (Nat.le_refl _) h2
  have hsq:=qol9 hcmp a b ((5 - (s + 1) : Nat) : Int) hb hs (b - i) i (Nat.le_refl _) (by omega) h2
  simp only [partialIns]
  generalize hk : scanSorted lt d b i = k at hsc hsq ⊢
  have base : qq9 (a : Int) (b : Int) ((i : Int),((5 - (s + 1) : Nat) : Int),(lst d)) =
    if k = b then some (.inr (.inl (true,(lst d)))) else if b - a < 50 then some (.inr (.inl (false,(lst d)))) else
     some (.inl ((k : Int),((5 - s : Nat) : Int),(lst ((fun d1=>if b - k ≥ 2 then shiftUp lt b (k + 1) d1 else d1) ((fun d1=>if k - a ≥ 2 then shiftDown lt (k - 1) d1 else d1) (swp d k (k - 1))))))):=by
   simp only [qq9]
   rw [if_pos (by omega),hsq]
   simp only [Option.bind_some]
   by_cases hkb : k = b
   ·rw [if_pos (by omega),if_pos hkb]
   rw [if_neg (by omega),if_neg hkb,wN (x:=(b : Int) - (a : Int)) (n:=b - a) (by omega) (by omega)]
   by_cases h50 : b - a < 50
   ·rw [if_pos (by omega),if_pos h50]
   rw [if_neg (by omega),if_neg h50]
   have b1 : k < d.size:=by omega
   have b2 : k - 1 < d.size:=by omega
   rw [wN (x:=(k : Int) - 1) (n:=k - 1) (by omega) (by omega),wN (x:=(k : Int) + 1) (n:=k + 1) (by omega) (by omega),idxA b1,idxA b2]
   obtain ⟨y,hy⟩:=idxS (d:=d) (i:=k - 1) (x:=d[k - 1]!) (n:=k) b2
   simp only [Option.bind_some,Int.toNat_natCast,hy,swpA b1 b2]
   rw [wN (x:=(k : Int) - (a : Int)) (n:=k - a) (by omega) (by omega),wN (x:=(b : Int) - (k : Int)) (n:=b - k) (by omega) (by omega),wN (x:=((5 - (s + 1) : Nat) : Int) + 1) (n:=5 - s) (by omega) (by omega)]
   have hz : (swp d k (k - 1)).size = d.size:=qbK9 _ _ _
   by_cases c1 : k - a ≥ 2
   ·rw [if_pos (by omega),if_pos c1,qpk9 hcmp a b _ _ (k - 1) _ (by rw [hz]; omega) (by rw [hz]; exact hs)]
    simp only [Option.bind_some]
    have hz2:=qkV9 (lt:=lt) (k - 1) (swp d k (k - 1))
    by_cases c2 : b - k ≥ 2
    ·rw [if_pos (by omega),if_pos c2,qmm9 hcmp a b _ _ (b - (k + 1)) (k + 1) _ (Nat.le_refl _) (by omega) (by rw [hz2,hz]; exact hb) (by rw [hz2,hz]; exact hs) (by rw [hz2,hz]; omega)]
     rfl
    ·rw [if_neg (by omega),if_neg c2]
   ·rw [if_neg (by omega),if_neg c1]
    by_cases c2 : b - k ≥ 2
    ·rw [if_pos (by omega),if_pos c2,qmm9 hcmp a b _ _ (b - (k + 1)) (k + 1) _ (Nat.le_refl _) (by omega) (by rw [hz]; exact hb) (by rw [hz]; exact hs) (by rw [hz]; omega)]
     rfl
    ·rw [if_neg (by omega),if_neg c2]
  by_cases hkb : k = b
  ·rw [if_pos hkb] at base
   refine ⟨_,qi9 base,?_⟩
   rw [if_pos hkb]
  rw [if_neg hkb] at base
  rw [if_neg hkb]
  by_cases h50 : b - a < 50
  ·rw [if_pos h50] at base
   refine ⟨_,qi9 base,?_⟩
   rw [if_pos h50]
  rw [if_neg h50] at base
  rw [if_neg h50,qE9 base]
  have hz : ((fun d1=>if b - k ≥ 2 then shiftUp lt b (k + 1) d1 else d1) ((fun d1=>if k - a ≥ 2 then shiftDown lt (k - 1) d1 else d1) (swp d k (k - 1)))).size = d.size:=by
   have e1 : ((fun d1=>if k - a ≥ 2 then shiftDown lt (k - 1) d1 else d1) (swp d k (k - 1))).size = d.size:=by
    simp only []
    split
    ·rw [qkV9,qbK9]
    ·rw [qbK9]
   generalize ((fun d1=>if k - a ≥ 2 then shiftDown lt (k - 1) d1 else d1) (swp d k (k - 1))) = d1 at e1
   simp only []
   split
   ·rw [qtw9 b (b - (k + 1)) (k + 1) _ (Nat.le_refl _),e1]
   ·exact e1
  exact ih k _ (by omega) (by omega) (by omega) (by rw [hz]; exact hb) (by rw [hz]; exact hs)
include hcmp in
theorem qjo9 {a b : Nat} {d : Array MG} (hab : a < b) (hb : b≤d.size) (hs : Sm d.size) : qu9 (a : Int) (b : Int) (lst d) = some ((partialInsertionSort lt d a b).2,(lst (partialInsertionSort lt d a b).1)):=by
 obtain ⟨x,h1,h2⟩:=qoi9 hcmp hab 5 (a + 1) d (Nat.le_refl _) (by omega) (by omega) hb hs
 simp only [qu9]
 rw [wN (x:=(a : Int) + 1) (n:=a + 1) (by omega) (by omega)]
 simp only [Nat.sub_self,Int.natCast_zero] at h1
 rw [h1]
 unfold partialInsertionSort
 cases x with
 | inl p=>simp only [Option.bind_some]; exact congrArg some h2
 | inr q=>obtain ⟨q1,q2,q3⟩:=q; simp only [Option.bind_some]; exact congrArg some h2
theorem qkR9 {step : Int→Option (Int ⊕ Int)} {p : MG→Bool} {d : Array MG} {j : Nat} (h : ∀ i : Nat,i≤j + 2→step (i : Int) = if (decide (i≤j) && p d[i]!) = true then some (.inl ((i + 1 : Nat) : Int)) else some (.inr (i : Int))) :
  ∀ (n i : Nat),j + 1 - i≤n→i≤j + 2→wh step (i : Int) = some ((scanUp p d j i : Nat) : Int):=by
 intro n
 induction n with
 | zero =>
  intro i hn hi
  have hc : ¬ ((decide (i≤j) && p d[i]!) = true):=by simp; omega
  rw [scanUp,if_neg hc]
  exact qi9 (by rw [h i hi,if_neg hc])
 | succ n ih =>
  intro i hn hi
  rw [scanUp]
  by_cases hc : (decide (i≤j) && p d[i]!) = true
  ·rw [if_pos hc,qE9 (by rw [h i hi,if_pos hc])]
   have : i≤j:=by simp at hc; exact hc.1
   exact ih (i + 1) (by omega) (by omega)
  ·rw [if_neg hc]
   exact qi9 (by rw [h i hi,if_neg hc])
theorem qjH9 {step : Int→Option (Int ⊕ Int)} {p : MG→Bool} {d : Array MG} {i : Nat} (hi : 1≤i) : ∀ (j : Nat),(∀ k : Nat,k≤j→step (k : Int) = if (decide (i≤k) && p d[k]!) = true then some (.inl ((k - 1 : Nat) : Int)) else some (.inr (k : Int))) →
  wh step (j : Int) = some ((scanDown p d i j : Nat) : Int):=by
 intro j
 induction j with
 | zero =>
  intro h
  refine qi9 ?_
  rw [h 0 (Nat.le_refl _),if_neg (by simp; omega)]; rfl
 | succ j ih =>
  intro h
  rw [scanDown]
  have h0:=h (j + 1) (Nat.le_refl _)
  by_cases hc : (decide (i≤j + 1) && p d[j + 1]!) = true
  ·rw [if_pos hc] at h0 ⊢
   rw [qE9 h0]
   exact ih (fun k hk=>h k (by omega))
  ·rw [if_neg hc] at h0 ⊢
   exact qi9 h0
include hcmp in
theorem qsH9 {a b pv j : Nat} {d : Array MG} (hj : j < d.size) (ha : a < d.size) (hs : Sm d.size) (i : Nat) (hi : i≤j + 2) : wh (qbc9 (a : Int) (b : Int) (pv : Int) (j : Int) (lst d)) (i : Int) = some ((scanUp (fun x=>lt x d[a]!) d j i : Nat) : Int):=by
 refine qkR9 (fun k hk=>?_) (j + 1 - i) i (Nat.le_refl _) hi
 simp only [qbc9]
 by_cases h : k≤j
 ·rw [if_pos (by omega),idxA (show k < d.size by omega),idxA ha,wN (x:=(k : Int) + 1) (n:=k + 1) (by omega) (by omega)]
  simp only [Option.bind_some,cmpIf hcmp,decide_eq_true h,Bool.true_and]
 ·rw [if_neg (by omega),if_neg (by simp; omega)]
include hcmp in
theorem qxF9 {a b pv j : Nat} {d : Array MG} (hj : j < d.size) (ha : a < d.size) (hs : Sm d.size) (i : Nat) (hi : i≤j + 2) : wh (qZ9 (a : Int) (b : Int) (pv : Int) (j : Int) (lst d)) (i : Int) = some ((scanUp (fun x=>lt x d[a]!) d j i : Nat) : Int):=by
 refine qkR9 (fun k hk=>?_) (j + 1 - i) i (Nat.le_refl _) hi
 simp only [qZ9]
 by_cases h : k≤j
 ·rw [if_pos (by omega),idxA (show k < d.size by omega),idxA ha,wN (x:=(k : Int) + 1) (n:=k + 1) (by omega) (by omega)]
  simp only [Option.bind_some,cmpIf hcmp,decide_eq_true h,Bool.true_and]
 ·rw [if_neg (by omega),if_neg (by simp; omega)]
theorem ifNot {β : Type} (c : Bool) (A B : β) : (if c = true then A else B) = if (!c) = true then B else A:=by cases c <;> rfl
include hcmp in
theorem qnV9 {a b pv i : Nat} {d : Array MG} (hi : 1≤i) (ha : a < d.size) (hs : Sm d.size) (j : Nat) (hj : j < d.size) : wh (qW9 (a : Int) (b : Int) (pv : Int) (i : Int) (lst d)) (j : Int) = some ((scanDown (fun x=>!lt x d[a]!) d i j : Nat) : Int):=by
 refine qjH9 hi j (fun k hk=>?_)
 simp only [qW9]
 by_cases h : i≤k
 ·rw [if_pos (by omega),idxA (show k < d.size by omega),idxA ha,wN (x:=(k : Int) - 1) (n:=k - 1) (by omega) (by omega)]
  simp only [Option.bind_some,cmpIf hcmp,decide_eq_true h,Bool.true_and]
  exact ifNot _ _ _
 ·rw [if_neg (by omega),if_neg (by simp; omega)]
include hcmp in
theorem qsK9 {a b pv i : Nat} {d : Array MG} (hi : 1≤i) (ha : a < d.size) (hs : Sm d.size) (j : Nat) (hj : j < d.size) : wh (qY9 (a : Int) (b : Int) (pv : Int) (i : Int) (lst d)) (j : Int) = some ((scanDown (fun x=>!lt x d[a]!) d i j : Nat) : Int):=by
 refine qjH9 hi j (fun k hk=>?_)
 simp only [qY9]
 by_cases h : i≤k
 ·rw [if_pos (by omega),idxA (show k < d.size by omega),idxA ha,wN (x:=(k : Int) - 1) (n:=k - 1) (by omega) (by omega)]
  simp only [Option.bind_some,cmpIf hcmp,decide_eq_true h,Bool.true_and]
  exact ifNot _ _ _
 ·rw [if_neg (by omega),if_neg (by simp; omega)]
include hcmp in
theorem up_eq {a b pv j : Nat} {d : Array MG} (hj : j < d.size) (ha : a < d.size) (hs : Sm d.size) (i : Nat) (hi : i≤j + 2) : wh (qL9 (a : Int) (b : Int) (pv : Int) (j : Int) (lst d)) (i : Int) = some ((scanUp (fun x=>!lt d[a]! x) d j i : Nat) : Int):=by
 refine qkR9 (fun k hk=>?_) (j + 1 - i) i (Nat.le_refl _) hi
 simp only [qL9]
 by_cases h : k≤j
 ·rw [if_pos (by omega),idxA (show k < d.size by omega),idxA ha,wN (x:=(k : Int) + 1) (n:=k + 1) (by omega) (by omega)]
  simp only [Option.bind_some,cmpIf hcmp,decide_eq_true h,Bool.true_and]
  exact ifNot _ _ _
 ·rw [if_neg (by omega),if_neg (by simp; omega)]
include hcmp in
theorem qsC9 {a b pv i : Nat} {d : Array MG} (hi : 1≤i) (ha : a < d.size) (hs : Sm d.size) (j : Nat) (hj : j < d.size) : wh (qM9 (a : Int) (b : Int) (pv : Int) (i : Int) (lst d)) (j : Int) = some ((scanDown (fun x=>lt d[a]! x) d i j : Nat) : Int):=by
 refine qjH9 hi j (fun k hk=>?_)
 simp only [qM9]
 by_cases h : i≤k
 ·rw [if_pos (by omega),idxA (show k < d.size by omega),idxA ha,wN (x:=(k : Int) - 1) (n:=k - 1) (by omega) (by omega)]
  simp only [Option.bind_some,cmpIf hcmp,decide_eq_true h,Bool.true_and]
 ·rw [if_neg (by omega),if_neg (by simp; omega)]
include hcmp in
theorem qsj9 {a b pv : Nat} : ∀ (n i j : Nat) (d : Array MG),j + 1 - i≤n→a < i→i≤j + 2→j < d.size→a < d.size→Sm d.size→∃ x,wh (qv9 (a : Int) (b : Int) (pv : Int)) ((i : Int),(j : Int),(lst d)) = some (x,(((partLoop lt a i j d).1 : Nat) : Int),(lst (partLoop lt a i j d).2)):=by
 intro n
 induction n with
 | zero =>
  intro i j d hn ha hi hj haz hs
  have h1:=qsH9 hcmp (a:=a) (b:=b) (pv:=pv) hj (by omega) hs i hi
  have g1:=scanUp_ge (fun x=>lt x d[a]!) d j i
  have h2:=qnV9 hcmp (a:=a) (b:=b) (pv:=pv) (i:=scanUp (fun x=>lt x d[a]!) d j i) (by omega) (by omega) hs j hj
  have g2:=scanDown_le (fun x=>!lt x d[a]!) d (scanUp (fun x=>lt x d[a]!) d j i) j
  rw [partLoop_eq,if_pos (by omega)]
  refine ⟨_,qi9 (r:=(((scanUp (fun x=>lt x d[a]!) d j i : Nat) : Int),_,_)) ?_⟩
  simp only [qv9,h1,h2,Option.bind_some]
  rw [if_pos (by omega)]
 | succ n ih =>
  intro i j d hn ha hi hj haz hs
  have h1:=qsH9 hcmp (a:=a) (b:=b) (pv:=pv) hj (by omega) hs i hi
  have g1:=scanUp_ge (fun x=>lt x d[a]!) d j i
  have h2:=qnV9 hcmp (a:=a) (b:=b) (pv:=pv) (i:=scanUp (fun x=>lt x d[a]!) d j i) (by omega) (by omega) hs j hj
  have g2:=scanDown_le (fun x=>!lt x d[a]!) d (scanUp (fun x=>lt x d[a]!) d j i) j
  rw [partLoop_eq]
  generalize scanUp (fun x=>lt x d[a]!) d j i = i2 at h1 g1 h2 g2 ⊢
  generalize scanDown (fun x=>!lt x d[a]!) d i2 j = j2 at h2 g2 ⊢
  by_cases h : i2 > j2
  ·rw [if_pos h]
   refine ⟨_,qi9 (r:=((i2 : Int),(j2 : Int),(lst d))) ?_⟩
   simp only [qv9,h1,h2,Option.bind_some]
   rw [if_pos (by omega)]
  ·have b1 : i2 < d.size:=by omega
   have b2 : j2 < d.size:=by omega
   have step : qv9 (a : Int) (b : Int) (pv : Int) ((i : Int),(j : Int),(lst d)) = some (.inl (((i2 + 1 : Nat) : Int),((j2 - 1 : Nat) : Int),(lst (swp d i2 j2)))):=by
    simp only [qv9,h1,h2,Option.bind_some]
    rw [if_neg (by omega),idxA b1,idxA b2,wN (x:=(i2 : Int) + 1) (n:=i2 + 1) (by omega) (by omega),wN (x:=(j2 : Int) - 1) (n:=j2 - 1) (by omega) (by omega)]
    simp only [Option.bind_some]
    rw [swpB b1 b2 (k:=fun l=>some (Sum.inl (((i2 + 1 : Nat) : Int),((j2 - 1 : Nat) : Int),l)))]
   rw [if_neg h,qE9 step]
   exact ih (i2 + 1) (j2 - 1) _ (by omega) (by omega) (by omega) (by rw [qbK9]; omega) (by rw [qbK9]; exact haz) (by rw [qbK9]; exact hs)
include hcmp in
theorem qqc9 {a b pv : Nat} {d : Array MG} (h1 : a≤pv) (h2 : pv < b) (hb : b≤d.size) (hs : Sm d.size) (hpos : a + 1 < b) : qe9 (a : Int) (b : Int) (pv : Int) (lst d) = some (((((partition lt d a b pv).1 : Nat) : Int)),(partition lt d a b pv).2.1,(lst (partition lt d a b pv).2.2)):=by
 have b1 : a < d.size:=by omega
 have b2 : pv < d.size:=by omega
 have hz : (swp d a pv).size = d.size:=qbK9 _ _ _
 have u:=qxF9 hcmp (a:=a) (b:=b) (pv:=pv) (j:=b - 1) (d:=swp d a pv) (by rw [hz]; omega) (by rw [hz]; omega) (by rw [hz]; exact hs) (a + 1) (by omega)
 have g1:=scanUp_ge (fun x=>lt x (swp d a pv)[a]!) (swp d a pv) (b - 1) (a + 1)
 have g3:=(scanUp_spec (fun x=>lt x (swp d a pv)[a]!) (swp d a pv) (b - 1) _ (a + 1) rfl).2.1 (by omega)
 have w:=qsK9 hcmp (a:=a) (b:=b) (pv:=pv) (d:=swp d a pv) (i:=scanUp (fun x=>lt x (swp d a pv)[a]!) (swp d a pv) (b - 1) (a + 1)) (by omega) (by rw [hz]; omega) (by rw [hz]; exact hs) (b - 1) (by rw [hz]; omega)
 have g2:=scanDown_le (fun x=>!lt x (swp d a pv)[a]!) (swp d a pv) (scanUp (fun x=>lt x (swp d a pv)[a]!) (swp d a pv) (b - 1) (a + 1)) (b - 1)
 obtain ⟨y,hy⟩:=idxS (d:=d) (i:=pv) (x:=d[pv]!) (n:=a) b2
 simp only [qe9]
 rw [idxA b1,idxA b2,wN (x:=(b : Int) - 1) (n:=b - 1) (by omega) (by omega),wN (x:=(a : Int) + 1) (n:=a + 1) (by omega) (by omega)]
 simp only [Option.bind_some,Int.toNat_natCast,hy,swpA b1 b2,u,w]
 unfold partition
 simp only []
 generalize swp d a pv = e at hz u g1 g3 w g2 ⊢
 generalize scanUp (fun x=>lt x e[a]!) e (b - 1) (a + 1) = i2 at u g1 g3 w g2 ⊢
 generalize scanDown (fun x=>!lt x e[a]!) e i2 (b - 1) = j2 at w g2 ⊢
 have c1 : a < e.size:=by omega
 have c2 : j2 < e.size:=by omega
 by_cases h : i2 > j2
 ·rw [if_pos (by omega),if_pos h,idxA c1,idxA c2]
  obtain ⟨y2,hy2⟩:=idxS (d:=e) (i:=a) (x:=e[a]!) (n:=j2) c1
  simp only [Option.bind_some,hy2,swpA c2 c1]
 ·rw [if_neg (by omega),if_neg h]
  have c3 : i2 < e.size:=by omega
  rw [idxA c2,idxA c3,wN (x:=(i2 : Int) + 1) (n:=i2 + 1) (by omega) (by omega),wN (x:=(j2 : Int) - 1) (n:=j2 - 1) (by omega) (by omega)]
  obtain ⟨y3,hy3⟩:=idxS (d:=e) (i:=j2) (x:=e[j2]!) (n:=i2) c2
  simp only [Option.bind_some,hy3,swpA c3 c2]
  obtain ⟨x,hx⟩:=qsj9 hcmp (a:=a) (b:=b) (pv:=pv) (j2 - 1 + 1 - (i2 + 1)) (i2 + 1) (j2 - 1) (swp e i2 j2) (Nat.le_refl _) (by omega) (by omega) (by rw [qbK9]; omega) (by rw [qbK9]; omega) (by rw [qbK9,hz]; exact hs)
  rw [hx]
  simp only [Option.bind_some]
  rcases hr : partLoop lt a (i2 + 1) (j2 - 1) (swp e i2 j2) with ⟨r1,r2⟩
  have hrs : r2.size = e.size∧r1 < e.size:=by
   have hp : ∀ (n i j : Nat) (f : Array MG),j + 1 - i≤n→j < f.size→(partLoop lt a i j f).2.size = f.size∧(partLoop lt a i j f).1 < f.size:=by
    intro n
    induction n with
    | zero =>
     intro i j f hn hj
     have q1:=scanUp_ge (fun x=>lt x f[a]!) f j i
     have q2:=scanDown_le (fun x=>!lt x f[a]!) f (scanUp (fun x=>lt x f[a]!) f j i) j
     rw [partLoop_eq]
     split
     ·exact ⟨rfl,by simp only []; omega⟩
     ·omega
    | succ n ih =>
     intro i j f hn hj
     have q1:=scanUp_ge (fun x=>lt x f[a]!) f j i
     have q2:=scanDown_le (fun x=>!lt x f[a]!) f (scanUp (fun x=>lt x f[a]!) f j i) j
     rw [partLoop_eq]
     split
     ·exact ⟨rfl,by simp only []; omega⟩
     ·have:=ih (scanUp (fun x=>lt x f[a]!) f j i + 1) (scanDown (fun x=>!lt x f[a]!) f (scanUp (fun x=>lt x f[a]!) f j i) j - 1) (swp f (scanUp (fun x=>lt x f[a]!) f j i) (scanDown (fun x=>!lt x f[a]!) f (scanUp (fun x=>lt x f[a]!) f j i) j)) (by omega) (by rw [qbK9]; omega)
      rw [qbK9] at this
      exact this
   have:=hp _ (i2 + 1) (j2 - 1) (swp e i2 j2) (Nat.le_refl _) (by rw [qbK9]; omega)
   rw [hr,qbK9] at this
   exact this
  have d1 : r1 < r2.size:=by omega
  have d2 : a < r2.size:=by omega
  simp only []
  rw [idxA d2,idxA d1]
  obtain ⟨y4,hy4⟩:=idxS (d:=r2) (i:=a) (x:=r2[a]!) (n:=r1) d2
  simp only [Option.bind_some,Int.toNat_natCast,hy4,swpA d1 d2]
include hcmp in
theorem qoc9 {a b pv : Nat} : ∀ (n i j : Nat) (d : Array MG),j + 1 - i≤n→a < i→i≤j + 2→j < d.size→a < d.size→Sm d.size→∃ x,wh (qo9 (a : Int) (b : Int) (pv : Int)) ((i : Int),(j : Int),(lst d)) = some ((((partEqLoop lt a i j d).1 : Nat) : Int),x,(lst (partEqLoop lt a i j d).2)):=by
 intro n
 induction n with
 | zero =>
  intro i j d hn ha hi hj haz hs
  have h1:=up_eq hcmp (a:=a) (b:=b) (pv:=pv) hj (by omega) hs i hi
  have g1:=scanUp_ge (fun x=>!lt d[a]! x) d j i
  have h2:=qsC9 hcmp (a:=a) (b:=b) (pv:=pv) (i:=scanUp (fun x=>!lt d[a]! x) d j i) (by omega) (by omega) hs j hj
  have g2:=scanDown_le (fun x=>lt d[a]! x) d (scanUp (fun x=>!lt d[a]! x) d j i) j
  rw [partEqLoop_eq,if_pos (by omega)]
  refine ⟨_,qi9 (r:=(_,((scanDown (fun x=>lt d[a]! x) d (scanUp (fun x=>!lt d[a]! x) d j i) j : Nat) : Int),_)) ?_⟩
  simp only [qo9,h1,h2,Option.bind_some]
  rw [if_pos (by omega)]
 | succ n ih =>
  intro i j d hn ha hi hj haz hs
  have h1:=up_eq hcmp (a:=a) (b:=b) (pv:=pv) hj (by omega) hs i hi
  have g1:=scanUp_ge (fun x=>!lt d[a]! x) d j i
  have h2:=qsC9 hcmp (a:=a) (b:=b) (pv:=pv) (i:=scanUp (fun x=>!lt d[a]! x) d j i) (by omega) (by omega) hs j hj
  have g2:=scanDown_le (fun x=>lt d[a]! x) d (scanUp (fun x=>!lt d[a]! x) d j i) j
  rw [partEqLoop_eq]
  generalize scanUp (fun x=>!lt d[a]! x) d j i = i2 at h1 g1 h2 g2 ⊢
  generalize scanDown (fun x=>lt d[a]! x) d i2 j = j2 at h2 g2 ⊢
  by_cases h : i2 > j2
  ·rw [if_pos h]
   refine ⟨_,qi9 (r:=((i2 : Int),(j2 : Int),(lst d))) ?_⟩
   simp only [qo9,h1,h2,Option.bind_some]
   rw [if_pos (by omega)]
  ·have b1 : i2 < d.size:=by omega
   have b2 : j2 < d.size:=by omega
   have step : qo9 (a : Int) (b : Int) (pv : Int) ((i : Int),(j : Int),(lst d)) = some (.inl (((i2 + 1 : Nat) : Int),((j2 - 1 : Nat) : Int),(lst (swp d i2 j2)))):=by
    simp only [qo9,h1,h2,Option.bind_some]
    rw [if_neg (by omega),idxA b1,idxA b2,wN (x:=(i2 : Int) + 1) (n:=i2 + 1) (by omega) (by omega),wN (x:=(j2 : Int) - 1) (n:=j2 - 1) (by omega) (by omega)]
    simp only [Option.bind_some]
    rw [swpB b1 b2 (k:=fun l=>some (Sum.inl (((i2 + 1 : Nat) : Int),((j2 - 1 : Nat) : Int),l)))]
   rw [if_neg h,qE9 step]
   exact ih (i2 + 1) (j2 - 1) _ (by omega) (by omega) (by omega) (by rw [qbK9]; omega) (by rw [qbK9]; exact haz) (by rw [qbK9]; exact hs)
include hcmp in
theorem qlm9 {a b pv : Nat} {d : Array MG} (h1 : a≤pv) (h2 : pv < b) (hb : b≤d.size) (hs : Sm d.size) (hpos : a + 1 < b) : qh9 (a : Int) (b : Int) (pv : Int) (lst d) = some ((((partitionEqual lt d a b pv).1 : Nat) : Int),(lst (partitionEqual lt d a b pv).2)):=by
 have b1 : a < d.size:=by omega
 have b2 : pv < d.size:=by omega
 obtain ⟨y,hy⟩:=idxS (d:=d) (i:=pv) (x:=d[pv]!) (n:=a) b2
 simp only [qh9]
 rw [idxA b1,idxA b2,wN (x:=(b : Int) - 1) (n:=b - 1) (by omega) (by omega),wN (x:=(a : Int) + 1) (n:=a + 1) (by omega) (by omega)]
 simp only [Option.bind_some,Int.toNat_natCast,hy,swpA b1 b2]
 obtain ⟨x,hx⟩:=qoc9 hcmp (a:=a) (b:=b) (pv:=pv) (b - 1 + 1 - (a + 1)) (a + 1) (b - 1) (swp d a pv) (Nat.le_refl _) (by omega) (by omega) (by rw [qbK9]; omega) (by rw [qbK9]; exact b1) (by rw [qbK9]; exact hs)
 rw [hx]; rfl
end
end Lt.So
namespace Lt.So
open Ld Go Go.Abs Go.Sort
variable {lt : MG→MG→Bool} (hcmp : ∀ a b : MG,∃ n,qt9 a.1 b.1 = some n∧(n < 0↔lt a b = true))
section
include hcmp in
theorem qkr9 {s1 s2 : Nat} {d : Array MG} (h1 : s1 < d.size) (h2 : s2 < d.size) (n : Int) : ∃ (x y : Nat) (m : Int),qI9 (s1 : Int) (s2 : Int) (lst d) n = some ((x : Int),(y : Int),m)∧((x = s1∧y = s2)∨(x = s2∧y = s1)):=by
 simp only [qI9]
 rw [idxA h1,idxA h2]
 simp only [Option.bind_some,cmpIf hcmp]
 split
 ·exact ⟨s2,s1,_,rfl,.inr ⟨rfl,rfl⟩⟩
 ·exact ⟨s1,s2,_,rfl,.inl ⟨rfl,rfl⟩⟩
include hcmp in
theorem qkq9 {s1 s2 s3 : Nat} {d : Array MG} (h1 : s1 < d.size) (h2 : s2 < d.size) (h3 : s3 < d.size) (n : Int) : ∃ (x : Nat) (m : Int),qJ9 (s1 : Int) (s2 : Int) (s3 : Int) (lst d) n = some ((x : Int),m)∧(x = s1∨x = s2∨x = s3):=by
 simp only [qJ9]
 obtain ⟨x,y,m,e1,c1⟩:=qkr9 hcmp h1 h2 n
 rw [e1]
 simp only [Option.bind_some]
 obtain ⟨x2,y2,m2,e2,c2⟩:=qkr9 hcmp (s1:=y) (s2:=s3) (d:=d) (by omega) h3 m
 rw [e2]
 simp only [Option.bind_some]
 obtain ⟨x3,y3,m3,e3,c3⟩:=qkr9 hcmp (s1:=x) (s2:=x2) (d:=d) (by omega) (by omega) m2
 rw [e3]
 exact ⟨y3,m3,rfl,by omega⟩
include hcmp in
theorem qiI9 {s1 : Nat} {d : Array MG} (h0 : 1≤s1) (h1 : s1 + 1 < d.size) (hs : Sm d.size) (n : Int) : ∃ (x : Nat) (m : Int),qz9 (s1 : Int) (lst d) n = some ((x : Int),m)∧(x = s1 - 1∨x = s1∨x = s1 + 1):=by
 simp only [qz9]
 rw [wN (x:=(s1 : Int) - 1) (n:=s1 - 1) (by omega) (by omega),wN (x:=(s1 : Int) + 1) (n:=s1 + 1) (by omega) (by omega)]
 obtain ⟨x,m,e,c⟩:=qkq9 hcmp (s1:=s1 - 1) (s2:=s1) (s3:=s1 + 1) (d:=d) (by omega) (by omega) (by omega) n
 rw [e]
 exact ⟨x,m,rfl,c⟩
theorem quoN {n k : Nat} (hk : 0 < k) (hn : n < 4611686018427387904) : quoV .i64 (n : Int) (k : Int) = some ((n / k : Nat) : Int):=by
 unfold quoV
 rw [if_neg (by omega)]
 have : ((n : Int)).tdiv (k : Int) = ((n / k : Nat) : Int):=by rw [Int.tdiv_eq_ediv_of_nonneg (by omega)]; exact (Int.natCast_ediv n k).symm
 rw [this]
 have hle : n / k≤n:=Nat.div_le_self n k
 generalize n / k = q at hle ⊢
 exact congrArg some (wZ (x:=(q : Int)) (by omega) (by omega))
include hcmp in
theorem qjz9 {a b : Nat} {d : Array MG} (hab : a + 12 < b) (hb : b≤d.size) (hs : Sm d.size) : ∃ (p : Nat) (h : Int),qK9 (a : Int) (b : Int) (lst d) = some ((p : Int),h)∧a≤p∧p < b:=by
 simp only [qK9]
 rw [wN (x:=(b : Int) - (a : Int)) (n:=b - a) (by omega) (by omega)]
 have hq:=quoN (n:=b - a) (k:=4) (by omega) (by omega)
 rw [show ((4 : Nat) : Int) = 4 from rfl] at hq
 rw [hq]
 simp only [Option.bind_some]
 rw [if_pos (by omega)]
 generalize hl : (b - a) / 4 = l at *
 rw [wN (x:=(l : Int) * 1) (n:=l * 1) (by omega) (by omega),wN (x:=(l : Int) * 2) (n:=l * 2) (by omega) (by omega),wN (x:=(l : Int) * 3) (n:=l * 3) (by omega) (by omega),
  wN (x:=(a : Int) + ((l * 1 : Nat) : Int)) (n:=a + l * 1) (by omega) (by omega),wN (x:=(a : Int) + ((l * 2 : Nat) : Int)) (n:=a + l * 2) (by omega) (by omega),wN (x:=(a : Int) + ((l * 3 : Nat) : Int)) (n:=a + l * 3) (by omega) (by omega)]
 have fin : ∀ (x : Nat) (m : Int),a≤x→x < b→∃ (p : Nat) (h : Int),(if m = 0 then some ((x : Int),(1 : Int)) else if m = 12 then some ((x : Int),(2 : Int)) else some ((x : Int),(0 : Int))) = some ((p : Int),h)∧a≤p∧p < b:=by
  intro x m h1 h2
  split
  ·exact ⟨x,_,rfl,h1,h2⟩
  split
  ·exact ⟨x,_,rfl,h1,h2⟩
  ·exact ⟨x,_,rfl,h1,h2⟩
 by_cases h50 : 50≤b - a
 ·rw [if_pos (by omega)]
  obtain ⟨x2,m2,e2,c2⟩:=qiI9 hcmp (s1:=a + l * 1) (d:=d) (by omega) (by omega) hs 0
  rw [e2]
  simp only [Option.bind_some]
  obtain ⟨x3,m3,e3,c3⟩:=qiI9 hcmp (s1:=a + l * 2) (d:=d) (by omega) (by omega) hs m2
  rw [e3]
  simp only [Option.bind_some]
  obtain ⟨x4,m4,e4,c4⟩:=qiI9 hcmp (s1:=a + l * 3) (d:=d) (by omega) (by omega) hs m3
  rw [e4]
  simp only [Option.bind_some]
  obtain ⟨x5,m5,e5,c5⟩:=qkq9 hcmp (s1:=x2) (s2:=x3) (s3:=x4) (d:=d) (by omega) (by omega) (by omega) m4
  rw [e5]
  simp only [Option.bind_some]
  exact fin x5 m5 (by omega) (by omega)
 ·rw [if_neg (by omega)]
  obtain ⟨x5,m5,e5,c5⟩:=qkq9 hcmp (s1:=a + l * 1) (s2:=a + l * 2) (s3:=a + l * 3) (d:=d) (by omega) (by omega) (by omega) 0
  rw [e5]
  simp only [Option.bind_some]
  exact fin x5 m5 (by omega) (by omega)
theorem qlV9 {n : Nat} (hn : 0 < n) (hs : Sm n) : n < 2 ^ Go.Lib.bitLen n∧2 ^ Go.Lib.bitLen n≤2 * n:=by
 induction n using Nat.strongRecOn with
 | ind n ih =>
  unfold Sm at hs
  have h:=Go.Lib.bitLen_half n (by omega) (by omega)
  by_cases h1 : n = 1
  ·subst h1; decide +kernel
  ·obtain ⟨i1,i2⟩:=ih (n / 2) (by omega) (by omega) (by unfold Sm; omega)
   rw [h,Nat.pow_add,Nat.pow_one]
   omega
theorem u64N {n : Nat} (h : n < 18446744073709551616) : IntKind.u64.wrap (n : Int) = (n : Int):=by
 have e : IntKind.u64.wrap (n : Int) = (n : Int) % 18446744073709551616:=by simp [IntKind.wrap,IntKind.bits,IntKind.signed]
 rw [e]; omega
theorem qyi9 {n : Nat} (hn : 0 < n) (hs : Sm n) : qdx9 (n : Int) = some ((2 ^ Go.Lib.bitLen n : Nat) : Int):=by
 have hb:=qlV9 hn hs
 have hle : Go.Lib.bitLen n≤31:=by
  rcases Nat.lt_or_ge 31 (Go.Lib.bitLen n) with h | h
  ·have : 2 ^ 32≤2 ^ Go.Lib.bitLen n:=Nat.pow_le_pow_right (by omega) (by omega)
   unfold Sm at hs; omega
  ·exact h
 simp only [qdx9]
 rw [u64N (by omega)]
 unfold qfA9
 rw [if_pos (by omega)]
 simp only [Option.bind_some,Int.toNat_natCast]
 unfold shlV
 rw [if_pos (by omega)]
 have e : min ((Go.Lib.bitLen n : Nat) : Int).toNat IntKind.u64.bits = Go.Lib.bitLen n:=by
  simp only [Int.toNat_natCast]
  exact Nat.min_eq_left (by show _≤64; omega)
 rw [e,Int.one_mul]
 have e2 : ((2 : Int) ^ Go.Lib.bitLen n) = ((2 ^ Go.Lib.bitLen n : Nat) : Int):=by push_cast; rfl
 rw [e2]
 simp only [Option.bind_some]
 rw [u64N (by omega)]
theorem qwI9 (x : Int) : ∃ r,qdB9 x = some (r,r):=by
 simp only [qdB9,shlV,shrV]
 simp only [if_pos (show (0 : Int)≤13 by decide),if_pos (show (0 : Int)≤7 by decide),if_pos (show (0 : Int)≤17 by decide),Option.bind_some]
 exact ⟨_,rfl⟩
theorem qzg9 (x : Int) {m : Nat} (hm : 0 < m) (hs : m < 9223372036854775808) : ∃ v : Nat,w64 (andV .u64 x (IntKind.u64.wrap ((m : Int) - 1))) = (v : Int)∧v < m:=by
 have e1 : (m : Int) - 1 = ((m - 1 : Nat) : Int):=by omega
 rw [e1,u64N (by omega)]
 have hb : (BitVec.ofInt 64 ((m - 1 : Nat) : Int)).toNat = m - 1:=by
  rw [BitVec.toNat_ofInt]; omega
 have hv : (BitVec.ofInt 64 x &&& BitVec.ofInt 64 ((m - 1 : Nat) : Int)).toNat≤m - 1:=by
  rw [BitVec.toNat_and,hb]; exact Nat.and_le_right
 refine ⟨(BitVec.ofInt 64 x &&& BitVec.ofInt 64 ((m - 1 : Nat) : Int)).toNat,?_,by omega⟩
 have e2 : andV .u64 x ((m - 1 : Nat) : Int) = (((BitVec.ofInt 64 x &&& BitVec.ofInt 64 ((m - 1 : Nat) : Int)).toNat : Nat) : Int):=by
  show IntKind.u64.wrap (((BitVec.ofInt 64 x &&& BitVec.ofInt 64 ((m - 1 : Nat) : Int)).toNat : Nat) : Int) = _
  exact u64N (by omega)
 rw [e2]
 unfold w64
 rw [IntKind.wrap_i64]; omega
theorem quB9 {a b M : Nat} (hab : a + 12 < b) (hM1 : b - a≤M) (hM2 : M≤2 * (b - a)) : ∀ (n i : Nat) (d : Array MG) (x : Int),a + (b - a) / 4 * 2 + 2 - i≤n→a≤i→b≤d.size→Sm d.size→i≤a + (b - a) / 4 * 2 + 2→∃ y z R,wh (qm9 (a : Int) (b : Int) ((b - a : Nat) : Int) (M : Int)) ((i : Int),(lst d),x) = some (y,(lst R),z)∧PermIn a b d R:=by
 have hq:=quoN (n:=b - a) (k:=4) (by omega)
 rw [show ((4 : Nat) : Int) = 4 from rfl] at hq
 intro n
 induction n with
 | zero =>
  intro i d x hn hi hb hs hie
  refine ⟨_,_,d,qi9 (r:=((i : Int),(lst d),x)) ?_,permIn_refl _ _ _⟩
  unfold Sm at hs
  simp only [qm9]
  rw [hq (by omega)]
  simp only [Option.bind_some]
  rw [wN (x:=(((b - a) / 4 : Nat) : Int) * 2) (n:=(b - a) / 4 * 2) (by omega) (by omega),wN (x:=(a : Int) + (((b - a) / 4 * 2 : Nat) : Int)) (n:=a + (b - a) / 4 * 2) (by omega) (by omega),wN (x:=((a + (b - a) / 4 * 2 : Nat) : Int) + 1) (n:=a + (b - a) / 4 * 2 + 1) (by omega) (by omega),if_neg (by omega)]
 | succ n ih =>
  intro i d x hn hi hb hs hie
  by_cases hlt : i≤a + (b - a) / 4 * 2 + 1
  ·obtain ⟨r,hr⟩:=qwI9 x
   obtain ⟨v,hv,hvm⟩:=qzg9 r (m:=M) (by omega) (by unfold Sm at hs; omega)
   have bi : i < d.size:=by omega
   have go : ∀ k : Nat,a≤k→k < b→qm9 (a : Int) (b : Int) ((b - a : Nat) : Int) (M : Int) ((i : Int),(lst d),x) = some (.inl (((i + 1 : Nat) : Int),(lst (swp d i k)),r)) →
     ∃ y z R,wh (qm9 (a : Int) (b : Int) ((b - a : Nat) : Int) (M : Int)) ((i : Int),(lst d),x) = some (y,(lst R),z)∧PermIn a b d R:=by
    intro k h1 h2 hstep
    rw [qE9 hstep]
    obtain ⟨y,z,R,e,hp⟩:=ih (i + 1) (swp d i k) r (by omega) (by omega) (by rw [qbK9]; exact hb) (by rw [qbK9]; exact hs) (by omega)
    exact ⟨y,z,R,e,permIn_trans _ _ _ a b (swp_permIn d a b i k hi (by omega) h1 h2 hb) hp⟩
   unfold Sm at hs
   by_cases hge : b - a≤v
   ·refine go (a + (v - (b - a))) (by omega) (by omega) ?_
    have bk : a + (v - (b - a)) < d.size:=by omega
    simp only [qm9]
    rw [hq (by omega)]
    simp only [Option.bind_some]
    rw [wN (x:=(((b - a) / 4 : Nat) : Int) * 2) (n:=(b - a) / 4 * 2) (by omega) (by omega),wN (x:=(a : Int) + (((b - a) / 4 * 2 : Nat) : Int)) (n:=a + (b - a) / 4 * 2) (by omega) (by omega),wN (x:=((a + (b - a) / 4 * 2 : Nat) : Int) + 1) (n:=a + (b - a) / 4 * 2 + 1) (by omega) (by omega),if_pos (by omega),hr]
    simp only [Option.bind_some,hv]
    rw [if_pos (by omega),wN (x:=(v : Int) - ((b - a : Nat) : Int)) (n:=v - (b - a)) (by omega) (by omega),wN (x:=(a : Int) + ((v - (b - a) : Nat) : Int)) (n:=a + (v - (b - a))) (by omega) (by omega),wN (x:=(i : Int) + 1) (n:=i + 1) (by omega) (by omega),idxA bk,idxA bi]
    simp only [Option.bind_some]
    rw [swpB bi bk (k:=fun l=>some (Sum.inl (((i + 1 : Nat) : Int),l,r)))]
   ·refine go (a + v) (by omega) (by omega) ?_
    have bk : a + v < d.size:=by omega
    simp only [qm9]
    rw [hq (by omega)]
    simp only [Option.bind_some]
    rw [wN (x:=(((b - a) / 4 : Nat) : Int) * 2) (n:=(b - a) / 4 * 2) (by omega) (by omega),wN (x:=(a : Int) + (((b - a) / 4 * 2 : Nat) : Int)) (n:=a + (b - a) / 4 * 2) (by omega) (by omega),wN (x:=((a + (b - a) / 4 * 2 : Nat) : Int) + 1) (n:=a + (b - a) / 4 * 2 + 1) (by omega) (by omega),if_pos (by omega),hr]
    simp only [Option.bind_some,hv]
    rw [if_neg (by omega),wN (x:=(a : Int) + (v : Int)) (n:=a + v) (by omega) (by omega),wN (x:=(i : Int) + 1) (n:=i + 1) (by omega) (by omega),idxA bk,idxA bi]
    simp only [Option.bind_some]
    rw [swpB bi bk (k:=fun l=>some (Sum.inl (((i + 1 : Nat) : Int),l,r)))]
  ·refine ⟨_,_,d,qi9 (r:=((i : Int),(lst d),x)) ?_,permIn_refl _ _ _⟩
   unfold Sm at hs
   simp only [qm9]
   rw [hq (by omega)]
   simp only [Option.bind_some]
   rw [wN (x:=(((b - a) / 4 : Nat) : Int) * 2) (n:=(b - a) / 4 * 2) (by omega) (by omega),wN (x:=(a : Int) + (((b - a) / 4 * 2 : Nat) : Int)) (n:=a + (b - a) / 4 * 2) (by omega) (by omega),wN (x:=((a + (b - a) / 4 * 2 : Nat) : Int) + 1) (n:=a + (b - a) / 4 * 2 + 1) (by omega) (by omega),if_neg (by omega)]
theorem qkQ9 {a b : Nat} {d : Array MG} (hab : a + 12 < b) (hb : b≤d.size) (hs : Sm d.size) : ∃ R : Array MG,qU9 (a : Int) (b : Int) (lst d) = some (lst R)∧PermIn a b d R:=by
 have hbl:=qlV9 (n:=b - a) (by omega) (by unfold Sm at hs ⊢; omega)
 have hs':=hs
 unfold Sm at hs'
 simp only [qU9]
 rw [wN (x:=(b : Int) - (a : Int)) (n:=b - a) (by omega) (by omega),if_pos (by omega),qyi9 (by omega) (by unfold Sm; omega)]
 have hq:=quoN (n:=b - a) (k:=4) (by omega) (by omega)
 rw [show ((4 : Nat) : Int) = 4 from rfl] at hq
 rw [hq]
 simp only [Option.bind_some]
 rw [wN (x:=(((b - a) / 4 : Nat) : Int) * 2) (n:=(b - a) / 4 * 2) (by omega) (by omega),wN (x:=(a : Int) + (((b - a) / 4 * 2 : Nat) : Int)) (n:=a + (b - a) / 4 * 2) (by omega) (by omega),wN (x:=((a + (b - a) / 4 * 2 : Nat) : Int) - 1) (n:=a + (b - a) / 4 * 2 - 1) (by omega) (by omega)]
 obtain ⟨y,z,R,e,hp⟩:=quB9 (M:=2 ^ Go.Lib.bitLen (b - a)) hab (by omega) (by omega) _ (a + (b - a) / 4 * 2 - 1) d (IntKind.u64.wrap ((b - a : Nat) : Int)) (Nat.le_refl _) (by omega) hb hs (by omega)
 rw [e]
 exact ⟨R,rfl,hp⟩
def Spec (lt : MG→MG→Bool) (rec : Int × Int × Int × List Mono→Option (List Mono)) (m : Nat) : Prop:=∀ (a b : Nat) (lim : Int) (d : Array MG),a≤b→b≤d.size→Sm d.size→Below lt a b d →
 (rec ((a : Int),(b : Int),lim,(lst d)) = none∧m≤b - a)∨∃ R : Array MG,rec ((a : Int),(b : Int),lim,(lst d)) = some (lst R)∧PermIn a b d R∧SortedIn lt a b R
abbrev PSt:=Int × Int × Int × Bool × Bool × List Mono
noncomputable def partP (rec : Int × Int × Int × List Mono→Option (List Mono)) (s1 s2 lim : Int) (pv : Int) (o : List Mono) : Option (PSt ⊕ List Mono) :=
 (qe9 s1 s2 pv o).bind fun x13 =>
 (quoV .i64 (w64 (s2 - s1)) 8).bind fun x15 =>
 if (w64 (x13.1 - s1)) < (w64 (s2 - x13.1)) then
  (rec (s1,x13.1,lim,x13.2.2)).bind fun x16 =>
  some (.inl (w64 (x13.1 + 1),s2,lim,decide (x15≤(w64 (x13.1 - s1))),x13.2.1,x16))
 else
 (rec (w64 (x13.1 + 1),s2,lim,x13.2.2)).bind fun x18 =>
 some (.inl (s1,x13.1,lim,decide (x15≤(w64 (s2 - x13.1))),x13.2.1,x18))
noncomputable def tailP (rec : Int × Int × Int × List Mono→Option (List Mono)) (s1 s2 lim : Int) (wb wp : Bool) (pv : Int) (o : List Mono) : Option (PSt ⊕ List Mono) :=
 if 0 < s1 then
  (idx o (w64 (s1 - 1))).bind fun x10 =>
  (idx o pv).bind fun x11 =>
  (qt9 x10 x11).bind fun x12 =>
  if x12 < 0 then partP rec s1 s2 lim pv o
  else
  (qh9 s1 s2 pv o).bind fun x20 =>
  some (.inl (x20.1,s2,lim,wb,wp,x20.2))
 else partP rec s1 s2 lim pv o
def Goes (lt : MG→MG→Bool) (m a b : Nat) (d : Array MG) (r : Option (PSt ⊕ List Mono)) : Prop :=
 (r = none∧m + 1≤b - a)∨∃ (a' b' : Nat) (lim : Int) (wb wp : Bool) (d' : Array MG),r = some (.inl ((a' : Int),(b' : Int),lim,wb,wp,(lst d')))∧a'≤b'∧b'≤b∧b' - a' < b - a∧d'.size = d.size∧Below lt a' b' d' ∧
  ∀ R,PermIn a' b' d' R→SortedIn lt a' b' R→PermIn a b d R∧SortedIn lt a b R
include hcmp in
theorem qmO9 (hw : SWO lt) {rec : Int × Int × Int × List Mono→Option (List Mono)} {m : Nat} (hrec : Spec lt rec m) {a b pv : Nat} {d : Array MG} (lim : Int) (hab : a + 12 < b) (hb : b≤d.size) (hs : Sm d.size) (hB : Below lt a b d) (h1 : a≤pv) (h2 : pv < b) :
  Goes lt m a b d (partP rec (a : Int) (b : Int) lim (pv : Int) (lst d)):=by
 unfold partP
 rw [qqc9 hcmp h1 h2 hb hs (by omega)]
 rcases hx : Go.Sort.partition lt d a b pv with ⟨mid,ap,d4⟩
 obtain ⟨g1,g2,hs4,hBa,hBr,hleft,hright⟩:=round_part hw (partition_holds lt) h1 h2 hb hB hx
 have hq:=quoN (n:=b - a) (k:=8) (by omega) (by unfold Sm at hs; omega)
 rw [show ((8 : Nat) : Int) = 8 from rfl] at hq
 unfold Sm at hs
 simp only [Option.bind_some]
 rw [wN (x:=(b : Int) - (a : Int)) (n:=b - a) (by omega) (by omega),hq,wN (x:=(mid : Int) - (a : Int)) (n:=mid - a) (by omega) (by omega),wN (x:=(b : Int) - (mid : Int)) (n:=b - mid) (by omega) (by omega),wN (x:=(mid : Int) + 1) (n:=mid + 1) (by omega) (by omega)]
 simp only [Option.bind_some]
 by_cases hc : mid - a < b - mid
 ·rw [if_pos (by omega)]
  rcases hrec a mid lim d4 g1 (by omega) (by unfold Sm; omega) hBa with ⟨e,hm⟩ | ⟨L,e,p1,p2⟩
  ·rw [e]; exact .inl ⟨rfl,by omega⟩
  ·rw [e]
   obtain ⟨q1,q2⟩:=hleft L p1 p2
   exact .inr ⟨mid + 1,b,lim,_,ap,L,rfl,by omega,by omega,by omega,by rw [p1.1,hs4],q1,q2⟩
 ·rw [if_neg (by omega)]
  rcases hrec (mid + 1) b lim d4 (by omega) (by omega) (by unfold Sm; omega) hBr with ⟨e,hm⟩ | ⟨L,e,p1,p2⟩
  ·rw [e]; exact .inl ⟨rfl,by omega⟩
  ·rw [e]
   obtain ⟨q1,q2⟩:=hright L p1 p2
   exact .inr ⟨a,mid,lim,_,ap,L,rfl,by omega,by omega,by omega,by rw [p1.1,hs4],q1,q2⟩
include hcmp in
theorem qtF9 (hw : SWO lt) {rec : Int × Int × Int × List Mono→Option (List Mono)} {m : Nat} (hrec : Spec lt rec m) {a b pv : Nat} {d : Array MG} (lim : Int) (wb wp : Bool) (hab : a + 12 < b) (hb : b≤d.size) (hs : Sm d.size) (hB : Below lt a b d) (h1 : a≤pv) (h2 : pv < b) :
  Goes lt m a b d (tailP rec (a : Int) (b : Int) lim wb wp (pv : Int) (lst d)):=by
 unfold tailP
 by_cases h0 : 0 < a
 ·rw [if_pos (by omega),wN (x:=(a : Int) - 1) (n:=a - 1) (by omega) (by unfold Sm at hs; omega),idxA (show a - 1 < d.size by omega),idxA (show pv < d.size by omega)]
  simp only [Option.bind_some,cmpIf hcmp]
  by_cases hc : lt d[a - 1]! d[pv]! = true
  ·rw [if_pos hc]
   exact qmO9 hcmp hw hrec lim hab hb hs hB h1 h2
  ·rw [if_neg hc,qlm9 hcmp h1 h2 hb hs (by omega)]
   rcases hx : Go.Sort.partitionEqual lt d a b pv with ⟨mid,d4⟩
   obtain ⟨g1,g2,hs4,hB4,hfin⟩:=round_eq hw (partitionEqual_holds lt) h0 h1 h2 hb hB (by simpa using hc) hx
   exact .inr ⟨mid,b,lim,wb,wp,d4,rfl,g2,by omega,by omega,hs4,hB4,hfin⟩
 ·rw [if_neg (by omega)]
  exact qmO9 hcmp hw hrec lim hab hb hs hB h1 h2
include hcmp in
theorem qnu9 (hw : SWO lt) {rec : Int × Int × Int × List Mono→Option (List Mono)} {a b : Nat} {d : Array MG} (lim : Int) (wb wp : Bool) (hab : a≤b) (hb : b≤d.size) (hs : Sm d.size) (hB : Below lt a b d) :
  (∃ R : Array MG,qd9 rec ((a : Int),(b : Int),lim,wb,wp,(lst d)) = some (.inr (lst R))∧PermIn a b d R∧SortedIn lt a b R) ∨
  (a + 12 < b∧∃ (d3 : Array MG) (pv : Nat) (lim' : Int),PermIn a b d d3∧a≤pv∧pv < b∧qd9 rec ((a : Int),(b : Int),lim,wb,wp,(lst d)) = tailP rec (a : Int) (b : Int) lim' wb wp (pv : Int) (lst d3)):=by
 have hs':=hs
 unfold Sm at hs'
 have e0 : w64 ((b : Int) - (a : Int)) = ((b - a : Nat) : Int):=wN (by omega) (by omega)
 by_cases h12 : b - a≤12
 ·refine .inl ⟨insertionSort lt d a b,?_,insertionSort_holds hw d a b hab hb⟩
  simp only [qd9,e0]
  rw [if_pos (by omega),qlN9 hcmp hb hab hs]; rfl
 by_cases hl : lim = 0
 ·refine .inl ⟨heapSort lt d a b,?_,heapSort_holds hw d a b hab hb⟩
  simp only [qd9,e0]
  rw [if_neg (by omega),if_pos hl,qsc9 hcmp hb (by omega) hs]; rfl
 have hpos : a + 12 < b:=by omega
 -- where no more is done ahead of the partition
 have pvE : ∀ p : Nat,a≤p→p < b→w64 (w64 ((b : Int) - 1) - w64 ((p : Int) - (a : Int))) = (((b - 1) - (p - a) : Nat) : Int):=by
  intro p h1 h2
  rw [wN (x:=(b : Int) - 1) (n:=b - 1) (by omega) (by omega),wN (x:=(p : Int) - (a : Int)) (n:=p - a) (by omega) (by omega)]
  exact wN (by omega) (by omega)
 have part : ∀ (e : Array MG),PermIn a b d e→qu9 (a : Int) (b : Int) (lst e) = some ((partialInsertionSort lt e a b).2,(lst (partialInsertionSort lt e a b).1))∧PermIn a b d (partialInsertionSort lt e a b).1∧((partialInsertionSort lt e a b).2 = true→SortedIn lt a b (partialInsertionSort lt e a b).1):=by
  intro e hp
  have he : e.size = d.size:=hp.1
  have h:=partialInsertionSort_holds hw e a b (by omega) (by rw [he]; exact hb) (hB.perm hb hp)
  exact ⟨qjo9 hcmp (by omega) (by rw [he]; exact hb) (by rw [he]; exact hs),permIn_trans _ _ _ a b hp h.1,h.2⟩
 have rev : ∀ (e : Array MG),PermIn a b d e→qA9 (a : Int) (b : Int) (lst e) = some (lst (reverseRange e a b))∧PermIn a b d (reverseRange e a b):=by
  intro e hp
  have he : e.size = d.size:=hp.1
  exact ⟨qmA9 (by rw [he]; exact hb) (by omega) (by rw [he]; exact hs),permIn_trans _ _ _ a b hp (reverseRange_holds e a b hab (by rw [he]; exact hb))⟩
 cases wb with
 | true =>
  obtain ⟨p,h,hc,hp1,hp2⟩:=qjz9 hcmp hpos hb hs
  by_cases h2 : h = 2
  ·subst h2
   obtain ⟨r1,r2⟩:=rev d (permIn_refl _ _ _)
   cases wp with
   | true =>
    obtain ⟨i1,i2,i3⟩:=part _ r2
    by_cases hdone : (partialInsertionSort lt (reverseRange d a b) a b).2 = true
    ·refine .inl ⟨_,?_,i2,i3 hdone⟩
     simp only [qd9,e0]
     rw [if_neg (by omega),if_neg hl,if_pos trivial,hc]
     simp only [Option.bind_some,if_true,r1,i1,hdone]
    ·refine .inr ⟨hpos,(partialInsertionSort lt (reverseRange d a b) a b).1,(b - 1) - (p - a),lim,i2,by omega,by omega,?_⟩
     simp only [qd9,e0]
     rw [if_neg (by omega),if_neg hl,if_pos trivial,hc]
     simp only [Option.bind_some,if_true,r1,i1,hdone,if_false,pvE p hp1 hp2,Bool.false_eq_true]
     simp only [tailP,partP,e0]
   | false =>
    refine .inr ⟨hpos,reverseRange d a b,(b - 1) - (p - a),lim,r2,by omega,by omega,?_⟩
    simp only [qd9,e0]
    rw [if_neg (by omega),if_neg hl,if_pos trivial,hc]
    simp only [Option.bind_some,if_true,r1,if_false,pvE p hp1 hp2,Bool.false_eq_true]
    simp only [tailP,partP,e0]
  ·cases wp with
   | true =>
    by_cases h1 : h = 1
    ·subst h1
     obtain ⟨i1,i2,i3⟩:=part d (permIn_refl _ _ _)
     by_cases hdone : (partialInsertionSort lt d a b).2 = true
     ·refine .inl ⟨_,?_,i2,i3 hdone⟩
      simp only [qd9,e0]
      rw [if_neg (by omega),if_neg hl,if_pos trivial,hc]
      simp only [Option.bind_some,if_true,if_neg h2,i1,hdone]
     ·refine .inr ⟨hpos,(partialInsertionSort lt d a b).1,p,lim,i2,hp1,hp2,?_⟩
      simp only [qd9,e0]
      rw [if_neg (by omega),if_neg hl,if_pos trivial,hc]
      simp only [Option.bind_some,if_true,if_neg h2,i1,hdone,if_false,Bool.false_eq_true]
      simp only [tailP,partP,e0]
    ·refine .inr ⟨hpos,d,p,lim,permIn_refl _ _ _,hp1,hp2,?_⟩
     simp only [qd9,e0]
     rw [if_neg (by omega),if_neg hl,if_pos trivial,hc]
     simp only [Option.bind_some,if_true,if_neg h2,if_neg h1]
     simp only [tailP,partP,e0]
   | false =>
    refine .inr ⟨hpos,d,p,lim,permIn_refl _ _ _,hp1,hp2,?_⟩
    simp only [qd9,e0]
    rw [if_neg (by omega),if_neg hl,if_pos trivial,hc]
    simp only [Option.bind_some,if_neg h2,Bool.false_eq_true,if_false]
    simp only [tailP,partP,e0]
 | false =>
  obtain ⟨E,b1,b2⟩:=qkQ9 (d:=d) hpos hb hs
  have hE : E.size = d.size:=b2.1
  obtain ⟨p,h,hc,hp1,hp2⟩:=qjz9 hcmp hpos (d:=E) (by rw [hE]; exact hb) (by rw [hE]; exact hs)
  by_cases h2 : h = 2
  ·subst h2
   obtain ⟨r1,r2⟩:=rev E b2
   refine .inr ⟨hpos,reverseRange E a b,(b - 1) - (p - a),w64 (lim - 1),r2,by omega,by omega,?_⟩
   simp only [qd9,e0]
   rw [if_neg (by omega),if_neg hl,if_neg (by simp),b1]
   simp only [Option.bind_some]
   rw [hc]
   simp only [Option.bind_some,if_true,r1,pvE p hp1 hp2]
   simp only [tailP,partP,e0]
  ·refine .inr ⟨hpos,E,p,w64 (lim - 1),b2,hp1,hp2,?_⟩
   simp only [qd9,e0]
   rw [if_neg (by omega),if_neg hl,if_neg (by simp),b1]
   simp only [Option.bind_some]
   rw [hc]
   simp only [Option.bind_some,if_neg h2]
   simp only [tailP,partP,e0]
include hcmp in
theorem qxN9 (hw : SWO lt) {rec : Int × Int × Int × List Mono→Option (List Mono)} {m : Nat} (hrec : Spec lt rec m) : ∀ (n a b : Nat) (lim : Int) (wb wp : Bool) (d : Array MG),b - a≤n→a≤b→b≤d.size→Sm d.size→Below lt a b d →
  (wh (qd9 rec) ((a : Int),(b : Int),lim,wb,wp,(lst d)) = none∧m + 1≤b - a)∨∃ R : Array MG,wh (qd9 rec) ((a : Int),(b : Int),lim,wb,wp,(lst d)) = some (lst R)∧PermIn a b d R∧SortedIn lt a b R:=by
 intro n
 induction n with
 | zero =>
  intro a b lim wb wp d hn hab hb hs hB
  rcases qnu9 hcmp hw (rec:=rec) lim wb wp hab hb hs hB with ⟨R,e,p1,p2⟩ | ⟨h12,_⟩
  ·exact .inr ⟨R,qi9 e,p1,p2⟩
  ·omega
 | succ n ih =>
  intro a b lim wb wp d hn hab hb hs hB
  rcases qnu9 hcmp hw (rec:=rec) lim wb wp hab hb hs hB with ⟨R,e,p1,p2⟩ | ⟨h12,d3,pv,lim',hp,h1,h2,e⟩
  ·exact .inr ⟨R,qi9 e,p1,p2⟩
  have hz : d3.size = d.size:=hp.1
  rcases qtF9 hcmp hw hrec lim' wb wp h12 (d:=d3) (by rw [hz]; exact hb) (by rw [hz]; exact hs) (hB.perm hb hp) h1 h2 with ⟨e2,hm⟩ | ⟨a',b',l',wb',wp',d',e2,q1,q2,q3,q4,q5,q6⟩
  ·exact .inl ⟨by rw [wh_eq,e,e2],hm⟩
  ·rw [e2] at e
   rw [qE9 e]
   rcases ih a' b' l' wb' wp' d' (by omega) q1 (by rw [q4,hz]; omega) (by rw [q4,hz]; exact hs) q5 with ⟨e3,hm⟩ | ⟨R,e3,r1,r2⟩
   ·exact .inl ⟨e3,by omega⟩
   ·obtain ⟨t1,t2⟩:=q6 R r1 r2
    exact .inr ⟨R,e3,permIn_trans _ _ _ a b hp t1,t2⟩
include hcmp in
theorem qwy9 (hw : SWO lt) : ∀ m : Nat,Spec lt (fixN (fun rec (p : Int × Int × Int × List Mono)=>qy9 rec p.1 p.2.1 p.2.2.1 p.2.2.2) m) m:=by
 intro m
 induction m with
 | zero=>intro a b lim d _ _ _ _; exact .inl ⟨rfl,Nat.zero_le _⟩
 | succ m ih =>
  intro a b lim d hab hb hs hB
  have e1 : fixN (fun rec (p : Int × Int × Int × List Mono)=>qy9 rec p.1 p.2.1 p.2.2.1 p.2.2.2) (m + 1) ((a : Int),(b : Int),lim,(lst d)) = (wh (qd9 (fixN (fun rec (p : Int × Int × Int × List Mono)=>qy9 rec p.1 p.2.1 p.2.2.1 p.2.2.2) m)) ((a : Int),(b : Int),lim,true,true,(lst d))).bind fun x=>some x:=rfl
  rw [e1]
  rcases qxN9 hcmp hw ih (b - a) a b lim true true d (Nat.le_refl _) hab hb hs hB with ⟨e,hm⟩ | ⟨R,e,p1,p2⟩
  ·rw [e]; exact .inl ⟨rfl,hm⟩
  ·rw [e]; exact .inr ⟨R,rfl,p1,p2⟩
include hcmp in
theorem qry9 (hw : SWO lt) {l : List MG} {r : List Mono} (hl : Sm l.length) (hu : ∀ R : Array MG,PermIn 0 l.length l.toArray R→SortedIn lt 0 l.length R→(lst R) = r) : qbb9 (l.map (·.1)) = some r:=by
 have hbits : ∃ x,qfA9 (IntKind.u64.wrap (l.length : Int)) = some x:=by
  unfold Sm at hl
  rw [u64N (by omega)]
  unfold qfA9
  rw [if_pos (by omega)]
  exact ⟨_,rfl⟩
 obtain ⟨x,hx⟩:=hbits
 have hd : l.toArray.size = l.length:=by simp
 have hlst : lst l.toArray = l.map (·.1):=by simp [lst]
 have key : ∀ m : Nat,(fixN (fun rec (p : Int × Int × Int × List Mono)=>qy9 rec p.1 p.2.1 p.2.2.1 p.2.2.2) m (0,(l.length : Int),x,l.map (·.1)) = none∧m≤l.length)∨fixN (fun rec (p : Int × Int × Int × List Mono)=>qy9 rec p.1 p.2.1 p.2.2.1 p.2.2.2) m (0,(l.length : Int),x,l.map (·.1)) = some r:=by
  intro m
  rcases qwy9 hcmp hw m 0 l.length x l.toArray (by omega) (by omega) (by rw [hd]; exact hl) (.inl rfl) with ⟨e,hm⟩ | ⟨R,e,p1,p2⟩ <;> rw [hlst] at e
  ·exact .inl ⟨e,by omega⟩
  ·rw [hu R p1 p2] at e
   exact .inr e
 have hfix : qbM9 0 (l.length : Int) x (l.map (·.1)) = some r:=by
  unfold qbM9
  refine qyI9 ?_ ?_
  ·rcases key (l.length + 1) with ⟨_,h⟩ | h
   ·omega
   ·exact ⟨_,_,h⟩
  ·intro n r' hn
   rcases key n with ⟨h,_⟩ | h
   ·rw [h] at hn; cases hn
   ·rw [h] at hn; exact (oiA hn).symm
 have hll : ((l.map (·.1)).length : Int) = (l.length : Int):=by rw [List.length_map]
 simp only [hll,qbb9,hx,Option.bind_some,hfix]
end
end Lt.So
namespace Lt.So
open Ld Go Go.Abs Go.Sort
open Classical in
noncomputable abbrev ltM (a b : MG) : Bool:=decide (Law.ltE a.1.Exps b.1.Exps)
theorem qzo9 : SWO ltM where
 irrefl:=fun x=>by simp [ltM,Law.ltE_irrefl]
 trans:=fun x y z h1 h2=>by
  simp only [ltM,decide_eq_true_eq] at *
  exact Law.ltE_trans h1 h2
 ntrans:=fun x y z h1 h2=>by
  simp only [ltM,decide_eq_false_iff_not] at *
  intro h
  rcases Law.ltE_tri x.2.1 y.2.1 with c | c | c
  ·exact h1 c
  ·rw [c] at h; exact h2 h
  ·exact h2 (Law.ltE_trans c h)
theorem qxR9 (a b : MG) : ∃ n,qt9 a.1 b.1 = some n∧(n < 0↔ltM a b = true):=by
 have i64 : ∀ (m : MG),∀ n∈m.1.Exps,Law.I64 n:=fun m n hn=>by
  have h1:=m.2.1.1 n hn
  have h2:=m.2.2.2 n hn
  exact ⟨by omega,by omega⟩
 obtain ⟨o,h1,h2,_⟩:=Law.order_eq a.2.1 b.2.1 a.2.2.1 b.2.2.1 (i64 a) (i64 b)
 have e : qdv9 a.1.Exps b.1.Exps = some o:=h1
 refine ⟨o,?_,by rw [h2]; simp [ltM]⟩
 unfold qt9
 rw [e]
 simp
theorem rise_unique : ∀ {a b : List Mono},a.Perm b→(a.Pairwise fun x y=>Law.ltE x.Exps y.Exps)→(b.Pairwise fun x y=>Law.ltE x.Exps y.Exps)→a = b:=by
 intro a b hp ha hb
 refine List.Perm.eq_of_pairwise (le:=fun x y : Mono=>Law.ltE x.Exps y.Exps) (fun x y _ _ h1 h2=>absurd (Law.ltE_trans h1 h2) (Law.ltE_irrefl _)) ha hb hp
theorem told_sort {M : List Mono} (h : BagOK M) : qbb9 M = some (qdr9 M):=by
 obtain ⟨l,rfl⟩ : ∃ l : List MG,M = l.map (·.1):=by
  refine ⟨M.attach.map fun x=>⟨x.1,(h.2.1 x.1 x.2).2.1,(h.2.1 x.1 x.2).1.2,(h.2.1 x.1 x.2).2.2⟩,?_⟩
  rw [List.map_map]
  conv=>lhs; rw [← List.attach_map_subtype_val M]
  rfl
 refine qry9 qxR9 qzo9 (by have:=h.1; rw [List.length_map] at this; show _ < _; omega) (fun R hp hs=>?_)
 have hsz : R.size = l.length:=by have:=hp.1; simpa using this
 have hperm : R.toList.Perm l:=by
  have:=hp.2.2
  have e1 : R.extract 0 l.length = R:=by rw [← hsz]; exact Array.extract_size
  have e2 : l.toArray.extract 0 l.length = l.toArray:=by
   have h : l.length = l.toArray.size:=by simp
   rw [h]; exact Array.extract_size
  rw [e1,e2] at this
  simpa using this
 have hp1 : (lst R).Perm (l.map (·.1)):=hperm.map _
 have hnd:=h.2.2
 refine rise_unique (hp1.trans (Law.sortMo_perm _).symm) ?_ (Law.sortMo_rise (fun x hx=>(h.2.1 x hx).2.1) hnd)
 have hnR : ((lst R).map (·.Exps)).Nodup:=(hp1.map (·.Exps)).nodup_iff.2 hnd
 refine List.pairwise_iff_getElem.2 fun i j hi hj hij=>?_
 have hi' : i < R.size:=by simpa [lst] using hi
 have hj' : j < R.size:=by simpa [lst] using hj
 have h1:=hs i j (Nat.zero_le _) hij (by simpa [hsz] using hj')
 have hne : (lst R)[i].Exps ≠ (lst R)[j].Exps:=by
  intro e
  have:=(List.pairwise_iff_getElem.1 hnR) i j (by simpa using hi) (by simpa using hj) hij
  apply this
  rw [List.getElem_map,List.getElem_map]
  exact e
 have e1 : (lst R)[i] = R[i]!.1:=by simp [lst,hi']
 have e2 : (lst R)[j] = R[j]!.1:=by simp [lst,hj']
 simp only [ltM,decide_eq_false_iff_not] at h1
 rw [e1,e2] at hne ⊢
 rcases Law.ltE_tri R[i]!.2.1 R[j]!.2.1 with c | c | c
 ·exact c
 ·exact absurd c hne
 ·exact absurd c h1
end Lt.So

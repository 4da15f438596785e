import Derived.Test.YtmkohpkfeamjiaaN3
import Derived.Test.YtmkohpkfeamjiaaPMP
set_option maxHeartbeats 400000
set_option linter.unusedVariables false
set_option linter.unusedSimpArgs false
set_option linter.unusedSectionVars false
namespace Ld.Law
open Go Go.Abs
def powE : (Nat→Nat)→Ex→Nat
 | _,[]=>1
 | v,n::e=>v 0 ^ n.toNat * powE (fun i=>v (i + 1)) e
def valP (v : Nat→Nat) (p : List (Nat × Ex)) : Nat:=W p (powE v)
noncomputable def powP (q : List (Nat × Ex)) : Nat→List (Nat × Ex)→List (Nat × Ex)
 | 0,x=>x
 | n + 1,x=>powP q n (mulP x q)
noncomputable def monP (args : Nat→List (Nat × Ex)) : Nat→Ex→List (Nat × Ex)→List (Nat × Ex)
 | _,[],x=>x
 | k,n::e,x=>monP args (k + 1) e (powP (args k) n.toNat x)
def nought (v : Nat→Bool) (e : Ex) : Bool:=(List.range e.length).any fun i=>decide (0 < exAt e i) && v i
theorem qwY9 : ∀ {e : Ex} {v : Nat→Nat},(∀ i,0 < exAt e i→0 < v i)→0 < powE v e:=by
 intro e
 induction e with
 | nil=>intro v _; exact Nat.one_pos
 | cons n e ih =>
  intro v h
  rw [powE]
  refine Nat.mul_pos ?_ (ih (fun i hi=>h (i + 1) (by simpa [exAt] using hi)))
  by_cases hn : 0 < n
  ·exact Nat.pow_pos (h 0 (by simpa [exAt] using hn))
  ·rw [show n.toNat = 0 by omega]; simp
theorem quC9 : ∀ {e : Ex} {v : Nat→Nat} {i : Nat},0 < exAt e i→v i = 0→powE v e = 0:=by
 intro e
 induction e with
 | nil=>intro v i h; simp [exAt] at h
 | cons n e ih =>
  intro v i h hv
  rw [powE]
  cases i with
  | zero =>
   have hn : 0 < n:=by simpa [exAt] using h
   rw [hv,Nat.zero_pow (by omega),Nat.zero_mul]
  | succ i=>rw [ih (v:=fun i=>v (i + 1)) (i:=i) (by simpa [exAt] using h) hv,Nat.mul_zero]
noncomputable def compP (args : Nat→List (Nat × Ex)) : List (Nat × Ex)→List (Nat × Ex)→List (Nat × Ex)
 | s,[]=>s
 | s,x::p=>compP args (if nought (fun i=>(args i).isEmpty) x.2 = true then s else addP s (monP args 0 x.2 [(x.1,[])])) p
theorem qjk9 {c : Nat} (h : 0 < c) : PolyOK [(c,[])]:=⟨by simp,fun x hx=>by simp at hx; rw [hx]; exact h,fun x hx=>by simp at hx; rw [hx]; exact ⟨by simp,by simp⟩⟩
theorem qpS9 {e : Ex} {i : Nat} (h : 0 < exAt e i) : i < e.length:=by
 apply Classical.byContradiction
 intro hn
 unfold exAt at h
 rw [List.getD_eq_getElem?_getD,List.getElem?_eq_none (by omega)] at h
 simp at h
theorem qgE9 {v : Nat→Bool} {e : Ex} : nought v e = true↔∃ i,0 < exAt e i∧v i = true:=by
 unfold nought
 rw [List.any_eq_true]
 constructor
 ·rintro ⟨i,_,h⟩
  rw [Bool.and_eq_true,decide_eq_true_iff] at h
  exact ⟨i,h⟩
 ·rintro ⟨i,h1,h2⟩
  exact ⟨i,List.mem_range.2 (qpS9 h1),by rw [h2,Bool.and_true]; exact decide_eq_true h1⟩
end Ld.Law
namespace Ld.Law
open Go Go.Abs
theorem wh_up {σ ρ : Type} {step : σ→Option (σ ⊕ ρ)} (S : Nat→σ) {n : Nat} {r : ρ} (h : ∀ i,i < n→step (S i) = some (.inl (S (i + 1)))) (he : step (S n) = some (.inr r)) : ∀ (k i : Nat),i + k = n→wh step (S i) = some r:=by
 intro k
 induction k with
 | zero =>
  intro i hi; obtain rfl : i = n:=by omega
  exact qe9 he
 | succ k ih=>intro i hi; rw [qf9 (h i (by omega))]; exact ih (i + 1) (by omega)
theorem qC9 {n : Int} (h1 : 0≤n) (h2 : n < 18446744073709551616) : IntKind.u64.wrap n = n:=by
 simp only [IntKind.wrap,IntKind.bits,IntKind.signed,Bool.false_and,Bool.false_eq_true,if_false]
 omega
theorem qdO9 {n : Int} (h1 : 0≤n) : IntKind.u32.wrap n = n % 4294967296:=by
 simp only [IntKind.wrap,IntKind.bits,IntKind.signed,Bool.false_and,Bool.false_eq_true,if_false]
 omega
theorem shr32 {n : Int} (h1 : 0≤n) (h2 : n < 18446744073709551616) : shrV .u64 n 32 = some (n / 4294967296):=by
 unfold shrV
 rw [if_pos (by decide)]
 congr 1
 rw [Int.fdiv_eq_ediv_of_nonneg _ (by decide)]
 rfl
def Sm (a : List Int) : Prop:=a.length≤1048576
def RtOK (a : List Int) : Prop:=a.length≤64∧NoZ a
instance (a : List Int) : Decidable (NoZ a):=inferInstanceAs (Decidable (a.getLast? ≠ some 0))
instance (a : List Int) : Decidable (RtOK a):=inferInstanceAs (Decidable (_∧_))
theorem qkI9 {a : List Int} (h : a ≠ []) (hs : Sm a) : ∃ x,idx a (w64 ((a.length : Int) - 1)) = some x∧a.getLast? = some x:=by
 unfold Sm at hs
 have hl:=List.length_pos_iff.2 h
 have hw : w64 ((a.length : Int) - 1) = ((a.length - 1 : Nat) : Int):=by rw [qh9 (by omega) (by omega)]; omega
 have h1 : a[a.length - 1]? = some (a[a.length - 1]'(by omega)):=List.getElem?_eq_getElem _
 exact ⟨_,by rw [hw]; exact qc9 h1,by rw [List.getLast?_eq_getElem?,h1]⟩
theorem qeb9 {a : List Int} (hs : Sm a) : qbU9 a = some (decide (RtOK a)):=by
 unfold qbU9
 by_cases h1 : (a.length : Int)≤64
 ·rw [if_pos h1]
  by_cases h2 : (a.length : Int) = 0
  ·rw [if_pos h2]
   have : a = []:=List.length_eq_zero_iff.1 (by omega)
   subst this
   rfl
  ·rw [if_neg h2]
   obtain ⟨x,e1,e2⟩:=qkI9 (a:=a) (fun h=>h2 (by rw [h]; rfl)) hs
   rw [e1,Option.bind_some]
   congr 1
   by_cases hx : x = 0
   ·have : ¬ RtOK a:=fun h=>h.2 (by rw [e2,hx])
    simp [hx,this]
   ·have : RtOK a:=⟨by omega,fun h=>hx (by rw [e2] at h; exact oiA h)⟩
    simp [hx,this]
 ·rw [if_neg h1]
  congr 1
  rw [decide_eq_false]
  intro h; have:=h.1; omega
theorem quv9 (a : List Int) : (trimL a).length≤a.length:=by
 induction a with
 | nil=>simp [trimL]
 | cons x a ih =>
  unfold trimL
  split
  ·simp
  ·simpa using ih
theorem qss9 (a : List Int) : trimL a = a.take (trimL a).length:=by
 induction a with
 | nil=>simp [trimL]
 | cons x a ih =>
  unfold trimL
  split
  ·simp
  ·simp only [List.length_cons,List.take_succ_cons]; rw [← ih]
theorem qpA9 {a : List Int} {s2 : List Int} (hs : Sm a) : ∀ i : Nat,i≤a.length→wh (qcp9 a s2) (i : Int) = some ((trimL (a.take i)).length : Int):=by
 unfold Sm at hs
 intro i
 induction i with
 | zero=>intro _; exact qe9 (by simp [qcp9,trimL])
 | succ i ih =>
  intro hi
  have hx : a[i]? = some (a[i]'(by omega)):=List.getElem?_eq_getElem _
  have hw : w64 (((i + 1 : Nat) : Int) - 1) = (i : Int):=by rw [qh9 (by omega) (by omega)]; omega
  have ht : a.take (i + 1) = a.take i++[a[i]'(by omega)]:=by rw [List.take_add_one,hx]; rfl
  by_cases h0 : a[i]'(by omega) = 0
  ·rw [qf9 (s':=(i : Int)) (by simp only [qcp9]; rw [if_pos (by omega),hw,qc9 hx,Option.bind_some,if_pos h0]),ih (by omega),ht,qhc9,if_pos h0]
  ·rw [qe9 (r:=((i + 1 : Nat) : Int)) (by simp only [qcp9]; rw [if_pos (by omega),hw,qc9 hx,Option.bind_some,if_neg h0]),ht,qhc9,if_neg h0]
   simp; omega
theorem qmP9 {α : Type} {l : List α} {k : Nat} (h : k≤l.length) : cutL l 0 (k : Int) = some (l.take k):=by
 unfold cutL
 rw [if_pos (by omega)]
 simp
theorem qrU9 {a : List Int} (hs : Sm a) : qfl9 a = some (trimL a):=by
 unfold qfl9
 rw [qpA9 hs _ (Nat.le_refl _),Option.bind_some,List.take_length,qmP9 (quv9 a),Option.bind_some,← qss9]
theorem que9 {a : List Int} (hs : Sm a) (hl : Limbs a) : qfH9 a = some (if natV a < lw ^ 64 then (toL (natV a),0) else ([],2)):=by
 unfold qfH9
 rw [qrU9 hs,Option.bind_some,qqb9 hl]
 by_cases h : natV a < lw ^ 64
 ·rw [if_pos h,if_neg (by have:=qbQ9.2 h; omega)]
 ·rw [if_neg h,if_pos]
  have : ¬ (toL (natV a)).length≤64:=fun e=>h (qbQ9.1 e)
  omega
theorem qfx9 : ∀ {a : List Int} {i : Nat} {x v : Int},a[i]? = some x→0≤x→0≤v→natV (a.set i v) + lw ^ i * x.toNat = natV a + lw ^ i * v.toNat:=by
 intro a
 induction a with
 | nil=>intro i x v h; simp at h
 | cons y a ih =>
  intro i x v h hx hv
  cases i with
  | zero =>
   simp at h
   subst h
   simp only [List.set_cons_zero,natV,Nat.pow_zero,Nat.one_mul]
   omega
  | succ i =>
   have:=ih (i:=i) (by simpa using h) hx hv
   simp only [List.set_cons_succ,natV]
   have e : ∀ z : Nat,lw ^ (i + 1) * z = lw * (lw ^ i * z):=fun z=>by rw [Nat.pow_succ,Nat.mul_comm (lw ^ i),Nat.mul_assoc]
   rw [e,e]
   have h2:=congrArg (fun z=>lw * z) this
   simp only [Nat.mul_add] at h2
   omega
theorem qeW9 {a : List Int} {i : Nat} {v : Int} (h : Limbs a) (hv : 0≤v∧v < 4294967296) : Limbs (a.set i v):=by
 intro x hx
 rcases List.mem_or_eq_of_mem_set hx with h1 | rfl
 ·exact h x h1
 ·exact hv
theorem qhJ9 (n : Nat) : Limbs (List.replicate n 0):=by
 intro x hx
 have:=(List.mem_replicate.1 hx).2
 omega
theorem qiu9 (n : Nat) : natV (List.replicate n 0) = 0:=by
 induction n with
 | zero=>rfl
 | succ n ih=>rw [List.replicate_succ,natV,ih]; rfl
theorem qtC9 (a : List Int) (x : Int) : natV (a++[x]) = natV a + lw ^ a.length * x.toNat:=by
 rw [qkz9]; simp [natV]
theorem qey9 {a : List Int} {i : Nat} {x : Int} (h : a[i]? = some x) : natV (a.take (i + 1)) = natV (a.take i) + lw ^ i * x.toNat:=by
 have hl:=(List.getElem?_eq_some_iff.1 h).1
 rw [List.take_add_one,h]
 show natV (a.take i++[x]) = _
 rw [qtC9,List.length_take,Nat.min_eq_left (by omega)]
theorem qjn9 {a : List Int} {i : Nat} (h : a.length≤i) : natV (a.take (i + 1)) = natV (a.take i):=by
 rw [List.take_of_length_le (by omega),List.take_of_length_le h]
theorem qwZ9 {a b : List Int} {s4 : List Int} (ha : Sm a) (hla : Limbs a) (hlb : Limbs b) (hab : b.length≤a.length) : ∀ (n i c : Nat) (out : List Int),i + n = a.length→out.length = a.length + 1→Limbs out→c≤1→(∀ j,i≤j→j < out.length→out[j]? = some 0)→natV out + lw ^ i * c = natV (a.take i) + natV (b.take i) →
  ∃ (c' : Nat) (out' : List Int),wh (qbN9 a b s4 a (a.length : Int)) ((c : Int),(i : Int),out) = some ((c' : Int),(a.length : Int),out')∧out'.length = a.length + 1∧Limbs out'∧c'≤1∧out'[a.length]? = some 0∧natV out' + lw ^ a.length * c' = natV a + natV b:=by
 unfold Sm at ha
 intro n
 induction n with
 | zero =>
  intro i c out hi ho hl hc hz hv
  obtain rfl : i = a.length:=by omega
  refine ⟨c,out,qe9 (by simp only [qbN9]; rw [if_neg (by omega)]),ho,hl,hc,hz _ (Nat.le_refl _) (by omega),?_⟩
  rw [List.take_length,List.take_of_length_le hab] at hv
  exact hv
 | succ n ih =>
  intro i c out hi ho hl hc hz hv
  have hx : a[i]? = some (a[i]'(by omega)):=List.getElem?_eq_getElem _
  have ho0:=hz i (Nat.le_refl _) (by omega)
  have bx:=hla _ (List.mem_of_getElem? hx)
  have hw : w64 ((i : Int) + 1) = ((i + 1 : Nat) : Int):=by rw [qh9 (by omega) (by omega)]; omega
  generalize hxv : a[i]'(by omega) = x at hx bx
  -- the next digit
  have go : ∀ y : Int,(0≤y∧y < 4294967296)→natV (b.take (i + 1)) = natV (b.take i) + lw ^ i * y.toNat→qbN9 a b s4 a (a.length : Int) ((c : Int),(i : Int),out) = some (.inl (((c : Int) + x + y) / 4294967296,((i + 1 : Nat) : Int),out.set i (((c : Int) + x + y) % 4294967296))) →
    ∃ (c' : Nat) (out' : List Int),wh (qbN9 a b s4 a (a.length : Int)) ((c : Int),(i : Int),out) = some ((c' : Int),(a.length : Int),out')∧out'.length = a.length + 1∧Limbs out'∧c'≤1∧out'[a.length]? = some 0∧natV out' + lw ^ a.length * c' = natV a + natV b:=by
   intro y by_ hty hst
   have e1 : ((c : Int) + x + y) / 4294967296 = (((c + x.toNat + y.toNat) / lw : Nat) : Int):=by unfold lw; omega
   have e2 : (((c : Int) + x + y) % 4294967296).toNat = (c + x.toNat + y.toNat) % lw:=by unfold lw; omega
   rw [qf9 hst,e1]
   refine ih (i + 1) _ _ (by omega) (by rw [List.length_set]; exact ho) (qeW9 hl (by omega)) (by unfold lw; omega) (fun j h1 h2=>?_) ?_
   ·rw [List.getElem?_set_ne (by omega)]; exact hz j (by omega) (by rw [List.length_set] at h2; exact h2)
   ·have hs:=qfx9 (v:=((c : Int) + x + y) % 4294967296) ho0 (by omega) (by omega)
    rw [e2] at hs
    rw [show (0 : Int).toNat = 0 from rfl,Nat.mul_zero,Nat.add_zero] at hs
    rw [hs,qey9 hx,hty,Nat.pow_succ,Nat.mul_assoc,Nat.add_assoc,← Nat.mul_add,Nat.mod_add_div,Nat.mul_add,Nat.mul_add]
    omega
  by_cases hb : i < b.length
  ·have hy : b[i]? = some (b[i]'hb):=List.getElem?_eq_getElem _
   have by_:=hlb _ (List.mem_of_getElem? hy)
   refine go _ by_ (qey9 hy) ?_
   simp only [qbN9]
   rw [if_pos (by omega),qc9 hx,Option.bind_some,if_pos (by omega),qc9 hy,Option.bind_some,qc9 ho0,Option.bind_some,qC9 (n:=x) (by omega) (by omega),qC9 (n:=b[i]) (by omega) (by omega),qC9 (n:=(c : Int) + x) (by omega) (by omega),qC9 (by omega) (by omega),shr32 (by omega) (by omega),Option.bind_some,qdO9 (by omega),hw,Int.toNat_natCast]
  ·refine go 0 (by omega) (by rw [qjn9 (by omega)]; simp) ?_
   simp only [qbN9]
   rw [if_pos (by omega),qc9 hx,Option.bind_some,if_neg (by omega),qc9 ho0,Option.bind_some,qC9 (n:=x) (by omega) (by omega),qC9 (n:=(c : Int) + x) (by omega) (by omega),shr32 (by omega) (by omega),Option.bind_some,qdO9 (by omega),hw,Int.toNat_natCast,Int.add_zero]
def addR (a b : List Int) : List Int × Int:=if RtOK a∧RtOK b then (if natV a + natV b < lw ^ 64 then (toL (natV a + natV b),0) else ([],2)) else ([],10)
theorem qoT9 {a b : List Int} {s4 : List Int} (hra : a.length≤64) (hla : Limbs a) (hlb : Limbs b) (hab : b.length≤a.length) :
  (if 0≤(w64 ((a.length : Int) + 1)) then
   if 4 * (w64 ((a.length : Int) + 1))≤140737488355328 then
   (wh (qbN9 a b s4 a (a.length : Int)) (0,0,List.replicate (w64 ((a.length : Int) + 1)).toNat (0 : Int))).bind fun x21 =>
   match x21 with
   | (x22,x23,x24) =>
   (idx x24 (a.length : Int)).bind fun x25 =>
   (qfH9 (x24.set ((a.length : Int)).toNat (IntKind.u32.wrap x22))).bind fun x26 =>
   some (x26.1,x26.2)
   else none
   else none) = some (if natV a + natV b < lw ^ 64 then (toL (natV a + natV b),0) else ([],2)):=by
 have hs : Sm a:=by unfold Sm; omega
 have hw : w64 ((a.length : Int) + 1) = ((a.length + 1 : Nat) : Int):=by rw [qh9 (by omega) (by omega)]; omega
 rw [hw,if_pos (by omega),if_pos (by omega),Int.toNat_natCast]
 obtain ⟨c',out',h1,h2,h3,h4,h5,h6⟩:=qwZ9 (s4:=s4) hs hla hlb hab a.length 0 0 (List.replicate (a.length + 1) 0) (by omega) (by simp) (qhJ9 _) (by omega) (fun j _ hj=>by rw [List.length_replicate] at hj; simp [hj]) (by rw [qiu9]; simp [natV])
 have h1' : wh (qbN9 a b s4 a (a.length : Int)) (0,0,List.replicate (a.length + 1) (0 : Int)) = some ((c' : Int),(a.length : Int),out'):=h1
 rw [h1',Option.bind_some]
 simp only []
 rw [qc9 h5,Option.bind_some,Int.toNat_natCast,qdO9 (by omega)]
 have e : ((c' : Int) % 4294967296) = (c' : Int):=by omega
 rw [e]
 have hv:=qfx9 (v:=(c' : Int)) h5 (by omega) (by omega)
 rw [show (0 : Int).toNat = 0 from rfl,Nat.mul_zero,Nat.add_zero,Int.toNat_natCast,h6] at hv
 rw [que9 (by unfold Sm; rw [List.length_set]; omega) (qeW9 h3 (by omega)),hv,Option.bind_some]
theorem qtJ9 {a b : List Int} (ha : Sm a) (hb : Sm b) (hla : Limbs a) (hlb : Limbs b) : qhm9 a b = some (addR a b):=by
 unfold qhm9
 rw [qeb9 ha,Option.bind_some]
 by_cases h1 : RtOK a
 ·rw [if_pos (decide_eq_true h1),qeb9 hb,Option.bind_some]
  by_cases h2 : RtOK b
  ·have e : addR a b = if natV a + natV b < lw ^ 64 then (toL (natV a + natV b),0) else ([],2):=if_pos ⟨h1,h2⟩
   rw [if_pos (decide_eq_true h2),e]
   by_cases hc : (a.length : Int) < (b.length : Int)
   ·rw [if_pos hc,qoT9 h2.1 hlb hla (by omega),Nat.add_comm (natV b)]
   ·rw [if_neg hc,qoT9 h1.1 hla hlb (by omega)]
  ·have e : addR a b = ([],10):=if_neg (fun h=>h2 h.2)
   rw [if_neg (by simpa using h2),e]
 ·have e : addR a b = ([],10):=if_neg (fun h=>h1 h.1)
  rw [if_neg (by simpa using h1),e]
theorem qAh9 {a b : List Int} {s4 : List Int} {s0 s26 : List Int} {x s27 s28 : Int} {i : Nat} (hx : 0≤x∧x < 4294967296) (hb : b.length≤64) (hi : i≤64) (hlb : Limbs b) : ∀ (n k c : Nat) (out : List Int),k + n = b.length→i + b.length < out.length→Limbs out→c < lw→(∀ j,i + b.length≤j→j < out.length→out[j]? = some 0) →
  ∃ (c' : Nat) (out' : List Int),wh (qdp9 s0 b s4 (i : Int) x s26 s27 s28 b (b.length : Int)) ((c : Int),(k : Int),out) = some ((c' : Int),out')∧out'.length = out.length∧Limbs out'∧c' < lw∧(∀ j,i + b.length≤j→j < out.length→out'[j]? = some 0) ∧
   natV out' + lw ^ (i + b.length) * c' + lw ^ i * (x.toNat * natV (b.take k)) = natV out + lw ^ (i + k) * c + lw ^ i * (x.toNat * natV b):=by
 intro n
 induction n with
 | zero =>
  intro k c out hk ho hl hc hz
  obtain rfl : k = b.length:=by omega
  refine ⟨c,out,qe9 (by simp only [qdp9]; rw [if_neg (by omega)]),rfl,hl,hc,hz,by rw [List.take_length]⟩
 | succ n ih =>
  intro k c out hk ho hl hc hz
  have hy : b[k]? = some (b[k]'(by omega)):=List.getElem?_eq_getElem _
  have ho1 : out[i + k]? = some (out[i + k]'(by omega)):=List.getElem?_eq_getElem _
  have by_:=hlb _ (List.mem_of_getElem? hy)
  have bo:=hl _ (List.mem_of_getElem? ho1)
  have hty:=qey9 hy
  generalize b[k]'(by omega) = y at hy by_ hty
  generalize out[i + k]'(by omega) = o at ho1 bo
  have hw : w64 ((k : Int) + 1) = ((k + 1 : Nat) : Int):=by rw [qh9 (by omega) (by omega)]; omega
  have hwi : w64 ((i : Int) + (k : Int)) = ((i + k : Nat) : Int):=by rw [qh9 (by omega) (by omega)]; omega
  have hc' : c < 4294967296:=hc
  have p1 : x.toNat * y.toNat≤4294967295 * 4294967295:=Nat.mul_le_mul (by omega) (by omega)
  have pe : x * y = ((x.toNat * y.toNat : Nat) : Int):=by rw [Int.natCast_mul,Int.toNat_of_nonneg hx.1,Int.toNat_of_nonneg by_.1]
  generalize hp : x.toNat * y.toNat = p at p1 pe
  have t1 : IntKind.u64.wrap ((c : Int) + (IntKind.u64.wrap ((IntKind.u64.wrap ((IntKind.u64.wrap x) * (IntKind.u64.wrap y))) + (IntKind.u64.wrap o)))) = (c : Int) + (p : Int) + o:=by
   rw [qC9 (n:=x) (by omega) (by omega),qC9 (n:=y) (by omega) (by omega),pe,qC9 (n:=o) (by omega) (by omega),qC9 (n:=(p : Int)) (by omega) (by omega),qC9 (n:=(p : Int) + o) (by omega) (by omega),qC9 (by omega) (by omega)]
   omega
  have hst : qdp9 s0 b s4 (i : Int) x s26 s27 s28 b (b.length : Int) ((c : Int),(k : Int),out) = some (.inl (((c : Int) + (p : Int) + o) / 4294967296,((k + 1 : Nat) : Int),out.set (i + k) (((c : Int) + (p : Int) + o) % 4294967296))):=by
   simp only [qdp9]
   rw [if_pos (by omega),qc9 hy,Option.bind_some,hwi,qc9 ho1,Option.bind_some,t1,shr32 (by omega) (by omega),Option.bind_some,qdO9 (by omega),hw,Int.toNat_natCast]
  have e1 : ((c : Int) + (p : Int) + o) / 4294967296 = (((c + p + o.toNat) / lw : Nat) : Int):=by unfold lw; omega
  have e2 : (((c : Int) + (p : Int) + o) % 4294967296).toNat = (c + p + o.toNat) % lw:=by unfold lw; omega
  rw [qf9 hst,e1]
  obtain ⟨c2,out2,q1,q2,q3,q4,q5,q6⟩:=ih (k + 1) ((c + p + o.toNat) / lw) (out.set (i + k) (((c : Int) + (p : Int) + o) % 4294967296)) (by omega) (by rw [List.length_set]; exact ho) (qeW9 hl (by omega)) (by unfold lw; omega) (fun j h1 h2=>by
   rw [List.getElem?_set_ne (by omega)]; exact hz j h1 (by rw [List.length_set] at h2; exact h2))
  refine ⟨c2,out2,q1,by rw [q2,List.length_set],q3,q4,fun j h1 h2=>q5 j h1 (by rw [List.length_set]; exact h2),?_⟩
  have hs:=qfx9 (v:=((c : Int) + (p : Int) + o) % 4294967296) ho1 bo.1 (by omega)
  rw [e2] at hs
  rw [hty,Nat.mul_add,Nat.mul_add] at q6
  have e3 : lw ^ i * (x.toNat * (lw ^ k * y.toNat)) = lw ^ (i + k) * p:=by
   rw [← hp,Nat.pow_add,Nat.mul_left_comm x.toNat,Nat.mul_assoc]
  have e4 : lw ^ (i + (k + 1)) * ((c + p + o.toNat) / lw) = lw ^ (i + k) * (lw * ((c + p + o.toNat) / lw)):=by
   rw [← Nat.add_assoc,Nat.pow_succ,Nat.mul_assoc]
  have e5 : lw ^ (i + k) * ((c + p + o.toNat) % lw) + lw ^ (i + k) * (lw * ((c + p + o.toNat) / lw)) = lw ^ (i + k) * c + lw ^ (i + k) * p + lw ^ (i + k) * o.toNat:=by
   rw [← Nat.mul_add,Nat.mod_add_div,Nat.mul_add,Nat.mul_add]
  omega
theorem qyR9 {a b : List Int} {s4 : List Int} (ha : a.length≤64) (hb : b.length≤64) (hla : Limbs a) (hlb : Limbs b) : ∀ (n i : Nat) (out : List Int),i + n = a.length→out.length = a.length + b.length→Limbs out→(∀ j,i + b.length≤j→j < out.length→out[j]? = some 0)→natV out = natV (a.take i) * natV b →
  ∃ out' : List Int,wh (qdl9 a b s4 a (a.length : Int)) ((i : Int),out) = some ((a.length : Int),out')∧out'.length = a.length + b.length∧Limbs out'∧natV out' = natV a * natV b:=by
 intro n
 induction n with
 | zero =>
  intro i out hi ho hl hz hv
  obtain rfl : i = a.length:=by omega
  exact ⟨out,qe9 (by simp only [qdl9]; rw [if_neg (by omega)]),ho,hl,by rw [List.take_length] at hv; exact hv⟩
 | succ n ih =>
  intro i out hi ho hl hz hv
  have hx : a[i]? = some (a[i]'(by omega)):=List.getElem?_eq_getElem _
  have bx:=hla _ (List.mem_of_getElem? hx)
  have htx:=qey9 hx
  generalize a[i]'(by omega) = x at hx bx htx
  obtain ⟨c',out',q1,q2,q3,q4,q5,q6⟩:=qAh9 (s0:=a) (s4:=s4) (s26:=a) (s27:=(a.length : Int)) (s28:=(i : Int)) (i:=i) (a:=a) bx hb (by omega) hlb b.length 0 0 out (by omega) (by omega) hl (by decide) hz
  have h0:=q5 (i + b.length) (Nat.le_refl _) (by omega)
  have hw : w64 ((i : Int) + 1) = ((i + 1 : Nat) : Int):=by rw [qh9 (by omega) (by omega)]; omega
  have hwi : w64 ((i : Int) + (b.length : Int)) = ((i + b.length : Nat) : Int):=by rw [qh9 (by omega) (by omega)]; omega
  have q1' : wh (qdp9 a b s4 (i : Int) x a (a.length : Int) (i : Int) b (b.length : Int)) (0,0,out) = some ((c' : Int),out'):=q1
  have hc' : c' < 4294967296:=q4
  have hst : qdl9 a b s4 a (a.length : Int) ((i : Int),out) = some (.inl (((i + 1 : Nat) : Int),out'.set (i + b.length) (c' : Int))):=by
   simp only [qdl9]
   rw [if_pos (by omega),qc9 hx,Option.bind_some,q1',Option.bind_some]
   simp only []
   rw [hwi,qc9 h0,Option.bind_some,hw,Int.toNat_natCast,qdO9 (by omega),show ((c' : Int) % 4294967296) = (c' : Int) by omega]
  rw [qf9 hst]
  refine ih (i + 1) _ (by omega) (by rw [List.length_set]; omega) (qeW9 q3 (by omega)) (fun j h1 h2=>?_) ?_
  ·rw [List.length_set] at h2
   rw [List.getElem?_set_ne (by omega)]; exact q5 j (by omega) (by omega)
  ·have hs:=qfx9 (v:=(c' : Int)) h0 (by omega) (by omega)
   rw [show (0 : Int).toNat = 0 from rfl,Nat.mul_zero,Nat.add_zero,Int.toNat_natCast] at hs
   rw [hs,htx,Nat.add_mul,Nat.mul_assoc]
   simp only [List.take_zero,natV,Nat.mul_zero,Nat.add_zero] at q6
   rw [q6,hv]
def mulR (a b : List Int) : List Int × Int:=if RtOK a∧RtOK b then (if natV a * natV b < lw ^ 64 then (toL (natV a * natV b),0) else ([],2)) else ([],10)
theorem qus9 {a b : List Int} (ha : Sm a) (hb : Sm b) (hla : Limbs a) (hlb : Limbs b) : qho9 a b = some (mulR a b):=by
 unfold qho9
 rw [qeb9 ha,Option.bind_some]
 by_cases h1 : RtOK a
 ·rw [if_pos (decide_eq_true h1),qeb9 hb,Option.bind_some]
  by_cases h2 : RtOK b
  ·have e : mulR a b = if natV a * natV b < lw ^ 64 then (toL (natV a * natV b),0) else ([],2):=if_pos ⟨h1,h2⟩
   have l1:=h1.1
   have l2:=h2.1
   have hw : w64 ((a.length : Int) + (b.length : Int)) = ((a.length + b.length : Nat) : Int):=by rw [qh9 (by omega) (by omega)]; omega
   rw [if_pos (decide_eq_true h2),e,hw,if_pos (by omega),if_pos (by omega),Int.toNat_natCast]
   obtain ⟨out',q1,q2,q3,q4⟩:=qyR9 (s4:=[]) l1 l2 hla hlb a.length 0 (List.replicate (a.length + b.length) 0) (by omega) (by simp) (qhJ9 _) (fun j _ hj=>by rw [List.length_replicate] at hj; simp [hj]) (by rw [qiu9]; simp [natV])
   have q1' : wh (qdl9 a b [] a (a.length : Int)) (0,List.replicate (a.length + b.length) (0 : Int)) = some ((a.length : Int),out'):=q1
   rw [q1',Option.bind_some]
   simp only []
   rw [que9 (by unfold Sm; omega) q3,q4,Option.bind_some]
  ·have e : mulR a b = ([],10):=if_neg (fun h=>h2 h.2)
   rw [if_neg (by simpa using h2),e]
 ·have e : mulR a b = ([],10):=if_neg (fun h=>h1 h.1)
  rw [if_neg (by simpa using h1),e]
end Ld.Law
namespace Ld.Law
open Go Go.Abs
theorem qun9 {n : Int} (h1 : -9223372036854775808≤n) (h2 : n < 9223372036854775808) : w64 n = n:=by unfold w64; rw [IntKind.wrap_i64]; omega
theorem qg9 {i : Nat} (h : i≤2097152) : w64 ((i : Int) + 1) = ((i + 1 : Nat) : Int):=by rw [qh9 (by omega) (by omega)]; omega
theorem qtN9 {α : Type} {l : List α} {q : α→Bool} {step : Int→Option (Int ⊕ (Int ⊕ Int))} (hs : ∀ (i : Nat) (x : α),l[i]? = some x→step (i : Int) = some (if q x = true then .inr (.inl (i : Int)) else .inl ((i + 1 : Nat) : Int))) (he : step (l.length : Int) = some (.inr (.inr (l.length : Int)))) :
  ∀ (n i : Nat),i + n = l.length→∃ r,wh step (i : Int) = some r∧((∃ j : Nat,i≤j∧r = .inl (j : Int)∧∃ x,l[j]? = some x∧q x = true)∨(r = .inr (l.length : Int)∧∀ x∈l.drop i,q x = false)):=by
 intro n
 induction n with
 | zero =>
  intro i hi
  obtain rfl : i = l.length:=by omega
  exact ⟨_,qe9 he,.inr ⟨rfl,by simp⟩⟩
 | succ n ih =>
  intro i hi
  have hx : l[i]? = some (l[i]'(by omega)):=List.getElem?_eq_getElem _
  by_cases hq : q (l[i]'(by omega)) = true
  ·exact ⟨_,qe9 (by rw [hs i _ hx,if_pos hq]),.inl ⟨i,Nat.le_refl _,rfl,_,hx,hq⟩⟩
  ·rw [qf9 (by rw [hs i _ hx,if_neg hq])]
   obtain ⟨r,h1,h2⟩:=ih (i + 1) (by omega)
   refine ⟨r,h1,?_⟩
   rcases h2 with ⟨j,a1,a2,a3⟩ | ⟨a1,a2⟩
   ·exact .inl ⟨j,by omega,a2,a3⟩
   ·refine .inr ⟨a1,fun x hx2=>?_⟩
    rw [List.drop_eq_getElem_cons (by omega)] at hx2
    rcases List.mem_cons.1 hx2 with rfl | hx2
    ·simpa using hq
    ·exact a2 x hx2
theorem qgw9 {α : Type} {l : List α} {q : α→Bool} {step : Int→Option (Int ⊕ (Int ⊕ Int))} (hs : ∀ (i : Nat) (x : α),l[i]? = some x→step (i : Int) = some (if q x = true then .inr (.inl (i : Int)) else .inl ((i + 1 : Nat) : Int))) (he : step (l.length : Int) = some (.inr (.inr (l.length : Int)))) :
  (((wh step 0).bind fun x3=>match x3 with | .inl x4=>some x4 | .inr x5=>some (-1)).bind fun x1=>some (decide (0≤x1))) = some (l.any q):=by
 obtain ⟨r,h1,h2⟩:=qtN9 hs he l.length 0 (by omega)
 have h1' : wh step 0 = some r:=h1
 rw [h1',Option.bind_some]
 rcases h2 with ⟨j,_,rfl,x,a3,a4⟩ | ⟨rfl,a2⟩
 ·have : l.any q = true:=List.any_eq_true.2 ⟨x,List.mem_of_getElem? a3,a4⟩
  simp [this]
 ·have : l.any q = false:=by
   rw [List.any_eq_false]
   intro x hx
   have:=a2 x (by simpa using hx)
   simp [this]
  simp [this]
def I64 (n : Int) : Prop:=-9223372036854775808≤n∧n < 9223372036854775808
structure MonoT (m : Mono) : Prop where
 lc : Limbs m.Coef
 sc : Sm m.Coef
 se : Sm m.Exps
 ie : ∀ n∈m.Exps,I64 n
def PolyT (p : List Mono) : Prop:=p.length≤1048576∧∀ m∈p,MonoT m
structure FormOK (m : Mono) : Prop where
 rt : RtOK m.Coef
 ne : m.Coef ≠ []
 ex : ExOK m.Exps
theorem qzu9 {l : List Int} (h : Sm l) : qE9 l = some (l.any fun n=>decide (n < 0)):=by
 unfold Sm at h
 unfold qE9 qQ9
 refine qgw9 (fun i x hx=>?_) ?_
 ·have hl:=(List.getElem?_eq_some_iff.1 hx).1
  simp only [qD9]
  rw [if_pos (by omega),qc9 hx,Option.bind_some,qga9,Option.bind_some,qg9 (by omega)]
  by_cases c : decide (x < 0) = true
  ·rw [if_pos c,if_pos c]
  ·rw [if_neg c,if_neg c]
 ·simp only [qD9]; rw [if_neg (by omega)]
open Classical in
theorem qid9 {m : Mono} (h : MonoT m) : qgL9 m = some (decide (FormOK m)):=by
 unfold qgL9
 rw [qeb9 h.sc,Option.bind_some]
 by_cases h1 : RtOK m.Coef
 rotate_left
 ·rw [if_neg (by simpa using h1),decide_eq_false (fun hh=>h1 hh.rt)]
 rw [if_pos (decide_eq_true h1)]
 by_cases h2 : 0 < (m.Coef.length : Int)
 rotate_left
 ·rw [if_neg h2,decide_eq_false (fun hh=>h2 (by have:=List.length_pos_iff.2 hh.ne; omega))]
 have hne : m.Coef ≠ []:=List.length_pos_iff.1 (by omega)
 rw [if_pos h2,qzu9 h.se,Option.bind_some]
 by_cases h3 : (m.Exps.any fun n=>decide (n < 0)) = true
 ·rw [if_pos h3,decide_eq_false]
  intro hh
  obtain ⟨n,hn,h4⟩:=List.any_eq_true.1 h3
  have:=hh.ex.1 n hn
  simp at h4
  omega
 rw [if_neg h3]
 have hnn : ∀ n∈m.Exps,0≤n:=by
  intro n hn
  have h5 : ¬ n < 0:=fun h6=>h3 (List.any_eq_true.2 ⟨n,hn,decide_eq_true h6⟩)
  omega
 by_cases h4 : (m.Exps.length : Int) = 0
 ·have he : m.Exps = []:=List.length_eq_zero_iff.1 (by omega)
  rw [if_pos h4,decide_eq_true]
  exact ⟨h1,hne,hnn,by rw [he]; simp⟩
 ·rw [if_neg h4]
  obtain ⟨x,e1,e2⟩:=qkI9 (a:=m.Exps) (fun h=>h4 (by rw [h]; rfl)) h.se
  rw [e1,Option.bind_some]
  congr 1
  have hx:=hnn x (List.mem_of_getLast? e2)
  by_cases h5 : 0 < x
  ·rw [decide_eq_true h5,decide_eq_true]
   exact ⟨h1,hne,hnn,by rw [e2]; intro hc; cases hc; omega⟩
  ·rw [decide_eq_false h5,decide_eq_false]
   intro hh
   exact hh.ex.2 (by rw [e2,show x = 0 by omega])
theorem qrr9 {a b : Ex} (hb : ExOK b) (hl : a.length < b.length) (hp : ∀ j,j < a.length→exAt a j = exAt b j) : ltE a b:=by
 have hlast : ∃ i,a.length≤i∧0 < exAt b i:=by
  refine ⟨b.length - 1,by omega,?_⟩
  have h1 : b[b.length - 1]? = some (b[b.length - 1]'(by omega)):=List.getElem?_eq_getElem _
  unfold exAt
  rw [List.getD_eq_getElem?_getD,h1,Option.getD_some]
  have h2:=hb.1 _ (List.getElem_mem (l:=b) (n:=b.length - 1) (by omega))
  have h3 : b.getLast? = some (b[b.length - 1]'(by omega)):=by rw [List.getLast?_eq_getElem?,h1]
  have h4 : b[b.length - 1]'(by omega) ≠ 0:=fun e0=>hb.2 (by rw [h3,e0])
  omega
 have ha0 : ∀ i,a.length≤i→exAt a i = 0:=fun i hi=>by
  unfold exAt
  rw [List.getD_eq_getElem?_getD,List.getElem?_eq_none hi]; rfl
 obtain ⟨i,hi,hpos⟩:=hlast
 induction i using Nat.strongRecOn with
 | _ i ih =>
  by_cases hj : ∃ j,j < i∧a.length≤j∧0 < exAt b j
  ·obtain ⟨j,h1,h2,h3⟩:=hj
   exact ih j h1 h2 h3
  ·refine ⟨i,fun j hji=>?_,by rw [ha0 i hi]; exact hpos⟩
   by_cases hja : j < a.length
   ·exact hp j hja
   ·have h0:=qku9 hb j
    have h1 : ¬ 0 < exAt b j:=fun h=>hj ⟨j,hji,by omega,h⟩
    rw [ha0 j (by omega)]
    omega
theorem qbw9 {a : Ex} {i : Nat} {x : Int} (h : a[i]? = some x) : exAt a i = x:=by
 unfold exAt; rw [List.getD_eq_getElem?_getD,h]; rfl
theorem order_eq {a b : Ex} (ha : ExOK a) (hb : ExOK b) (sa : Sm a) (sb : Sm b) (ia : ∀ n∈a,I64 n) (ib : ∀ n∈b,I64 n) : ∃ o,poly_order a b = some o∧(o < 0↔ltE a b)∧(o = 0↔a = b):=by
 unfold Sm at sa sb
 have key : ∀ (n i : Nat),i + n = min a.length b.length→(∀ j,j < i→exAt a j = exAt b j)→∃ r,wh (qbl9 a b (min (a.length : Int) (b.length : Int))) (i : Int) = some r∧((∃ o,r = .inl o∧(o < 0↔ltE a b)∧(o = 0↔a = b))∨(∃ z,r = .inr z∧∀ j,j < min a.length b.length→exAt a j = exAt b j)):=by
  intro n
  induction n with
  | zero =>
   intro i hi hj
   refine ⟨_,qe9 (r:=.inr (i : Int)) (by simp only [qbl9]; rw [if_neg (by omega)]),.inr ⟨_,rfl,fun j h=>hj j (by omega)⟩⟩
  | succ n ih =>
   intro i hi hj
   have hx : a[i]? = some (a[i]'(by omega)):=List.getElem?_eq_getElem _
   have hy : b[i]? = some (b[i]'(by omega)):=List.getElem?_eq_getElem _
   have bx:=ia _ (List.mem_of_getElem? hx)
   have by_:=ib _ (List.mem_of_getElem? hy)
   have nx:=ha.1 _ (List.mem_of_getElem? hx)
   have ny:=hb.1 _ (List.mem_of_getElem? hy)
   have ex:=qbw9 hx
   have ey:=qbw9 hy
   generalize a[i]'(by omega) = x at hx bx nx ex
   generalize b[i]'(by omega) = y at hy by_ ny ey
   unfold I64 at bx by_
   by_cases c : x = y
   ·rw [qf9 (s':=((i + 1 : Nat) : Int)) (by simp only [qbl9]; rw [if_pos (by omega),qc9 hx,Option.bind_some,qc9 hy,Option.bind_some,if_pos c,qg9 (by omega)])]
    refine ih (i + 1) (by omega) (fun j h=>?_)
    rcases Nat.lt_or_ge j i with h2 | h2
    ·exact hj j h2
    ·obtain rfl : j = i:=by omega
     rw [ex,ey,c]
   ·refine ⟨_,qe9 (r:=.inl (x - y)) (by simp only [qbl9]; rw [if_pos (by omega),qc9 hx,Option.bind_some,qc9 hy,Option.bind_some,if_neg c,qun9 (by omega) (by omega)]),.inl ⟨_,rfl,⟨fun h=>⟨i,hj,by rw [ex,ey]; omega⟩,fun h=>?_⟩,⟨fun h=>by omega,fun h=>?_⟩⟩⟩
    ·obtain ⟨k,k1,k2⟩:=h
     rcases Nat.lt_trichotomy k i with h3 | rfl | h3
     ·have:=hj k h3; omega
     ·omega
     ·have:=k1 i h3; omega
    ·rw [h,ey] at ex
     exact absurd ex.symm c
 obtain ⟨r,h1,h2⟩:=key (min a.length b.length) 0 (by omega) (fun j h=>by omega)
 have h1' : wh (qbl9 a b (min (a.length : Int) (b.length : Int))) 0 = some r:=h1
 unfold poly_order
 rw [h1',Option.bind_some]
 rcases h2 with ⟨o,rfl,h3⟩ | ⟨z,rfl,h3⟩
 ·exact ⟨o,rfl,h3⟩
 ·refine ⟨(a.length : Int) - (b.length : Int),by simp only []; rw [qh9 (by omega) (by omega)],?_,?_⟩
  ·rcases Nat.lt_trichotomy a.length b.length with c | c | c
   ·have:=qrr9 hb c (fun j hj=>h3 j (by omega))
    exact ⟨fun _=>this,fun _=>by omega⟩
   ·have : a = b:=List.ext_getElem c (fun j h4 h5=>by
     have:=h3 j (by omega)
     rw [qbw9 (List.getElem?_eq_getElem h4),qbw9 (List.getElem?_eq_getElem h5)] at this
     exact this)
    subst this
    exact ⟨fun h=>by omega,fun h=>absurd h (ltE_irrefl _)⟩
   ·have:=qrr9 ha c (fun j hj=>(h3 j (by omega)).symm)
    exact ⟨fun h=>by omega,fun h=>absurd (ltE_trans h this) (ltE_irrefl _)⟩
  ·rcases Nat.lt_trichotomy a.length b.length with c | c | c
   ·exact ⟨fun h=>by omega,fun h=>by rw [h] at c; omega⟩
   ·have : a = b:=List.ext_getElem c (fun j h4 h5=>by
     have:=h3 j (by omega)
     rw [qbw9 (List.getElem?_eq_getElem h4),qbw9 (List.getElem?_eq_getElem h5)] at this
     exact this)
    exact ⟨fun _=>this,fun _=>by omega⟩
   ·exact ⟨fun h=>by omega,fun h=>by rw [h] at c; omega⟩
def BdOK (m : Mono) : Prop:=m.Coef.length≤64∧m.Exps.length≤512∧∀ n∈m.Exps,n≤64
theorem qzw9 {l : List Int} (h : Sm l) : qw9 l = some (l.any fun n=>decide (64 < n)):=by
 unfold Sm at h
 unfold qw9 qJ9
 refine qgw9 (fun i x hx=>?_) ?_
 ·have hl:=(List.getElem?_eq_some_iff.1 hx).1
  simp only [qu9]
  rw [if_pos (by omega),qc9 hx,Option.bind_some,qee9,Option.bind_some,qg9 (by omega)]
  by_cases c : decide (64 < x) = true
  ·rw [if_pos c,if_pos c]
  ·rw [if_neg c,if_neg c]
 ·simp only [qu9]; rw [if_neg (by omega)]
open Classical in
theorem qko9 {m : Mono} (h : Sm m.Exps) : qcd9 m = some (decide (BdOK m)):=by
 unfold qcd9
 by_cases h1 : (m.Coef.length : Int)≤64
 rotate_left
 ·rw [if_neg h1,decide_eq_false (fun hh=>h1 (by have:=hh.1; omega))]
 rw [if_pos h1]
 by_cases h2 : (m.Exps.length : Int)≤512
 rotate_left
 ·rw [if_neg h2,decide_eq_false (fun hh=>h2 (by have:=hh.2.1; omega))]
 rw [if_pos h2,qzw9 h,Option.bind_some]
 congr 1
 by_cases h3 : (m.Exps.any fun n=>decide (64 < n)) = true
 ·rw [h3,decide_eq_false]; rfl
  intro hh
  obtain ⟨n,hn,h4⟩:=List.any_eq_true.1 h3
  have:=hh.2.2 n hn
  simp at h4
  omega
 ·have h3' : (m.Exps.any fun n=>decide (64 < n)) = false:=by simpa using h3
  rw [h3',decide_eq_true]; rfl
  refine ⟨by omega,by omega,fun n hn=>?_⟩
  have h5 : ¬ 64 < n:=fun h6=>h3 (List.any_eq_true.2 ⟨n,hn,decide_eq_true h6⟩)
  omega
end Ld.Law
namespace Ld.Law
open Go Go.Abs
def GoodAt (p : List Mono) (v : Int) (j : Nat) : Prop:=∀ m,p[j]? = some m→FormOK m∧(m.Exps.length : Int)≤v∧(0 < j→∀ m0,p[j - 1]? = some m0→ltE m0.Exps m.Exps)
open Classical in
theorem qit9 {p : List Mono} {v : Int} (hT : PolyT p) : ∀ (n i : Nat) (sm : Bool),i + n = p.length→(∀ j,j < i→GoodAt p v j)→(sm = true↔p.length≤256∧∀ j m,j < i→p[j]? = some m→BdOK m) →
  ∃ r,wh (qI9 p v p (p.length : Int)) (sm,(i : Int)) = some r∧((r = .inl 20∧¬ ∀ j,j < p.length→GoodAt p v j)∨(∃ sm' z,r = .inr (sm',z)∧(∀ j,j < p.length→GoodAt p v j)∧(sm' = true↔p.length≤256∧∀ m∈p,BdOK m))):=by
 have hlen:=hT.1
 intro n
 induction n with
 | zero =>
  intro i sm hi hg hs
  obtain rfl : i = p.length:=by omega
  refine ⟨_,qe9 (r:=.inr (sm,(p.length : Int))) (by simp only [qI9]; rw [if_neg (by omega)]),.inr ⟨_,_,rfl,hg,hs.trans ⟨fun h=>⟨h.1,fun m hm=>?_⟩,fun h=>⟨h.1,fun j m _ hj=>h.2 m (List.mem_of_getElem? hj)⟩⟩⟩⟩
  obtain ⟨j,hj⟩:=List.getElem?_of_mem hm
  exact h.2 j m (List.getElem?_eq_some_iff.1 hj).1 hj
 | succ n ih =>
  intro i sm hi hg hs
  have hx : p[i]? = some (p[i]'(by omega)):=List.getElem?_eq_getElem _
  generalize p[i]'(by omega) = m at hx
  have hm:=hT.2 m (List.mem_of_getElem? hx)
  have bad : qI9 p v p (p.length : Int) (sm,(i : Int)) = some (.inr (.inl 20))→¬ GoodAt p v i→∃ r,wh (qI9 p v p (p.length : Int)) (sm,(i : Int)) = some r∧((r = .inl 20∧¬ ∀ j,j < p.length→GoodAt p v j)∨(∃ sm' z,r = .inr (sm',z)∧(∀ j,j < p.length→GoodAt p v j)∧(sm' = true↔p.length≤256∧∀ m∈p,BdOK m))) :=
   fun h1 h2=>⟨_,qe9 h1,.inl ⟨rfl,fun h=>h2 (h i (by omega))⟩⟩
  have hw:=qg9 (i:=i) (by omega)
  by_cases c1 : FormOK m
  rotate_left
  ·exact bad (by simp only [qI9]; rw [if_pos (by omega),qc9 hx,Option.bind_some,qid9 hm,Option.bind_some,if_neg (by simpa using c1)]) (fun h=>c1 (h m hx).1)
  by_cases c2 : v < (m.Exps.length : Int)
  ·exact bad (by simp only [qI9]; rw [if_pos (by omega),qc9 hx,Option.bind_some,qid9 hm,Option.bind_some,if_pos (decide_eq_true c1),if_pos c2]) (fun h=>by have:=(h m hx).2.1; omega)
  -- the monomial is well formed; does it rise?
  have step : (0 < i→∃ m0,p[i - 1]? = some m0∧∃ o,poly_order m0.Exps m.Exps = some o∧(o < 0↔ltE m0.Exps m.Exps)):=by
   intro h0
   have h1 : p[i - 1]? = some (p[i - 1]'(by omega)):=List.getElem?_eq_getElem _
   have h2:=hT.2 _ (List.mem_of_getElem? h1)
   have h3:=(hg (i - 1) (by omega) _ h1).1
   obtain ⟨o,k1,k2,_⟩:=order_eq h3.ex c1.ex h2.se hm.se h2.ie hm.ie
   exact ⟨_,h1,o,k1,k2⟩
  have cont : ∀ (hgood : GoodAt p v i),(qI9 p v p (p.length : Int) (sm,(i : Int)) = (if sm = true then (qcd9 m).bind fun x5=>some (.inl (x5,((i + 1 : Nat) : Int))) else some (.inl (false,((i + 1 : Nat) : Int)))))→∃ r,wh (qI9 p v p (p.length : Int)) (sm,(i : Int)) = some r∧((r = .inl 20∧¬ ∀ j,j < p.length→GoodAt p v j)∨(∃ sm' z,r = .inr (sm',z)∧(∀ j,j < p.length→GoodAt p v j)∧(sm' = true↔p.length≤256∧∀ m∈p,BdOK m))):=by
   intro hgood hst
   have hg' : ∀ j,j < i + 1→GoodAt p v j:=fun j hj=>by
    rcases Nat.lt_or_ge j i with h | h
    ·exact hg j h
    ·obtain rfl : j = i:=by omega
     exact hgood
   by_cases c3 : sm = true
   ·rw [if_pos c3,qko9 hm.se,Option.bind_some] at hst
    rw [qf9 hst]
    refine ih (i + 1) _ (by omega) hg' ?_
    rw [decide_eq_true_iff]
    have h4:=hs.1 c3
    constructor
    ·intro h5
     refine ⟨h4.1,fun j m' hj hm'=>?_⟩
     rcases Nat.lt_or_ge j i with h | h
     ·exact h4.2 j m' h hm'
     ·obtain rfl : j = i:=by omega
      rw [hx] at hm'; cases hm'; exact h5
    ·exact fun h5=>h5.2 i m (by omega) hx
   ·rw [if_neg c3] at hst
    rw [qf9 hst]
    refine ih (i + 1) _ (by omega) hg' ⟨fun h=>absurd h (by decide),fun h=>?_⟩
    exact absurd (hs.2 ⟨h.1,fun j m' hj hm'=>h.2 j m' (by omega) hm'⟩) c3
  by_cases c4 : 0 < i
  ·obtain ⟨m0,k1,o,k2,k3⟩:=step c4
   have hw1 : w64 ((i : Int) - 1) = ((i - 1 : Nat) : Int):=by rw [qh9 (by omega) (by omega)]; omega
   by_cases c5 : 0≤o
   ·exact bad (by simp only [qI9]; rw [if_pos (by omega),qc9 hx,Option.bind_some,qid9 hm,Option.bind_some,if_pos (decide_eq_true c1),if_neg c2,if_pos (by omega),hw1,qc9 k1,Option.bind_some,k2,Option.bind_some,if_pos c5]) (fun h=>by
     have:=k3.2 ((h m hx).2.2 c4 m0 k1)
     omega)
   ·refine cont (fun m' hm'=>?_) (by simp only [qI9]; rw [if_pos (by omega),qc9 hx,Option.bind_some,qid9 hm,Option.bind_some,if_pos (decide_eq_true c1),if_neg c2,if_pos (by omega),hw1,qc9 k1,Option.bind_some,k2,Option.bind_some,if_neg c5,hw])
    rw [hx] at hm'; cases hm'
    exact ⟨c1,by omega,fun _ m1 hm1=>by rw [k1] at hm1; cases hm1; exact k3.1 (by omega)⟩
  ·refine cont (fun m' hm'=>?_) (by simp only [qI9]; rw [if_pos (by omega),qc9 hx,Option.bind_some,qid9 hm,Option.bind_some,if_pos (decide_eq_true c1),if_neg c2,if_neg (by omega),hw])
   rw [hx] at hm'; cases hm'
   exact ⟨c1,by omega,fun h=>absurd h c4⟩
def toM (m : Mono) : Nat × Ex:=(natV m.Coef,m.Exps)
structure PolyV (p : List Mono) : Prop where
 fm : ∀ m∈p,FormOK m
 ok : PolyOK (p.map toM)
 bd : InB (p.map toM)
theorem qeP9 {m : Mono} (h : FormOK m) (hl : Limbs m.Coef) : 0 < natV m.Coef:=by
 apply Nat.pos_of_ne_zero
 intro h0
 have:=qeg9 hl h.rt.2
 rw [h0,qdK9] at this
 exact h.ne this.symm
theorem qkQ9 {m : Mono} (h : FormOK m) (hl : Limbs m.Coef) : BdOK m↔SmallM (toM m):=by
 have e : m.Coef.length≤64↔natV m.Coef < lw ^ 64:=by
  have:=qeg9 hl h.rt.2
  rw [← qbQ9,this]
 unfold BdOK SmallM toM
 rw [e]
theorem qoY9 {p : List Mono} (h : ∀ j,j + 1 < p.length→∀ m0 m,p[j]? = some m0→p[j + 1]? = some m→ltE m0.Exps m.Exps) : p.Pairwise (fun a b=>ltE a.Exps b.Exps):=by
 induction p with
 | nil=>exact List.Pairwise.nil
 | cons x p ih =>
  have ih':=ih (fun j hj m0 m h1 h2=>h (j + 1) (by simpa using hj) m0 m (by simpa using h1) (by simpa using h2))
  refine List.pairwise_cons.2 ⟨fun y hy=>?_,ih'⟩
  cases p with
  | nil=>cases hy
  | cons z p =>
   have hz : ltE x.Exps z.Exps:=h 0 (by simp) x z rfl rfl
   rcases List.mem_cons.1 hy with rfl | hy
   ·exact hz
   ·exact ltE_trans hz ((List.pairwise_cons.1 ih').1 y hy)
theorem qvJ9 {p : List Mono} {v : Int} (hT : PolyT p) : ((∀ j,j < p.length→GoodAt p v j)∧p.length≤256∧∀ m∈p,BdOK m)↔PolyV p∧∀ m∈p,(m.Exps.length : Int)≤v:=by
 constructor
 ·rintro ⟨h1,h2,h3⟩
  have hf : ∀ m∈p,FormOK m∧(m.Exps.length : Int)≤v:=fun m hm=>by
   obtain ⟨j,hj⟩:=List.getElem?_of_mem hm
   have:=h1 j (List.getElem?_eq_some_iff.1 hj).1 m hj
   exact ⟨this.1,this.2.1⟩
  refine ⟨⟨fun m hm=>(hf m hm).1,⟨?_,?_,?_⟩,⟨by simpa using h2,?_⟩⟩,fun m hm=>(hf m hm).2⟩
  ·rw [List.pairwise_map]
   exact qoY9 (fun j hj m0 m e1 e2=>(h1 (j + 1) hj m e2).2.2 (by omega) m0 (by simpa using e1))
  ·intro x hx
   obtain ⟨m,hm,rfl⟩:=List.mem_map.1 hx
   exact qeP9 (hf m hm).1 (hT.2 m hm).lc
  ·intro x hx
   obtain ⟨m,hm,rfl⟩:=List.mem_map.1 hx
   exact (hf m hm).1.ex
  ·intro x hx
   obtain ⟨m,hm,rfl⟩:=List.mem_map.1 hx
   exact (qkQ9 (hf m hm).1 (hT.2 m hm).lc).1 (h3 m hm)
 ·rintro ⟨h1,h2⟩
  refine ⟨fun j hj m hm=>⟨h1.fm m (List.mem_of_getElem? hm),h2 m (List.mem_of_getElem? hm),fun h0 m0 hm0=>?_⟩,by have:=h1.bd.1; simpa using this,fun m hm=>(qkQ9 (h1.fm m hm) (hT.2 m hm).lc).2 (h1.bd.2 _ (List.mem_map.2 ⟨m,hm,rfl⟩))⟩
  have hp:=h1.ok.rise
  rw [List.pairwise_map,List.pairwise_iff_getElem] at hp
  have l1:=(List.getElem?_eq_some_iff.1 hm0).1
  have:=hp (j - 1) j l1 hj (by omega)
  rw [(List.getElem?_eq_some_iff.1 hm0).2,(List.getElem?_eq_some_iff.1 hm).2] at this
  exact this
theorem qhu9 {p : List Mono} {v : Int} (hT : PolyT p) : ∃ e,qL9 p v = some e∧(e = 0↔0≤v∧PolyV p∧∀ m∈p,(m.Exps.length : Int)≤v):=by
 unfold qL9
 by_cases hv : v < 0
 ·rw [if_pos hv]; exact ⟨1,rfl,⟨fun h=>absurd h (by decide),fun h=>by omega⟩⟩
 rw [if_neg hv]
 obtain ⟨r,h1,h2⟩:=qit9 (v:=v) hT p.length 0 (decide ((p.length : Int)≤256)) (by omega) (fun j h=>by omega) ⟨fun h=>⟨by have:=of_decide_eq_true h; omega,fun j m h=>by omega⟩,fun h=>decide_eq_true (by have:=h.1; omega)⟩
 have h1' : wh (qI9 p v p (p.length : Int)) (decide ((p.length : Int)≤256),0) = some r:=h1
 rw [h1',Option.bind_some]
 have hi:=qvJ9 (v:=v) hT
 rcases h2 with ⟨rfl,h3⟩ | ⟨sm,z,rfl,h3,h4⟩
 ·exact ⟨20,rfl,⟨fun h=>absurd h (by decide),fun h=>absurd (hi.2 h.2).1 h3⟩⟩
 ·by_cases hs : sm = true
  ·refine ⟨0,by simp only []; rw [if_pos hs],⟨fun _=>⟨by omega,hi.1 ⟨h3,h4.1 hs⟩⟩,fun _=>rfl⟩⟩
  ·refine ⟨2,by simp only []; rw [if_neg hs],⟨fun h=>absurd h (by decide),fun h=>?_⟩⟩
   exact absurd (h4.2 (hi.2 h.2).2) hs
theorem qxr9 {p : List Mono} (h : PolyV p) : ∀ m∈p,m.Exps.length≤512:=fun m hm=>(h.bd.2 _ (List.mem_map.2 ⟨m,hm,rfl⟩)).2.1
theorem qmy9 {p : List Mono} {v : Int} (hT : PolyT p) (hv : 512≤v) : ∃ e,qL9 p v = some e∧(e = 0↔PolyV p):=by
 obtain ⟨e,h1,h2⟩:=qhu9 (v:=v) hT
 refine ⟨e,h1,h2.trans ⟨fun h=>h.2.1,fun h=>⟨by omega,h,fun m hm=>?_⟩⟩⟩
 have:=qxr9 h m hm
 omega
theorem qdj9 {l : List (List Mono)} (hl : l.length≤1048576) (hT : ∀ p∈l,PolyT p) : ∃ e,qO9 l = some e∧(e = 0↔∀ p∈l,PolyV p):=by
 have key : ∀ (n i : Nat),i + n = l.length→(∀ p∈l.take i,PolyV p)→∃ r,wh (qq9 l l (l.length : Int)) (i : Int) = some r∧((∃ e,r = .inl e∧e ≠ 0∧¬ ∀ p∈l,PolyV p)∨(∃ z,r = .inr z∧∀ p∈l,PolyV p)):=by
  intro n
  induction n with
  | zero =>
   intro i hi h
   obtain rfl : i = l.length:=by omega
   exact ⟨_,qe9 (r:=.inr (l.length : Int)) (by simp only [qq9]; rw [if_neg (by omega)]),.inr ⟨_,rfl,by simpa using h⟩⟩
  | succ n ih =>
   intro i hi h
   have hx : l[i]? = some (l[i]'(by omega)):=List.getElem?_eq_getElem _
   generalize l[i]'(by omega) = p at hx
   have hp:=List.mem_of_getElem? hx
   obtain ⟨e,k1,k2⟩:=qmy9 (v:=4611686018427387904) (hT p hp) (by decide)
   by_cases c : e = 0
   ·rw [qf9 (s':=((i + 1 : Nat) : Int)) (by simp only [qq9]; rw [if_pos (by omega),qc9 hx,Option.bind_some,k1,Option.bind_some,if_pos c,qg9 (by omega)])]
    refine ih (i + 1) (by omega) (fun q hq=>?_)
    rw [List.take_add_one,hx,List.mem_append] at hq
    rcases hq with hq | hq
    ·exact h q hq
    ·simp at hq; subst hq; exact k2.1 c
   ·exact ⟨_,qe9 (r:=.inl e) (by simp only [qq9]; rw [if_pos (by omega),qc9 hx,Option.bind_some,k1,Option.bind_some,if_neg c]),.inl ⟨e,rfl,c,fun hh=>c (k2.2 (hh p hp))⟩⟩
 obtain ⟨r,h1,h2⟩:=key l.length 0 (by omega) (by simp)
 have h1' : wh (qq9 l l (l.length : Int)) 0 = some r:=h1
 unfold qO9
 rw [h1',Option.bind_some]
 rcases h2 with ⟨e,rfl,h3,h4⟩ | ⟨z,rfl,h3⟩
 ·exact ⟨e,rfl,⟨fun h=>absurd h h3,fun h=>absurd h h4⟩⟩
 ·exact ⟨0,rfl,⟨fun _=>h3,fun _=>rfl⟩⟩
end Ld.Law
namespace Ld.Law
open Go Go.Abs
theorem u8_id {n : Int} (h1 : 0≤n) (h2 : n < 256) : IntKind.u8.wrap n = n:=by
 simp only [IntKind.wrap,IntKind.bits,IntKind.signed,Bool.false_and,Bool.false_eq_true,if_false]
 omega
theorem qyT9 {e : Ex} (hs : Sm e) (h : ∀ n∈e,0≤n∧n < 256) : qgU9 e = some (qbx9 e):=by
 unfold Sm at hs
 have hw:=fun i (hi : i < e.length)=>qg9 (i:=i) (by omega)
 have loop : wh (qcE9 e ({ data:=#[] }) e (e.length : Int)) (((0 : Nat) : Int),e.take 0++List.replicate (e.length - 0) (0 : Int)) = some ((e.length : Int),e):=by
  refine wh_up (step:=qcE9 e ({ data:=#[] }) e (e.length : Int)) (fun i=>((i : Int),e.take i++List.replicate (e.length - i) (0 : Int))) (n:=e.length) (fun i hi=>?_) ?_ e.length 0 (by omega)
  ·have hx : e[i]? = some (e[i]'hi):=List.getElem?_eq_getElem _
   have hb:=h _ (List.mem_of_getElem? hx)
   have h0 : (e.take i++List.replicate (e.length - i) (0 : Int))[i]? = some 0:=by
    rw [List.getElem?_append_right (by rw [List.length_take]; omega),List.length_take,Nat.min_eq_left (by omega),Nat.sub_self,List.getElem?_replicate,if_pos (by omega)]
   simp only [qcE9]
   rw [if_pos (by omega),qc9 hx,Option.bind_some,qc9 h0,Option.bind_some,u8_id hb.1 hb.2,hw i hi,Int.toNat_natCast]
   congr 2
   rw [Prod.mk.injEq]
   refine ⟨rfl,?_⟩
   rw [List.set_append,if_neg (by rw [List.length_take]; omega),List.length_take,Nat.min_eq_left (by omega),Nat.sub_self,show e.length - i = (e.length - (i + 1)) + 1 by omega,List.replicate_succ,List.set_cons_zero,List.take_add_one,hx,List.append_assoc]
   rfl
  ·simp only [qcE9]
   rw [if_neg (by omega)]
   simp
 unfold qgU9
 rw [if_pos (by omega),if_pos (by omega)]
 have loop' : wh (qcE9 e ({ data:=#[] }) e (e.length : Int)) (0,List.replicate ((e.length : Int)).toNat (0 : Int)) = some ((e.length : Int),e):=by
  have:=loop
  simp only [List.take_zero,List.nil_append,Nat.sub_zero] at this
  rw [Int.toNat_natCast]
  exact this
 rw [loop',Option.bind_some]
theorem qxe9 {a b : Int} (ha : 0≤a∧a < 256) (hb : 0≤b∧b < 256) (h : UInt8.ofNat a.toNat = UInt8.ofNat b.toNat) : a = b:=by
 have:=congrArg UInt8.toNat h
 simp only [UInt8.toNat_ofNat'] at this
 omega
theorem qrQ9 {a b : Ex} (ha : ∀ n∈a,0≤n∧n < 256) (hb : ∀ n∈b,0≤n∧n < 256) (h : qbx9 a = qbx9 b) : a = b:=by
 have h1 : a.map (fun n=>UInt8.ofNat n.toNat) = b.map (fun n=>UInt8.ofNat n.toNat):=by
  have:=congrArg (fun s : ByteArray=>s.data.toList) h
  simpa [qbx9] using this
 clear h
 induction a generalizing b with
 | nil=>cases b with
  | nil=>rfl
  | cons y b=>simp at h1
 | cons x a ih =>
  cases b with
  | nil=>simp at h1
  | cons y b =>
   simp only [List.map_cons,List.cons.injEq] at h1
   rw [qxe9 (ha x List.mem_cons_self) (hb y List.mem_cons_self) h1.1,ih (fun n hn=>ha n (List.mem_cons_of_mem _ hn)) (fun n hn=>hb n (List.mem_cons_of_mem _ hn)) h1.2]
theorem qkO9 (m : Mono) (l : List Mono) : (insMo m l).Perm (m::l):=by
 induction l with
 | nil=>exact List.Perm.refl _
 | cons x l ih =>
  unfold insMo
  split
  ·exact List.Perm.refl _
  ·exact (List.Perm.cons x ih).trans (List.Perm.swap m x l)
theorem sortMo_perm (l : List Mono) : (qcB9 l).Perm l:=by
 induction l with
 | nil=>exact List.Perm.refl _
 | cons x l ih=>exact (qkO9 x _).trans (List.Perm.cons x ih)
theorem qsM9 {m : Mono} {l : List Mono} (hl : l.Pairwise fun a b=>ltE a.Exps b.Exps) (he : ExOK m.Exps) (hle : ∀ x∈l,ExOK x.Exps) (hn : ∀ x∈l,x.Exps ≠ m.Exps) : (insMo m l).Pairwise fun a b=>ltE a.Exps b.Exps:=by
 induction l with
 | nil=>simp [insMo]
 | cons x l ih =>
  have h1:=List.pairwise_cons.1 hl
  unfold insMo
  by_cases c : ltE m.Exps x.Exps
  ·rw [if_pos c]
   refine List.pairwise_cons.2 ⟨fun y hy=>?_,hl⟩
   rcases List.mem_cons.1 hy with rfl | hy
   ·exact c
   ·exact ltE_trans c (h1.1 y hy)
  ·rw [if_neg c]
   have hxm : ltE x.Exps m.Exps:=by
    rcases ltE_tri he (hle x List.mem_cons_self) with h | h | h
    ·exact absurd h c
    ·exact absurd h.symm (hn x List.mem_cons_self)
    ·exact h
   refine List.pairwise_cons.2 ⟨fun y hy=>?_,ih h1.2 (fun y hy=>hle y (List.mem_cons_of_mem _ hy)) (fun y hy=>hn y (List.mem_cons_of_mem _ hy))⟩
   rcases List.mem_cons.1 ((qkO9 m l).mem_iff.1 hy) with rfl | hy
   ·exact hxm
   ·exact h1.1 y hy
theorem sortMo_rise {l : List Mono} (he : ∀ x∈l,ExOK x.Exps) (hn : (l.map (·.Exps)).Nodup) : (qcB9 l).Pairwise fun a b=>ltE a.Exps b.Exps:=by
 induction l with
 | nil=>exact List.Pairwise.nil
 | cons x l ih =>
  rw [List.map_cons,List.nodup_cons] at hn
  refine qsM9 (ih (fun y hy=>he y (List.mem_cons_of_mem _ hy)) hn.2) (he x List.mem_cons_self) (fun y hy=>he y (List.mem_cons_of_mem _ ((sortMo_perm l).mem_iff.1 hy))) (fun y hy e=>hn.1 ?_)
  exact List.mem_map.2 ⟨y,(sortMo_perm l).mem_iff.1 hy,e⟩
theorem qAe9 {l m : List (Nat × Ex)} (h : l.Perm m) (φ : Ex→Nat) : W l φ = W m φ:=(h.map _).sum_nat
structure BagR (L : List (ByteArray × Mono)) (p : List (Nat × Ex)) : Prop where
 key : ∀ x∈L,x.1 = qbx9 x.2.Exps
 fm : ∀ x∈L,FormOK x.2
 mt : ∀ x∈L,MonoT x.2
 bd : ∀ x∈L,BdOK x.2
 nd : (L.map (·.2.Exps)).Nodup
 w : ∀ φ,W p φ = W (L.map fun x=>toM x.2) φ
 ok : PolyOK p
def fromP (p : List (Nat × Ex)) : List Mono:=p.map fun x=>⟨toL x.1,x.2⟩
theorem qmz9 {q : List Mono} (hf : ∀ m∈q,FormOK m) (ht : ∀ m∈q,MonoT m) : fromP (q.map toM) = q:=by
 unfold fromP
 rw [List.map_map]
 conv=>rhs; rw [← List.map_id q]
 refine List.map_congr_left (fun m hm=>?_)
 show Mono.mk (toL (natV m.Coef)) m.Exps = m
 rw [qeg9 (ht m hm).lc (hf m hm).rt.2]
theorem qoc9 {m : Mono} (hf : FormOK m) (hb : BdOK m) : ∀ n∈m.Exps,0≤n∧n < 256:=fun n hn=>⟨hf.ex.1 n hn,by have:=hb.2.2 n hn; omega⟩
theorem BagR.sorted {L : List (ByteArray × Mono)} {p : List (Nat × Ex)} (h : BagR L p) : (qcB9 (L.map (·.2))).map toM = p∧qcB9 (L.map (·.2)) = fromP p∧p.length = L.length:=by
 have hp:=sortMo_perm (L.map (·.2))
 have hmem : ∀ m∈qcB9 (L.map (·.2)),∃ x∈L,x.2 = m:=fun m hm=>by
  obtain ⟨x,hx,rfl⟩:=List.mem_map.1 (hp.mem_iff.1 hm)
  exact ⟨x,hx,rfl⟩
 have hok : PolyOK ((qcB9 (L.map (·.2))).map toM):=by
  refine ⟨?_,fun x hx=>?_,fun x hx=>?_⟩
  ·rw [List.pairwise_map]
   refine sortMo_rise (fun m hm=>?_) (by rw [List.map_map]; exact h.nd)
   obtain ⟨x,hx,rfl⟩:=List.mem_map.1 hm
   exact (h.fm x hx).ex
  ·obtain ⟨m,hm,rfl⟩:=List.mem_map.1 hx
   obtain ⟨y,hy,rfl⟩:=hmem m hm
   exact qeP9 (h.fm y hy) (h.mt y hy).lc
  ·obtain ⟨m,hm,rfl⟩:=List.mem_map.1 hx
   obtain ⟨y,hy,rfl⟩:=hmem m hm
   exact (h.fm y hy).ex
 have e : (qcB9 (L.map (·.2))).map toM = p:=qeJ9 hok h.ok (fun φ=>by
  rw [h.w,qAe9 (hp.map toM),List.map_map]; rfl)
 refine ⟨e,?_,?_⟩
 ·rw [← e,qmz9 (fun m hm=>by obtain ⟨y,hy,rfl⟩:=hmem m hm; exact h.fm y hy) (fun m hm=>by obtain ⟨y,hy,rfl⟩:=hmem m hm; exact h.mt y hy)]
 ·rw [← e,List.length_map,hp.length_eq,List.length_map]
theorem BagR.told {L : List (ByteArray × Mono)} {p : List (Nat × Ex)} (h : BagR L p) (hl : L.length≤1048576) : toldP L = some (fromP p):=by
 unfold toldP
 rw [if_pos,h.sorted.2.1]
 refine ⟨by simpa using hl,fun m hm=>?_,by rw [List.map_map]; exact h.nd⟩
 obtain ⟨x,hx,rfl⟩:=List.mem_map.1 hm
 exact ⟨⟨(h.mt x hx).sc,(h.mt x hx).se⟩,(h.fm x hx).ex,(h.bd x hx).2.2⟩
theorem qpG9 : BagR [] []:=⟨(fun x hx=>nomatch hx),(fun x hx=>nomatch hx),(fun x hx=>nomatch hx),(fun x hx=>nomatch hx),by simp,fun φ=>rfl,qdk9⟩
theorem qtM9 {L : List (ByteArray × Mono)} {k : ByteArray} {m : Mono} (h : mget L k = some m) : ∃ a b k',L = a++(k',m)::b∧k' = k∧∀ v,mset L k v = a++(k,v)::b:=by
 induction L with
 | nil=>cases h
 | cons x L ih =>
  obtain ⟨k',u⟩:=x
  unfold mget at h
  by_cases c : k = k'
  ·rw [if_pos c] at h
   cases h
   exact ⟨[],L,k',rfl,c.symm,fun v=>by simp [mset,c]⟩
  ·rw [if_neg c] at h
   obtain ⟨a,b,k2,rfl,h2,h3⟩:=ih h
   exact ⟨(k',u)::a,b,k2,rfl,h2,fun v=>by simp [mset,c,h3]⟩
theorem qvb9 {L : List (ByteArray × Mono)} {k : ByteArray} (h : mget L k = none) : (∀ x∈L,x.1 ≠ k)∧∀ v,mset L k v = L++[(k,v)]:=by
 induction L with
 | nil=>exact ⟨(fun x hx=>nomatch hx),fun v=>rfl⟩
 | cons x L ih =>
  obtain ⟨k',u⟩:=x
  unfold mget at h
  by_cases c : k = k'
  ·rw [if_pos c] at h; cases h
  ·rw [if_neg c] at h
   obtain ⟨h1,h2⟩:=ih h
   refine ⟨fun x hx=>?_,fun v=>by simp [mset,c,h2]⟩
   rcases List.mem_cons.1 hx with rfl | hx
   ·exact fun e=>c e.symm
   ·exact h1 x hx
theorem qxm9 {p : List (Nat × Ex)} {x z : Nat × Ex} (h : z∈putP p x) : z = x∨z∈p∨∃ y∈p,y.2 = x.2∧z = (y.1 + x.1,y.2):=by
 induction p with
 | nil=>simp [putP] at h; exact .inl h
 | cons y l ih =>
  unfold putP at h
  by_cases c : x.2 = y.2
  ·rw [if_pos c] at h
   rcases List.mem_cons.1 h with rfl | h
   ·exact .inr (.inr ⟨y,List.mem_cons_self,c.symm,rfl⟩)
   ·exact .inr (.inl (List.mem_cons_of_mem _ h))
  ·rw [if_neg c] at h
   by_cases d : ltE x.2 y.2
   ·rw [if_pos d] at h
    rcases List.mem_cons.1 h with rfl | h
    ·exact .inl rfl
    ·exact .inr (.inl h)
   ·rw [if_neg d] at h
    rcases List.mem_cons.1 h with rfl | h
    ·exact .inr (.inl List.mem_cons_self)
    ·rcases ih h with h | h | ⟨u,h1,h2⟩
     ·exact .inl h
     ·exact .inr (.inl (List.mem_cons_of_mem _ h))
     ·exact .inr (.inr ⟨u,List.mem_cons_of_mem _ h1,h2⟩)
theorem qup9 {p : List (Nat × Ex)} {x : Nat × Ex} (ho : PolyOK p) (h0 : 0 < x.1) (he : ExOK x.2) (hp : InB p) (hx : SmallM x) : InB (putP p x)↔(putP p x).length≤256∧∀ y∈p,y.2 = x.2→y.1 + x.1 < lw ^ 64:=by
 constructor
 ·intro h
  refine ⟨h.1,fun y hy e=>?_⟩
  obtain ⟨z,hz,hze,_⟩:=qrm9 p x
  have c1:=cf_of (qik9 ho h0 he).nodup hz
  have c2 : cf (putP p x) x.2 = cf p x.2 + x.1:=by
   unfold cf; rw [W_put]; simp [dl]
  have c3:=cf_of ho.nodup hy
  rw [e] at c3
  rw [hze,c2,c3] at c1
  rw [c1]
  exact (h.2 z hz).1
 ·rintro ⟨h1,h2⟩
  refine ⟨h1,fun z hz=>?_⟩
  rcases qxm9 hz with rfl | h | ⟨y,hy,e,rfl⟩
  ·exact hx
  ·exact hp.2 z h
  ·exact ⟨h2 y hy e,(hp.2 y hy).2⟩
open Classical in
theorem quP9 {L : List (ByteArray × Mono)} {p : List (Nat × Ex)} (h : BagR L p) (hp : InB p) {m : Mono} (hf : FormOK m) (ht : MonoT m) :
  ∃ L',qdS9 m.Coef m.Exps L = some (decide (SmallM (toM m)∧InB (putP p (toM m))),L')∧(SmallM (toM m)∧InB (putP p (toM m))→BagR L' (putP p (toM m))):=by
 have hpos:=qeP9 hf ht.lc
 have hbi:=qkQ9 hf ht.lc
 have eta : Mono.mk m.Coef m.Exps = m:=rfl
 unfold qdS9
 rw [eta,qko9 ht.se,Option.bind_some]
 by_cases hb : BdOK m
 rotate_left
 ·have hn : ¬ (SmallM (toM m)∧InB (putP p (toM m))):=fun hh=>hb (hbi.2 hh.1)
  rw [if_neg (by simpa using hb)]
  exact ⟨L,by rw [decide_eq_false hn],fun hh=>absurd hh hn⟩
 have hsm:=hbi.1 hb
 have hby:=qoc9 hf hb
 rw [if_pos (decide_eq_true hb),qyT9 ht.se hby,Option.bind_some]
 have hsp:=qup9 (x:=toM m) h.ok hpos hf.ex hp hsm
 have hokp:=qik9 (x:=toM m) h.ok hpos hf.ex
 have hlenL:=h.sorted.2.2
 cases hg : mget L (qbx9 m.Exps) with
 | none =>
  obtain ⟨g1,g2⟩:=qvb9 hg
  have hnew : ∀ x∈L,x.2.Exps ≠ m.Exps:=fun x hx e=>g1 x hx (by rw [h.key x hx,e])
  have hR : BagR (L++[(qbx9 m.Exps,m)]) (putP p (toM m)):=by
   have all : ∀ {Q : ByteArray × Mono→Prop},(∀ x∈L,Q x)→Q (qbx9 m.Exps,m)→∀ x∈L++[(qbx9 m.Exps,m)],Q x:=fun h1 h2 x hx=>by
    rcases List.mem_append.1 hx with hx | hx
    ·exact h1 x hx
    ·rw [List.mem_singleton.1 hx]; exact h2
   refine ⟨all h.key rfl,all h.fm hf,all h.mt ht,all h.bd hb,?_,fun φ=>?_,hokp⟩
   ·rw [List.map_append,List.nodup_append]
    refine ⟨h.nd,by simp,fun a ha b hbm=>?_⟩
    obtain ⟨x,hx,rfl⟩:=List.mem_map.1 ha
    simp at hbm
    rw [hbm]
    exact hnew x hx
   ·rw [W_put,h.w,List.map_append,W_app]
    simp [W]
  have hlen : (putP p (toM m)).length = (L++[(qbx9 m.Exps,m)]).length:=hR.sorted.2.2
  simp only [eta]
  rw [g2]
  refine ⟨_,?_,fun _=>hR⟩
  congr 2
  rw [hsp,hlen]
  have hno : ∀ y∈p,y.2 = (toM m).2→y.1 + (toM m).1 < lw ^ 64:=fun y hy e=>by
   exfalso
   have h1:=(qgR9 h.ok.pos (e:=y.2)).2 ⟨y,hy,rfl⟩
   unfold cf at h1
   rw [h.w] at h1
   have h2 : cf (L.map fun x=>toM x.2) y.2 = 0:=qjR9 (fun z hz=>by
    obtain ⟨x,hx,rfl⟩:=List.mem_map.1 hz
    rw [e]
    exact hnew x hx)
   unfold cf at h2
   omega
  rw [decide_eq_decide]
  exact ⟨fun hh=>⟨hsm,by omega,hno⟩,fun hh=>by have:=hh.2.1; omega⟩
 | some u =>
  obtain ⟨a,b,k',rfl,rfl,g3⟩:=qtM9 hg
  have hu : (qbx9 m.Exps,u)∈a++(qbx9 m.Exps,u)::b:=by simp
  have hfu:=h.fm _ hu
  have htu:=h.mt _ hu
  have hbu:=h.bd _ hu
  have heu : u.Exps = m.Exps:=(qrQ9 hby (qoc9 hfu hbu) (h.key _ hu)).symm
  -- the entry in p
  have hcu : ∃ y∈p,y.2 = m.Exps∧y.1 = natV u.Coef:=by
   have hs:=h.sorted
   have hmem : u∈qcB9 ((a++(qbx9 m.Exps,u)::b).map (·.2)):=(sortMo_perm _).mem_iff.2 (List.mem_map.2 ⟨_,hu,rfl⟩)
   refine ⟨toM u,by rw [← hs.1]; exact List.mem_map.2 ⟨u,hmem,rfl⟩,heu,rfl⟩
  obtain ⟨y,hy,hye,hyc⟩:=hcu
  have huniq : ∀ z∈p,z.2 = m.Exps→z.1 = natV u.Coef:=fun z hz e=>by
   have c1:=cf_of h.ok.nodup hz
   have c2:=cf_of h.ok.nodup hy
   rw [e] at c1
   rw [hye] at c2
   omega
  simp only []
  rw [qtJ9 htu.sc ht.sc htu.lc ht.lc,Option.bind_some]
  have hadd : addR u.Coef m.Coef = if natV u.Coef + natV m.Coef < lw ^ 64 then (toL (natV u.Coef + natV m.Coef),0) else ([],2):=if_pos ⟨hfu.rt,hf.rt⟩
  rw [hadd]
  by_cases hc : natV u.Coef + natV m.Coef < lw ^ 64
  rotate_left
  ·have hn : ¬ (SmallM (toM m)∧InB (putP p (toM m))):=fun hh=>hc (by
    have:=(hsp.1 hh.2).2 y hy hye
    rw [hyc] at this
    exact this)
   rw [if_neg hc]
   exact ⟨_,by rw [decide_eq_false hn]; rfl,fun hh=>absurd hh hn⟩
  have hl64:=qbQ9.2 hc
  rw [if_pos hc]
  simp only []
  rw [if_pos trivial,if_neg (by omega),g3]
  have hRt : RtOK (toL (natV u.Coef + natV m.Coef)):=⟨hl64,qjJ9 _⟩
  have hne : toL (natV u.Coef + natV m.Coef) ≠ []:=fun e=>by
   have:=qbZ9 (natV u.Coef + natV m.Coef)
   rw [e] at this
   simp only [natV] at this
   omega
  have hR : BagR (a++(qbx9 m.Exps,Mono.mk (toL (natV u.Coef + natV m.Coef)) m.Exps)::b) (putP p (toM m)):=by
   have all : ∀ {Q : ByteArray × Mono→Prop},(∀ x∈a++(qbx9 m.Exps,u)::b,Q x)→Q (qbx9 m.Exps,Mono.mk (toL (natV u.Coef + natV m.Coef)) m.Exps)→∀ x∈a++(qbx9 m.Exps,Mono.mk (toL (natV u.Coef + natV m.Coef)) m.Exps)::b,Q x:=fun h1 h2 x hx=>by
    rcases List.mem_append.1 hx with hx | hx
    ·exact h1 x (List.mem_append.2 (.inl hx))
    ·rcases List.mem_cons.1 hx with rfl | hx
     ·exact h2
     ·exact h1 x (List.mem_append.2 (.inr (List.mem_cons_of_mem _ hx)))
   refine ⟨all h.key rfl,all h.fm ⟨hRt,hne,hf.ex⟩,all h.mt ⟨qgH9 _,by unfold Sm; exact Nat.le_trans hl64 (by decide),ht.se,ht.ie⟩,all h.bd ⟨hl64,hb.2⟩,?_,fun φ=>?_,hokp⟩
   ·have:=h.nd
    simp only [List.map_append,List.map_cons,heu] at this ⊢
    exact this
   ·rw [W_put,h.w]
    simp only [List.map_append,List.map_cons,W_app,qdA9,toM,qbZ9,heu,Nat.add_mul]
    omega
  have hlen:=hR.sorted.2.2
  refine ⟨_,?_,fun _=>hR⟩
  congr 2
  rw [hsp,hlen,decide_eq_decide]
  exact ⟨fun hh=>⟨hsm,by omega,fun z hz e=>by rw [huniq z hz e]; exact hc⟩,fun hh=>by have:=hh.2.1; omega⟩
end Ld.Law
namespace Ld.Law
open Go Go.Abs
theorem quT9 {a b : List Mono} (h : a.length + b.length≤4194304) : qV9 [a,b] = some (a++b):=by
 have i0 : idx [a,b] 0 = some a:=rfl
 have i1 : idx [a,b] 1 = some b:=rfl
 have w0 : w64 ((0 : Int) + 1) = 1:=rfl
 have w1 : w64 ((1 : Int) + 1) = 2:=rfl
 have v0 : w64 ((0 : Int) + (a.length : Int)) = (a.length : Int):=by rw [qh9 (by omega) (by omega)]; omega
 have v1 : w64 ((a.length : Int) + (b.length : Int)) = ((a.length + b.length : Nat) : Int):=by rw [qh9 (by omega) (by omega)]; omega
 have l0 : wh (qy9 [a,b] [] [a,b] ((2 : Nat) : Int)) (0,0) = some (((a.length + b.length : Nat) : Int),2):=by
  rw [qf9 (s':=((a.length : Int),1)) (by simp only [qy9]; rw [if_pos (by omega),i0]; simp only [Option.bind_some,v0,w0]; rw [if_neg (by omega)])]
  rw [qf9 (s':=(((a.length + b.length : Nat) : Int),2)) (by simp only [qy9]; rw [if_pos (by omega),i1]; simp only [Option.bind_some,v1,w1]; rw [if_neg (by omega)])]
  exact qe9 (by simp only [qy9]; rw [if_neg (by omega)])
 have l1 : ∀ x y : Int,wh (qx9 [a,b] [] x [a,b] ((2 : Nat) : Int) y [a,b] ((2 : Nat) : Int)) (0,[]) = some (2,a++b):=by
  intro x y
  rw [qf9 (s':=(1,a)) (by simp only [qx9]; rw [if_pos (by omega),i0]; simp only [Option.bind_some,w0,List.nil_append]; rw [if_pos (by rw [List.length_nil]; omega)])]
  rw [qf9 (s':=(2,a++b)) (by simp only [qx9]; rw [if_pos (by omega),i1]; simp only [Option.bind_some,w1]; rw [if_pos (by omega)])]
  exact qe9 (by simp only [qx9]; rw [if_neg (by omega)])
 simp only [qV9,List.length_cons,List.length_nil,Nat.zero_add,Nat.reduceAdd,l0,Option.bind_some]
 rw [if_pos ⟨by omega,by omega⟩,l1]
 rfl
open Classical in
theorem qtR9 {p q l : List Mono} {s4 : List Mono} {s6 : Int} (hl : l.length≤1048576) (hf : ∀ m∈l,FormOK m) (ht : ∀ m∈l,MonoT m) : ∀ (n i : Nat) (L : List (ByteArray × Mono)) (P : List (Nat × Ex)),i + n = l.length→BagR L P→InB P →
  ∃ r,wh (qbX9 p q s4 s6 l (l.length : Int)) ((i : Int),L) = some r∧(match foldO P ((l.drop i).map toM) with | none=>r = .inl ([],2) | some R=>∃ z L',r = .inr (z,L')∧BagR L' R∧InB R):=by
 intro n
 induction n with
 | zero =>
  intro i L P hi hR hB
  obtain rfl : i = l.length:=by omega
  refine ⟨_,qe9 (r:=.inr ((l.length : Int),L)) (by simp only [qbX9]; rw [if_neg (by omega)]),?_⟩
  rw [List.drop_length]
  exact ⟨_,L,rfl,hR,hB⟩
 | succ n ih =>
  intro i L P hi hR hB
  have hx : l[i]? = some (l[i]'(by omega)):=List.getElem?_eq_getElem _
  have hd : l.drop i = l[i]'(by omega)::l.drop (i + 1):=List.drop_eq_getElem_cons (by omega)
  generalize l[i]'(by omega) = m at hx hd
  have hm:=List.mem_of_getElem? hx
  obtain ⟨L',k1,k2⟩:=quP9 hR hB (hf m hm) (ht m hm)
  rw [hd,List.map_cons]
  have hfo : foldO P (toM m::(l.drop (i + 1)).map toM) = (putO P (toM m)).bind fun r=>foldO r ((l.drop (i + 1)).map toM):=rfl
  rw [hfo]
  by_cases c : SmallM (toM m)∧InB (putP P (toM m))
  ·have hpo : putO P (toM m) = some (putP P (toM m)):=if_pos c
   rw [hpo,Option.bind_some,qf9 (s':=(((i + 1 : Nat) : Int),L')) (by
    simp only [qbX9]
    rw [if_pos (by omega),qc9 hx,Option.bind_some,k1,Option.bind_some,if_pos (decide_eq_true c),qg9 (by omega)])]
   exact ih (i + 1) L' _ (by omega) (k2 c) c.2
  ·have hpo : putO P (toM m) = none:=if_neg c
   rw [hpo,Option.bind_none]
   refine ⟨_,qe9 (r:=.inl ([],2)) (by
    simp only [qbX9]
    rw [if_pos (by omega),qc9 hx,Option.bind_some,k1,Option.bind_some,if_neg (by simpa using c)]),rfl⟩
theorem qgn9 : InB []:=⟨by simp,(fun x hx=>nomatch hx)⟩
theorem PolyV.len {p : List Mono} (h : PolyV p) : p.length≤256:=by have:=h.bd.1; simpa using this
open Classical in
noncomputable def addM (p q : List Mono) : List Mono × Int:=if InB (addP (p.map toM) (q.map toM)) then (fromP (addP (p.map toM) (q.map toM)),0) else ([],2)
theorem Add_p {p q : List Mono} (hp : PolyT p) (hq : PolyT q) (vp : PolyV p) (vq : PolyV q) : qbA9 p q = some (addM p q):=by
 obtain ⟨e,h1,h2⟩:=qdj9 (l:=[p,q]) (by simp) (fun x hx=>by simp at hx; rcases hx with rfl | rfl <;> assumption)
 have he : e = 0:=h2.2 (fun x hx=>by simp at hx; rcases hx with rfl | rfl <;> assumption)
 subst he
 have l1:=vp.len
 have l2:=vq.len
 unfold qbA9
 rw [h1,Option.bind_some,if_pos rfl,quT9 (by omega),Option.bind_some]
 obtain ⟨r,k1,k2⟩:=qtR9 (p:=p) (q:=q) (l:=p++q) (s4:=[]) (s6:=0) (by rw [List.length_append]; omega) (fun m hm=>by rcases List.mem_append.1 hm with h | h; exact vp.fm m h; exact vq.fm m h) (fun m hm=>by rcases List.mem_append.1 hm with h | h; exact hp.2 m h; exact hq.2 m h) (p++q).length 0 [] [] (by omega) qpG9 qgn9
 have k1' : wh (qbX9 p q ([] : List Mono) 0 (p++q) ((p++q).length : Int)) (0,([] : List (ByteArray × Mono))) = some r:=k1
 rw [k1',Option.bind_some]
 rw [List.drop_zero,qnQ9 _ _ qgn9,List.map_append,List.foldl_append,qtd9 vp.ok] at k2
 show _ = some (addM p q)
 have e1 : (q.map toM).foldl putP (p.map toM) = addP (p.map toM) (q.map toM):=rfl
 rw [e1] at k2
 unfold addM
 by_cases c : InB (addP (p.map toM) (q.map toM))
 ·rw [if_pos c] at k2 ⊢
  obtain ⟨z,L',rfl,k3,k4⟩:=k2
  simp only []
  rw [k3.told (by have:=k3.sorted.2.2; have:=k4.1; omega),Option.bind_some]
 ·rw [if_neg c] at k2 ⊢
  rw [k2]
theorem qbB9 {P : List (Nat × Ex)} : (fromP P).map toM = P:=by
 unfold fromP
 rw [List.map_map]
 conv=>rhs; rw [← List.map_id P]
 refine List.map_congr_left (fun x _=>?_)
 show (natV (toL x.1),x.2) = x
 rw [qbZ9]
theorem qcb9 {P : List (Nat × Ex)} (h : PolyOK P) (hb : InB P) : PolyV (fromP P)∧PolyT (fromP P):=by
 have hf : ∀ m∈fromP P,FormOK m∧MonoT m:=fun m hm=>by
  obtain ⟨x,hx,rfl⟩:=List.mem_map.1 hm
  have hs:=hb.2 x hx
  have hl:=qbQ9.2 hs.1
  have hp:=h.pos x hx
  have he:=h.ex x hx
  have hne : toL x.1 ≠ []:=fun e=>by
   have:=qbZ9 x.1
   rw [e] at this
   simp only [natV] at this
   omega
  refine ⟨⟨⟨hl,qjJ9 _⟩,hne,he⟩,⟨qgH9 _,Nat.le_trans hl (by decide),Nat.le_trans hs.2.1 (by decide),fun n hn=>?_⟩⟩
  have h1:=he.1 n hn
  have h2:=hs.2.2 n hn
  exact ⟨by omega,by omega⟩
 exact ⟨⟨fun m hm=>(hf m hm).1,by rw [qbB9]; exact h,by rw [qbB9]; exact hb⟩,⟨by have:=hb.1; unfold fromP; rw [List.length_map]; omega,fun m hm=>(hf m hm).2⟩⟩
theorem qwR9 : ∀ {s l : Ex} {i : Nat} {x y : Int},s[i]? = some x→l[i]? = some y→addE (s.take (i + 1)) l = (addE (s.take i) l).set i (y + x)∧(addE (s.take i) l)[i]? = some y:=by
 intro s
 induction s with
 | nil=>intro l i x y h; simp at h
 | cons a s ih =>
  intro l i x y h1 h2
  cases l with
  | nil=>simp at h2
  | cons b l =>
   cases i with
   | zero =>
    simp at h1 h2
    subst h1 h2
    simp only [List.take_succ_cons,List.take_zero,addE]
    exact ⟨by rw [Int.add_comm]; rfl,rfl⟩
   | succ i =>
    obtain ⟨k1,k2⟩:=ih (l:=l) (i:=i) (by simpa using h1) (by simpa using h2)
    simp only [List.take_succ_cons,addE,List.set_cons_succ,List.getElem?_cons_succ]
    rw [k1]
    exact ⟨rfl,k2⟩
theorem qlx9 {A B : Mono} {c : List Int} {e : Int} {s l b1 b3 b4a b4b : List Int} {b2 : List Int} (hl : l.length≤1048576) (hsl : s.length≤l.length) (hs : ∀ n∈s,0≤n∧n≤64) (hll : ∀ n∈l,0≤n∧n≤64) : wh (qcf9 A B c e s (s.length : Int) b1 b2 b3 b4a b4b []) (0,l) = some ((s.length : Int),addE s l):=by
 have:=wh_up (step:=qcf9 A B c e s (s.length : Int) b1 b2 b3 b4a b4b []) (fun i=>((i : Int),addE (s.take i) l)) (n:=s.length) (r:=((s.length : Int),addE s l)) (fun i hi=>?_) ?_ s.length 0 (by omega)
 ·simpa [addE] using this
 ·have hx : s[i]? = some (s[i]'hi):=List.getElem?_eq_getElem _
  have hy : l[i]? = some (l[i]'(by omega)):=List.getElem?_eq_getElem _
  have h1:=hs _ (List.mem_of_getElem? hx)
  have h2:=hll _ (List.mem_of_getElem? hy)
  obtain ⟨k1,k2⟩:=qwR9 hx hy
  simp only [qcf9]
  rw [if_pos (by omega),qc9 hx,Option.bind_some,qc9 k2,Option.bind_some,qg9 (by omega),qh9 (by omega) (by omega),Int.toNat_natCast,k1]
 ·simp only [qcf9]
  rw [if_neg (by omega),List.take_length]
theorem qvL9 {x y : Mono} (hx : FormOK x) (hy : FormOK y) (tx : MonoT x) (ty : MonoT y) (bx : BdOK x) (by_ : BdOK y) :
  qfO9 x y = some (if natV x.Coef * natV y.Coef < lw ^ 64 then (Mono.mk (toL (natV x.Coef * natV y.Coef)) (addE x.Exps y.Exps),true) else (Mono.mk [] (addE x.Exps y.Exps),false)):=by
 have ex : ∀ n∈x.Exps,0≤n∧n≤64:=fun n hn=>⟨hx.ex.1 n hn,bx.2.2 n hn⟩
 have ey : ∀ n∈y.Exps,0≤n∧n≤64:=fun n hn=>⟨hy.ex.1 n hn,by_.2.2 n hn⟩
 have lx:=bx.2.1
 have ly:=by_.2.1
 have hm : mulR x.Coef y.Coef = if natV x.Coef * natV y.Coef < lw ^ 64 then (toL (natV x.Coef * natV y.Coef),0) else ([],2):=if_pos ⟨hx.rt,hy.rt⟩
 unfold qfO9
 rw [qus9 tx.sc ty.sc tx.lc ty.lc,Option.bind_some,hm]
 have fin : ∀ E : Ex,E = addE x.Exps y.Exps→some ((Mono.mk (if natV x.Coef * natV y.Coef < lw ^ 64 then (toL (natV x.Coef * natV y.Coef),(0 : Int)) else ([],2)).1 E),decide ((if natV x.Coef * natV y.Coef < lw ^ 64 then (toL (natV x.Coef * natV y.Coef),(0 : Int)) else ([],2)).2 = 0)) = some (if natV x.Coef * natV y.Coef < lw ^ 64 then (Mono.mk (toL (natV x.Coef * natV y.Coef)) (addE x.Exps y.Exps),true) else (Mono.mk [] (addE x.Exps y.Exps),false)):=by
  intro E hE
  rw [hE]
  by_cases c : natV x.Coef * natV y.Coef < lw ^ 64
  ·rw [if_pos c,if_pos c]; rfl
  ·rw [if_neg c,if_neg c]; rfl
 by_cases c : (x.Exps.length : Int) < (y.Exps.length : Int)
 ·rw [if_pos c,if_pos (by omega),qlx9 (by omega) (by omega) ex ey,Option.bind_some]
  exact fin _ rfl
 ·rw [if_neg c,if_pos (by omega),qlx9 (by omega) (by omega) ey ex,Option.bind_some]
  exact fin _ (qvp9 hy.ex hx.ex)
def mulM (x y : Nat × Ex) : Nat × Ex:=(x.1 * y.1,addE x.2 y.2)
open Classical in
theorem qtO9 {p q : List Mono} {s4 : List Mono} {s6 s23 s24 : Int} {s22 : List Mono} {x : Mono} (hx : FormOK x) (tx : MonoT x) (bx : BdOK x) (hq : q.length≤1048576) (hf : ∀ m∈q,FormOK m) (ht : ∀ m∈q,MonoT m) (hb : ∀ m∈q,BdOK m) : ∀ (n i : Nat) (L : List (ByteArray × Mono)) (P : List (Nat × Ex)),i + n = q.length→BagR L P→InB P →
  ∃ r,wh (qbM9 p q s4 s6 s22 s23 s24 q (q.length : Int) x.Coef x.Exps) ((i : Int),L) = some r∧(match foldO P ((q.drop i).map fun y=>mulM (toM x) (toM y)) with | none=>r = .inl ([],2) | some R=>∃ L',r = .inr L'∧BagR L' R∧InB R):=by
 intro n
 induction n with
 | zero =>
  intro i L P hi hR hB
  obtain rfl : i = q.length:=by omega
  refine ⟨_,qe9 (r:=.inr L) (by simp only [qbM9]; rw [if_neg (by omega)]),?_⟩
  rw [List.drop_length]
  exact ⟨L,rfl,hR,hB⟩
 | succ n ih =>
  intro i L P hi hR hB
  have hy : q[i]? = some (q[i]'(by omega)):=List.getElem?_eq_getElem _
  have hd : q.drop i = q[i]'(by omega)::q.drop (i + 1):=List.drop_eq_getElem_cons (by omega)
  generalize q[i]'(by omega) = y at hy hd
  have hm:=List.mem_of_getElem? hy
  have eta : Mono.mk x.Coef x.Exps = x:=rfl
  have hti:=qvL9 hx (hf y hm) tx (ht y hm) bx (hb y hm)
  rw [hd,List.map_cons]
  have hfo : foldO P (mulM (toM x) (toM y)::(q.drop (i + 1)).map fun y=>mulM (toM x) (toM y)) = (putO P (mulM (toM x) (toM y))).bind fun r=>foldO r ((q.drop (i + 1)).map fun y=>mulM (toM x) (toM y)):=rfl
  rw [hfo]
  by_cases c0 : natV x.Coef * natV y.Coef < lw ^ 64
  rotate_left
  ·have hpo : putO P (mulM (toM x) (toM y)) = none:=if_neg (fun h=>c0 h.1.1)
   rw [if_neg c0] at hti
   rw [hpo,Option.bind_none]
   refine ⟨_,qe9 (r:=.inl ([],2)) (by
    simp only [qbM9]
    rw [if_pos (by omega),qc9 hy,Option.bind_some,eta,hti,Option.bind_some]
    rfl),rfl⟩
  rw [if_pos c0] at hti
  have hpx:=qeP9 hx tx.lc
  have hpy:=qeP9 (hf y hm) (ht y hm).lc
  have hpp : 0 < natV x.Coef * natV y.Coef:=Nat.mul_pos hpx hpy
  have hl64:=qbQ9.2 c0
  have hfm : FormOK (Mono.mk (toL (natV x.Coef * natV y.Coef)) (addE x.Exps y.Exps)):=⟨⟨hl64,qjJ9 _⟩,fun e=>by
   have h2:=qbZ9 (natV x.Coef * natV y.Coef)
   have e' : toL (natV x.Coef * natV y.Coef) = []:=e
   rw [e'] at h2
   simp only [natV] at h2
   omega,qhr9 hx.ex (hf y hm).ex⟩
  have hle : (addE x.Exps y.Exps).length≤512:=by rw [qge9]; have:=bx.2.1; have:=(hb y hm).2.1; omega
  have hme : ∀ n∈addE x.Exps y.Exps,0≤n∧n≤128:=fun n hn=>by
   obtain ⟨k,hk⟩:=List.getElem?_of_mem hn
   have h1:=qbw9 hk
   rw [qiw9] at h1
   have up : ∀ (m : Mono),FormOK m→BdOK m→0≤exAt m.Exps k∧exAt m.Exps k≤64:=fun m f b=>by
    refine ⟨qku9 f.ex k,?_⟩
    unfold exAt
    rw [List.getD_eq_getElem?_getD]
    cases hq : m.Exps[k]? with
    | none=>simp
    | some z=>exact b.2.2 z (List.mem_of_getElem? hq)
   have:=up x hx bx
   have:=up y (hf y hm) (hb y hm)
   omega
  have htm : MonoT (Mono.mk (toL (natV x.Coef * natV y.Coef)) (addE x.Exps y.Exps)):=⟨qgH9 _,Nat.le_trans hl64 (by decide),Nat.le_trans hle (by decide),fun n hn=>by have:=hme n hn; exact ⟨by omega,by omega⟩⟩
  obtain ⟨L',k1,k2⟩:=quP9 hR hB hfm htm
  have etm : toM (Mono.mk (toL (natV x.Coef * natV y.Coef)) (addE x.Exps y.Exps)) = mulM (toM x) (toM y):=by
   show (natV (toL (natV x.Coef * natV y.Coef)),addE x.Exps y.Exps) = _
   rw [qbZ9]; rfl
  rw [etm] at k1 k2
  by_cases c : SmallM (mulM (toM x) (toM y))∧InB (putP P (mulM (toM x) (toM y)))
  ·have hpo : putO P (mulM (toM x) (toM y)) = some (putP P (mulM (toM x) (toM y))):=if_pos c
   rw [hpo,Option.bind_some,qf9 (s':=(((i + 1 : Nat) : Int),L')) (by
    simp only [qbM9]
    rw [if_pos (by omega),qc9 hy,Option.bind_some,eta,hti,Option.bind_some,if_pos rfl,k1,Option.bind_some,if_pos (decide_eq_true c),qg9 (by omega)])]
   exact ih (i + 1) L' _ (by omega) (k2 c) c.2
  ·have hpo : putO P (mulM (toM x) (toM y)) = none:=if_neg c
   rw [hpo,Option.bind_none]
   refine ⟨_,qe9 (r:=.inl ([],2)) (by
    simp only [qbM9]
    rw [if_pos (by omega),qc9 hy,Option.bind_some,eta,hti,Option.bind_some,if_pos rfl,k1,Option.bind_some,if_neg (by simpa using c)]),rfl⟩
theorem qvu9 : ∀ (xs ys P : List (Nat × Ex)),foldO P (xs++ys) = (foldO P xs).bind fun r=>foldO r ys:=by
 intro xs
 induction xs with
 | nil=>intro ys P; rfl
 | cons x xs ih =>
  intro ys P
  show (putO P x).bind _ = ((putO P x).bind _).bind _
  cases putO P x with
  | none=>rfl
  | some r=>exact ih ys r
open Classical in
theorem quG9 {p q : List Mono} {s4 : List Mono} {s6 : Int} (hp : p.length≤1048576) (hq : q.length≤1048576) (fp : ∀ m∈p,FormOK m∧MonoT m∧BdOK m) (fq : ∀ m∈q,FormOK m∧MonoT m∧BdOK m) : ∀ (n i : Nat) (L : List (ByteArray × Mono)) (P : List (Nat × Ex)),i + n = p.length→BagR L P→InB P →
  ∃ r,wh (qbW9 p q s4 s6 p (p.length : Int)) ((i : Int),L) = some r∧(match foldO P (mulL ((p.drop i).map toM) (q.map toM)) with | none=>r = .inl ([],2) | some R=>∃ z L',r = .inr (z,L')∧BagR L' R∧InB R):=by
 intro n
 induction n with
 | zero =>
  intro i L P hi hR hB
  obtain rfl : i = p.length:=by omega
  refine ⟨_,qe9 (r:=.inr ((p.length : Int),L)) (by simp only [qbW9]; rw [if_neg (by omega)]),?_⟩
  rw [List.drop_length]
  exact ⟨_,L,rfl,hR,hB⟩
 | succ n ih =>
  intro i L P hi hR hB
  have hx : p[i]? = some (p[i]'(by omega)):=List.getElem?_eq_getElem _
  have hd : p.drop i = p[i]'(by omega)::p.drop (i + 1):=List.drop_eq_getElem_cons (by omega)
  generalize p[i]'(by omega) = x at hx hd
  obtain ⟨f1,f2,f3⟩:=fp x (List.mem_of_getElem? hx)
  obtain ⟨r1,k1,k2⟩:=qtO9 (p:=p) (s4:=s4) (s6:=s6) (s23:=(p.length : Int)) (s24:=(i : Int)) (s22:=p) f1 f2 f3 hq (fun m hm=>(fq m hm).1) (fun m hm=>(fq m hm).2.1) (fun m hm=>(fq m hm).2.2) q.length 0 L P (by omega) hR hB
  have k1' : wh (qbM9 p q s4 s6 p (p.length : Int) (i : Int) q (q.length : Int) x.Coef x.Exps) (0,L) = some r1:=k1
  have hml : mulL ((p.drop i).map toM) (q.map toM) = ((q.map fun y=>mulM (toM x) (toM y)))++mulL ((p.drop (i + 1)).map toM) (q.map toM):=by
   rw [hd]
   unfold mulL
   rw [List.map_cons,List.flatMap_cons,List.map_map]
   rfl
  rw [hml,qvu9]
  rw [List.drop_zero] at k2
  cases hfo : foldO P (q.map fun y=>mulM (toM x) (toM y)) with
  | none =>
   rw [hfo] at k2
   rw [Option.bind_none]
   subst k2
   exact ⟨_,qe9 (r:=.inl ([],2)) (by simp only [qbW9]; rw [if_pos (by omega),qc9 hx,Option.bind_some,k1',Option.bind_some]),rfl⟩
  | some R =>
   rw [hfo] at k2
   obtain ⟨L',rfl,k3,k4⟩:=k2
   rw [Option.bind_some,qf9 (s':=(((i + 1 : Nat) : Int),L')) (by simp only [qbW9]; rw [if_pos (by omega),qc9 hx,Option.bind_some,k1',Option.bind_some,qg9 (by omega)])]
   exact ih (i + 1) L' R (by omega) k3 k4
open Classical in
noncomputable def mulQ (p q : List Mono) : List Mono × Int:=if InB (mulP (p.map toM) (q.map toM)) then (fromP (mulP (p.map toM) (q.map toM)),0) else ([],2)
theorem PolyV.bds {p : List Mono} (h : PolyV p) (ht : PolyT p) : ∀ m∈p,FormOK m∧MonoT m∧BdOK m:=fun m hm=>⟨h.fm m hm,ht.2 m hm,(qkQ9 (h.fm m hm) (ht.2 m hm).lc).2 (h.bd.2 _ (List.mem_map.2 ⟨m,hm,rfl⟩))⟩
theorem Mul_p {p q : List Mono} (hp : PolyT p) (hq : PolyT q) (vp : PolyV p) (vq : PolyV q) : qbv9 p q = some (mulQ p q):=by
 obtain ⟨e,h1,h2⟩:=qdj9 (l:=[p,q]) (by simp) (fun x hx=>by simp at hx; rcases hx with rfl | rfl <;> assumption)
 have he : e = 0:=h2.2 (fun x hx=>by simp at hx; rcases hx with rfl | rfl <;> assumption)
 subst he
 unfold qbv9
 rw [h1,Option.bind_some,if_pos rfl]
 obtain ⟨r,k1,k2⟩:=quG9 (p:=p) (q:=q) (s4:=[]) (s6:=0) hp.1 hq.1 (vp.bds hp) (vq.bds hq) p.length 0 [] [] (by omega) qpG9 qgn9
 have k1' : wh (qbW9 p q ([] : List Mono) 0 p (p.length : Int)) (0,([] : List (ByteArray × Mono))) = some r:=k1
 rw [k1',Option.bind_some]
 rw [List.drop_zero,qnQ9 _ _ qgn9] at k2
 have e1 : (mulL (p.map toM) (q.map toM)).foldl putP [] = mulP (p.map toM) (q.map toM):=rfl
 rw [e1] at k2
 show _ = some (mulQ p q)
 unfold mulQ
 by_cases c : InB (mulP (p.map toM) (q.map toM))
 ·rw [if_pos c] at k2 ⊢
  obtain ⟨z,L',rfl,k3,k4⟩:=k2
  simp only []
  rw [k3.told (by have:=k3.sorted.2.2; have:=k4.1; omega),Option.bind_some]
 ·rw [if_neg c] at k2 ⊢
  rw [k2]
theorem qxz9 {p q : List Mono} (hp : PolyT p) (hq : PolyT q) (h : ¬ (PolyV p∧PolyV q)) : ∃ e,qbv9 p q = some ([],e)∧e ≠ 0:=by
 obtain ⟨e,h1,h2⟩:=qdj9 (l:=[p,q]) (by simp) (fun x hx=>by simp at hx; rcases hx with rfl | rfl <;> assumption)
 have he : e ≠ 0:=fun e0=>h ⟨h2.1 e0 p (by simp),h2.1 e0 q (by simp)⟩
 refine ⟨e,?_,he⟩
 unfold qbv9
 rw [h1,Option.bind_some,if_neg he]
end Ld.Law
namespace Ld.Law
open Go Go.Abs
theorem qyj9 (a b : Int) : qdz9 a b = some (if a < b then -1 else if b < a then 1 else 0):=by
 simp only [qdz9,qek9,Option.bind_some,decide_true,Bool.not_true,Bool.false_eq_true,if_false]
 split
 ·rfl
 ·split <;> rfl
theorem qmp9 (a b : Int) : qcC9 a b = some (if a < b then -1 else if b < a then 1 else 0):=by
 simp only [qcC9,qdd9,Option.bind_some,decide_true,Bool.not_true,Bool.false_eq_true,if_false]
 split
 ·rfl
 ·split <;> rfl
theorem qla9 {a b : List Int} {i : Nat} {x y : Int} (ha : Limbs a) (hb : Limbs b) (hl : a.length = b.length) (hx : a[i]? = some x) (hy : b[i]? = some y) (hd : a.drop (i + 1) = b.drop (i + 1)) (h : x < y) : natV a < natV b:=by
 have ia:=(List.getElem?_eq_some_iff.1 hx).1
 have ea : a = a.take i++x::a.drop (i + 1):=by
  have:=(List.take_append_drop i a).symm
  rw [List.drop_eq_getElem_cons ia,(List.getElem?_eq_some_iff.1 hx).2] at this
  exact this
 have ib:=(List.getElem?_eq_some_iff.1 hy).1
 have eb : b = b.take i++y::b.drop (i + 1):=by
  have:=(List.take_append_drop i b).symm
  rw [List.drop_eq_getElem_cons ib,(List.getElem?_eq_some_iff.1 hy).2] at this
  exact this
 rw [ea,eb,qkz9,qkz9,natV,natV,hd,List.length_take,List.length_take,Nat.min_eq_left (by omega),Nat.min_eq_left (by omega)]
 have h1 : natV (a.take i) < lw ^ i:=by
  have:=qmf9 (a:=a.take i) (fun z hz=>ha z (List.mem_of_mem_take hz))
  rw [List.length_take,Nat.min_eq_left (by omega)] at this
  exact this
 have bx:=ha x (List.mem_of_getElem? hx)
 have h2 : x.toNat + 1≤y.toNat:=by omega
 have h3:=Nat.mul_le_mul_left (lw ^ i) h2
 rw [Nat.mul_add] at h3
 rw [Nat.mul_add,Nat.mul_add]
 omega
theorem qkp9 {a b : List Int} (ha : Limbs a) (hb : Limbs b) (hz : NoZ b) (h : a.length < b.length) : natV a < natV b:=by
 have h1:=qmf9 ha
 have h2 : ¬ natV b < lw ^ a.length:=fun h3=>by
  have:=qbQ9.2 h3
  rw [qeg9 hb hz] at this
  omega
 omega
theorem qtP9 {a b : List Int} (sa : Sm a) (sb : Sm b) (ha : Limbs a) (hb : Limbs b) (ra : RtOK a) (rb : RtOK b) : qhk9 a b = some (if natV a < natV b then -1 else if natV b < natV a then 1 else 0,0):=by
 unfold qhk9
 rw [qeb9 sa,Option.bind_some,if_pos (decide_eq_true ra),qeb9 sb,Option.bind_some,if_pos (decide_eq_true rb),qyj9,Option.bind_some]
 rcases Nat.lt_trichotomy a.length b.length with c | c | c
 ·have:=qkp9 ha hb rb.2 c
  rw [if_pos (show (a.length : Int) < (b.length : Int) by omega),if_neg (by decide),if_pos this]
 ·have key : ∀ i : Nat,i≤a.length→a.drop i = b.drop i→wh (qdw9 a b 0) ((i : Int) - 1) = some (if natV a < natV b then .inl (-1,0) else if natV b < natV a then .inl (1,0) else .inr (-1)):=by
   intro i
   induction i with
   | zero =>
    intro _ hd
    have e : a = b:=by simpa using hd
    subst e
    rw [if_neg (by omega),if_neg (by omega)]
    exact qe9 (by simp only [qdw9]; rw [if_neg (by omega)]; rfl)
   | succ i ih =>
    intro hi hd
    have hx : a[i]? = some (a[i]'(by omega)):=List.getElem?_eq_getElem _
    have hy : b[i]? = some (b[i]'(by omega)):=List.getElem?_eq_getElem _
    have hda : a.drop i = a[i]'(by omega)::a.drop (i + 1):=List.drop_eq_getElem_cons (by omega)
    have hdb : b.drop i = b[i]'(by omega)::b.drop (i + 1):=List.drop_eq_getElem_cons (by omega)
    generalize a[i]'(by omega) = x at hx hda
    generalize b[i]'(by omega) = y at hy hdb
    have e1 : ((i + 1 : Nat) : Int) - 1 = (i : Int):=by omega
    have l1:=ra.1
    have hw : w64 ((i : Int) - 1) = (i : Int) - 1:=qh9 (by omega) (by omega)
    rw [e1]
    rcases Int.lt_trichotomy x y with h | h | h
    ·have:=qla9 ha hb c hx hy hd h
     rw [if_pos this]
     exact qe9 (by simp only [qdw9]; rw [if_pos (by omega),qc9 hx,Option.bind_some,qc9 hy,Option.bind_some,qmp9,Option.bind_some,if_pos h]; rfl)
    ·have hc : (if x < y then (-1 : Int) else if y < x then 1 else 0) = 0:=by rw [if_neg (by omega),if_neg (by omega)]
     rw [qf9 (s':=(i : Int) - 1) (by simp only [qdw9]; rw [if_pos (by omega),qc9 hx,Option.bind_some,qc9 hy,Option.bind_some,qmp9,Option.bind_some,hc,if_pos rfl,hw])]
     exact ih (by omega) (by rw [hda,hdb,hd,h])
    ·have:=qla9 hb ha c.symm hy hx hd.symm h
     rw [if_neg (by omega),if_pos this]
     have hc : (if x < y then (-1 : Int) else if y < x then 1 else 0) = 1:=by rw [if_neg (by omega),if_pos h]
     exact qe9 (by simp only [qdw9]; rw [if_pos (by omega),qc9 hx,Option.bind_some,qc9 hy,Option.bind_some,qmp9,Option.bind_some,hc]; rfl)
  have l1:=ra.1
  have hw : w64 ((a.length : Int) - 1) = (a.length : Int) - 1:=qh9 (by omega) (by omega)
  have h0 : (if (a.length : Int) < (b.length : Int) then (-1 : Int) else if (b.length : Int) < (a.length : Int) then 1 else 0) = 0:=by
   rw [if_neg (by omega),if_neg (by omega)]
  rw [h0,if_pos rfl,hw,key a.length (Nat.le_refl _) (by rw [List.drop_length,c,List.drop_length]),Option.bind_some]
  by_cases h1 : natV a < natV b
  ·rw [if_pos h1,if_pos h1]
  ·rw [if_neg h1,if_neg h1]
   by_cases h2 : natV b < natV a
   ·rw [if_pos h2,if_pos h2]
   ·rw [if_neg h2,if_neg h2]
 ·have:=qkp9 hb ha ra.2 c
  rw [if_neg (show ¬ (a.length : Int) < (b.length : Int) by omega),if_pos (show (b.length : Int) < (a.length : Int) by omega),if_neg (by decide),if_neg (by omega),if_pos this]
theorem shr1 {n : Int} (h1 : 0≤n) (h2 : n < 4611686018427387904) : shrV .u64 (IntKind.u64.wrap (w64 n)) 1 = some (n / 2):=by
 rw [qh9 (by omega) h2,qC9 h1 (by omega)]
 unfold shrV
 rw [if_pos (by decide)]
 congr 1
 rw [Int.fdiv_eq_ediv_of_nonneg _ (by decide)]
 rfl
theorem qoB9 {p : List Mono} (h : PolyV p) {i j : Nat} {a b : Mono} (hij : i < j) (ha : p[i]? = some a) (hb : p[j]? = some b) : ltE a.Exps b.Exps:=by
 have hp:=h.ok.rise
 rw [List.pairwise_map,List.pairwise_iff_getElem] at hp
 have:=hp i j (List.getElem?_eq_some_iff.1 ha).1 (List.getElem?_eq_some_iff.1 hb).1 hij
 rw [(List.getElem?_eq_some_iff.1 ha).2,(List.getElem?_eq_some_iff.1 hb).2] at this
 exact this
theorem qlS9 {p : List Mono} (hT : PolyT p) (hV : PolyV p) {e : Ex} (he : ExOK e) (se : Sm e) (ie : ∀ n∈e,I64 n) : ∃ c,qew9 p e = some c∧natV c = cf (p.map toM) e∧RtOK c∧Limbs c∧Sm c:=by
 have hlen:=hT.1
 have ord : ∀ {i : Nat} {m : Mono},p[i]? = some m→∃ o,qdM9 m e = some o∧(o < 0↔ltE m.Exps e)∧(o = 0↔m.Exps = e):=fun {i m} hm=>by
  have h1:=hT.2 m (List.mem_of_getElem? hm)
  obtain ⟨o,k1,k2,k3⟩:=order_eq (hV.fm m (List.mem_of_getElem? hm)).ex he h1.se se h1.ie ie
  exact ⟨o,by rw [qdM9,k1]; rfl,k2,k3⟩
 have loop : ∀ (n i j : Nat),j - i≤n→i≤j→j≤p.length→(∀ k m,k < i→p[k]? = some m→ltE m.Exps e)→(∀ k m,j≤k→p[k]? = some m→¬ ltE m.Exps e)→∃ k : Nat,k≤p.length∧wh (qd9 p e (p.length : Int)) ((i : Int),(j : Int)) = some ((k : Int),(k : Int))∧(∀ l m,l < k→p[l]? = some m→ltE m.Exps e)∧(∀ l m,k≤l→p[l]? = some m→¬ ltE m.Exps e):=by
  intro n
  induction n with
  | zero =>
   intro i j hn hij hj h1 h2
   obtain rfl : i = j:=by omega
   exact ⟨i,hj,qe9 (by simp only [qd9]; rw [if_neg (by omega)]),h1,h2⟩
  | succ n ih =>
   intro i j hn hij hj h1 h2
   by_cases c : i = j
   ·subst c
    exact ⟨i,hj,qe9 (by simp only [qd9]; rw [if_neg (by omega)]),h1,h2⟩
   ·have e1 : ((i : Int) + (j : Int)) / 2 = (((i + j) / 2 : Nat) : Int):=by omega
    generalize hmid : (i + j) / 2 = d at e1
    have hx : p[d]? = some (p[d]'(by omega)):=List.getElem?_eq_getElem _
    generalize p[d]'(by omega) = m at hx
    obtain ⟨o,k1,k2,k3⟩:=ord hx
    have hw : w64 (d : Int) = (d : Int):=qh9 (by omega) (by omega)
    by_cases c2 : o < 0
    ·rw [qf9 (s':=(((d + 1 : Nat) : Int),(j : Int))) (by simp only [qd9]; rw [if_pos (by omega),shr1 (by omega) (by omega),Option.bind_some,e1,hw,qc9 hx,Option.bind_some,k1,Option.bind_some,if_pos c2,qg9 (by omega)])]
     refine ih (d + 1) j (by omega) (by omega) hj (fun k m' hk hm'=>?_) h2
     rcases Nat.lt_or_ge k d with h | h
     ·exact ltE_trans (qoB9 hV h hm' hx) (k2.1 c2)
     ·obtain rfl : k = d:=by omega
      rw [hx] at hm'; cases hm'; exact k2.1 c2
    ·rw [qf9 (s':=((i : Int),(d : Int))) (by simp only [qd9]; rw [if_pos (by omega),shr1 (by omega) (by omega),Option.bind_some,e1,hw,qc9 hx,Option.bind_some,k1,Option.bind_some,if_neg c2])]
     refine ih i d (by omega) (by omega) (by omega) h1 (fun k m' hk hm' hlt=>?_)
     rcases Nat.lt_or_ge d k with h | h
     ·exact c2 (k2.2 (ltE_trans (qoB9 hV h hx hm') hlt))
     ·obtain rfl : k = d:=by omega
      rw [hx] at hm'; cases hm'; exact c2 (k2.2 hlt)
 obtain ⟨k,hk,hw,h1,h2⟩:=loop p.length 0 p.length (by omega) (by omega) (Nat.le_refl _) (fun k m hk=>by omega) (fun k m hk hm=>by have:=(List.getElem?_eq_some_iff.1 hm).1; omega)
 have hw' : wh (qd9 p e (p.length : Int)) (0,(p.length : Int)) = some ((k : Int),(k : Int)):=hw
 have zero : (∀ m∈p,m.Exps ≠ e)→cf (p.map toM) e = 0:=fun h=>qjR9 (fun x hx=>by
  obtain ⟨m,hm,rfl⟩:=List.mem_map.1 hx
  exact h m hm)
 unfold qew9 qr9
 rw [hw',Option.bind_some]
 simp only []
 have nn : ∃ c : List Int,(some ([] : List Int) = some c)∧natV c = 0∧RtOK c∧Limbs c∧Sm c:=⟨[],rfl,rfl,⟨by simp,by intro h; cases h⟩,(fun x hx=>nomatch hx),by unfold Sm; simp⟩
 by_cases c : k < p.length
 ·have hx : p[k]? = some (p[k]'c):=List.getElem?_eq_getElem _
  generalize p[k]'c = m at hx
  obtain ⟨o,k1,k2,k3⟩:=ord hx
  have hm:=List.mem_of_getElem? hx
  rw [if_pos (by omega),qc9 hx,Option.bind_some,k1,Option.bind_some,Option.bind_some]
  by_cases c2 : o = 0
  ·simp only []
   rw [if_pos (decide_eq_true c2),qc9 hx,Option.bind_some]
   refine ⟨_,rfl,?_,(hV.fm m hm).rt,(hT.2 m hm).lc,(hT.2 m hm).sc⟩
   have:=cf_of hV.ok.nodup (x:=toM m) (List.mem_map.2 ⟨m,hm,rfl⟩)
   have e2 : (toM m).2 = e:=k3.1 c2
   rw [e2] at this
   exact this.symm
  ·simp only []
   rw [if_neg (by simpa using c2)]
   obtain ⟨c',a1,a2,a3⟩:=nn
   refine ⟨c',a1,?_,a3⟩
   rw [a2,zero]
   intro m' hm' he'
   obtain ⟨l,hl⟩:=List.getElem?_of_mem hm'
   rcases Nat.lt_trichotomy l k with h | h | h
   ·have:=h1 l m' h hl
    rw [he'] at this
    exact ltE_irrefl _ this
   ·subst h
    rw [hx] at hl; cases hl
    exact c2 (k3.2 he')
   ·have h3:=qoB9 hV h hx hl
    rw [he'] at h3
    exact h2 k m (Nat.le_refl _) hx h3
 ·rw [if_neg (by omega),Option.bind_some]
  simp only []
  rw [if_neg (by simp)]
  obtain ⟨c',a1,a2,a3⟩:=nn
  refine ⟨c',a1,?_,a3⟩
  rw [a2,zero]
  intro m' hm' he'
  obtain ⟨l,hl⟩:=List.getElem?_of_mem hm'
  have:=h1 l m' (by have:=(List.getElem?_eq_some_iff.1 hl).1; omega) hl
  rw [he'] at this
  exact ltE_irrefl _ this
open Classical in
theorem qlE9 {p q : List Mono} (hp : PolyT p) (hq : PolyT q) : qcV9 p q = some (decide ((PolyV p∧PolyV q)∧Sub' (q.map toM) (p.map toM))):=by
 obtain ⟨e,h1,h2⟩:=qdj9 (l:=[p,q]) (by simp) (fun x hx=>by simp at hx; rcases hx with rfl | rfl <;> assumption)
 unfold qcV9
 rw [h1,Option.bind_some]
 by_cases he : e = 0
 rotate_left
 ·rw [if_neg he,decide_eq_false (fun h=>he (h2.2 (fun x hx=>by simp at hx; rcases hx with rfl | rfl; exact h.1.1; exact h.1.2)))]
 have vp:=h2.1 he p (by simp)
 have vq:=h2.1 he q (by simp)
 rw [if_pos he]
 have hc : qi9 q p = some (q.any fun m=>decide (cf (p.map toM) m.Exps < natV m.Coef)):=by
  unfold qi9 qA9
  have hl:=hq.1
  refine qgw9 (fun i m hm=>?_) ?_
  ·have hi:=(List.getElem?_eq_some_iff.1 hm).1
   have hmm:=List.mem_of_getElem? hm
   have tm:=hq.2 m hmm
   obtain ⟨c,a1,a2,a3,a4,a5⟩:=qlS9 hp vp (vq.fm m hmm).ex tm.se tm.ie
   simp only [qk9]
   rw [if_pos (by omega),qc9 hm,Option.bind_some,qet9,a1,Option.bind_some,qtP9 a5 tm.sc a4 tm.lc a3 (vq.fm m hmm).rt,Option.bind_some,Option.bind_some,qg9 (by omega),a2]
   by_cases c1 : cf (p.map toM) m.Exps < natV m.Coef
   ·rw [if_pos c1,decide_eq_true c1]; rfl
   ·rw [if_neg c1,decide_eq_false c1]
    by_cases c2 : natV m.Coef < cf (p.map toM) m.Exps
    ·rw [if_pos c2]; rfl
    ·rw [if_neg c2]; rfl
  ·simp only [qk9]; rw [if_neg (by omega)]
 rw [hc,Option.bind_some]
 congr 1
 by_cases c : (q.any fun m=>decide (cf (p.map toM) m.Exps < natV m.Coef)) = true
 ·rw [c,decide_eq_false]; rfl
  rintro ⟨_,hs⟩
  obtain ⟨m,hm,h3⟩:=List.any_eq_true.1 c
  have h4:=hs m.Exps
  have h5:=cf_of vq.ok.nodup (x:=toM m) (List.mem_map.2 ⟨m,hm,rfl⟩)
  have h6:=of_decide_eq_true h3
  have e2 : cf (q.map toM) m.Exps = natV m.Coef:=h5
  omega
 ·have c' : (q.any fun m=>decide (cf (p.map toM) m.Exps < natV m.Coef)) = false:=by simpa using c
  rw [c',decide_eq_true]; rfl
  refine ⟨⟨vp,vq⟩,fun e'=>?_⟩
  by_cases h0 : 0 < cf (q.map toM) e'
  ·obtain ⟨x,hx,hxe⟩:=(qgR9 vq.ok.pos).1 h0
   obtain ⟨m,hm,rfl⟩:=List.mem_map.1 hx
   have h5:=cf_of vq.ok.nodup hx
   have h6 : ¬ cf (p.map toM) m.Exps < natV m.Coef:=fun h7=>c (List.any_eq_true.2 ⟨m,hm,decide_eq_true h7⟩)
   have e3 : (toM m).2 = m.Exps:=rfl
   rw [hxe] at h5
   rw [e3] at hxe
   rw [hxe] at h6
   have e4 : (toM m).1 = natV m.Coef:=rfl
   omega
  ·omega
theorem qpx9 : ExOK []:=⟨by simp,by simp⟩
open Classical in
theorem qsj9 {p q : List Mono} (hp : PolyT p) (hq : PolyT q) : qdL9 p q = some (decide (((PolyV p∧PolyV q)∧Sub' (q.map toM) (p.map toM))∧cf (q.map toM) [] < cf (p.map toM) [])):=by
 unfold qdL9
 rw [qlE9 hp hq,Option.bind_some]
 by_cases c : (PolyV p∧PolyV q)∧Sub' (q.map toM) (p.map toM)
 ·obtain ⟨c1,a1,a2,a3,a4,a5⟩:=qlS9 hp c.1.1 qpx9 (by unfold Sm; simp) (by simp)
  obtain ⟨d1,b1,b2,b3,b4,b5⟩:=qlS9 hq c.1.2 qpx9 (by unfold Sm; simp) (by simp)
  rw [if_pos (decide_eq_true c),a1,Option.bind_some,b1,Option.bind_some,qtP9 a5 b5 a4 b4 a3 b3,Option.bind_some,a2,b2]
  congr 1
  by_cases h1 : cf (p.map toM) [] < cf (q.map toM) []
  ·rw [if_pos h1,decide_eq_false (show ¬ (0 : Int) < -1 by decide),decide_eq_false]
   intro h; have:=h.2; omega
  ·rw [if_neg h1]
   by_cases h2 : cf (q.map toM) [] < cf (p.map toM) []
   ·rw [if_pos h2,decide_eq_true (show (0 : Int) < 1 by decide),decide_eq_true ⟨c,h2⟩]
   ·rw [if_neg h2,decide_eq_false (show ¬ (0 : Int) < 0 by decide),decide_eq_false (fun h=>h2 h.2)]
 ·rw [if_neg (by simpa using c),decide_eq_false (fun h=>c h.1)]
theorem qyv9 {l m : List Int} {step : Int→Option (Int ⊕ (Bool ⊕ Int))} (hl : l.length = m.length) (hs : ∀ (i : Nat) (x y : Int),l[i]? = some x→m[i]? = some y→step (i : Int) = some (if x = y then .inl ((i + 1 : Nat) : Int) else .inr (.inl false))) (he : step (l.length : Int) = some (.inr (.inr (l.length : Int)))) : ∀ (n i : Nat),i + n = l.length→wh step (i : Int) = some (if l.drop i = m.drop i then .inr (l.length : Int) else .inl false):=by
 intro n
 induction n with
 | zero =>
  intro i hi
  obtain rfl : i = l.length:=by omega
  rw [if_pos (by rw [List.drop_length,hl,List.drop_length])]
  exact qe9 he
 | succ n ih =>
  intro i hi
  have hx : l[i]? = some (l[i]'(by omega)):=List.getElem?_eq_getElem _
  have hy : m[i]? = some (m[i]'(by omega)):=List.getElem?_eq_getElem _
  have da : l.drop i = l[i]'(by omega)::l.drop (i + 1):=List.drop_eq_getElem_cons (by omega)
  have db : m.drop i = m[i]'(by omega)::m.drop (i + 1):=List.drop_eq_getElem_cons (by omega)
  have h:=hs i _ _ hx hy
  rw [da,db]
  generalize l[i]'(by omega) = x at h
  generalize m[i]'(by omega) = y at h
  by_cases c : x = y
  ·rw [if_pos c] at h
   rw [qf9 h,ih (i + 1) (by omega)]
   congr 1
   by_cases d : l.drop (i + 1) = m.drop (i + 1)
   ·rw [if_pos d,if_pos (by rw [c,d])]
   ·rw [if_neg d,if_neg (fun e=>d (List.cons.inj e).2)]
  ·rw [if_neg c] at h
   rw [qe9 h,if_neg (fun e=>c (List.cons.inj e).1)]
theorem qfT9 {a b : List Int} (ha : Sm a) : qdF9 a b = some (decide (a = b)):=by
 unfold Sm at ha
 unfold qdF9
 by_cases c : (a.length : Int) = (b.length : Int)
 ·have hl : a.length = b.length:=by omega
  have:=qyv9 (step:=qcm9 a b) hl (fun i x y hx hy=>by
   have hi:=(List.getElem?_eq_some_iff.1 hx).1
   simp only [qcm9]
   rw [if_pos (by omega),qc9 hx,Option.bind_some,qc9 hy,Option.bind_some,qg9 (by omega)]
   by_cases h : x = y
   ·rw [if_pos h,if_pos h]
   ·rw [if_neg h,if_neg h]) (by simp only [qcm9]; rw [if_neg (by omega)]) a.length 0 (by omega)
  have this' : wh (qcm9 a b) 0 = _:=this
  rw [if_pos c,this',Option.bind_some,List.drop_zero,List.drop_zero]
  by_cases h : a = b
  ·rw [if_pos h,decide_eq_true h]
  ·rw [if_neg h,decide_eq_false h]
 ·rw [if_neg c,decide_eq_false (fun h=>c (by rw [h]))]
theorem qxZ9 {p q : List Mono} (hp : PolyT p) : qcH9 p q = some (decide (p = q)):=by
 have hlen:=hp.1
 unfold qcH9
 by_cases c : (p.length : Int) = (q.length : Int)
 rotate_left
 ·rw [if_neg c,decide_eq_false (fun h=>c (by rw [h]))]
 have hl : p.length = q.length:=by omega
 have key : ∀ (n i : Nat),i + n = p.length→wh (qbY9 p q) (i : Int) = some (if p.drop i = q.drop i then .inr (p.length : Int) else .inl false):=by
  intro n
  induction n with
  | zero =>
   intro i hi
   obtain rfl : i = p.length:=by omega
   rw [if_pos (by rw [List.drop_length,hl,List.drop_length])]
   exact qe9 (by simp only [qbY9]; rw [if_neg (by omega)])
  | succ n ih =>
   intro i hi
   have hx : p[i]? = some (p[i]'(by omega)):=List.getElem?_eq_getElem _
   have hy : q[i]? = some (q[i]'(by omega)):=List.getElem?_eq_getElem _
   have da : p.drop i = p[i]'(by omega)::p.drop (i + 1):=List.drop_eq_getElem_cons (by omega)
   have db : q.drop i = q[i]'(by omega)::q.drop (i + 1):=List.drop_eq_getElem_cons (by omega)
   rw [da,db]
   generalize p[i]'(by omega) = x at hx da
   generalize q[i]'(by omega) = y at hy db
   have hm:=hp.2 x (List.mem_of_getElem? hx)
   have se:=hm.se
   unfold Sm at se
   by_cases h1 : x.Coef = y.Coef
   rotate_left
   ·rw [if_neg (fun e=>h1 (by rw [(List.cons.inj e).1]))]
    exact qe9 (by simp only [qbY9]; rw [if_pos (by omega),qc9 hx,Option.bind_some,qc9 hy,Option.bind_some,qfT9 hm.sc,Option.bind_some,if_neg (by simpa using h1)])
   by_cases h2 : (x.Exps.length : Int) = (y.Exps.length : Int)
   rotate_left
   ·rw [if_neg (fun e=>h2 (by rw [(List.cons.inj e).1]))]
    exact qe9 (by simp only [qbY9]; rw [if_pos (by omega),qc9 hx,Option.bind_some,qc9 hy,Option.bind_some,qfT9 hm.sc,Option.bind_some,if_pos (decide_eq_true h1),if_neg h2])
   have inner : wh (qcv9 p q (i : Int)) ((0 : Nat) : Int) = some (if x.Exps = y.Exps then .inr () else .inl false):=by
    have : ∀ (n j : Nat),j + n = x.Exps.length→wh (qcv9 p q (i : Int)) (j : Int) = some (if x.Exps.drop j = y.Exps.drop j then .inr () else .inl false):=by
     intro n
     induction n with
     | zero =>
      intro j hj
      obtain rfl : j = x.Exps.length:=by omega
      rw [if_pos (by rw [List.drop_length,show x.Exps.length = y.Exps.length by omega,List.drop_length])]
      exact qe9 (by simp only [qcv9]; rw [qc9 hx,Option.bind_some,if_neg (by omega)])
     | succ n ih2 =>
      intro j hj
      have hx2 : x.Exps[j]? = some (x.Exps[j]'(by omega)):=List.getElem?_eq_getElem _
      have hy2 : y.Exps[j]? = some (y.Exps[j]'(by omega)):=List.getElem?_eq_getElem _
      have da2 : x.Exps.drop j = x.Exps[j]'(by omega)::x.Exps.drop (j + 1):=List.drop_eq_getElem_cons (by omega)
      have db2 : y.Exps.drop j = y.Exps[j]'(by omega)::y.Exps.drop (j + 1):=List.drop_eq_getElem_cons (by omega)
      rw [da2,db2]
      generalize x.Exps[j]'(by omega) = u at hx2
      generalize y.Exps[j]'(by omega) = v at hy2
      by_cases h : u = v
      ·rw [qf9 (s':=((j + 1 : Nat) : Int)) (by simp only [qcv9]; rw [qc9 hx,Option.bind_some,if_pos (by omega),qc9 hx2,Option.bind_some,qc9 hy,Option.bind_some,qc9 hy2,Option.bind_some,if_pos h,qg9 (by omega)]),ih2 (j + 1) (by omega)]
       congr 1
       by_cases d : x.Exps.drop (j + 1) = y.Exps.drop (j + 1)
       ·rw [if_pos d,if_pos (by rw [h,d])]
       ·rw [if_neg d,if_neg (fun e=>d (List.cons.inj e).2)]
      ·rw [if_neg (fun e=>h (List.cons.inj e).1)]
       exact qe9 (by simp only [qcv9]; rw [qc9 hx,Option.bind_some,if_pos (by omega),qc9 hx2,Option.bind_some,qc9 hy,Option.bind_some,qc9 hy2,Option.bind_some,if_neg h])
    have:=this x.Exps.length 0 (by omega)
    rw [List.drop_zero,List.drop_zero] at this
    exact this
   have inner' : wh (qcv9 p q (i : Int)) 0 = some (if x.Exps = y.Exps then .inr () else .inl false):=inner
   by_cases h3 : x.Exps = y.Exps
   ·rw [if_pos h3] at inner'
    rw [qf9 (s':=((i + 1 : Nat) : Int)) (by simp only [qbY9]; rw [if_pos (by omega),qc9 hx,Option.bind_some,qc9 hy,Option.bind_some,qfT9 hm.sc,Option.bind_some,if_pos (decide_eq_true h1),if_pos h2,inner',Option.bind_some,qg9 (by omega)]),ih (i + 1) (by omega)]
    have hxy : x = y:=by cases x; cases y; simp at h1 h3; rw [h1,h3]
    congr 1
    by_cases d : p.drop (i + 1) = q.drop (i + 1)
    ·rw [if_pos d,if_pos (by rw [hxy,d])]
    ·rw [if_neg d,if_neg (fun e=>d (List.cons.inj e).2)]
   ·rw [if_neg h3] at inner'
    rw [if_neg (fun e=>h3 (by rw [(List.cons.inj e).1]))]
    exact qe9 (by simp only [qbY9]; rw [if_pos (by omega),qc9 hx,Option.bind_some,qc9 hy,Option.bind_some,qfT9 hm.sc,Option.bind_some,if_pos (decide_eq_true h1),if_pos h2,inner',Option.bind_some])
 have k:=key p.length 0 (by omega)
 have k' : wh (qbY9 p q) 0 = _:=k
 rw [if_pos c,k',Option.bind_some,List.drop_zero,List.drop_zero]
 by_cases h : p = q
 ·rw [if_pos h,decide_eq_true h]
 ·rw [if_neg h,decide_eq_false h]
end Ld.Law
namespace Ld.Law
open Go Go.Abs
theorem qkt9 {e : Ex} {v : Nat→Bool} {step : Int→Option (Int ⊕ (Bool ⊕ Int))} (hl : e.length≤1048576) (hs : ∀ (i : Nat) (x : Int),e[i]? = some x→step (i : Int) = some (if 0 < x∧v i = true then .inr (.inl true) else .inl ((i + 1 : Nat) : Int))) (he : step (e.length : Int) = some (.inr (.inr (e.length : Int)))) :
  ((wh step 0).bind fun x3=>match x3 with | .inl x4=>some x4 | .inr x5=>some false) = some (nought v e):=by
 have key : ∀ (n i : Nat),i + n = e.length→(∀ j,j < i→¬ (0 < exAt e j∧v j = true))→∃ r,wh step (i : Int) = some r∧((r = .inl true∧nought v e = true)∨(∃ z,r = .inr z∧nought v e = false)):=by
  intro n
  induction n with
  | zero =>
   intro i hi hj
   obtain rfl : i = e.length:=by omega
   refine ⟨_,qe9 he,.inr ⟨_,rfl,?_⟩⟩
   cases hn : nought v e with
   | false=>rfl
   | true =>
    obtain ⟨k,h1,h2⟩:=qgE9.1 hn
    exact absurd ⟨h1,h2⟩ (hj k (qpS9 h1))
  | succ n ih =>
   intro i hi hj
   have hx : e[i]? = some (e[i]'(by omega)):=List.getElem?_eq_getElem _
   have hg:=qbw9 hx
   generalize e[i]'(by omega) = x at hx hg
   by_cases c : 0 < x∧v i = true
   ·exact ⟨_,qe9 (by rw [hs i x hx,if_pos c]),.inl ⟨rfl,qgE9.2 ⟨i,by rw [hg]; exact c.1,c.2⟩⟩⟩
   ·rw [qf9 (by rw [hs i x hx,if_neg c])]
    refine ih (i + 1) (by omega) (fun j hj2=>?_)
    rcases Nat.lt_or_ge j i with h | h
    ·exact hj j h
    ·obtain rfl : j = i:=by omega
     rw [hg]; exact c
 obtain ⟨r,h1,h2⟩:=key e.length 0 (by omega) (fun j h=>by omega)
 have h1' : wh step 0 = some r:=h1
 rw [h1',Option.bind_some]
 rcases h2 with ⟨rfl,h3⟩ | ⟨z,rfl,h3⟩ <;> rw [h3]
theorem qsZ9 {m : Mono} {args : List (List Mono)} (sm : Sm m.Exps) (hl : m.Exps.length≤args.length) (ha : ∀ p∈args,p.length≤1048576) : qbc9 m args = some (nought (fun i=>(args.getD i []).isEmpty) m.Exps):=by
 unfold Sm at sm
 unfold qbc9
 refine qkt9 sm (fun i x hx=>?_) ?_
 ·have hi:=(List.getElem?_eq_some_iff.1 hx).1
  have hy : args[i]? = some (args[i]'(by omega)):=List.getElem?_eq_getElem _
  have hgd : args.getD i [] = args[i]'(by omega):=by rw [List.getD_eq_getElem?_getD,hy]; rfl
  simp only [qS9]
  rw [if_pos (by omega),qc9 hx,Option.bind_some,qg9 (by omega),hgd]
  by_cases c : 0 < x
  ·rw [if_pos c,qer9,qc9 hy,Option.bind_some,Option.bind_some]
   generalize args[i]'(by omega) = q
   by_cases d : q = []
   ·have h1 : decide ((q.length : Int) = 0) = true:=by rw [d]; rfl
    have h2 : 0 < x∧q.isEmpty = true:=⟨c,by rw [d]; rfl⟩
    rw [if_pos h1,if_pos h2]
   ·have h1 : ¬ decide ((q.length : Int) = 0) = true:=by
     rw [decide_eq_true_iff]
     exact fun h=>d (List.length_eq_zero_iff.1 (by omega))
    have h2 : ¬ (0 < x∧q.isEmpty = true):=fun h=>d (List.isEmpty_iff.1 h.2)
    rw [if_neg h1,if_neg h2]
  ·rw [if_neg c,if_neg (fun h=>c h.1)]
 ·simp only [qS9]; rw [if_neg (by omega)]
theorem qsH9 {m : Mono} {at_ : List (List Int)} (sm : Sm m.Exps) (hl : m.Exps.length≤at_.length) : qbk9 m at_ = some (nought (fun i=>(at_.getD i []).isEmpty) m.Exps):=by
 unfold Sm at sm
 unfold qbk9
 refine qkt9 sm (fun i x hx=>?_) ?_
 ·have hi:=(List.getElem?_eq_some_iff.1 hx).1
  have hy : at_[i]? = some (at_[i]'(by omega)):=List.getElem?_eq_getElem _
  have hgd : at_.getD i [] = at_[i]'(by omega):=by rw [List.getD_eq_getElem?_getD,hy]; rfl
  simp only [qX9]
  rw [if_pos (by omega),qc9 hx,Option.bind_some,qg9 (by omega),hgd]
  by_cases c : 0 < x
  ·rw [if_pos c,qfr9,qc9 hy,Option.bind_some,Option.bind_some]
   generalize at_[i]'(by omega) = q
   by_cases d : q = []
   ·have h1 : decide ((q.length : Int) = 0) = true:=by rw [d]; rfl
    have h2 : 0 < x∧q.isEmpty = true:=⟨c,by rw [d]; rfl⟩
    rw [if_pos h1,if_pos h2]
   ·have h1 : ¬ decide ((q.length : Int) = 0) = true:=by
     rw [decide_eq_true_iff]
     exact fun h=>d (List.length_eq_zero_iff.1 (by omega))
    have h2 : ¬ (0 < x∧q.isEmpty = true):=fun h=>d (List.isEmpty_iff.1 h.2)
    rw [if_neg h1,if_neg h2]
  ·rw [if_neg c,if_neg (fun h=>c h.1)]
 ·simp only [qX9]; rw [if_neg (by omega)]
open Classical in
noncomputable def powO (Q : List (Nat × Ex)) : Nat→List (Nat × Ex)→Option (List (Nat × Ex))
 | 0,X=>some X
 | n + 1,X=>if InB (mulP X Q) then powO Q n (mulP X Q) else none
noncomputable def monO (args : Nat→List (Nat × Ex)) : Nat→Ex→List (Nat × Ex)→Option (List (Nat × Ex))
 | _,[],X=>some X
 | k,n::e,X=>(powO (args k) n.toNat X).bind fun Y=>monO args (k + 1) e Y
open Classical in
noncomputable def compO (args : Nat→List (Nat × Ex)) : List (Nat × Ex)→List (Nat × Ex)→Option (List (Nat × Ex))
 | S,[]=>some S
 | S,x::p=>if nought (fun i=>(args i).isEmpty) x.2 = true then compO args S p else (monO args 0 x.2 [(x.1,[])]).bind fun Y=>if InB (addP S Y) then compO args (addP S Y) p else none
theorem qiU9 {Q : List (Nat × Ex)} (hQ : PolyOK Q) : ∀ (n : Nat) (X R : List (Nat × Ex)),PolyOK X→InB X→powO Q n X = some R→R = powP Q n X∧PolyOK R∧InB R:=by
 intro n
 induction n with
 | zero=>intro X R h hb hr; cases hr; exact ⟨rfl,h,hb⟩
 | succ n ih =>
  intro X R h hb hr
  unfold powO at hr
  by_cases c : InB (mulP X Q)
  ·rw [if_pos c] at hr; exact ih _ _ (qgv9 h hQ) c hr
  ·rw [if_neg c] at hr; cases hr
theorem qiZ9 {args : Nat→List (Nat × Ex)} (ha : ∀ i,PolyOK (args i)) : ∀ (e : Ex) (k : Nat) (X R : List (Nat × Ex)),PolyOK X→InB X→monO args k e X = some R→R = monP args k e X∧PolyOK R∧InB R:=by
 intro e
 induction e with
 | nil=>intro k X R h hb hr; cases hr; exact ⟨rfl,h,hb⟩
 | cons n e ih =>
  intro k X R h hb hr
  unfold monO at hr
  obtain ⟨Y,h1,h2⟩:=Option.bind_eq_some_iff.1 hr
  obtain ⟨rfl,h3,h4⟩:=qiU9 (ha k) _ _ _ h hb h1
  exact ih _ _ _ h3 h4 h2
theorem qhX9 {x : Nat × Ex} (h : SmallM x) : InB [(x.1,[])]:=⟨by simp,fun y hy=>by
 simp at hy; rw [hy]; exact ⟨h.1,by simp,(fun n hn=>nomatch hn)⟩⟩
theorem qsm9 {args : Nat→List (Nat × Ex)} (ha : ∀ i,PolyOK (args i)) : ∀ (p S R : List (Nat × Ex)),(∀ x∈p,0 < x.1∧SmallM x)→PolyOK S→InB S→compO args S p = some R→R = compP args S p∧PolyOK R∧InB R:=by
 intro p
 induction p with
 | nil=>intro S R _ h hb hr; cases hr; exact ⟨rfl,h,hb⟩
 | cons x p ih =>
  intro S R hp h hb hr
  have hx:=hp x List.mem_cons_self
  have hp':=fun y hy=>hp y (List.mem_cons_of_mem _ hy)
  unfold compO at hr
  rw [compP]
  by_cases c : nought (fun i=>(args i).isEmpty) x.2 = true
  ·rw [if_pos c] at hr ⊢; exact ih _ _ hp' h hb hr
  ·rw [if_neg c] at hr ⊢
   obtain ⟨Y,h1,h2⟩:=Option.bind_eq_some_iff.1 hr
   obtain ⟨rfl,h3,h4⟩:=qiZ9 ha _ _ _ _ (qjk9 hx.1) (qhX9 hx.2) h1
   by_cases d : InB (addP S (monP args 0 x.2 [(x.1,[])]))
   ·rw [if_pos d] at h2; exact ih _ _ hp' (qie9 h h3) d h2
   ·rw [if_neg d] at h2; cases h2
def argP (args : List (List Mono)) (i : Nat) : List (Nat × Ex):=(args.getD i []).map toM
theorem qrv9 {args : List (List Mono)} {i : Nat} {q : List Mono} (h : args[i]? = some q) : argP args i = q.map toM:=by
 unfold argP; rw [List.getD_eq_getElem?_getD,h]; rfl
theorem qlY9 {args : List (List Mono)} (h : ∀ q∈args,PolyV q) (i : Nat) : PolyOK (argP args i):=by
 unfold argP
 rw [List.getD_eq_getElem?_getD]
 cases hq : args[i]? with
 | none=>exact qdk9
 | some q=>exact (h q (List.mem_of_getElem? hq)).ok
open Classical in
theorem qiW9 {X : List (Nat × Ex)} {q : List Mono} (hX : PolyOK X) (hb : InB X) (hq : PolyV q) (ht : PolyT q) : qbv9 (fromP X) q = some (if InB (mulP X (q.map toM)) then (fromP (mulP X (q.map toM)),0) else ([],2)):=by
 have h:=qcb9 hX hb
 rw [Mul_p h.2 ht h.1 hq]
 unfold mulQ
 rw [qbB9]
theorem qvF9 {p : List Mono} {args : List (List Mono)} {s4 s8 s31 : List Mono} {s6 s7 s14 s32 s33 s46 s47 : Int} {s45 b1 b2 : List Int} {k : Nat} {q : List Mono} {N : Int} (hq : args[k]? = some q) (vq : PolyV q) (tq : PolyT q) (hN : N≤64) : ∀ (n j : Nat) (X : List (Nat × Ex)),j + n = N.toNat→PolyOK X→InB X→∃ r,wh (qbn9 p args s4 s6 s7 s8 (k : Int) s14 s31 s32 s33 s45 s46 s47 N args b1 b2) (fromP X,0,(j : Int)) = some r∧(match powO (q.map toM) n X with | none=>r = .inl ([],2) | some R=>r = .inr (fromP R,0)):=by
 intro n
 induction n with
 | zero =>
  intro j X hj hX hb
  exact ⟨_,qe9 (r:=.inr (fromP X,0)) (by simp only [qbn9]; rw [if_neg (by omega)]),by simp only [powO]⟩
 | succ n ih =>
  intro j X hj hX hb
  have hm:=qiW9 hX hb vq tq
  unfold powO
  by_cases c : InB (mulP X (q.map toM))
  ·rw [if_pos c] at hm ⊢
   rw [qf9 (s':=(fromP (mulP X (q.map toM)),0,((j + 1 : Nat) : Int))) (by simp only [qbn9]; rw [if_pos (by omega),qc9 hq,Option.bind_some,hm,Option.bind_some,qg9 (by omega)]; rfl)]
   exact ih (j + 1) _ (by omega) (qgv9 hX vq.ok) c
  ·rw [if_neg c] at hm ⊢
   exact ⟨_,qe9 (r:=.inl ([],2)) (by simp only [qbn9]; rw [if_pos (by omega),qc9 hq,Option.bind_some,hm,Option.bind_some]; rfl),rfl⟩
theorem qwX9 {p : List Mono} {args : List (List Mono)} {s4 s8 s31 : List Mono} {s6 s7 s32 s33 : Int} {b1 b2 e : List Int} (ha : ∀ q∈args,PolyV q∧PolyT q) (hel : e.length≤args.length) (he : ∀ n∈e,0≤n∧n≤64) (hl : e.length≤512) : ∀ (n i : Nat) (X : List (Nat × Ex)),i + n = e.length→PolyOK X→InB X→∃ r,wh (qbm9 p args s4 s6 s7 s8 s31 s32 s33 e (e.length : Int) args b1 b2) (fromP X,0,(i : Int)) = some r∧(match monO (argP args) i (e.drop i) X with | none=>r = .inl ([],2) | some R=>r = .inr (fromP R,0)):=by
 intro n
 induction n with
 | zero =>
  intro i X hi hX hb
  obtain rfl : i = e.length:=by omega
  rw [List.drop_length]
  exact ⟨_,qe9 (r:=.inr (fromP X,0)) (by simp only [qbm9]; rw [if_neg (by omega)]),by simp only [monO]⟩
 | succ n ih =>
  intro i X hi hX hb
  have hx : e[i]? = some (e[i]'(by omega)):=List.getElem?_eq_getElem _
  have hd : e.drop i = e[i]'(by omega)::e.drop (i + 1):=List.drop_eq_getElem_cons (by omega)
  generalize e[i]'(by omega) = N at hx hd
  have hN:=he N (List.mem_of_getElem? hx)
  have hq : args[i]? = some (args[i]'(by omega)):=List.getElem?_eq_getElem _
  generalize args[i]'(by omega) = q at hq
  obtain ⟨vq,tq⟩:=ha q (List.mem_of_getElem? hq)
  obtain ⟨r1,k1,k2⟩:=qvF9 (p:=p) (s4:=s4) (s6:=s6) (s7:=s7) (s8:=s8) (s14:=N) (s31:=s31) (s32:=s32) (s33:=s33) (s45:=e) (s46:=(e.length : Int)) (s47:=(i : Int)) (b1:=b1) (b2:=b2) hq vq tq hN.2 N.toNat 0 X (by omega) hX hb
  have k1' : wh (qbn9 p args s4 s6 s7 s8 (i : Int) N s31 s32 s33 e (e.length : Int) (i : Int) N args b1 b2) (fromP X,0,0) = some r1:=k1
  rw [hd,monO,qrv9 hq]
  cases hp : powO (q.map toM) N.toNat X with
  | none =>
   rw [hp] at k2
   subst k2
   exact ⟨_,qe9 (r:=.inl ([],2)) (by simp only [qbm9]; rw [if_pos (by omega),qc9 hx,Option.bind_some,k1',Option.bind_some]),by rw [Option.bind_none]⟩
  | some R =>
   rw [hp] at k2
   subst k2
   obtain ⟨_,h3,h4⟩:=qiU9 vq.ok _ _ _ hX hb hp
   rw [Option.bind_some,qf9 (s':=(fromP R,0,((i + 1 : Nat) : Int))) (by simp only [qbm9]; rw [if_pos (by omega),qc9 hx,Option.bind_some,k1',Option.bind_some,qg9 (by omega)])]
   exact ih (i + 1) R (by omega) h3 h4
open Classical in
theorem qjA9 {S Y : List (Nat × Ex)} (hS : PolyOK S) (hb : InB S) (hY : PolyOK Y) (hYb : InB Y) : qbA9 (fromP S) (fromP Y) = some (if InB (addP S Y) then (fromP (addP S Y),0) else ([],2)):=by
 have h:=qcb9 hS hb
 have h':=qcb9 hY hYb
 rw [Add_p h.2 h'.2 h.1 h'.1]
 unfold addM
 rw [qbB9,qbB9]
theorem qmu9 {p : List Mono} (h : PolyV p) : ∀ m∈p,(∀ n∈m.Exps,0≤n∧n≤64)∧m.Exps.length≤512:=fun m hm=>by
 have hs:=h.bd.2 _ (List.mem_map.2 ⟨m,hm,rfl⟩)
 exact ⟨fun n hn=>⟨(h.fm m hm).ex.1 n hn,hs.2.2 n hn⟩,hs.2.1⟩
theorem qtW9 {p : List Mono} {args : List (List Mono)} {s4 : List Mono} {s6 s7 : Int} (vp : PolyV p) (tp : PolyT p) (hel : ∀ m∈p,m.Exps.length≤args.length) (ha : ∀ q∈args,PolyV q∧PolyT q) : ∀ (n i : Nat) (S : List (Nat × Ex)),i + n = p.length→PolyOK S→InB S→∃ r,wh (qW9 p args s4 s6 s7 p (p.length : Int) args) (fromP S,(i : Int)) = some r∧(match compO (argP args) S ((p.drop i).map toM) with | none=>r = .inl ([],2) | some R=>∃ z,r = .inr (fromP R,z)):=by
 have hlen:=vp.len
 intro n
 induction n with
 | zero =>
  intro i S hi hS hb
  obtain rfl : i = p.length:=by omega
  rw [List.drop_length]
  exact ⟨_,qe9 (r:=.inr (fromP S,(p.length : Int))) (by simp only [qW9]; rw [if_neg (by omega)]),by simp only [List.map_nil,compO]; exact ⟨_,rfl⟩⟩
 | succ n ih =>
  intro i S hi hS hb
  have hx : p[i]? = some (p[i]'(by omega)):=List.getElem?_eq_getElem _
  have hd : p.drop i = p[i]'(by omega)::p.drop (i + 1):=List.drop_eq_getElem_cons (by omega)
  generalize p[i]'(by omega) = m at hx hd
  have hm:=List.mem_of_getElem? hx
  have hno:=qsZ9 (m:=m) (args:=args) (tp.2 m hm).se (hel m hm) (fun q hq=>(ha q hq).2.1)
  have e0 : (fun i=>(args.getD i []).isEmpty) = fun i=>(argP args i).isEmpty:=by
   funext j; unfold argP; rw [List.isEmpty_map]
  rw [e0] at hno
  obtain ⟨he,hl⟩:=qmu9 vp m hm
  have hsm:=vp.bd.2 _ (List.mem_map.2 ⟨m,hm,rfl⟩)
  have hpos:=qeP9 (vp.fm m hm) (tp.2 m hm).lc
  rw [hd,List.map_cons,compO]
  have et2 : (toM m).2 = m.Exps:=rfl
  rw [et2]
  by_cases c : nought (fun i=>(argP args i).isEmpty) m.Exps = true
  ·rw [if_pos c,qf9 (s':=(fromP S,((i + 1 : Nat) : Int))) (by simp only [qW9]; rw [if_pos (by omega),qc9 hx,Option.bind_some,hno,Option.bind_some,if_pos c,qg9 (by omega)])]
   exact ih (i + 1) S (by omega) hS hb
  ·rw [if_neg c]
   have e1 : [(Mono.mk m.Coef ([] : List Int))] = fromP [((toM m).1,[])]:=by
    show _ = [Mono.mk (toL (natV m.Coef)) []]
    rw [qeg9 (tp.2 m hm).lc (vp.fm m hm).rt.2]
   obtain ⟨r1,k1,k2⟩:=qwX9 (p:=p) (s4:=s4) (s6:=s6) (s7:=s7) (s8:=fromP S) (s31:=p) (s32:=(p.length : Int)) (s33:=(i : Int)) (b1:=m.Coef) (b2:=m.Exps) ha (hel m hm) he hl m.Exps.length 0 [((toM m).1,[])] (by omega) (qjk9 hpos) (qhX9 hsm)
   rw [List.drop_zero] at k2
   have k1' : wh (qbm9 p args s4 s6 s7 (fromP S) p (p.length : Int) (i : Int) m.Exps (m.Exps.length : Int) args m.Coef m.Exps) (fromP [((toM m).1,[])],0,0) = some r1:=k1
   cases hp : monO (argP args) 0 m.Exps [((toM m).1,[])] with
   | none =>
    rw [hp] at k2
    subst k2
    exact ⟨_,qe9 (r:=.inl ([],2)) (by simp only [qW9]; rw [if_pos (by omega),qc9 hx,Option.bind_some,hno,Option.bind_some,if_neg c,e1,k1',Option.bind_some]),by rw [Option.bind_none]⟩
   | some Y =>
    rw [hp] at k2
    subst k2
    obtain ⟨_,h3,h4⟩:=qiZ9 (qlY9 (fun q hq=>(ha q hq).1)) _ _ _ _ (qjk9 hpos) (qhX9 hsm) hp
    have had:=qjA9 hS hb h3 h4
    rw [Option.bind_some]
    by_cases d : InB (addP S Y)
    ·rw [if_pos d] at had ⊢
     rw [qf9 (s':=(fromP (addP S Y),((i + 1 : Nat) : Int))) (by simp only [qW9]; rw [if_pos (by omega),qc9 hx,Option.bind_some,hno,Option.bind_some,if_neg c,e1,k1',Option.bind_some]; simp only []; rw [had,Option.bind_some,qg9 (by omega)]; rfl)]
     exact ih (i + 1) _ (by omega) (qie9 hS h3) d
    ·rw [if_neg d] at had ⊢
     exact ⟨_,qe9 (r:=.inl ([],2)) (by simp only [qW9]; rw [if_pos (by omega),qc9 hx,Option.bind_some,hno,Option.bind_some,if_neg c,e1,k1',Option.bind_some]; simp only []; rw [had,Option.bind_some]; rfl),rfl⟩
theorem qhg9 {p : List Mono} {args : List (List Mono)} (tp : PolyT p) (hal : args.length≤1048576) (ta : ∀ q∈args,PolyT q) : (∃ e,qz9 p args = some ([],e)∧e ≠ 0∧¬ (PolyV p∧(∀ q∈args,PolyV q)∧∀ m∈p,m.Exps.length≤args.length))∨(PolyV p∧(∀ q∈args,PolyV q)∧(∀ m∈p,m.Exps.length≤args.length)∧qz9 p args = some (match compO (argP args) [] (p.map toM) with | none=>([],2) | some R=>(fromP R,0))):=by
 obtain ⟨e1,h1,h2⟩:=qdj9 (l:=[p]) (by simp) (fun x hx=>by simp at hx; rw [hx]; exact tp)
 obtain ⟨e2,h3,h4⟩:=qdj9 (l:=args) hal ta
 obtain ⟨e3,h5,h6⟩:=qhu9 (v:=(args.length : Int)) tp
 unfold qz9
 rw [h1,Option.bind_some]
 by_cases c1 : e1 = 0
 rotate_left
 ·exact .inl ⟨e1,by rw [if_neg c1],c1,fun h=>c1 (h2.2 (fun x hx=>by simp at hx; rw [hx]; exact h.1))⟩
 rw [if_pos c1,h3,Option.bind_some]
 by_cases c2 : e2 = 0
 rotate_left
 ·exact .inl ⟨e2,by rw [if_neg c2],c2,fun h=>c2 (h4.2 h.2.1)⟩
 rw [if_pos c2,h5,Option.bind_some]
 by_cases c3 : e3 = 0
 rotate_left
 ·exact .inl ⟨21,by rw [if_neg c3],by decide,fun h=>c3 (h6.2 ⟨by omega,h.1,fun m hm=>by have:=h.2.2 m hm; omega⟩)⟩
 have vp:=h2.1 c1 p (by simp)
 have va:=h4.1 c2
 have hel : ∀ m∈p,m.Exps.length≤args.length:=fun m hm=>by have:=(h6.1 c3).2.2 m hm; omega
 refine .inr ⟨vp,va,hel,?_⟩
 rw [if_pos c3]
 obtain ⟨r,k1,k2⟩:=qtW9 (s4:=[]) (s6:=e1) (s7:=e2) vp tp hel (fun q hq=>⟨va q hq,ta q hq⟩) p.length 0 [] (by omega) qdk9 qgn9
 rw [List.drop_zero] at k2
 have k1' : wh (qW9 p args ([] : List Mono) e1 e2 p (p.length : Int) args) (([] : List Mono),0) = some r:=k1
 rw [k1',Option.bind_some]
 cases hc : compO (argP args) [] (p.map toM) with
 | none=>rw [hc] at k2; subst k2; rfl
 | some R=>rw [hc] at k2; obtain ⟨z,rfl⟩:=k2; rfl
def atV (at_ : List (List Int)) (i : Nat) : Nat:=natV (at_.getD i [])
theorem qAo9 {at_ : List (List Int)} {i : Nat} {a : List Int} (h : at_[i]? = some a) : atV at_ i = natV a:=by
 unfold atV; rw [List.getD_eq_getElem?_getD,h]; rfl
def AtT (at_ : List (List Int)) : Prop:=at_.length≤1048576∧∀ a∈at_,Limbs a∧Sm a
theorem qfP9 {n : Nat} (h : n < lw ^ 64) : RtOK (toL n)∧Limbs (toL n)∧Sm (toL n):=⟨⟨qbQ9.2 h,qjJ9 n⟩,qgH9 n,Nat.le_trans (qbQ9.2 h) (by decide)⟩
theorem qyc9 {p : List Mono} {at_ : List (List Int)} {s4 s7 : List Int} {s27 : List Mono} {s6 s13 s28 s29 s40 s41 : Int} {s39 b1 b2 : List Int} {k : Nat} {a : List Int} {N : Int} (ha : at_[k]? = some a) (la : Limbs a) (sa : Sm a) (ra : RtOK a) (hN : N≤64) (hpos : 0 < N→0 < natV a) : ∀ (n j X : Nat),j + n = N.toNat→X < lw ^ 64→∃ r,wh (qcg9 p at_ s4 s6 s7 (k : Int) s13 s27 s28 s29 s39 s40 s41 N at_ b1 b2) (toL X,0,(j : Int)) = some r∧r = if X * natV a ^ n < lw ^ 64 then .inr (toL (X * natV a ^ n),0) else .inl ([],2):=by
 intro n
 induction n with
 | zero =>
  intro j X hj hX
  refine ⟨_,qe9 (r:=.inr (toL X,0)) (by simp only [qcg9]; rw [if_neg (by omega)]),?_⟩
  rw [Nat.pow_zero,Nat.mul_one,if_pos hX]
 | succ n ih =>
  intro j X hj hX
  have hp:=hpos (by omega)
  obtain ⟨r1,r2,r3⟩:=qfP9 hX
  have hm:=qus9 r3 sa r2 la
  have hmr : mulR (toL X) a = if natV (toL X) * natV a < lw ^ 64 then (toL (natV (toL X) * natV a),0) else ([],2):=if_pos ⟨r1,ra⟩
  rw [hmr,qbZ9] at hm
  have l1:=ra.1
  by_cases c : X * natV a < lw ^ 64
  ·rw [if_pos c] at hm
   have l2:=qbQ9.2 c
   rw [qf9 (s':=(toL (X * natV a),0,((j + 1 : Nat) : Int))) (by simp only [qcg9]; rw [if_pos (by omega),qc9 ha,Option.bind_some,if_neg (by omega),hm,Option.bind_some,qg9 (by omega)]; simp only []; rw [if_pos trivial,if_neg (by omega)])]
   obtain ⟨r,k1,k2⟩:=ih (j + 1) (X * natV a) (by omega) c
   refine ⟨r,k1,?_⟩
   have ee : X * natV a ^ (n + 1) = X * natV a * natV a ^ n:=by rw [Nat.pow_succ,Nat.mul_comm (natV a ^ n),Nat.mul_assoc]
   rw [k2,ee]
  ·rw [if_neg c] at hm
   refine ⟨_,qe9 (r:=.inl ([],2)) (by simp only [qcg9]; rw [if_pos (by omega),qc9 ha,Option.bind_some,if_neg (by omega),hm,Option.bind_some]; rfl),?_⟩
   rw [if_neg]
   intro h
   have : X * natV a≤X * natV a ^ (n + 1):=by
    rw [Nat.pow_succ,Nat.mul_comm (natV a ^ n),← Nat.mul_assoc]
    exact Nat.le_mul_of_pos_right _ (Nat.pow_pos hp)
   omega
theorem qyH9 {p : List Mono} {at_ : List (List Int)} {s4 s7 : List Int} {s27 : List Mono} {s6 s28 s29 : Int} {b1 b2 e : List Int} (hA : AtT at_) (hR : ∀ a∈at_,RtOK a) (hel : e.length≤at_.length) (he : ∀ n∈e,0≤n∧n≤64) (hl : e.length≤512) (hno : ∀ i,0 < exAt e i→0 < atV at_ i) : ∀ (n i X : Nat),i + n = e.length→X < lw ^ 64→∃ r,wh (qce9 p at_ s4 s6 s7 s27 s28 s29 e (e.length : Int) at_ b1 b2) (toL X,0,(i : Int)) = some r∧r = if X * powE (fun j=>atV at_ (i + j)) (e.drop i) < lw ^ 64 then .inr (toL (X * powE (fun j=>atV at_ (i + j)) (e.drop i)),0) else .inl ([],2):=by
 intro n
 induction n with
 | zero =>
  intro i X hi hX
  obtain rfl : i = e.length:=by omega
  refine ⟨_,qe9 (r:=.inr (toL X,0)) (by simp only [qce9]; rw [if_neg (by omega)]),?_⟩
  rw [List.drop_length,powE,Nat.mul_one,if_pos hX]
 | succ n ih =>
  intro i X hi hX
  have hx : e[i]? = some (e[i]'(by omega)):=List.getElem?_eq_getElem _
  have hd : e.drop i = e[i]'(by omega)::e.drop (i + 1):=List.drop_eq_getElem_cons (by omega)
  have hg:=qbw9 hx
  generalize e[i]'(by omega) = N at hx hd hg
  have hN:=he N (List.mem_of_getElem? hx)
  have ha : at_[i]? = some (at_[i]'(by omega)):=List.getElem?_eq_getElem _
  generalize at_[i]'(by omega) = a at ha
  have hav:=qAo9 ha
  have hm:=List.mem_of_getElem? ha
  obtain ⟨r1,k1,k2⟩:=qyc9 (p:=p) (s4:=s4) (s6:=s6) (s7:=s7) (s13:=N) (s27:=s27) (s28:=s28) (s29:=s29) (s39:=e) (s40:=(e.length : Int)) (s41:=(i : Int)) (b1:=b1) (b2:=b2) ha (hA.2 a hm).1 (hA.2 a hm).2 (hR a hm) hN.2 (fun h=>by rw [← hav]; exact hno i (by rw [hg]; exact h)) N.toNat 0 X (by omega) hX
  have k1' : wh (qcg9 p at_ s4 s6 s7 (i : Int) N s27 s28 s29 e (e.length : Int) (i : Int) N at_ b1 b2) (toL X,0,0) = some r1:=k1
  have e1 : powE (fun j=>atV at_ (i + j)) (e.drop i) = natV a ^ N.toNat * powE (fun j=>atV at_ (i + 1 + j)) (e.drop (i + 1)):=by
   rw [hd,powE,Nat.add_zero,hav]
   congr 2
   funext j
   rw [show i + (j + 1) = i + 1 + j by omega]
  have hpp : 0 < powE (fun j=>atV at_ (i + 1 + j)) (e.drop (i + 1)):=qwY9 (fun j hj=>hno (i + 1 + j) (by
   unfold exAt at hj ⊢
   rw [List.getD_eq_getElem?_getD,List.getElem?_drop] at hj
   rw [List.getD_eq_getElem?_getD]
   exact hj))
  rw [e1,← Nat.mul_assoc]
  by_cases c : X * natV a ^ N.toNat < lw ^ 64
  ·rw [if_pos c] at k2
   subst k2
   rw [qf9 (s':=(toL (X * natV a ^ N.toNat),0,((i + 1 : Nat) : Int))) (by simp only [qce9]; rw [if_pos (by omega),qc9 hx,Option.bind_some,k1',Option.bind_some,qg9 (by omega)])]
   exact ih (i + 1) _ (by omega) c
  ·rw [if_neg c] at k2
   subst k2
   refine ⟨_,qe9 (r:=.inl ([],2)) (by simp only [qce9]; rw [if_pos (by omega),qc9 hx,Option.bind_some,k1',Option.bind_some]),?_⟩
   rw [if_neg]
   intro h
   have:=Nat.le_mul_of_pos_right (X * natV a ^ N.toNat) hpp
   omega
theorem qrY9 {at_ : List (List Int)} {e : Ex} (hA : AtT at_) (hR : ∀ a∈at_,RtOK a) : nought (fun i=>(at_.getD i []).isEmpty) e = nought (fun i=>decide (atV at_ i = 0)) e:=by
 congr 1
 funext i
 unfold atV
 rw [List.getD_eq_getElem?_getD]
 cases hq : at_[i]? with
 | none=>rfl
 | some a =>
  have hm:=List.mem_of_getElem? hq
  show a.isEmpty = decide (natV a = 0)
  by_cases c : a = []
  ·rw [c]; rfl
  ·have : natV a ≠ 0:=fun h=>c (by
    have:=qeg9 (hA.2 a hm).1 (hR a hm).2
    rw [h,qdK9] at this
    exact this.symm)
   rw [decide_eq_false this]
   cases a with
   | nil=>exact absurd rfl c
   | cons x a=>rfl
theorem qwD9 {p : List Mono} {at_ : List (List Int)} {s4 : List Int} {s6 : Int} (vp : PolyV p) (tp : PolyT p) (hA : AtT at_) (hR : ∀ a∈at_,RtOK a) (hel : ∀ m∈p,m.Exps.length≤at_.length) : ∀ (n i S : Nat),i + n = p.length→S < lw ^ 64→∃ r,wh (qbC9 p at_ s4 s6 p (p.length : Int) at_) (toL S,(i : Int)) = some r∧(if S + valP (atV at_) ((p.drop i).map toM) < lw ^ 64 then ∃ z,r = .inr (toL (S + valP (atV at_) ((p.drop i).map toM)),z) else r = .inl ([],2)):=by
 have hlen:=vp.len
 intro n
 induction n with
 | zero =>
  intro i S hi hS
  obtain rfl : i = p.length:=by omega
  refine ⟨_,qe9 (r:=.inr (toL S,(p.length : Int))) (by simp only [qbC9]; rw [if_neg (by omega)]),?_⟩
  have e0 : valP (atV at_) ((p.drop p.length).map toM) = 0:=by rw [List.drop_length]; rfl
  rw [e0,Nat.add_zero,if_pos hS]
  exact ⟨_,rfl⟩
 | succ n ih =>
  intro i S hi hS
  have hx : p[i]? = some (p[i]'(by omega)):=List.getElem?_eq_getElem _
  have hd : p.drop i = p[i]'(by omega)::p.drop (i + 1):=List.drop_eq_getElem_cons (by omega)
  generalize p[i]'(by omega) = m at hx hd
  have hm:=List.mem_of_getElem? hx
  have hno:=qsH9 (m:=m) (at_:=at_) (tp.2 m hm).se (hel m hm)
  rw [qrY9 hA hR] at hno
  obtain ⟨he,hl⟩:=qmu9 vp m hm
  have hsm:=vp.bd.2 _ (List.mem_map.2 ⟨m,hm,rfl⟩)
  have hv : valP (atV at_) ((p.drop i).map toM) = natV m.Coef * powE (atV at_) m.Exps + valP (atV at_) ((p.drop (i + 1)).map toM):=by
   rw [hd,List.map_cons]; exact qdA9 _ _ _
  rw [hv]
  by_cases c : nought (fun i=>decide (atV at_ i = 0)) m.Exps = true
  ·obtain ⟨k,h1,h2⟩:=qgE9.1 c
   rw [quC9 h1 (of_decide_eq_true h2),Nat.mul_zero,Nat.zero_add,qf9 (s':=(toL S,((i + 1 : Nat) : Int))) (by simp only [qbC9]; rw [if_pos (by omega),qc9 hx,Option.bind_some,hno,Option.bind_some,if_pos c,qg9 (by omega)])]
   exact ih (i + 1) S (by omega) hS
  ·have hpos : ∀ j,0 < exAt m.Exps j→0 < atV at_ j:=fun j hj=>Nat.pos_of_ne_zero (fun h0=>c (qgE9.2 ⟨j,hj,decide_eq_true h0⟩))
   obtain ⟨r1,k1,k2⟩:=qyH9 (p:=p) (s4:=s4) (s6:=s6) (s7:=toL S) (s27:=p) (s28:=(p.length : Int)) (s29:=(i : Int)) (b1:=m.Coef) (b2:=m.Exps) hA hR (hel m hm) he hl hpos m.Exps.length 0 (natV m.Coef) (by omega) hsm.1
   rw [qeg9 (tp.2 m hm).lc (vp.fm m hm).rt.2] at k1
   have k1' : wh (qce9 p at_ s4 s6 (toL S) p (p.length : Int) (i : Int) m.Exps (m.Exps.length : Int) at_ m.Coef m.Exps) (m.Coef,0,0) = some r1:=k1
   have e2 : (fun j=>atV at_ (0 + j)) = atV at_:=by funext j; rw [Nat.zero_add]
   rw [List.drop_zero,e2] at k2
   by_cases d : natV m.Coef * powE (atV at_) m.Exps < lw ^ 64
   ·rw [if_pos d] at k2
    subst k2
    generalize natV m.Coef * powE (atV at_) m.Exps = V at d k1'
    obtain ⟨a1,a2,a3⟩:=qfP9 hS
    obtain ⟨b1,b2,b3⟩:=qfP9 d
    have hadd:=qtJ9 a3 b3 a2 b2
    have har : addR (toL S) (toL V) = if natV (toL S) + natV (toL V) < lw ^ 64 then (toL (natV (toL S) + natV (toL V)),0) else ([],2):=if_pos ⟨a1,b1⟩
    rw [har,qbZ9,qbZ9] at hadd
    by_cases f : S + V < lw ^ 64
    ·rw [if_pos f] at hadd
     have l2:=qbQ9.2 f
     rw [qf9 (s':=(toL (S + V),((i + 1 : Nat) : Int))) (by simp only [qbC9]; rw [if_pos (by omega),qc9 hx,Option.bind_some,hno,Option.bind_some,if_neg c,k1',Option.bind_some]; simp only []; rw [hadd,Option.bind_some,qg9 (by omega)]; simp only []; rw [if_pos trivial,if_neg (by omega)])]
     obtain ⟨r,q1,q2⟩:=ih (i + 1) (S + V) (by omega) f
     refine ⟨r,q1,?_⟩
     rw [← Nat.add_assoc]
     exact q2
    ·rw [if_neg f] at hadd
     refine ⟨_,qe9 (r:=.inl ([],2)) (by simp only [qbC9]; rw [if_pos (by omega),qc9 hx,Option.bind_some,hno,Option.bind_some,if_neg c,k1',Option.bind_some]; simp only []; rw [hadd,Option.bind_some]; rfl),?_⟩
     rw [if_neg (by omega)]
   ·rw [if_neg d] at k2
    subst k2
    refine ⟨_,qe9 (r:=.inl ([],2)) (by simp only [qbC9]; rw [if_pos (by omega),qc9 hx,Option.bind_some,hno,Option.bind_some,if_neg c,k1',Option.bind_some]),?_⟩
    rw [if_neg (by omega)]
theorem qvY9 {at_ : List (List Int)} (hA : AtT at_) : qo9 at_ = some (at_.any fun a=>!decide (RtOK a)):=by
 have hl:=hA.1
 unfold qo9 qG9
 refine qgw9 (fun i x hx=>?_) ?_
 ·have hi:=(List.getElem?_eq_some_iff.1 hx).1
  simp only [qn9]
  rw [if_pos (by omega),qc9 hx,Option.bind_some,qft9,qeb9 (hA.2 x (List.mem_of_getElem? hx)).2,Option.bind_some,Option.bind_some,qg9 (by omega)]
  by_cases c : (!decide (RtOK x)) = true
  ·rw [if_pos c,if_pos c]
  ·rw [if_neg c,if_neg c]
 ·simp only [qn9]; rw [if_neg (by omega)]
theorem qwQ9 {p : List Mono} {at_ : List (List Int)} (tp : PolyT p) (hA : AtT at_) : (∃ e,qea9 p at_ = some ([],e)∧e ≠ 0∧¬ (PolyV p∧(∀ m∈p,m.Exps.length≤at_.length)∧∀ a∈at_,RtOK a))∨((PolyV p∧(∀ m∈p,m.Exps.length≤at_.length)∧∀ a∈at_,RtOK a)∧qea9 p at_ = some (if valP (atV at_) (p.map toM) < lw ^ 64 then (toL (valP (atV at_) (p.map toM)),0) else ([],2))):=by
 obtain ⟨e1,h1,h2⟩:=qdj9 (l:=[p]) (by simp) (fun x hx=>by simp at hx; rw [hx]; exact tp)
 obtain ⟨e3,h5,h6⟩:=qhu9 (v:=(at_.length : Int)) tp
 unfold qea9
 rw [h1,Option.bind_some]
 by_cases c1 : e1 = 0
 rotate_left
 ·exact .inl ⟨e1,by rw [if_neg c1],c1,fun h=>c1 (h2.2 (fun x hx=>by simp at hx; rw [hx]; exact h.1))⟩
 have vp:=h2.1 c1 p (by simp)
 rw [if_pos c1,h5,Option.bind_some]
 by_cases c3 : e3 = 0
 rotate_left
 ·exact .inl ⟨21,by rw [if_neg c3],by decide,fun h=>c3 (h6.2 ⟨by omega,vp,fun m hm=>by have:=h.2.1 m hm; omega⟩)⟩
 have hel : ∀ m∈p,m.Exps.length≤at_.length:=fun m hm=>by have:=(h6.1 c3).2.2 m hm; omega
 rw [if_pos c3,qvY9 hA,Option.bind_some]
 by_cases c4 : (at_.any fun a=>!decide (RtOK a)) = true
 ·refine .inl ⟨10,by rw [if_pos c4],by decide,fun h=>?_⟩
  obtain ⟨a,ha,h7⟩:=List.any_eq_true.1 c4
  simp at h7
  exact h7 (h.2.2 a ha)
 have hR : ∀ a∈at_,RtOK a:=fun a ha=>by
  apply Classical.byContradiction
  intro hn
  exact c4 (List.any_eq_true.2 ⟨a,ha,by simp [hn]⟩)
 refine .inr ⟨⟨vp,hel,hR⟩,?_⟩
 rw [if_neg c4]
 obtain ⟨r,k1,k2⟩:=qwD9 (s4:=[]) (s6:=e1) vp tp hA hR hel p.length 0 0 (by omega) (by decide)
 rw [qdK9] at k1
 rw [List.drop_zero,Nat.zero_add] at k2
 have k1' : wh (qbC9 p at_ ([] : List Int) e1 p (p.length : Int) at_) (([] : List Int),0) = some r:=k1
 rw [k1',Option.bind_some]
 by_cases c : valP (atV at_) (p.map toM) < lw ^ 64
 ·rw [if_pos c] at k2 ⊢
  obtain ⟨z,rfl⟩:=k2
  have:=qbQ9.2 c
  simp only []
  rw [if_pos (by omega)]
 ·rw [if_neg c] at k2 ⊢
  subst k2
  rfl
end Ld.Law
namespace Ld.Law
open Go Go.Abs
theorem qhK9 {n : Nat} (h : n ≠ 0) (h2 : n < lw) : toL n = [(n : Int)]:=by
 rw [qgu9 h,Nat.mod_eq_of_lt h2,Nat.div_eq_of_lt h2,qdK9]
def ltZ : Ex→Bool
 | []=>false
 | y::b=>if y = 0 then ltZ b else decide (0 < y)
def gtZ : Ex→Bool
 | []=>false
 | x::a=>if x = 0 then gtZ a else decide (x < 0)
def ltB : Ex→Ex→Bool
 | [],b=>ltZ b
 | x::a,b=>match b with
  | []=>gtZ (x::a)
  | y::b=>if x = y then ltB a b else decide (x < y)
theorem qiv9 {x y : Int} {a b : Ex} : ltE (x::a) (y::b)↔x < y∨x = y∧ltE a b:=by
 constructor
 ·rintro ⟨i,h1,h2⟩
  cases i with
  | zero=>exact .inl (by simpa [exAt] using h2)
  | succ i =>
   refine .inr ⟨by have:=h1 0 (by omega); simpa [exAt] using this,i,fun j hj=>by have:=h1 (j + 1) (by omega); simpa [exAt] using this,by simpa [exAt] using h2⟩
 ·rintro (h | ⟨rfl,i,h1,h2⟩)
  ·exact ⟨0,fun j hj=>by omega,by simpa [exAt] using h⟩
  ·refine ⟨i + 1,fun j hj=>?_,by simpa [exAt] using h2⟩
   cases j with
   | zero=>rfl
   | succ j=>have:=h1 j (by omega); simpa [exAt] using this
theorem qrl9 {b : Ex} : ltE [] b↔ltE [0] b∨False:=by
 constructor
 ·rintro ⟨i,h1,h2⟩
  exact .inl ⟨i,fun j hj=>by rw [← h1 j hj]; cases j <;> simp [exAt],by rw [show exAt [0] i = exAt [] i by cases i <;> simp [exAt]]; exact h2⟩
 ·rintro (⟨i,h1,h2⟩ | h)
  ·exact ⟨i,fun j hj=>by rw [← h1 j hj]; cases j <;> simp [exAt],by rw [show exAt [] i = exAt [0] i by cases i <;> simp [exAt]]; exact h2⟩
  ·exact h.elim
theorem qjc9 {y : Int} {b : Ex} : ltE [] (y::b)↔0 < y∨0 = y∧ltE [] b:=by
 constructor
 ·intro h
  rcases qrl9.1 h with h | h
  ·exact qiv9.1 h
  ·exact h.elim
 ·intro h
  exact qrl9.2 (.inl (qiv9.2 h))
theorem qjd9 {x : Int} {a : Ex} : ltE (x::a) []↔x < 0∨x = 0∧ltE a []:=by
 constructor
 ·rintro ⟨i,h1,h2⟩
  cases i with
  | zero=>exact .inl (by simpa [exAt] using h2)
  | succ i=>exact .inr ⟨by have:=h1 0 (by omega); simpa [exAt] using this,i,fun j hj=>by have:=h1 (j + 1) (by omega); simpa [exAt] using this,by simpa [exAt] using h2⟩
 ·rintro (h | ⟨rfl,i,h1,h2⟩)
  ·exact ⟨0,fun j hj=>by omega,by simpa [exAt] using h⟩
  ·refine ⟨i + 1,fun j hj=>?_,by simpa [exAt] using h2⟩
   cases j with
   | zero=>rfl
   | succ j=>have:=h1 j (by omega); simpa [exAt] using this
theorem qmD9 : ∀ {b : Ex},ltZ b = true→ltE [] b
 | [],h=>by simp [ltZ] at h
 | y::b,h=>by
  unfold ltZ at h
  by_cases c : y = 0
  ·rw [if_pos c] at h; exact qjc9.2 (.inr ⟨c.symm,qmD9 h⟩)
  ·rw [if_neg c] at h; exact qjc9.2 (.inl (of_decide_eq_true h))
theorem qmX9 : ∀ {a : Ex},gtZ a = true→ltE a []
 | [],h=>by simp [gtZ] at h
 | x::a,h=>by
  unfold gtZ at h
  by_cases c : x = 0
  ·rw [if_pos c] at h; exact qjd9.2 (.inr ⟨c,qmX9 h⟩)
  ·rw [if_neg c] at h; exact qjd9.2 (.inl (of_decide_eq_true h))
theorem qmB9 : ∀ {a b : Ex},ltB a b = true→ltE a b
 | [],b,h=>qmD9 h
 | x::a,[],h=>qmX9 h
 | x::a,y::b,h=>by
  unfold ltB at h
  simp only [] at h
  by_cases c : x = y
  ·rw [if_pos c] at h; exact qiv9.2 (.inr ⟨c,qmB9 h⟩)
  ·rw [if_neg c] at h; exact qiv9.2 (.inl (of_decide_eq_true h))
def polyB (p : List (Nat × Ex)) : Bool:=decide (p.length≤256) && (p.all fun x=>decide (0 < x.1) && decide (x.1 < lw ^ 64) && decide (x.2.length≤512) && (x.2.all fun n=>decide (0≤n) && decide (n≤64)) && decide (x.2.getLast? ≠ some 0)) && decide (p.Pairwise fun x y=>ltB x.2 y.2 = true)
theorem qs9 {p : List (Nat × Ex)} (h : polyB p = true) : PolyOK p∧InB p:=by
 unfold polyB at h
 simp only [Bool.and_eq_true,decide_eq_true_iff,List.all_eq_true] at h
 obtain ⟨⟨h1,h2⟩,h3⟩:=h
 exact ⟨⟨h3.imp (fun hab=>qmB9 hab),fun x hx=>(h2 x hx).1.1.1.1,fun x hx=>⟨fun n hn=>((h2 x hx).1.2 n hn).1,(h2 x hx).2⟩⟩,⟨h1,fun x hx=>⟨(h2 x hx).1.1.1.2,(h2 x hx).1.1.2,fun n hn=>((h2 x hx).1.2 n hn).2⟩⟩⟩
theorem qlG9 {P Q R : List (Nat × Ex)} (hP : polyB P = true) (hQ : polyB Q = true) (hR : polyB R = true) (h : ∀ φ,W R φ = W P φ + W Q φ) : qbA9 (fromP P) (fromP Q) = some (fromP R,0):=by
 have p:=qs9 hP
 have q:=qs9 hQ
 have r:=qs9 hR
 have e : addP P Q = R:=qeJ9 (qie9 p.1 q.1) r.1 (fun φ=>by rw [quX9,h])
 rw [qjA9 p.1 p.2 q.1 q.2,e,if_pos r.2]
theorem qjI9 {P Q R : List (Nat × Ex)} (hP : polyB P = true) (hQ : polyB Q = true) (hR : polyB R = true) (h : ∀ φ,W R φ = W P (fun a=>W Q (fun b=>φ (addE a b)))) : mulP P Q = R :=
 qeJ9 (qgv9 (qs9 hP).1 (qs9 hQ).1) (qs9 hR).1 (fun φ=>by rw [qoK9,h])
theorem qry9 {P Q R : List (Nat × Ex)} (hP : polyB P = true) (hQ : polyB Q = true) (hR : polyB R = true) (h : ∀ φ,W R φ = W P φ + W Q φ) : addP P Q = R :=
 qeJ9 (qie9 (qs9 hP).1 (qs9 hQ).1) (qs9 hR).1 (fun φ=>by rw [quX9,h])
theorem qpB9 {P Q R : List (Nat × Ex)} (hP : polyB P = true) (hQ : polyB Q = true) (hR : polyB R = true) (h : ∀ φ,W R φ = W P (fun a=>W Q (fun b=>φ (addE a b)))) : qbv9 (fromP P) (fromP Q) = some (fromP R,0):=by
 have p:=qs9 hP
 have q:=qs9 hQ
 have r:=qs9 hR
 have q':=qcb9 q.1 q.2
 rw [qiW9 p.1 p.2 q'.1 q'.2,qbB9,qjI9 hP hQ hR h,if_pos r.2]
theorem t1 : toL 1 = [1]:=qhK9 (by decide) (by decide)
theorem t2 : toL 2 = [2]:=qhK9 (by decide) (by decide)
theorem t3 : toL 3 = [3]:=qhK9 (by decide) (by decide)
theorem qjH9 (x : Nat × Ex) (p : List (Nat × Ex)) : fromP (x::p) = Mono.mk (toL x.1) x.2::fromP p:=rfl
theorem qrn9 {P R : List (Nat × Ex)} {As : List (List (Nat × Ex))} (hP : polyB P = true) (hA : ∀ A∈As,polyB A = true) (hl : As.length≤1048576) (he : ∀ x∈P,x.2.length≤As.length) (h : compO (fun i=>As.getD i []) [] P = some R) : qz9 (fromP P) (As.map fromP) = some (fromP R,0):=by
 have p:=qs9 hP
 have p':=qcb9 p.1 p.2
 have ha : ∀ q∈As.map fromP,PolyV q∧PolyT q:=fun q hq=>by
  obtain ⟨A,hA',rfl⟩:=List.mem_map.1 hq
  have a:=qs9 (hA A hA')
  exact qcb9 a.1 a.2
 have ea : argP (As.map fromP) = fun i=>As.getD i []:=by
  funext i
  unfold argP
  rw [List.getD_eq_getElem?_getD,List.getD_eq_getElem?_getD,List.getElem?_map]
  cases As[i]? with
  | none=>rfl
  | some A=>exact qbB9
 rcases qhg9 (args:=As.map fromP) p'.2 (by simpa using hl) (fun q hq=>(ha q hq).2) with ⟨e,_,_,hn⟩ | ⟨_,_,_,h4⟩
 ·refine absurd ⟨p'.1,fun q hq=>(ha q hq).1,fun m hm=>?_⟩ hn
  obtain ⟨x,hx,rfl⟩:=List.mem_map.1 hm
  have:=he x hx
  simpa using this
 ·rw [h4,qbB9,ea,h]
theorem qsn9 {P : List (Nat × Ex)} {As : List (List (Nat × Ex))} (hP : polyB P = true) (hA : ∀ A∈As,polyB A = true) (hl : As.length≤1048576) (he : ∀ x∈P,x.2.length≤As.length) (h : compO (fun i=>As.getD i []) [] P = none) : qz9 (fromP P) (As.map fromP) = some ([],2):=by
 have p:=qs9 hP
 have p':=qcb9 p.1 p.2
 have ha : ∀ q∈As.map fromP,PolyV q∧PolyT q:=fun q hq=>by
  obtain ⟨A,hA',rfl⟩:=List.mem_map.1 hq
  have a:=qs9 (hA A hA')
  exact qcb9 a.1 a.2
 have ea : argP (As.map fromP) = fun i=>As.getD i []:=by
  funext i
  unfold argP
  rw [List.getD_eq_getElem?_getD,List.getD_eq_getElem?_getD,List.getElem?_map]
  cases As[i]? with
  | none=>rfl
  | some A=>exact qbB9
 rcases qhg9 (args:=As.map fromP) p'.2 (by simpa using hl) (fun q hq=>(ha q hq).2) with ⟨e,_,_,hn⟩ | ⟨_,_,_,h4⟩
 ·refine absurd ⟨p'.1,fun q hq=>(ha q hq).1,fun m hm=>?_⟩ hn
  obtain ⟨x,hx,rfl⟩:=List.mem_map.1 hm
  have:=he x hx
  simpa using this
 ·rw [h4,qbB9,ea,h]
def pX : List (Nat × Ex):=[(1,[1])]
def pY : List (Nat × Ex):=[(1,[0,1])]
def p1 : List (Nat × Ex):=[(1,[])]
def pX1 : List (Nat × Ex):=[(1,[]),(1,[1])]
def pY1 : List (Nat × Ex):=[(1,[]),(1,[0,1])]
def pP : List (Nat × Ex):=[(3,[]),(2,[1,1])]
theorem ev_c1 : compO (fun i=>[pX1,pX].getD i []) [] pP = some [(3,[]),(2,[1]),(2,[2])]:=by
 have m1 : mulP [(2,[])] pX1 = [(2,[]),(2,[1])]:=qjI9 (by decide +kernel) (by decide +kernel) (by decide +kernel) (fun φ=>by simp [W,pX1,addE]; try omega)
 have m2 : mulP [(2,[]),(2,[1])] pX = [(2,[1]),(2,[2])]:=qjI9 (by decide +kernel) (by decide +kernel) (by decide +kernel) (fun φ=>by simp [W,pX,addE]; try omega)
 have a1 : addP [] [(3,[])] = [(3,[])]:=qry9 (by decide +kernel) (by decide +kernel) (by decide +kernel) (fun φ=>by simp [W])
 have a2 : addP [(3,[])] [(2,[1]),(2,[2])] = [(3,[]),(2,[1]),(2,[2])]:=qry9 (by decide +kernel) (by decide +kernel) (by decide +kernel) (fun φ=>by simp [W])
 have n1 : nought (fun i=>([pX1,pX].getD i []).isEmpty) [] = false:=by decide +kernel
 have n2 : nought (fun i=>([pX1,pX].getD i []).isEmpty) [1,1] = false:=by decide +kernel
 have i1 : InB [(2,[]),(2,[1])]:=(qs9 (by decide +kernel)).2
 have i2 : InB [(2,[1]),(2,[2])]:=(qs9 (by decide +kernel)).2
 have i3 : InB [(3,[])]:=(qs9 (by decide +kernel)).2
 have i4 : InB [(3,[]),(2,[1]),(2,[2])]:=(qs9 (by decide +kernel)).2
 have g0 : [pX1,pX].getD 0 [] = pX1:=rfl
 have g1 : [pX1,pX].getD (0 + 1) [] = pX:=rfl
 have j1 : InB (addP [] [(3,[])]):=by rw [a1]; exact i3
 have j2 : InB (mulP [(2,[])] pX1):=by rw [m1]; exact i1
 have j3 : InB (mulP [(2,[]),(2,[1])] pX):=by rw [m2]; exact i2
 have j4 : InB (addP [(3,[])] [(2,[1]),(2,[2])]):=by rw [a2]; exact i4
 have u1 : powO pX1 1 [(2,[])] = some [(2,[]),(2,[1])]:=by
  unfold powO; rw [if_pos j2,m1]; rfl
 have u2 : powO pX 1 [(2,[]),(2,[1])] = some [(2,[1]),(2,[2])]:=by
  unfold powO; rw [if_pos j3,m2]; rfl
 have v1 : monO (fun i=>[pX1,pX].getD i []) 0 [] [(3,[])] = some [(3,[])]:=rfl
 have v2 : monO (fun i=>[pX1,pX].getD i []) 0 [1,1] [(2,[])] = some [(2,[1]),(2,[2])]:=by
  unfold monO; rw [g0,show (1 : Int).toNat = 1 from rfl,u1,Option.bind_some]
  unfold monO; rw [g1,show (1 : Int).toNat = 1 from rfl,u2,Option.bind_some]; rfl
 unfold pP
 unfold compO
 rw [n1,if_neg (by decide),v1,Option.bind_some,if_pos j1,a1]
 unfold compO
 rw [n2,if_neg (by decide),v2,Option.bind_some,if_pos j4,a2]
 rfl
theorem ev_c2 : compO (fun i=>[[(1,[40])]].getD i []) [] [(1,[2])] = none:=by
 have m1 : mulP [(1,[])] [(1,[40])] = [(1,[40])]:=qjI9 (by decide +kernel) (by decide +kernel) (by decide +kernel) (fun φ=>by simp [W,addE])
 have m2 : ∀ z∈mulP [(1,[40])] [(1,[40])],z = (1,[80]):=by
  have e : mulP [(1,[40])] [(1,[40])] = [(1,[80])]:=qeJ9 (qgv9 (qs9 (by decide +kernel)).1 (qs9 (by decide +kernel)).1) ⟨by simp,fun x hx=>by simp at hx; rw [hx]; decide,fun x hx=>by simp at hx; rw [hx]; exact ⟨by decide,by decide⟩⟩ (fun φ=>by rw [qoK9]; simp [W,addE])
  rw [e]; intro z hz; simpa using hz
 have m3 : ¬ InB (mulP [(1,[40])] [(1,[40])]):=by
  intro h
  have e : mulP [(1,[40])] [(1,[40])] = [(1,[80])]:=qeJ9 (qgv9 (qs9 (by decide +kernel)).1 (qs9 (by decide +kernel)).1) ⟨by simp,fun x hx=>by simp at hx; rw [hx]; decide,fun x hx=>by simp at hx; rw [hx]; exact ⟨by decide,by decide⟩⟩ (fun φ=>by rw [qoK9]; simp [W,addE])
  rw [e] at h
  have:=(h.2 (1,[80]) (by simp)).2.2 80 (by simp)
  omega
 have n1 : nought (fun i=>([[((1 : Nat),([40] : Ex))]].getD i []).isEmpty) [2] = false:=by decide +kernel
 have i1 : InB [(1,[40])]:=(qs9 (by decide +kernel)).2
 have g0 : [[((1 : Nat),([40] : Ex))]].getD 0 [] = [(1,[40])]:=rfl
 have j1 : InB (mulP [(1,[])] [(1,[40])]):=by rw [m1]; exact i1
 have u1 : powO [(1,[40])] 2 [(1,[])] = none:=by
  unfold powO; rw [if_pos j1,m1]
  unfold powO; rw [if_neg m3]
 have v1 : monO (fun i=>[[((1 : Nat),([40] : Ex))]].getD i []) 0 [2] [(1,[])] = none:=by
  unfold monO; rw [g0,show (2 : Int).toNat = 2 from rfl,u1,Option.bind_none]
 unfold compO
 rw [n1,if_neg (by decide),v1,Option.bind_none]
theorem ev_c3 : compO (fun i=>[[(1,[40])],[]].getD i []) [] [(1,[2,1])] = some []:=by
 have n1 : nought (fun i=>([[((1 : Nat),([40] : Ex))],[]].getD i []).isEmpty) [2,1] = true:=by decide +kernel
 simp only [compO,n1,if_true]
theorem qgs9 {P : List (Nat × Ex)} (h : polyB P = true) : PolyV (fromP P)∧PolyT (fromP P):=qcb9 (qs9 h).1 (qs9 h).2
theorem quu9 {p : List Mono} {v : Int} (h : v < 0) : qL9 p v = some 1:=by unfold qL9; rw [if_pos h]
theorem qvG9 {p : List Mono} {v : Int} (hT : PolyT p) (hv : ¬ v < 0) {m : Mono} (hm : m∈p) (h : v < (m.Exps.length : Int)) : qL9 p v = some 20:=by
 unfold qL9
 rw [if_neg hv]
 obtain ⟨r,h1,h2⟩:=qit9 (v:=v) hT p.length 0 (decide ((p.length : Int)≤256)) (by omega) (fun j h=>by omega) ⟨fun h=>⟨by have:=of_decide_eq_true h; omega,fun j m h=>by omega⟩,fun h=>decide_eq_true (by have:=h.1; omega)⟩
 have h1' : wh (qI9 p v p (p.length : Int)) (decide ((p.length : Int)≤256),0) = some r:=h1
 rw [h1',Option.bind_some]
 rcases h2 with ⟨rfl,h3⟩ | ⟨sm,z,rfl,h3,h4⟩
 ·rfl
 ·obtain ⟨j,hj⟩:=List.getElem?_of_mem hm
  have:=(h3 j (List.getElem?_eq_some_iff.1 hj).1 m hj).2.1
  omega
theorem eX : [Mono.mk [1] [1]] = fromP pX:=by simp [fromP,pX,t1]
theorem e1 : [Mono.mk [1] []] = fromP p1:=by simp [fromP,p1,t1]
theorem eY : [Mono.mk [1] [0,1]] = fromP pY:=by simp [fromP,pY,t1]
theorem eP : [Mono.mk [3] [],Mono.mk [2] [1,1]] = fromP pP:=by simp [fromP,pP,t2,t3]
theorem qen9 {p : List Mono} (h : PolyT p) : qcH9 p p = some true:=by rw [qxZ9 h,decide_eq_true rfl]
open Classical in
theorem shown2 : qgI9 = some true:=by
 have a1 : qbA9 (fromP pX) (fromP p1) = some (fromP pX1,0):=qlG9 (by decide +kernel) (by decide +kernel) (by decide +kernel) (fun φ=>by simp [W,pX,p1,pX1]; omega)
 have a2 : qbA9 (fromP pY) (fromP p1) = some (fromP pY1,0):=qlG9 (by decide +kernel) (by decide +kernel) (by decide +kernel) (fun φ=>by simp [W,pY,p1,pY1]; omega)
 have m1 : qbv9 (fromP pX1) (fromP pY1) = some (fromP [(1,[]),(1,[0,1]),(1,[1]),(1,[1,1])],0):=qpB9 (by decide +kernel) (by decide +kernel) (by decide +kernel) (fun φ=>by simp [W,pX1,pY1,addE]; omega)
 have c1 : qz9 (fromP pP) [fromP pX1,fromP pX] = some (fromP [(3,[]),(2,[1]),(2,[2])],0):=qrn9 (As:=[pX1,pX]) (by decide +kernel) (by decide +kernel) (by decide) (by decide +kernel) ev_c1
 have c2 : qz9 (fromP [(1,[2])]) [fromP [(1,[40])]] = some ([],2):=qsn9 (As:=[[(1,[40])]]) (by decide +kernel) (by decide +kernel) (by decide) (by decide +kernel) ev_c2
 have c3 : qz9 (fromP [(1,[2,1])]) [fromP [(1,[40])],fromP []] = some (fromP [],0):=qrn9 (As:=[[(1,[40])],[]]) (by decide +kernel) (by decide +kernel) (by decide) (by decide +kernel) ev_c3
 obtain ⟨vP,tP⟩:=qgs9 (P:=pP) (by decide +kernel)
 have hA : AtT [[5],[7]]:=⟨by decide,fun a ha=>by
  simp at ha
  rcases ha with rfl | rfl
  ·exact ⟨fun x hx=>by simp at hx; omega,by unfold Sm; decide⟩
  ·exact ⟨fun x hx=>by simp at hx; omega,by unfold Sm; decide⟩⟩
 have l2 : ∀ m∈fromP pP,m.Exps.length≤2:=fun m hm=>by
  rw [← eP] at hm
  simp at hm
  rcases hm with rfl | rfl <;> decide
 have v1 : qea9 (fromP pP) [[5],[7]] = some ([73],0):=by
  have hr : ∀ a∈[[(5 : Int)],[7]],RtOK a:=fun a ha=>by
   simp at ha
   rcases ha with rfl | rfl <;> decide
  rcases qwQ9 tP hA with ⟨e,_,_,hn⟩ | ⟨_,h2⟩
  ·exact absurd ⟨vP,l2,hr⟩ hn
  ·have hv : valP (atV [[5],[7]]) ((fromP pP).map toM) = 73:=by
    rw [qbB9]
    simp [valP,W,pP,powE,atV,natV]
   rw [h2,hv,if_pos (by decide +kernel),qhK9 (by decide) (by decide)]
   rfl
 have k1 : qL9 (fromP pP) 2 = some 0:=by
  obtain ⟨e,h1,h2⟩:=qhu9 (v:=2) tP
  rw [h1,h2.2 ⟨by decide,vP,fun m hm=>by have:=l2 m hm; omega⟩]
 have k2 : qL9 (fromP pP) 1 = some 20:=qvG9 tP (by decide) (m:=Mono.mk [2] [1,1]) (by rw [← eP]; simp) (by decide)
 have k3 : qL9 (fromP pP) (-1) = some 1:=quu9 (by decide)
 have q1 : [Mono.mk [1] [1,1]] = fromP [(1,[1,1])]:=by simp [fromP,t1]
 obtain ⟨vQ,tQ⟩:=qgs9 (P:=[(1,[1,1])]) (by decide +kernel)
 have g1 : qdL9 (fromP pP) (fromP [(1,[1,1])]) = some true:=by
  rw [qsj9 tP tQ,decide_eq_true]
  rw [qbB9,qbB9]
  refine ⟨⟨⟨vP,vQ⟩,fun e=>?_⟩,?_⟩
  ·unfold pP
   rw [qdi9,qdi9,qdi9]
   simp only [cf,W_nil]
   split <;> split <;> omega
  ·unfold pP
   rw [qdi9,qdi9,qdi9]
   simp [cf,W_nil]
 obtain ⟨vX,tX⟩:=qgs9 (P:=pX) (by decide +kernel)
 obtain ⟨vY,tY⟩:=qgs9 (P:=pY) (by decide +kernel)
 have g2 : qcV9 (fromP pX) (fromP pY) = some false:=by
  rw [qlE9 tX tY,decide_eq_false]
  rintro ⟨_,h⟩
  have:=h [0,1]
  rw [qbB9,qbB9] at this
  unfold pX pY at this
  rw [qdi9,qdi9] at this
  simp [cf,W_nil] at this
 have w1 : [Mono.mk [1] [],Mono.mk [1] [0,1],Mono.mk [1] [1],Mono.mk [1] [1,1]] = fromP [(1,[]),(1,[0,1]),(1,[1]),(1,[1,1])]:=by simp [fromP,t1]
 have w2 : [Mono.mk [3] [],Mono.mk [2] [1],Mono.mk [2] [2]] = fromP [(3,[]),(2,[1]),(2,[2])]:=by simp [fromP,t2,t3]
 have w3 : [Mono.mk [1] [2]] = fromP [(1,[2])]:=by simp [fromP,t1]
 have w4 : [Mono.mk [1] [40]] = fromP [(1,[40])]:=by simp [fromP,t1]
 have w5 : [Mono.mk [1] [2,1]] = fromP [(1,[2,1])]:=by simp [fromP,t1]
 have w6 : ([] : List Mono) = fromP []:=rfl
 have s1:=qen9 (qgs9 (P:=[(1,[]),(1,[0,1]),(1,[1]),(1,[1,1])]) (by decide +kernel)).2
 have s2:=qen9 (qgs9 (P:=[(3,[]),(2,[1]),(2,[2])]) (by decide +kernel)).2
 have s3 : qdF9 [73] [73] = some true:=by rw [qfT9 (by unfold Sm; decide),decide_eq_true rfl]
 have c3' : qz9 (fromP [(1,[2,1])]) [fromP [(1,[40])],([] : List Mono)] = some ([],0):=c3
 rw [← eX,← e1] at a1
 rw [← eY,← e1] at a2
 rw [← eP,← eX] at c1
 rw [← w3,← w4] at c2
 rw [← w5,← w4] at c3'
 rw [← eP] at v1 k1 k2 k3
 rw [← eP,← q1] at g1
 rw [← eX,← eY] at g2
 have s1' : qcH9 (fromP [(1,[]),(1,[0,1]),(1,[1]),(1,[1,1])]) [Mono.mk [1] [],Mono.mk [1] [0,1],Mono.mk [1] [1],Mono.mk [1] [1,1]] = some true:=by rw [w1]; exact s1
 have s2' : qcH9 (fromP [(3,[]),(2,[1]),(2,[2])]) [Mono.mk [3] [],Mono.mk [2] [1],Mono.mk [2] [2]] = some true:=by rw [w2]; exact s2
 unfold qgI9 qnA9 qjP9 qnB9
 simp only [Option.bind_some,a1,a2,m1,c1,c2,c3',v1,k1,k2,k3,g1,g2,s1',s2',s3,if_true,List.length_nil,Int.natCast_zero,Bool.not_false]
end Ld.Law
namespace Ld.Law
open Go Go.Abs
theorem qhR9 : PolyT []:=⟨by simp,(fun m hm=>nomatch hm)⟩
theorem qvS9 {p q : List Mono} (hp : PolyT p) (hq : PolyT q) : ∃ x,qbv9 p q = some x∧PolyT x.1∧(x.2 = 0↔PolyV p∧PolyV q∧InB (mulP (p.map toM) (q.map toM)))∧(x.2 = 0→x.1 = fromP (mulP (p.map toM) (q.map toM)))∧(x.2 ≠ 0→x.1 = [])∧(PolyV p→PolyV q→x.2 ≠ 0→x.2 = 2):=by
 by_cases h : PolyV p∧PolyV q
 ·rw [Mul_p hp hq h.1 h.2]
  refine ⟨_,rfl,?_⟩
  unfold mulQ
  by_cases c : InB (mulP (p.map toM) (q.map toM))
  ·rw [if_pos c]
   exact ⟨(qcb9 (qgv9 h.1.ok h.2.ok) c).2,⟨fun _=>⟨h.1,h.2,c⟩,fun _=>rfl⟩,fun _=>rfl,fun hh=>absurd rfl hh,fun _ _ hh=>absurd rfl hh⟩
  ·rw [if_neg c]
   exact ⟨qhR9,⟨fun hh=>absurd hh (by decide),fun hh=>absurd hh.2.2 c⟩,fun hh=>absurd hh (by decide),fun _=>rfl,fun _ _ _=>rfl⟩
 ·obtain ⟨e,h1,h2⟩:=qxz9 hp hq h
  exact ⟨_,h1,qhR9,⟨fun hh=>absurd hh h2,fun hh=>absurd ⟨hh.1,hh.2.1⟩ h⟩,fun hh=>absurd hh h2,fun _=>rfl,fun a b _=>absurd ⟨a,b⟩ h⟩
end Ld.Law
namespace Ld.Law
open Go Go.Abs
theorem qkK9 {l : List (List D)} (h : ∀ x∈l,1≤szL x) : l.length≤szLL l:=by
 induction l with
 | nil=>simp [szLL]
 | cons x l ih =>
  have h1:=h x List.mem_cons_self
  have h2:=ih (fun y hy=>h y (List.mem_cons_of_mem _ hy))
  simp [szLL]; omega
theorem qrg9 {k : Int→List D} (hk : ∀ n,1≤szL (k n)) {a : List Int} : a.length + 1≤szD (.rd (a.map k)):=by
 have:=qkK9 (l:=a.map k) (fun x hx=>by obtain ⟨n,_,rfl⟩:=List.mem_map.1 hx; exact hk n)
 rw [List.length_map] at this
 simp only [szD]; omega
theorem k32 (n : Int) : 1≤szL (qb9 n):=by simp [qb9,szL,szD]
theorem k64 (n : Int) : 1≤szL (intD n):=by simp [intD,szL,szD]
theorem qvX9 {a : List Int} (h : okL (okI .u32) a) : Limbs a:=fun x hx=>by
 have:=okU32 (h x hx); omega
theorem qwE9 {m : Mono} (h : qcX9 m) (hs : szL (qa9 m)≤1048576) : MonoT m:=by
 have h1:=qrg9 k32 (a:=m.Coef)
 have h2:=qrg9 k64 (a:=m.Exps)
 simp only [qa9,szL] at hs
 exact ⟨qvX9 h.1,by unfold Sm; omega,by unfold Sm; omega,fun n hn=>by
  have:=okI64 (h.2 n hn)
  exact ⟨by omega,by omega⟩⟩
theorem kMono (m : Mono) : 1≤szL (qa9 m):=by
 have:=qrx9 (.rd (m.Coef.map qb9))
 simp only [qa9,szL]; omega
theorem qiD9 {p : List Mono} (h : okL qcX9 p) (hs : szL (lsD qa9 p)≤1048576) : PolyT p:=by
 simp only [lsD,szL,szD] at hs
 have h1:=qkK9 (l:=p.map qa9) (fun x hx=>by obtain ⟨n,_,rfl⟩:=List.mem_map.1 hx; exact kMono n)
 rw [List.length_map] at h1
 refine ⟨by omega,fun m hm=>qwE9 (h m hm) ?_⟩
 have:=qrw9 (f:=qa9) hm
 omega
theorem qnR9 {a : List (List Mono)} (h : okL (okL qcX9) a) (hs : szL (lsD (lsD qa9) a)≤1048576) : a.length≤1048576∧∀ q∈a,PolyT q:=by
 simp only [lsD,szL,szD] at hs
 have h1:=qkK9 (l:=a.map (lsD qa9)) (fun x hx=>by
  obtain ⟨n,_,rfl⟩:=List.mem_map.1 hx
  have:=qrx9 (.rd (n.map qa9))
  simp only [lsD,szL]; omega)
 rw [List.length_map] at h1
 refine ⟨by omega,fun q hq=>qiD9 (h q hq) ?_⟩
 have:=qrw9 (f:=lsD qa9) hq
 simp only [lsD] at this ⊢
 omega
end Ld.Law
namespace Ld.Law
open Go Go.Abs
theorem qht9 {β : Type} {step : Int→Option (Int ⊕ (β ⊕ Int))} {n : Nat} {bad : Nat→Prop} {v : Nat→β} (hstep : ∀ i,i < n→(∀ j,j < i→¬ bad j)→¬ bad i→step (i : Int) = some (.inl ((i + 1 : Nat) : Int))) (hbad : ∀ i,i < n→(∀ j,j < i→¬ bad j)→bad i→step (i : Int) = some (.inr (.inl (v i)))) (hend : step (n : Int) = some (.inr (.inr (n : Int)))) :
  (∃ i,i < n∧(∀ j,j < i→¬ bad j)∧bad i∧wh step 0 = some (.inl (v i)))∨((∀ i,i < n→¬ bad i)∧wh step 0 = some (.inr (n : Int))):=by
 have key : ∀ (k i : Nat),i + k = n→(∀ j,j < i→¬ bad j)→(∃ i,i < n∧(∀ j,j < i→¬ bad j)∧bad i∧wh step (i : Int) = some (.inl (v i))∧True)∨True→(∃ i',i' < n∧(∀ j,j < i'→¬ bad j)∧bad i'∧wh step (i : Int) = some (.inl (v i')))∨((∀ i,i < n→¬ bad i)∧wh step (i : Int) = some (.inr (n : Int))):=by
  intro k
  induction k with
  | zero =>
   intro i hi hj _
   obtain rfl : i = n:=by omega
   exact .inr ⟨hj,qe9 hend⟩
  | succ k ih =>
   intro i hi hj _
   by_cases hb : bad i
   ·exact .inl ⟨i,by omega,hj,hb,qe9 (hbad i (by omega) hj hb)⟩
   ·rw [qf9 (hstep i (by omega) hj hb)]
    exact ih (i + 1) (by omega) (fun j hlt=>by
     rcases Nat.lt_or_ge j i with h | h
     ·exact hj j h
     ·obtain rfl : j = i:=by omega
      exact hb) (.inr trivial)
 exact key n 0 (by omega) (fun j h=>by omega) (.inr trivial)
theorem qez9 {a : List Int} (hs : Sm a) : qds9 a = some (decide (RtOK a)):=by
 rw [show qds9 a = qbU9 a from rfl,qeb9 hs]
open Classical in
theorem qqH9 {m : Mono} (h : MonoT m) : qhB9 m = some (decide (FormOK m)):=by
 unfold qhB9
 rw [qez9 h.sc,Option.bind_some]
 by_cases h1 : RtOK m.Coef
 rotate_left
 ·rw [if_neg (by simpa using h1),decide_eq_false (fun hh=>h1 hh.rt)]
 rw [if_pos (decide_eq_true h1)]
 by_cases h2 : (m.Coef.length : Int) = 0
 ·rw [if_pos h2,decide_eq_false (fun hh=>hh.ne (List.length_eq_zero_iff.1 (by omega)))]
 have hne : m.Coef ≠ []:=fun e=>h2 (by rw [e]; rfl)
 rw [if_neg h2]
 have hse : m.Exps.length≤1048576:=h.se
 rcases qht9 (step:=qdD9 m m.Coef m.Exps) (n:=m.Exps.length) (bad:=fun i=>∃ x,m.Exps[i]? = some x∧x < 0) (v:=fun _=>false) (fun i hi _ hb=>by
   have hx : m.Exps[i]? = some (m.Exps[i]'hi):=List.getElem?_eq_getElem _
   simp only [qdD9]
   rw [if_pos (by omega),qc9 hx,Option.bind_some,if_neg (fun c=>hb ⟨_,hx,c⟩),qg9 (by omega)]) (fun i hi _ hb=>by
   obtain ⟨x,hx,hn⟩:=hb
   simp only [qdD9]
   rw [if_pos (by omega),qc9 hx,Option.bind_some,if_pos hn]) (by simp only [qdD9]; rw [if_neg (by omega)]) with ⟨i,hi,_,⟨x,hx,hn⟩,hw⟩ | ⟨hg,hw⟩
 ·rw [hw,Option.bind_some,decide_eq_false]
  intro hh
  have:=hh.ex.1 x (List.mem_of_getElem? hx)
  omega
 ·rw [hw,Option.bind_some]
  have hnn : ∀ n∈m.Exps,0≤n:=fun n hn=>by
   obtain ⟨i,hi⟩:=List.getElem?_of_mem hn
   have:=hg i (List.getElem?_eq_some_iff.1 hi).1
   exact Int.not_lt.1 (fun c=>this ⟨n,hi,c⟩)
  show (if (m.Exps.length : Int) = 0 then some true else _) = _
  by_cases h4 : (m.Exps.length : Int) = 0
  ·have he : m.Exps = []:=List.length_eq_zero_iff.1 (by omega)
   rw [if_pos h4,decide_eq_true]
   exact ⟨h1,hne,hnn,by rw [he]; simp⟩
  ·rw [if_neg h4]
   obtain ⟨x,e1,e2⟩:=qkI9 (a:=m.Exps) (fun h=>h4 (by rw [h]; rfl)) h.se
   rw [e1,Option.bind_some]
   by_cases h5 : x = 0
   ·rw [decide_eq_false (p:=FormOK m) (fun hh=>hh.ex.2 (by rw [e2,h5]))]
    simp [h5]
   ·rw [decide_eq_true (p:=FormOK m) ⟨h1,hne,hnn,by rw [e2]; intro c; cases c; exact h5 rfl⟩]
    simp [h5]
theorem qir9 {e : Ex} {i : Nat} : qdh9 e (i : Int) = some (exAt e i):=by
 unfold qdh9
 by_cases h : i < e.length
 ·have hx : e[i]? = some (e[i]'h):=List.getElem?_eq_getElem _
  rw [if_pos (by omega),qc9 hx,Option.bind_some,qbw9 hx]
 ·rw [if_neg (by omega)]
  unfold exAt
  rw [List.getD_eq_getElem?_getD,List.getElem?_eq_none (by omega)]; rfl
theorem qdJ9 {e : Ex} {i : Nat} (h : e.length≤i) : exAt e i = 0:=by
 unfold exAt
 rw [List.getD_eq_getElem?_getD,List.getElem?_eq_none h]; rfl
theorem qpX9 {a b : Ex} (sa : Sm a) (sb : Sm b) : ∃ o,qdV9 a b = some o∧(o < 0↔ltE a b):=by
 unfold Sm at sa sb
 unfold qdV9
 have st : ∀ i : Nat,i < max a.length b.length→qbz9 a b (i : Int) = if exAt a i < exAt b i then some (.inr (.inl (-1))) else if exAt b i < exAt a i then some (.inr (.inl 1)) else some (.inl ((i + 1 : Nat) : Int)):=by
  intro i hi
  simp only [qbz9,qir9,Option.bind_some,qg9 (i:=i) (by omega)]
  by_cases c : (i : Int) < (a.length : Int)
  ·rw [if_pos c]
  ·rw [if_neg c,if_pos (by omega)]
 rcases qht9 (step:=qbz9 a b) (n:=max a.length b.length) (bad:=fun i=>exAt a i ≠ exAt b i) (v:=fun i=>if exAt a i < exAt b i then (-1 : Int) else 1) (fun i hi _ hb=>by
   have hb' : exAt a i = exAt b i:=Classical.not_not.1 hb
   rw [st i hi,if_neg (by omega),if_neg (by omega)]) (fun i hi _ hb=>by
   rw [st i hi]
   by_cases c : exAt a i < exAt b i
   ·rw [if_pos c,if_pos c]
   ·rw [if_neg c,if_neg c,if_pos (by omega)]) (by
   simp only [qbz9]
   rw [if_neg (by omega),if_neg (by omega)]) with ⟨i,hi,hj,hb,hw⟩ | ⟨hg,hw⟩
 ·rw [hw,Option.bind_some]
  refine ⟨_,rfl,?_⟩
  have hj' : ∀ j,j < i→exAt a j = exAt b j:=fun j h=>Classical.not_not.1 (hj j h)
  by_cases c : exAt a i < exAt b i
  ·rw [if_pos c]
   exact ⟨fun _=>⟨i,hj',c⟩,fun _=>by omega⟩
  ·rw [if_neg c]
   refine ⟨fun h=>by omega,fun ⟨k,h1,h2⟩=>?_⟩
   exfalso
   rcases Nat.lt_trichotomy k i with h | h | h
   ·have:=hj' k h; omega
   ·subst h; exact c h2
   ·exact hb (h1 i h)
 ·rw [hw,Option.bind_some]
  refine ⟨0,rfl,fun h=>by omega,fun ⟨k,h1,h2⟩=>?_⟩
  exfalso
  by_cases hk : k < max a.length b.length
  ·have:=Classical.not_not.1 (hg k hk); omega
  ·rw [qdJ9 (by omega),qdJ9 (by omega)] at h2; omega
open Classical in
theorem qfR9 {m : Mono} (h : Sm m.Exps) : qeU9 m = some (decide (BdOK m)):=by
 unfold Sm at h
 unfold qeU9
 rcases qht9 (step:=qcZ9 m m.Coef m.Exps) (n:=m.Exps.length) (bad:=fun i=>∃ x,m.Exps[i]? = some x∧64 < x) (v:=fun _=>false) (fun i hi _ hb=>by
   have hx : m.Exps[i]? = some (m.Exps[i]'hi):=List.getElem?_eq_getElem _
   simp only [qcZ9]
   rw [if_pos (by omega),qc9 hx,Option.bind_some,if_neg (fun c=>hb ⟨_,hx,c⟩),qg9 (by omega)]) (fun i hi _ hb=>by
   obtain ⟨x,hx,hn⟩:=hb
   simp only [qcZ9]
   rw [if_pos (by omega),qc9 hx,Option.bind_some,if_pos hn]) (by simp only [qcZ9]; rw [if_neg (by omega)]) with ⟨i,hi,_,⟨x,hx,hn⟩,hw⟩ | ⟨hg,hw⟩
 ·rw [hw,Option.bind_some,decide_eq_false (p:=BdOK m)]
  intro hh
  have:=hh.2.2 x (List.mem_of_getElem? hx)
  omega
 ·rw [hw,Option.bind_some]
  have hnn : ∀ n∈m.Exps,n≤64:=fun n hn=>by
   obtain ⟨i,hi⟩:=List.getElem?_of_mem hn
   have:=hg i (List.getElem?_eq_some_iff.1 hi).1
   exact Int.not_lt.1 (fun c=>this ⟨n,hi,c⟩)
  show (if (m.Coef.length : Int)≤64 then some (decide ((m.Exps.length : Int)≤512)) else some false) = _
  by_cases c : (m.Coef.length : Int)≤64
  ·rw [if_pos c]
   congr 1
   rw [decide_eq_decide]
   exact ⟨fun h=>⟨by omega,by omega,hnn⟩,fun h=>by have:=h.2.1; omega⟩
  ·rw [if_neg c,decide_eq_false (fun hh=>c (by have:=hh.1; omega))]
open Classical in
noncomputable def chkC (p : List Mono) (v : Int) : Int:=if v < 0 then 1 else if ∀ j,j < p.length→GoodAt p v j then (if p.length≤256∧∀ m∈p,BdOK m then 0 else 2) else 20
theorem qdn9 {p : List Mono} {v : Int} (hT : PolyT p) : qL9 p v = some (chkC p v):=by
 unfold qL9 chkC
 by_cases hv : v < 0
 ·rw [if_pos hv,if_pos hv]
 rw [if_neg hv,if_neg hv]
 obtain ⟨r,h1,h2⟩:=qit9 (v:=v) hT p.length 0 (decide ((p.length : Int)≤256)) (by omega) (fun j h=>by omega) ⟨fun h=>⟨by have:=of_decide_eq_true h; omega,fun j m h=>by omega⟩,fun h=>decide_eq_true (by have:=h.1; omega)⟩
 have h1' : wh (qI9 p v p (p.length : Int)) (decide ((p.length : Int)≤256),0) = some r:=h1
 rw [h1',Option.bind_some]
 rcases h2 with ⟨rfl,h2⟩ | ⟨sm',z,rfl,h2,h3⟩
 ·rw [if_neg h2]
 ·rw [if_pos h2]
  by_cases c : sm' = true
  ·rw [if_pos (h3.1 c)]; simp [c]
  ·rw [if_neg (fun h=>c (h3.2 h))]; simp [c]
theorem qF9 {p : List Mono} {v : Int} (hT : PolyT p) : qch9 p v = some (chkC p v):=by
 classical
 unfold qch9 chkC
 by_cases hv : v < 0
 ·rw [if_pos hv,if_pos hv]
 rw [if_neg hv,if_neg hv]
 have hlen:=hT.1
 have get : ∀ i,i < p.length→∃ m,p[i]? = some m∧MonoT m:=fun i hi=>⟨p[i],List.getElem?_eq_getElem _,hT.2 _ (List.getElem_mem _)⟩
 have st : ∀ i : Nat,i < p.length→qcT9 p v (i : Int) = if GoodAt p v i then some (.inl ((i + 1 : Nat) : Int)) else some (.inr (.inl 20)):=by
  intro i hi
  obtain ⟨m,hx,hm⟩:=get i hi
  have hw:=qg9 (i:=i) (by omega)
  simp only [qcT9]
  rw [if_pos (by omega),qc9 hx,Option.bind_some,qqH9 hm,Option.bind_some]
  by_cases c1 : FormOK m
  rotate_left
  ·rw [if_neg (by simpa using c1),if_neg (fun h=>c1 (h m hx).1)]
  rw [if_pos (decide_eq_true c1)]
  by_cases c2 : v < (m.Exps.length : Int)
  ·rw [if_pos c2,if_neg (fun h=>by have:=(h m hx).2.1; omega)]
  rw [if_neg c2]
  by_cases c3 : 0 < i
  ·obtain ⟨m0,h0,hm0⟩:=get (i - 1) (by omega)
   obtain ⟨o,k1,k2⟩:=qpX9 hm0.se hm.se
   have hw1 : w64 ((i : Int) - 1) = ((i - 1 : Nat) : Int):=by rw [qh9 (by omega) (by omega)]; omega
   rw [if_pos (by omega),hw1,qc9 h0,Option.bind_some,k1,Option.bind_some]
   by_cases c4 : 0≤o
   ·rw [if_pos c4,if_neg (fun h=>by have:=k2.2 ((h m hx).2.2 c3 m0 h0); omega)]
   ·rw [if_neg c4,if_pos (show GoodAt p v i from fun m' hm'=>by
     rw [hx] at hm'; cases hm'
     exact ⟨c1,by omega,fun _ m1 hm1=>by rw [h0] at hm1; cases hm1; exact k2.1 (by omega)⟩),hw]
  ·rw [if_neg (by omega),if_pos (show GoodAt p v i from fun m' hm'=>by
     rw [hx] at hm'; cases hm'
     exact ⟨c1,by omega,fun h=>absurd h c3⟩),hw]
 rcases qht9 (step:=qcT9 p v) (n:=p.length) (bad:=fun i=>¬ GoodAt p v i) (v:=fun _=>(20 : Int)) (fun i hi _ hb=>by rw [st i hi,if_pos (Classical.not_not.1 hb)]) (fun i hi _ hb=>by rw [st i hi,if_neg hb]) (by simp only [qcT9]; rw [if_neg (by omega)]) with ⟨i,hi,_,hb,hw⟩ | ⟨hg,hw⟩
 ·rw [hw,Option.bind_some]
  show some 20 = _
  rw [if_neg (fun h=>hb (h i hi))]
 rw [hw,Option.bind_some]
 show ((wh (qcy9 p v (p.length : Int)) 0).bind _) = _
 rw [if_pos (fun j hj=>Classical.not_not.1 (hg j hj))]
 rcases qht9 (step:=qcy9 p v (p.length : Int)) (n:=p.length) (bad:=fun i=>∃ m,p[i]? = some m∧¬ BdOK m) (v:=fun _=>(2 : Int)) (fun i hi _ hb=>by
   obtain ⟨m,hx,hm⟩:=get i hi
   have : BdOK m:=Classical.byContradiction (fun c=>hb ⟨m,hx,c⟩)
   simp only [qcy9]
   rw [if_pos (by omega),qc9 hx,Option.bind_some,qfR9 hm.se,Option.bind_some,if_pos (decide_eq_true this),qg9 (by omega)]) (fun i hi _ hb=>by
   obtain ⟨m,hx,hn⟩:=hb
   have hm:=hT.2 m (List.mem_of_getElem? hx)
   simp only [qcy9]
   rw [if_pos (by omega),qc9 hx,Option.bind_some,qfR9 hm.se,Option.bind_some,if_neg (by simpa using hn)]) (by simp only [qcy9]; rw [if_neg (by omega)]) with ⟨i,hi,_,⟨m,hx,hn⟩,hw⟩ | ⟨hg2,hw⟩
 ·rw [hw,Option.bind_some]
  show some 2 = _
  rw [if_neg (fun h=>hn (h.2 m (List.mem_of_getElem? hx)))]
 rw [hw,Option.bind_some]
 have hall : ∀ m∈p,BdOK m:=fun m hm=>by
  obtain ⟨i,hi⟩:=List.getElem?_of_mem hm
  exact Classical.byContradiction (fun c=>hg2 i (List.getElem?_eq_some_iff.1 hi).1 ⟨m,hi,c⟩)
 show (if 256 < (p.length : Int) then some 2 else some 0) = _
 by_cases c : 256 < (p.length : Int)
 ·rw [if_pos c,if_neg (fun h=>by have:=h.1; omega)]
 ·rw [if_neg c,if_pos ⟨by omega,hall⟩]
end Ld.Law
namespace Ld.Law
open Go Go.Abs
theorem qpb9 {a : List Int} (h : Limbs a) : natV a < lw ^ a.length:=by
 induction a with
 | nil=>simp [natV]
 | cons x a ih =>
  have h1:=h x List.mem_cons_self
  have h2:=ih (fun y hy=>h y (List.mem_cons_of_mem _ hy))
  simp only [natV,List.length_cons,Nat.pow_succ]
  have : lw * (natV a + 1)≤lw * lw ^ a.length:=Nat.mul_le_mul_left _ h2
  rw [Nat.mul_comm (lw ^ a.length)]
  unfold lw at *
  omega
theorem qrd9 {a : List Int} (i : Nat) : natV (a.take (i + 1)) = natV (a.take i) + lw ^ i * (exAt a i).toNat:=by
 by_cases h : i < a.length
 ·have hx : a[i]? = some (a[i]'h):=List.getElem?_eq_getElem _
  rw [qey9 hx,qbw9 hx]
 ·rw [qjn9 (by omega),qdJ9 (by omega)]; simp
theorem dg_b {a : List Int} (h : Limbs a) (i : Nat) : 0≤exAt a i∧exAt a i < 4294967296:=by
 by_cases c : i < a.length
 ·have hx : a[i]? = some (a[i]'c):=List.getElem?_eq_getElem _
  rw [qbw9 hx]
  exact h _ (List.mem_of_getElem? hx)
 ·rw [qdJ9 (by omega)]; omega
theorem qnh9 {s2 : List Int} : ∀ (n : Nat) (a : List Int),a.length = n→Sm a→wh (qdH9 s2) a = some (trimL a):=by
 intro n
 induction n with
 | zero =>
  intro a hn _
  obtain rfl:=List.length_eq_zero_iff.1 hn
  exact qe9 (by simp [qdH9,trimL])
 | succ n ih =>
  intro a hn hs
  have hs':=hs
  unfold Sm at hs'
  have hx : a[n]? = some (a[n]'(by omega)):=List.getElem?_eq_getElem _
  have hw : w64 ((a.length : Int) - 1) = (n : Int):=by rw [qh9 (by omega) (by omega)]; omega
  have ht : a = a.take n++[a[n]'(by omega)]:=by
   have : a.take (n + 1) = a.take n++[a[n]'(by omega)]:=by rw [List.take_add_one,hx]; rfl
   rw [← this,List.take_of_length_le (by omega)]
  have htl : (a.take n).length = n:=by rw [List.length_take]; omega
  by_cases h0 : a[n]'(by omega) = 0
  ·rw [qf9 (s':=a.take n) (by simp only [qdH9]; rw [if_pos (by omega),hw,qc9 hx,Option.bind_some,if_pos h0,qmP9 (by omega),Option.bind_some]),ih _ htl (by unfold Sm; omega)]
   conv=>rhs; rw [ht,qhc9,if_pos h0]
  ·rw [qe9 (r:=a) (by simp only [qdH9]; rw [if_pos (by omega),hw,qc9 hx,Option.bind_some,if_neg h0])]
   conv=>rhs; rw [ht,qhc9,if_neg h0]
   rw [← ht]
theorem qkl9 {a : List Int} (hs : Sm a) (hl : Limbs a) : qgq9 a = some (if natV a < lw ^ 64 then (toL (natV a),0) else ([],2)):=by
 unfold qgq9 qiA9
 rw [qnh9 _ a rfl hs]
 simp only [Option.bind_some]
 rw [qqb9 hl]
 by_cases h : natV a < lw ^ 64
 ·rw [if_pos h,if_neg (by have:=qbQ9.2 h; omega)]
 ·rw [if_neg h,if_pos]
  have : ¬ (toL (natV a)).length≤64:=fun e=>h (qbQ9.1 e)
  omega
theorem qoq9 {a b : List Int} {s4 out : List Int} {c i : Nat} (hla : Limbs a) (hlb : Limbs b) (hi : i < out.length) (hm : out.length≤1048577) (hc : c≤1) (h0 : out[i]? = some 0) : qdo9 a b s4 ((c : Int),(i : Int),out) = some (.inl (((c : Int) + exAt a i + exAt b i) / 4294967296,((i + 1 : Nat) : Int),out.set i (((c : Int) + exAt a i + exAt b i) % 4294967296))):=by
 have hw : w64 ((i : Int) + 1) = ((i + 1 : Nat) : Int):=by rw [qh9 (by omega) (by omega)]; omega
 have ba:=dg_b hla i
 have bb:=dg_b hlb i
 simp only [qdo9]
 rw [if_pos (by omega)]
 by_cases h1 : (i : Int) < (a.length : Int)
 ·have hx : a[i]? = some (a[i]'(by omega)):=List.getElem?_eq_getElem _
  rw [if_pos h1,qc9 hx,Option.bind_some]
  rw [qbw9 hx] at ba ⊢
  by_cases h2 : (i : Int) < (b.length : Int)
  ·have hy : b[i]? = some (b[i]'(by omega)):=List.getElem?_eq_getElem _
   rw [if_pos h2,qc9 hy,Option.bind_some,qc9 h0,Option.bind_some]
   rw [qbw9 hy] at bb ⊢
   rw [qC9 (n:=a[i]) (by omega) (by omega),qC9 (n:=b[i]) (by omega) (by omega),qC9 (n:=(c : Int) + a[i]) (by omega) (by omega),qC9 (by omega) (by omega),shr32 (by omega) (by omega),Option.bind_some,qdO9 (by omega),hw,Int.toNat_natCast]
  ·rw [if_neg h2,qc9 h0,Option.bind_some,qdJ9 (e:=b) (by omega),qC9 (n:=a[i]) (by omega) (by omega),qC9 (n:=(c : Int) + a[i]) (by omega) (by omega),shr32 (by omega) (by omega),Option.bind_some,qdO9 (by omega),hw,Int.toNat_natCast,Int.add_zero]
 ·rw [if_neg h1,qdJ9 (e:=a) (by omega),Int.add_zero]
  by_cases h2 : (i : Int) < (b.length : Int)
  ·have hy : b[i]? = some (b[i]'(by omega)):=List.getElem?_eq_getElem _
   rw [qbw9 hy] at bb ⊢
   rw [if_pos h2,qc9 hy,Option.bind_some,qc9 h0,Option.bind_some,qC9 (n:=b[i]) (by omega) (by omega),qC9 (n:=(c : Int) + b[i]) (by omega) (by omega),shr32 (by omega) (by omega),Option.bind_some,qdO9 (by omega),hw,Int.toNat_natCast]
  ·rw [if_neg h2,qc9 h0,Option.bind_some,qdJ9 (e:=b) (by omega),Int.add_zero,shr32 (by omega) (by omega),Option.bind_some,qdO9 (by omega),hw,Int.toNat_natCast]
theorem qol9 {a b : List Int} {s4 : List Int} {N : Nat} (hla : Limbs a) (hlb : Limbs b) (hN : N≤1048577) : ∀ (n i c : Nat) (out : List Int),i + n = N→out.length = N→Limbs out→c≤1→(∀ j,i≤j→j < out.length→out[j]? = some 0)→natV out + lw ^ i * c = natV (a.take i) + natV (b.take i) →
  ∃ (c' : Nat) (out' : List Int),wh (qdo9 a b s4) ((c : Int),(i : Int),out) = some ((c' : Int),(N : Int),out')∧out'.length = N∧Limbs out'∧natV out' + lw ^ N * c' = natV (a.take N) + natV (b.take N):=by
 intro n
 induction n with
 | zero =>
  intro i c out hi ho hl hc hz hv
  obtain rfl : i = N:=by omega
  exact ⟨c,out,qe9 (by simp only [qdo9]; rw [if_neg (by omega)]),ho,hl,hv⟩
 | succ n ih =>
  intro i c out hi ho hl hc hz hv
  have ho0:=hz i (Nat.le_refl _) (by omega)
  have ba:=dg_b hla i
  have bb:=dg_b hlb i
  have hst:=qoq9 (s4:=s4) hla hlb (by omega) (by omega) hc ho0
  have ta:=qrd9 (a:=a) i
  have tb:=qrd9 (a:=b) i
  generalize exAt a i = x at *
  generalize exAt b i = y at *
  have e1 : ((c : Int) + x + y) / 4294967296 = (((c + x.toNat + y.toNat) / lw : Nat) : Int):=by unfold lw; omega
  have e2 : (((c : Int) + x + y) % 4294967296).toNat = (c + x.toNat + y.toNat) % lw:=by unfold lw; omega
  rw [qf9 hst,e1]
  refine ih (i + 1) _ _ (by omega) (by rw [List.length_set]; exact ho) (qeW9 hl (by omega)) (by unfold lw; omega) (fun j h1 h2=>?_) ?_
  ·rw [List.getElem?_set_ne (by omega)]; exact hz j (by omega) (by rw [List.length_set] at h2; exact h2)
  ·have hs:=qfx9 (v:=((c : Int) + x + y) % 4294967296) ho0 (by omega) (by omega)
   rw [e2] at hs
   rw [show (0 : Int).toNat = 0 from rfl,Nat.mul_zero,Nat.add_zero] at hs
   rw [hs,ta,tb,Nat.pow_succ,Nat.mul_assoc,Nat.add_assoc,← Nat.mul_add,Nat.mod_add_div,Nat.mul_add,Nat.mul_add]
   omega
theorem qsU9 {a b : List Int} (ha : Sm a) (hb : Sm b) (hla : Limbs a) (hlb : Limbs b) : qfF9 a b = some (addR a b):=by
 unfold qfF9
 rw [qez9 ha,Option.bind_some]
 by_cases h1 : RtOK a
 ·rw [if_pos (decide_eq_true h1),qez9 hb,Option.bind_some]
  by_cases h2 : RtOK b
  ·have e : addR a b = if natV a + natV b < lw ^ 64 then (toL (natV a + natV b),0) else ([],2):=if_pos ⟨h1,h2⟩
   have l1:=h1.1
   have l2:=h2.1
   have hw : w64 ((max (a.length : Int) (b.length : Int)) + 1) = ((max a.length b.length + 1 : Nat) : Int):=by rw [qh9 (by omega) (by omega)]; omega
   rw [if_pos (decide_eq_true h2),e,hw,if_pos (by omega),if_pos (by omega),Int.toNat_natCast]
   obtain ⟨c',out',q1,q2,q3,q4⟩:=qol9 (s4:=[]) (N:=max a.length b.length + 1) hla hlb (by omega) (max a.length b.length + 1) 0 0 (List.replicate (max a.length b.length + 1) 0) (by omega) (by simp) (qhJ9 _) (by omega) (fun j _ hj=>by rw [List.length_replicate] at hj; simp [hj]) (by rw [qiu9]; simp [natV])
   have q1' : wh (qdo9 a b []) (0,0,List.replicate (max a.length b.length + 1) (0 : Int)) = some ((c' : Int),((max a.length b.length + 1 : Nat) : Int),out'):=q1
   rw [q1',Option.bind_some]
   simp only []
   rw [List.take_of_length_le (by omega),List.take_of_length_le (by omega)] at q4
   have c0 : c' = 0:=by
    have n1:=qpb9 hla
    have n2:=qpb9 hlb
    have p1 : lw ^ a.length≤lw ^ (max a.length b.length):=Nat.pow_le_pow_right (by decide) (by omega)
    have p2 : lw ^ b.length≤lw ^ (max a.length b.length):=Nat.pow_le_pow_right (by decide) (by omega)
    rw [Nat.pow_succ] at q4
    generalize lw ^ (max a.length b.length) = M at *
    rcases Nat.eq_zero_or_pos c' with h | h
    ·exact h
    ·exfalso
     have : M * lw * 1≤M * lw * c':=Nat.mul_le_mul_left _ h
     have : M * 2≤M * lw:=Nat.mul_le_mul_left _ (by decide)
     omega
   rw [c0,Nat.mul_zero,Nat.add_zero] at q4
   rw [qkl9 (by unfold Sm; omega) q3,q4,Option.bind_some]
  ·have e : addR a b = ([],10):=if_neg (fun h=>h2 h.2)
   rw [if_neg (by simpa using h2),e]
 ·have e : addR a b = ([],10):=if_neg (fun h=>h1 h.1)
  rw [if_neg (by simpa using h1),e]
theorem qrC9 {a b : List Int} {s4 : List Int} {x : Int} {i : Nat} (hx : a[i]? = some x) (bx : 0≤x∧x < 4294967296) (hb : b.length≤64) (hi : i≤64) (hlb : Limbs b) : ∀ (n k c : Nat) (out : List Int),k + n = b.length→i + b.length < out.length→Limbs out→c < lw→(∀ j,i + b.length≤j→j < out.length→out[j]? = some 0) →
  ∃ (out' : List Int),wh (qcc9 a b s4 (i : Int)) ((c : Int),(k : Int),out) = some out'∧out'.length = out.length∧Limbs out'∧(∀ j,i + b.length + 1≤j→j < out.length→out'[j]? = some 0) ∧
   natV out' + lw ^ i * (x.toNat * natV (b.take k)) = natV out + lw ^ (i + k) * c + lw ^ i * (x.toNat * natV b):=by
 intro n
 induction n with
 | zero =>
  intro k c out hk ho hl hc hz
  obtain rfl : k = b.length:=by omega
  have hc' : c < 4294967296:=hc
  have hwi : w64 ((i : Int) + (b.length : Int)) = ((i + b.length : Nat) : Int):=by rw [qh9 (by omega) (by omega)]; omega
  have hw : w64 ((b.length : Int) + 1) = ((b.length + 1 : Nat) : Int):=by rw [qh9 (by omega) (by omega)]; omega
  by_cases c0 : 0 < c
  ·have h0:=hz (i + b.length) (Nat.le_refl _) ho
   have hst : qcc9 a b s4 (i : Int) ((c : Int),(b.length : Int),out) = some (.inl (0,((b.length + 1 : Nat) : Int),out.set (i + b.length) (c : Int))):=by
    simp only [qcc9]
    rw [if_neg (by omega),if_pos (by omega),hwi,qc9 h0,Option.bind_some,qC9 (n:=0) (by omega) (by omega),Int.add_zero,qC9 (by omega) (by omega),shr32 (by omega) (by omega),Option.bind_some,qdO9 (by omega),hw,Int.toNat_natCast,show (c : Int) / 4294967296 = 0 by omega,show (c : Int) % 4294967296 = (c : Int) by omega]
   have hs:=qfx9 (v:=(c : Int)) h0 (by omega) (by omega)
   rw [show (0 : Int).toNat = 0 from rfl,Nat.mul_zero,Nat.add_zero,Int.toNat_natCast] at hs
   refine ⟨out.set (i + b.length) (c : Int),?_,by rw [List.length_set],qeW9 hl (by omega),fun j h1 h2=>by rw [List.getElem?_set_ne (by omega)]; exact hz j (by omega) h2,by rw [List.take_length,hs]⟩
   rw [qf9 hst]
   exact qe9 (by simp only [qcc9]; rw [if_neg (by omega),if_neg (by omega)])
  ·obtain rfl : c = 0:=by omega
   exact ⟨out,qe9 (by simp only [qcc9]; rw [if_neg (by omega),if_neg (by omega)]),rfl,hl,fun j h1 h2=>hz j (by omega) h2,by rw [List.take_length]; simp⟩
 | succ n ih =>
  intro k c out hk ho hl hc hz
  have hy : b[k]? = some (b[k]'(by omega)):=List.getElem?_eq_getElem _
  have ho1 : out[i + k]? = some (out[i + k]'(by omega)):=List.getElem?_eq_getElem _
  have by_:=hlb _ (List.mem_of_getElem? hy)
  have bo:=hl _ (List.mem_of_getElem? ho1)
  have hty:=qey9 hy
  generalize b[k]'(by omega) = y at hy by_ hty
  generalize out[i + k]'(by omega) = o at ho1 bo
  have hw : w64 ((k : Int) + 1) = ((k + 1 : Nat) : Int):=by rw [qh9 (by omega) (by omega)]; omega
  have hwi : w64 ((i : Int) + (k : Int)) = ((i + k : Nat) : Int):=by rw [qh9 (by omega) (by omega)]; omega
  have hc' : c < 4294967296:=hc
  have p1 : x.toNat * y.toNat≤4294967295 * 4294967295:=Nat.mul_le_mul (by omega) (by omega)
  have pe : x * y = ((x.toNat * y.toNat : Nat) : Int):=by rw [Int.natCast_mul,Int.toNat_of_nonneg bx.1,Int.toNat_of_nonneg by_.1]
  generalize hp : x.toNat * y.toNat = p at p1 pe
  have t1 : IntKind.u64.wrap ((IntKind.u64.wrap ((c : Int) + (IntKind.u64.wrap o))) + (IntKind.u64.wrap ((IntKind.u64.wrap x) * (IntKind.u64.wrap y)))) = (c : Int) + (p : Int) + o:=by
   rw [qC9 (n:=x) (by omega) (by omega),qC9 (n:=y) (by omega) (by omega),pe,qC9 (n:=o) (by omega) (by omega),qC9 (n:=(p : Int)) (by omega) (by omega),qC9 (n:=(c : Int) + o) (by omega) (by omega),qC9 (by omega) (by omega)]
   omega
  have hst : qcc9 a b s4 (i : Int) ((c : Int),(k : Int),out) = some (.inl (((c : Int) + (p : Int) + o) / 4294967296,((k + 1 : Nat) : Int),out.set (i + k) (((c : Int) + (p : Int) + o) % 4294967296))):=by
   simp only [qcc9]
   rw [if_pos (by omega),hwi,qc9 ho1,Option.bind_some,qc9 hx,Option.bind_some,qc9 hy,Option.bind_some,t1,shr32 (by omega) (by omega),Option.bind_some,qdO9 (by omega),hw,Int.toNat_natCast]
  have e1 : ((c : Int) + (p : Int) + o) / 4294967296 = (((c + p + o.toNat) / lw : Nat) : Int):=by unfold lw; omega
  have e2 : (((c : Int) + (p : Int) + o) % 4294967296).toNat = (c + p + o.toNat) % lw:=by unfold lw; omega
  rw [qf9 hst,e1]
  obtain ⟨out2,q1,q2,q3,q5,q6⟩:=ih (k + 1) ((c + p + o.toNat) / lw) (out.set (i + k) (((c : Int) + (p : Int) + o) % 4294967296)) (by omega) (by rw [List.length_set]; exact ho) (qeW9 hl (by omega)) (by unfold lw; omega) (fun j h1 h2=>by
   rw [List.getElem?_set_ne (by omega)]; exact hz j h1 (by rw [List.length_set] at h2; exact h2))
  refine ⟨out2,q1,by rw [q2,List.length_set],q3,fun j h1 h2=>q5 j h1 (by rw [List.length_set]; exact h2),?_⟩
  have hs:=qfx9 (v:=((c : Int) + (p : Int) + o) % 4294967296) ho1 bo.1 (by omega)
  rw [e2] at hs
  rw [hty,Nat.mul_add,Nat.mul_add] at q6
  have e3 : lw ^ i * (x.toNat * (lw ^ k * y.toNat)) = lw ^ (i + k) * p:=by
   rw [← hp,Nat.pow_add,Nat.mul_left_comm x.toNat,Nat.mul_assoc]
  have e4 : lw ^ (i + (k + 1)) * ((c + p + o.toNat) / lw) = lw ^ (i + k) * (lw * ((c + p + o.toNat) / lw)):=by
   rw [← Nat.add_assoc,Nat.pow_succ,Nat.mul_assoc]
  have e5 : lw ^ (i + k) * ((c + p + o.toNat) % lw) + lw ^ (i + k) * (lw * ((c + p + o.toNat) / lw)) = lw ^ (i + k) * c + lw ^ (i + k) * p + lw ^ (i + k) * o.toNat:=by
   rw [← Nat.mul_add,Nat.mod_add_div,Nat.mul_add,Nat.mul_add]
  omega
theorem qqp9 {a b : List Int} {s4 : List Int} (ha : a.length≤64) (hb : b.length≤64) (hla : Limbs a) (hlb : Limbs b) : ∀ (n i : Nat) (out : List Int),i + n = a.length→out.length = a.length + b.length + 1→Limbs out→(∀ j,i + b.length≤j→j < out.length→out[j]? = some 0)→natV out = natV (a.take i) * natV b →
  ∃ out' : List Int,wh (qdB9 a b s4) ((i : Int),out) = some ((a.length : Int),out')∧out'.length = a.length + b.length + 1∧Limbs out'∧natV out' = natV a * natV b:=by
 intro n
 induction n with
 | zero =>
  intro i out hi ho hl hz hv
  obtain rfl : i = a.length:=by omega
  exact ⟨out,qe9 (by simp only [qdB9]; rw [if_neg (by omega)]),ho,hl,by rw [List.take_length] at hv; exact hv⟩
 | succ n ih =>
  intro i out hi ho hl hz hv
  have hx : a[i]? = some (a[i]'(by omega)):=List.getElem?_eq_getElem _
  have bx:=hla _ (List.mem_of_getElem? hx)
  have htx:=qey9 hx
  generalize a[i]'(by omega) = x at hx bx htx
  obtain ⟨out',q1,q2,q3,q5,q6⟩:=qrC9 (s4:=s4) hx bx hb (by omega) hlb b.length 0 0 out (by omega) (by omega) hl (by decide) hz
  have hw : w64 ((i : Int) + 1) = ((i + 1 : Nat) : Int):=by rw [qh9 (by omega) (by omega)]; omega
  have q1' : wh (qcc9 a b s4 (i : Int)) (0,0,out) = some out':=q1
  have hst : qdB9 a b s4 ((i : Int),out) = some (.inl (((i + 1 : Nat) : Int),out')):=by
   simp only [qdB9]
   rw [if_pos (by omega),q1',Option.bind_some,hw]
  rw [qf9 hst]
  refine ih (i + 1) _ (by omega) (by omega) q3 (fun j h1 h2=>q5 j (by omega) (by omega)) ?_
  rw [htx,Nat.add_mul,Nat.mul_assoc]
  simp only [List.take_zero,natV,Nat.mul_zero,Nat.add_zero] at q6
  rw [q6,hv]
theorem qrV9 {a b : List Int} (ha : Sm a) (hb : Sm b) (hla : Limbs a) (hlb : Limbs b) : qhn9 a b = some (mulR a b):=by
 unfold qhn9
 rw [qez9 ha,Option.bind_some]
 by_cases h1 : RtOK a
 ·rw [if_pos (decide_eq_true h1),qez9 hb,Option.bind_some]
  by_cases h2 : RtOK b
  ·have e : mulR a b = if natV a * natV b < lw ^ 64 then (toL (natV a * natV b),0) else ([],2):=if_pos ⟨h1,h2⟩
   have l1:=h1.1
   have l2:=h2.1
   have hw : w64 ((w64 ((a.length : Int) + (b.length : Int))) + 1) = ((a.length + b.length + 1 : Nat) : Int):=by rw [qh9 (n:=(a.length : Int) + (b.length : Int)) (by omega) (by omega),qh9 (by omega) (by omega)]; omega
   rw [if_pos (decide_eq_true h2),e,hw,if_pos (by omega),if_pos (by omega),Int.toNat_natCast]
   obtain ⟨out',q1,q2,q3,q4⟩:=qqp9 (s4:=[]) l1 l2 hla hlb a.length 0 (List.replicate (a.length + b.length + 1) 0) (by omega) (by simp) (qhJ9 _) (fun j _ hj=>by rw [List.length_replicate] at hj; simp [hj]) (by rw [qiu9]; simp [natV])
   have q1' : wh (qdB9 a b []) (0,List.replicate (a.length + b.length + 1) (0 : Int)) = some ((a.length : Int),out'):=q1
   rw [q1',Option.bind_some]
   simp only []
   rw [qkl9 (by unfold Sm; omega) q3,q4,Option.bind_some]
  ·have e : mulR a b = ([],10):=if_neg (fun h=>h2 h.2)
   rw [if_neg (by simpa using h2),e]
 ·have e : mulR a b = ([],10):=if_neg (fun h=>h1 h.1)
  rw [if_neg (by simpa using h1),e]
end Ld.Law
namespace Ld.Law
open Go Go.Abs
theorem qlH9 {a b : Ex} (ha : ExOK a) (hb : ExOK b) (sa : Sm a) (sb : Sm b) : ∃ o,qdV9 a b = some o∧(o < 0↔ltE a b)∧(o = 0↔a = b):=by
 unfold Sm at sa sb
 unfold qdV9
 have st : ∀ i : Nat,i < max a.length b.length→qbz9 a b (i : Int) = if exAt a i < exAt b i then some (.inr (.inl (-1))) else if exAt b i < exAt a i then some (.inr (.inl 1)) else some (.inl ((i + 1 : Nat) : Int)):=by
  intro i hi
  simp only [qbz9,qir9,Option.bind_some,qg9 (i:=i) (by omega)]
  by_cases c : (i : Int) < (a.length : Int)
  ·rw [if_pos c]
  ·rw [if_neg c,if_pos (by omega)]
 rcases qht9 (step:=qbz9 a b) (n:=max a.length b.length) (bad:=fun i=>exAt a i ≠ exAt b i) (v:=fun i=>if exAt a i < exAt b i then (-1 : Int) else 1) (fun i hi _ hb=>by
   have hb' : exAt a i = exAt b i:=Classical.not_not.1 hb
   rw [st i hi,if_neg (by omega),if_neg (by omega)]) (fun i hi _ hb=>by
   rw [st i hi]
   by_cases c : exAt a i < exAt b i
   ·rw [if_pos c,if_pos c]
   ·rw [if_neg c,if_neg c,if_pos (by omega)]) (by
   simp only [qbz9]
   rw [if_neg (by omega),if_neg (by omega)]) with ⟨i,hi,hj,hb',hw⟩ | ⟨hg,hw⟩
 ·rw [hw,Option.bind_some]
  have hj' : ∀ j,j < i→exAt a j = exAt b j:=fun j h=>Classical.not_not.1 (hj j h)
  have hne : a ≠ b:=fun e=>hb' (by rw [e])
  by_cases c : exAt a i < exAt b i
  ·exact ⟨_,rfl,by rw [if_pos c]; exact ⟨fun _=>⟨i,hj',c⟩,fun _=>by omega⟩,by rw [if_pos c]; exact ⟨fun h=>absurd h (by decide),fun h=>absurd h hne⟩⟩
  ·refine ⟨_,rfl,?_,by rw [if_neg c]; exact ⟨fun h=>absurd h (by decide),fun h=>absurd h hne⟩⟩
   rw [if_neg c]
   refine ⟨fun h=>by omega,fun ⟨k,h1,h2⟩=>?_⟩
   exfalso
   rcases Nat.lt_trichotomy k i with h | h | h
   ·have:=hj' k h; omega
   ·subst h; exact c h2
   ·exact hb' (h1 i h)
 ·rw [hw,Option.bind_some]
  have hall : ∀ k,exAt a k = exAt b k:=fun k=>by
   by_cases hk : k < max a.length b.length
   ·exact Classical.not_not.1 (hg k hk)
   ·rw [qdJ9 (by omega),qdJ9 (by omega)]
  refine ⟨0,rfl,⟨fun h=>by omega,fun ⟨k,h1,h2⟩=>?_⟩,⟨fun _=>qoP9 ha hb hall,fun _=>rfl⟩⟩
  exfalso
  rw [hall k] at h2
  omega
theorem qmL9 {x : Nat × Ex} : ∀ (A B : List (Nat × Ex)),(∀ a∈A,ltE a.2 x.2)→putP (A++B) x = A++putP B x:=by
 intro A
 induction A with
 | nil=>intro B _; rfl
 | cons a A ih =>
  intro B h
  have h0:=h a List.mem_cons_self
  rw [List.cons_append,List.cons_append,← ih B (fun y hy=>h y (List.mem_cons_of_mem _ hy)),putP]
  rw [if_neg (fun e=>by rw [e] at h0; exact ltE_irrefl _ h0),if_neg (fun c=>ltE_irrefl _ (ltE_trans h0 c))]
theorem quc9 {x y : Nat × Ex} {l : List (Nat × Ex)} (h : ltE x.2 y.2) : putP (y::l) x = x::y::l:=by
 unfold putP
 rw [if_neg (fun e=>by rw [e] at h; exact ltE_irrefl _ h),if_pos h]
theorem qpm9 {x y : Nat × Ex} {l : List (Nat × Ex)} (h : x.2 = y.2) : putP (y::l) x = (y.1 + x.1,y.2)::l:=by
 unfold putP
 rw [if_pos h]
theorem qwC9 (x : Nat × Ex) : ∀ p : List (Nat × Ex),(putP p x).length≤p.length + 1:=by
 intro p
 induction p with
 | nil=>simp [putP]
 | cons y p ih =>
  unfold putP
  split
  ·simp
  ·split
   ·simp
   ·simp only [List.length_cons]; omega
theorem qbR9 {P : List (Nat × Ex)} {i : Nat} {x : Nat × Ex} (h : P[i]? = some x) : (fromP P)[i]? = some ⟨toL x.1,x.2⟩:=by
 unfold fromP
 rw [List.getElem?_map,h]; rfl
theorem qba9 (P : List (Nat × Ex)) : (fromP P).length = P.length:=by simp [fromP]
theorem qhQ9 (P Q : List (Nat × Ex)) : fromP (P++Q) = fromP P++fromP Q:=by simp [fromP]
theorem sm_of {x : Nat × Ex} (h : SmallM x) : Sm x.2:=by have:=h.2.1; unfold Sm; omega
section
variable {P : List (Nat × Ex)} {c : Nat} {e : Ex} {s4 : List Mono} {s1 : Mono}
theorem qmI9 (hP : PolyOK P) (hb : InB P) (he : ExOK e) (hs : SmallM (c,e)) : ∀ (n i : Nat) (out : List Mono),i + n = P.length→out.length≤i + 1→(∀ j x,i≤j→P[j]? = some x→ltE e x.2) →
  wh (qK9 (fromP P) s1 s4 (toL c) e) (true,(i : Int),out) = some (.inr (true,(P.length : Int),out++fromP (P.drop i))):=by
 have hl:=hb.1
 intro n
 induction n with
 | zero =>
  intro i out hi ho hj
  have e0 : i = P.length:=by omega
  subst e0
  rw [List.drop_length]
  refine (qe9 (r:=.inr (true,(P.length : Int),out)) ?_).trans (by simp [fromP])
  simp only [qK9,qba9]
  rw [if_neg (by omega)]
 | succ n ih =>
  intro i out hi ho hj
  have hlt : i < P.length:=by omega
  have hx : P[i]? = some P[i]:=List.getElem?_eq_getElem hlt
  generalize P[i] = x at hx
  have hxm:=List.mem_of_getElem? hx
  have lt:=hj i x (Nat.le_refl _) hx
  obtain ⟨o,h1,h2,h3⟩:=qlH9 he (hP.ex x hxm) (sm_of (x:=(c,e)) hs) (sm_of (hb.2 x hxm))
  have ho0 : o < 0:=h2.2 lt
  have step : qK9 (fromP P) s1 s4 (toL c) e (true,(i : Int),out) = some (.inl (true,((i + 1 : Nat) : Int),out++[⟨toL x.1,x.2⟩])):=by
   simp only [qK9,qba9]
   rw [if_pos (by omega),qc9 (qbR9 hx),Option.bind_some,h1,Option.bind_some,if_pos ho0,if_pos trivial,if_neg (by omega),if_pos (by omega),qg9 (by omega)]
  rw [qf9 step,ih (i + 1) _ (by omega) (by simp; omega) (fun j y hj' hy=>hj j y (by omega) hy)]
  have : P.drop i = x::P.drop (i + 1):=by
   rw [List.drop_eq_getElem_cons hlt]
   rw [List.getElem?_eq_getElem hlt] at hx
   rw [oiA hx]
  rw [this,qjH9]
  simp
theorem qud9 (hP : PolyOK P) (hb : InB P) (he : ExOK e) (hs : SmallM (c,e)) : ∀ (n i : Nat),i + n = P.length→(∀ j x,j < i→P[j]? = some x→ltE x.2 e) →
  (wh (qK9 (fromP P) s1 s4 (toL c) e) (false,(i : Int),fromP (P.take i)) = some (.inl ([],false))∧¬ InB (putP P (c,e))) ∨
  (∃ (d : Bool) (z : Int) (L : List Mono),wh (qK9 (fromP P) s1 s4 (toL c) e) (false,(i : Int),fromP (P.take i)) = some (.inr (d,z,L))∧(if d = true then L else L++[⟨toL c,e⟩]) = fromP (putP P (c,e))∧(∀ x∈putP P (c,e),SmallM x)):=by
 have hl:=hb.1
 intro n
 induction n with
 | zero =>
  intro i hi hj
  have e0 : i = P.length:=by omega
  subst e0
  right
  have hput : putP P (c,e) = P++[(c,e)]:=by
   have:=qmL9 (x:=(c,e)) P [] (fun a ha=>by
    obtain ⟨j,hj'⟩:=List.getElem?_of_mem ha
    exact hj j a (List.getElem?_eq_some_iff.1 hj').1 hj')
   rw [List.append_nil] at this
   rw [this]; rfl
  refine ⟨false,(P.length : Int),fromP P,?_,?_,?_⟩
  ·rw [List.take_length]
   refine qe9 ?_
   simp only [qK9,qba9]
   rw [if_neg (by omega)]
  ·rw [hput,qhQ9]; rfl
  ·rw [hput]
   intro x hx
   rcases List.mem_append.1 hx with hx | hx
   ·exact hb.2 x hx
   ·rw [List.mem_singleton.1 hx]; exact hs
 | succ n ih =>
  intro i hi hj
  have hlt : i < P.length:=by omega
  have hx : P[i]? = some P[i]:=List.getElem?_eq_getElem hlt
  have hdrop : P.drop i = P[i]::P.drop (i + 1):=List.drop_eq_getElem_cons hlt
  generalize P[i] = x at hx hdrop
  have hxm:=List.mem_of_getElem? hx
  have hsp : putP P (c,e) = P.take i++putP (x::P.drop (i + 1)) (c,e):=by
   have:=qmL9 (x:=(c,e)) (P.take i) (P.drop i) (fun a ha=>by
    obtain ⟨j,hj'⟩:=List.getElem?_of_mem ha
    have hji : j < i:=by have:=(List.getElem?_eq_some_iff.1 hj').1; rw [List.length_take] at this; omega
    rw [List.getElem?_take_of_lt hji] at hj'
    exact hj j a hji hj')
   rw [List.take_append_drop,hdrop] at this
   exact this
  have hlater : ∀ j y,i + 1≤j→P[j]? = some y→ltE x.2 y.2:=fun j y hj' hy=>by
   have hjl:=(List.getElem?_eq_some_iff.1 hy).1
   have:=(List.pairwise_iff_getElem.1 hP.rise) i j hlt hjl (by omega)
   rw [List.getElem?_eq_getElem hlt] at hx
   rw [List.getElem?_eq_getElem hjl] at hy
   rw [← oiA hx,← oiA hy]
   exact this
  obtain ⟨o,h1,h2,h3⟩:=qlH9 he (hP.ex x hxm) (sm_of (x:=(c,e)) hs) (sm_of (hb.2 x hxm))
  have htl : (fromP (P.take i)).length = i:=by rw [qba9,List.length_take]; omega
  have smx : ∀ y∈P.take i,SmallM y:=fun y hy=>hb.2 y (List.mem_of_mem_take hy)
  have smd : ∀ y∈P.drop (i + 1),SmallM y:=fun y hy=>hb.2 y (List.mem_of_mem_drop hy)
  rcases ltE_tri he (hP.ex x hxm) with lt | eq | gt
  ·-- laid ahead of it
   right
   have ho0 : o < 0:=h2.2 lt
   have step : qK9 (fromP P) s1 s4 (toL c) e (false,(i : Int),fromP (P.take i)) = some (.inl (true,((i + 1 : Nat) : Int),(fromP (P.take i)++[⟨toL c,e⟩])++[⟨toL x.1,x.2⟩])):=by
    simp only [qK9,qba9]
    rw [if_pos (by omega),qc9 (qbR9 hx),Option.bind_some,h1,Option.bind_some,if_pos ho0,if_neg (by simp),if_pos (by simp only [List.length_take]; omega),if_neg (by omega),if_pos (by simp only [List.length_append,htl,List.length_singleton]; omega),qg9 (by omega)]
   refine ⟨true,(P.length : Int),((fromP (P.take i)++[⟨toL c,e⟩])++[⟨toL x.1,x.2⟩])++fromP (P.drop (i + 1)),?_,?_,?_⟩
   ·rw [qf9 step]
    exact qmI9 hP hb he hs n (i + 1) _ (by omega) (by simp only [List.length_append,htl,List.length_singleton]; omega) (fun j y hj' hy=>ltE_trans lt (hlater j y hj' hy))
   ·rw [if_pos rfl,hsp,quc9 lt,qhQ9,qjH9,qjH9]
    simp
   ·rw [hsp,quc9 lt]
    intro y hy
    rcases List.mem_append.1 hy with hy | hy
    ·exact smx y hy
    rcases List.mem_cons.1 hy with rfl | hy
    ·exact hs
    rcases List.mem_cons.1 hy with rfl | hy
    ·exact hb.2 _ hxm
    ·exact smd y hy
  ·-- put to it
   have ho0 : o = 0:=h3.2 eq
   subst ho0
   have hsum : x.1 + c < lw ^ 64∨¬ x.1 + c < lw ^ 64:=Classical.em _
   have rx:=qfP9 (hb.2 x hxm).1
   have rc:=qfP9 hs.1
   have hadd : qfF9 (toL x.1) (toL c) = some (if x.1 + c < lw ^ 64 then (toL (x.1 + c),0) else ([],2)):=by
    rw [qsU9 rx.2.2 rc.2.2 rx.2.1 rc.2.1]
    unfold addR
    rw [if_pos ⟨rx.1,rc.1⟩,qbZ9,qbZ9]
   rcases hsum with hsum | hsum
   ·right
    rw [if_pos hsum] at hadd
    have l64:=qbQ9.2 hsum
    have step : qK9 (fromP P) s1 s4 (toL c) e (false,(i : Int),fromP (P.take i)) = some (.inl (true,((i + 1 : Nat) : Int),fromP (P.take i)++[⟨toL (x.1 + c),e⟩])):=by
     simp only [qK9,qba9]
     rw [if_pos (by omega),qc9 (qbR9 hx),Option.bind_some,h1,Option.bind_some,if_neg (by decide),if_pos rfl,hadd,Option.bind_some,if_pos rfl,if_neg (by simp only []; omega),if_pos (by simp only [List.length_take]; omega),qg9 (by omega)]
    refine ⟨true,(P.length : Int),(fromP (P.take i)++[⟨toL (x.1 + c),e⟩])++fromP (P.drop (i + 1)),?_,?_,?_⟩
    ·rw [qf9 step]
     exact qmI9 hP hb he hs n (i + 1) _ (by omega) (by simp only [List.length_append,htl,List.length_singleton]; omega) (fun j y hj' hy=>by rw [eq]; exact hlater j y hj' hy)
    ·rw [if_pos rfl,hsp,qpm9 eq,qhQ9,qjH9]
     simp [eq]
    ·rw [hsp,qpm9 eq]
     intro y hy
     rcases List.mem_append.1 hy with hy | hy
     ·exact smx y hy
     rcases List.mem_cons.1 hy with rfl | hy
     ·exact ⟨hsum,(hb.2 x hxm).2⟩
     ·exact smd y hy
   ·left
    rw [if_neg hsum] at hadd
    refine ⟨qe9 ?_,fun hh=>?_⟩
    ·simp only [qK9,qba9]
     rw [if_pos (by omega),qc9 (qbR9 hx),Option.bind_some,h1,Option.bind_some,if_neg (by decide),if_pos rfl,hadd,Option.bind_some,if_neg (by decide)]
    ·refine hsum (hh.2 (x.1 + c,x.2) ?_).1
     rw [hsp,qpm9 eq]
     simp
  ·-- behind it
   have nlt : ¬ ltE e x.2:=fun h=>ltE_irrefl _ (ltE_trans h gt)
   have neq : e ≠ x.2:=fun h=>by rw [h] at gt; exact ltE_irrefl _ gt
   have step : qK9 (fromP P) s1 s4 (toL c) e (false,(i : Int),fromP (P.take i)) = some (.inl (false,((i + 1 : Nat) : Int),fromP (P.take (i + 1)))):=by
    simp only [qK9,qba9]
    rw [if_pos (by omega),qc9 (qbR9 hx),Option.bind_some,h1,Option.bind_some,if_neg (fun h=>nlt (h2.1 h)),if_neg (fun h=>neq (h3.1 h)),if_pos (by simp only [List.length_take]; omega),qg9 (by omega)]
    rw [List.take_add_one,hx,qhQ9]; rfl
   rw [qf9 step]
   exact ih (i + 1) (by omega) (fun j y hj' hy=>by
    rcases Nat.lt_or_ge j i with h | h
    ·exact hj j y h hy
    ·have : j = i:=by omega
     subst this
     rw [hx] at hy
     cases hy
     exact gt)
open Classical in
theorem qrj9 (hP : PolyOK P) (hb : InB P) (he : ExOK e) (sc : Sm (toL c)) (se : Sm e) : ∃ L,qgk9 (fromP P) ⟨toL c,e⟩ = some (L,decide (InB (putP P (c,e))))∧(InB (putP P (c,e))→L = fromP (putP P (c,e))):=by
 have hbd : BdOK ⟨toL c,e⟩↔SmallM (c,e):=by
  unfold BdOK SmallM
  rw [qbQ9]
 unfold qgk9
 rw [qfR9 (m:=⟨toL c,e⟩) se,Option.bind_some]
 by_cases hs : SmallM (c,e)
 rotate_left
 ·have hn : ¬ InB (putP P (c,e)):=fun hh=>hs (qjE9 hh).2
  refine ⟨[],?_,fun hh=>absurd hh hn⟩
  rw [if_neg (by simpa [hbd] using hs),decide_eq_false hn]
 rw [if_pos (by simpa [hbd] using hs)]
 rcases qud9 (s1:=⟨toL c,e⟩) (s4:=[]) hP hb he hs P.length 0 (by omega) (fun j x hj=>absurd hj (by omega)) with ⟨hw,hn⟩ | ⟨d,z,L,hw,hL,hsm⟩
 ·have hw' : wh (qK9 (fromP P) ⟨toL c,e⟩ ([] : List Mono) (toL c) e) (false,0,([] : List Mono)) = some (.inl ([],false)):=hw
  refine ⟨[],?_,fun hh=>absurd hh hn⟩
  rw [decide_eq_false hn]
  simp only []
  rw [hw',Option.bind_some]
 ·have hw' : wh (qK9 (fromP P) ⟨toL c,e⟩ ([] : List Mono) (toL c) e) (false,0,([] : List Mono)) = some (.inr (d,z,L)):=hw
  have hlen : (fromP (putP P (c,e))).length≤257:=by have h1:=qwC9 (c,e) P; have h2:=hb.1; rw [qba9]; omega
  have hin : InB (putP P (c,e))↔(fromP (putP P (c,e))).length≤256:=by
   rw [qba9]
   exact ⟨fun h=>h.1,fun h=>⟨h,hsm⟩⟩
  refine ⟨fromP (putP P (c,e)),?_,fun _=>rfl⟩
  simp only []
  rw [hw',Option.bind_some]
  cases d with
  | true =>
   rw [if_pos rfl] at hL
   subst hL
   exact congrArg some (congrArg (Prod.mk _) (decide_eq_decide.2 (by rw [hin]; omega)))
  | false =>
   rw [if_neg (by decide)] at hL
   have hl1 : L.length + 1≤257:=by rw [← hL] at hlen; simpa using hlen
   simp only [Bool.false_eq_true,if_false]
   rw [if_pos (by omega),hL]
   exact congrArg some (congrArg (Prod.mk _) (decide_eq_decide.2 (by rw [hin]; omega)))
end
theorem qgB9 {p q : List Mono} (hp : PolyT p) (hq : PolyT q) : qO9 [p,q] = some (if chkC p 4611686018427387904 = 0 then chkC q 4611686018427387904 else chkC p 4611686018427387904):=by
 have h0 : qq9 [p,q] [p,q] (([p,q] : List (List Mono)).length : Int) 0 = some (if chkC p 4611686018427387904 = 0 then .inl 1 else .inr (.inl (chkC p 4611686018427387904))):=by
  simp only [qq9]
  rw [if_pos (by simp),show idx [p,q] 0 = some p from rfl,Option.bind_some,qdn9 hp,Option.bind_some]
  by_cases c : chkC p 4611686018427387904 = 0
  ·rw [if_pos c,if_pos c]; rfl
  ·rw [if_neg c,if_neg c]
 have h1 : qq9 [p,q] [p,q] (([p,q] : List (List Mono)).length : Int) 1 = some (if chkC q 4611686018427387904 = 0 then .inl 2 else .inr (.inl (chkC q 4611686018427387904))):=by
  simp only [qq9]
  rw [if_pos (by simp),show idx [p,q] 1 = some q from rfl,Option.bind_some,qdn9 hq,Option.bind_some]
  by_cases c : chkC q 4611686018427387904 = 0
  ·rw [if_pos c,if_pos c]; rfl
  ·rw [if_neg c,if_neg c]
 unfold qO9
 by_cases c : chkC p 4611686018427387904 = 0
 ·rw [if_pos c] at h0
  rw [qf9 h0]
  by_cases c2 : chkC q 4611686018427387904 = 0
  ·rw [if_pos c2] at h1
   rw [qf9 h1,qe9 (r:=.inr 2) (by simp only [qq9]; rw [if_neg (by simp)]),if_pos c,c2]; rfl
  ·rw [if_neg c2] at h1
   rw [qe9 h1,if_pos c]; rfl
 ·rw [if_neg c] at h0
  rw [qe9 h0,if_neg c]; rfl
theorem qic9 {p : List Mono} (hT : PolyT p) : chkC p 4611686018427387904 = 0↔PolyV p:=by
 obtain ⟨e,h1,h2⟩:=qmy9 (v:=4611686018427387904) hT (by decide)
 rw [qdn9 hT] at h1
 rw [oiA h1]
 exact h2
theorem PolyV.from {p : List Mono} (h : PolyV p) (t : PolyT p) : p = fromP (p.map toM):=(qmz9 h.fm t.2).symm
open Classical in
theorem qvT9 {P Q : List (Nat × Ex)} {a0 s4 : List Mono} {s6 : Int} (hQ : PolyOK Q) (hQb : InB Q) : ∀ (n i : Nat) (S : List (Nat × Ex)),i + n = Q.length→PolyOK S→InB S →
  ∃ z,wh (qcK9 a0 (fromP Q) s4 s6) (fromP S,(i : Int)) = some (if InB ((Q.drop i).foldl putP S) then .inr (fromP ((Q.drop i).foldl putP S),z) else .inl ([],2)):=by
 have hl:=hQb.1
 intro n
 induction n with
 | zero =>
  intro i S hi hS hSb
  have e0 : i = Q.length:=by omega
  subst e0
  refine ⟨(Q.length : Int),?_⟩
  rw [List.drop_length,List.foldl_nil,if_pos hSb]
  refine qe9 ?_
  simp only [qcK9,qba9]
  rw [if_neg (by omega)]
 | succ n ih =>
  intro i S hi hS hSb
  have hlt : i < Q.length:=by omega
  have hx : Q[i]? = some Q[i]:=List.getElem?_eq_getElem hlt
  have hdrop : Q.drop i = Q[i]::Q.drop (i + 1):=List.drop_eq_getElem_cons hlt
  generalize Q[i] = x at hx hdrop
  have hxm:=List.mem_of_getElem? hx
  have hxs:=hQb.2 x hxm
  obtain ⟨L,h1,h2⟩:=qrj9 (c:=x.1) (e:=x.2) hS hSb (hQ.ex x hxm) (qfP9 hxs.1).2.2 (sm_of hxs)
  rw [hdrop,List.foldl_cons]
  by_cases c : InB (putP S (x.1,x.2))
  ·have step : qcK9 a0 (fromP Q) s4 s6 (fromP S,(i : Int)) = some (.inl (fromP (putP S x),((i + 1 : Nat) : Int))):=by
    simp only [qcK9,qba9]
    rw [if_pos (by omega),qc9 (qbR9 hx),Option.bind_some,h1,Option.bind_some,if_pos (decide_eq_true c),qg9 (by omega),h2 c]
   rw [qf9 step]
   exact ih (i + 1) _ (by omega) (qik9 hS (hQ.pos x hxm) (hQ.ex x hxm)) c
  ·refine ⟨0,?_⟩
   rw [if_neg (fun hh=>c (qgP9 _ _ hh).1)]
   refine qe9 ?_
   simp only [qcK9,qba9]
   rw [if_pos (by omega),qc9 (qbR9 hx),Option.bind_some,h1,Option.bind_some,if_neg (by simpa using c)]
theorem qxp9 {p q : List Mono} (hp : PolyT p) (hq : PolyT q) : qgo9 p q = qbA9 p q:=by
 by_cases c1 : chkC p 4611686018427387904 = 0
 rotate_left
 ·unfold qgo9 qbA9
  rw [qF9 hp,Option.bind_some,if_neg c1,qgB9 hp hq,if_neg c1,Option.bind_some,if_neg c1]
 by_cases c2 : chkC q 4611686018427387904 = 0
 rotate_left
 ·unfold qgo9 qbA9
  rw [qF9 hp,Option.bind_some,if_pos c1,qF9 hq,Option.bind_some,if_neg c2,qgB9 hp hq,if_pos c1,Option.bind_some,if_neg c2]
 have vp:=(qic9 hp).1 c1
 have vq:=(qic9 hq).1 c2
 rw [Add_p hp hq vp vq]
 unfold qgo9
 rw [qF9 hp,Option.bind_some,if_pos c1,qF9 hq,Option.bind_some,if_pos c2,c2]
 obtain ⟨z,hw⟩:=qvT9 (P:=p.map toM) (Q:=q.map toM) (a0:=p) (s4:=[]) (s6:=0) vq.ok vq.bd (q.map toM).length 0 (p.map toM) (by omega) vp.ok vp.bd
 rw [← vp.from hp,← vq.from hq,List.drop_zero] at hw
 have hw' : wh (qcK9 p q ([] : List Mono) 0) (p,0) = _:=hw
 rw [hw',Option.bind_some]
 unfold addM addP
 by_cases c : InB ((q.map toM).foldl putP (p.map toM))
 ·rw [if_pos c,if_pos c]
 ·rw [if_neg c,if_neg c]
end Ld.Law
namespace Ld.Law
open Go Go.Abs
theorem qxI9 {a b : Ex} {i : Nat} (h : i < max a.length b.length) : (addE a b)[i]? = some (exAt a i + exAt b i):=by
 have hl : i < (addE a b).length:=by rw [qge9]; exact h
 have h1:=qiw9 a b i
 have h2 : (addE a b)[i]? = some (addE a b)[i]:=List.getElem?_eq_getElem hl
 rw [qbw9 h2] at h1
 rw [h2,h1]
theorem qtB9 {e : Ex} {c : Nat} (h : SmallM (c,e)) (he : ExOK e) (i : Nat) : 0≤exAt e i∧exAt e i≤64:=by
 by_cases hi : i < e.length
 ·have h2 : e[i]? = some e[i]:=List.getElem?_eq_getElem hi
  rw [qbw9 h2]
  exact ⟨he.1 _ (List.mem_of_getElem? h2),h.2.2 _ (List.mem_of_getElem? h2)⟩
 ·rw [qdJ9 (by omega)]; omega
open Classical in
theorem qpf9 {x y : Nat × Ex} (hx : SmallM x) (hy : SmallM y) (ex : ExOK x.2) (ey : ExOK y.2) : ∃ M,qgS9 ⟨toL x.1,x.2⟩ ⟨toL y.1,y.2⟩ = some (M,decide (SmallM (x.1 * y.1,addE x.2 y.2)))∧(SmallM (x.1 * y.1,addE x.2 y.2)→M = ⟨toL (x.1 * y.1),addE x.2 y.2⟩):=by
 have rx:=qfP9 hx.1
 have ry:=qfP9 hy.1
 have lx:=hx.2.1
 have ly:=hy.2.1
 have hmul : qhn9 (toL x.1) (toL y.1) = some (if x.1 * y.1 < lw ^ 64 then (toL (x.1 * y.1),0) else ([],2)):=by
  rw [qrV9 rx.2.2 ry.2.2 rx.2.1 ry.2.1]
  unfold mulR
  rw [if_pos ⟨rx.1,ry.1⟩,qbZ9,qbZ9]
 have loop : ∀ {A B : Mono} {c b2 b4 : List Int} {k : Int} {b5 b6 b8 : List Int},wh (qcY9 A B c k b2 x.2 b4 y.2 b5 b6 b8) (0,([] : List Int)) = some (((max x.2.length y.2.length : Nat) : Int),addE x.2 y.2):=by
  intro A B c b2 b4 k b5 b6 b8
  have:=wh_up (step:=qcY9 A B c k b2 x.2 b4 y.2 b5 b6 b8) (fun i=>((i : Int),(addE x.2 y.2).take i)) (n:=max x.2.length y.2.length) (r:=(((max x.2.length y.2.length : Nat) : Int),addE x.2 y.2)) (fun i hi=>?_) ?_ (max x.2.length y.2.length) 0 (by omega)
  ·simpa using this
  ·have b1:=qtB9 (c:=x.1) hx ex i
   have b2:=qtB9 (c:=y.1) hy ey i
   have hl : ((addE x.2 y.2).take i).length = i:=by rw [List.length_take,qge9]; omega
   have e1 : (addE x.2 y.2).take (i + 1) = (addE x.2 y.2).take i++[exAt x.2 i + exAt y.2 i]:=by
    rw [List.take_add_one,qxI9 hi]; rfl
   simp only [qcY9,qir9,Option.bind_some,e1]
   rw [qg9 (by omega),qun9 (n:=exAt x.2 i + exAt y.2 i) (by omega) (by omega)]
   by_cases c : (i : Int) < (x.2.length : Int)
   ·rw [if_pos c,if_pos (by omega)]
   ·rw [if_neg c,if_pos (by omega),if_pos (by omega)]
  ·simp only [qcY9]
   rw [if_neg (by omega),if_neg (by omega),List.take_of_length_le (by rw [qge9]; omega)]
 unfold qgS9
 simp only [hmul,Option.bind_some,loop]
 have sme : Sm (addE x.2 y.2):=by unfold Sm; rw [qge9]; omega
 by_cases c : x.1 * y.1 < lw ^ 64
 ·rw [if_pos c]
  have hbd : BdOK ⟨toL (x.1 * y.1),addE x.2 y.2⟩↔SmallM (x.1 * y.1,addE x.2 y.2):=by
   unfold BdOK SmallM
   rw [qbQ9]
  refine ⟨⟨toL (x.1 * y.1),addE x.2 y.2⟩,?_,fun _=>rfl⟩
  rw [if_pos rfl,qfR9 (m:=⟨toL (x.1 * y.1),addE x.2 y.2⟩) sme,Option.bind_some]
  exact congrArg some (congrArg (Prod.mk _) (decide_eq_decide.2 hbd))
 ·rw [if_neg c]
  have hn : ¬ SmallM (x.1 * y.1,addE x.2 y.2):=fun h=>c h.1
  refine ⟨⟨[],addE x.2 y.2⟩,?_,fun h=>absurd h hn⟩
  rw [if_neg (by decide),decide_eq_false hn]
open Classical in
theorem qze9 {P Q : List (Nat × Ex)} {s4 : List Mono} {s6 : Int} (hQ : PolyOK Q) (hQb : InB Q) {i : Nat} {x : Nat × Ex} (hx : P[i]? = some x) (px : 0 < x.1) (ex : ExOK x.2) (sx : SmallM x) : ∀ (n j : Nat) (S : List (Nat × Ex)),j + n = Q.length→PolyOK S→InB S →
  wh (qct9 (fromP P) (fromP Q) s4 s6 (i : Int)) (fromP S,(j : Int)) = some (if InB (((Q.drop j).map fun y=>(x.1 * y.1,addE x.2 y.2)).foldl putP S) then .inr (fromP (((Q.drop j).map fun y=>(x.1 * y.1,addE x.2 y.2)).foldl putP S)) else .inl ([],2)):=by
 have hl:=hQb.1
 intro n
 induction n with
 | zero =>
  intro j S hj hS hSb
  have e0 : j = Q.length:=by omega
  subst e0
  rw [List.drop_length,List.map_nil,List.foldl_nil,if_pos hSb]
  refine qe9 ?_
  simp only [qct9,qba9]
  rw [if_neg (by omega)]
 | succ n ih =>
  intro j S hj hS hSb
  have hlt : j < Q.length:=by omega
  have hy : Q[j]? = some Q[j]:=List.getElem?_eq_getElem hlt
  have hdrop : Q.drop j = Q[j]::Q.drop (j + 1):=List.drop_eq_getElem_cons hlt
  generalize Q[j] = y at hy hdrop
  have hym:=List.mem_of_getElem? hy
  have sy:=hQb.2 y hym
  have ey:=hQ.ex y hym
  obtain ⟨M,t1,t2⟩:=qpf9 sx sy ex ey
  rw [hdrop,List.map_cons,List.foldl_cons]
  by_cases c0 : SmallM (x.1 * y.1,addE x.2 y.2)
  rotate_left
  ·rw [if_neg (fun hh=>c0 (qjE9 (qgP9 _ _ hh).1).2)]
   refine qe9 ?_
   simp only [qct9,qba9]
   rw [if_pos (by omega),qc9 (qbR9 hx),Option.bind_some,qc9 (qbR9 hy),Option.bind_some,t1,Option.bind_some,if_neg (by simpa using c0)]
  rw [t2 c0] at t1
  have exy:=qhr9 ex ey
  obtain ⟨L,h1,h2⟩:=qrj9 (c:=x.1 * y.1) (e:=addE x.2 y.2) hS hSb exy (qfP9 c0.1).2.2 (sm_of c0)
  by_cases c : InB (putP S (x.1 * y.1,addE x.2 y.2))
  ·have step : qct9 (fromP P) (fromP Q) s4 s6 (i : Int) (fromP S,(j : Int)) = some (.inl (fromP (putP S (x.1 * y.1,addE x.2 y.2)),((j + 1 : Nat) : Int))):=by
    simp only [qct9,qba9]
    rw [if_pos (by omega),qc9 (qbR9 hx),Option.bind_some,qc9 (qbR9 hy),Option.bind_some,t1,Option.bind_some,if_pos (decide_eq_true c0),h1,Option.bind_some,if_pos (decide_eq_true c),qg9 (by omega),h2 c]
   rw [qf9 step]
   exact ih (j + 1) _ (by omega) (qik9 hS (Nat.mul_pos px (hQ.pos y hym)) exy) c
  ·rw [if_neg (fun hh=>c (qgP9 _ _ hh).1)]
   refine qe9 ?_
   simp only [qct9,qba9]
   rw [if_pos (by omega),qc9 (qbR9 hx),Option.bind_some,qc9 (qbR9 hy),Option.bind_some,t1,Option.bind_some,if_pos (decide_eq_true c0),h1,Option.bind_some,if_neg (by simpa using c)]
open Classical in
theorem qyz9 {P Q : List (Nat × Ex)} {s4 : List Mono} {s6 : Int} (hP : PolyOK P) (hPb : InB P) (hQ : PolyOK Q) (hQb : InB Q) : ∀ (n i : Nat) (S : List (Nat × Ex)),i + n = P.length→PolyOK S→InB S →
  ∃ z,wh (qcL9 (fromP P) (fromP Q) s4 s6) (fromP S,(i : Int)) = some (if InB ((mulL (P.drop i) Q).foldl putP S) then .inr (fromP ((mulL (P.drop i) Q).foldl putP S),z) else .inl ([],2)):=by
 have hl:=hPb.1
 intro n
 induction n with
 | zero =>
  intro i S hi hS hSb
  have e0 : i = P.length:=by omega
  subst e0
  refine ⟨(P.length : Int),?_⟩
  rw [List.drop_length,show mulL [] Q = [] from rfl,List.foldl_nil,if_pos hSb]
  refine qe9 ?_
  simp only [qcL9,qba9]
  rw [if_neg (by omega)]
 | succ n ih =>
  intro i S hi hS hSb
  have hlt : i < P.length:=by omega
  have hx : P[i]? = some P[i]:=List.getElem?_eq_getElem hlt
  have hdrop : P.drop i = P[i]::P.drop (i + 1):=List.drop_eq_getElem_cons hlt
  generalize P[i] = x at hx hdrop
  have hxm:=List.mem_of_getElem? hx
  have hin:=qze9 (P:=P) (s4:=s4) (s6:=s6) hQ hQb hx (hP.pos x hxm) (hP.ex x hxm) (hPb.2 x hxm) Q.length 0 S (by omega) hS hSb
  rw [List.drop_zero] at hin
  have hcons : mulL (P.drop i) Q = (Q.map fun y=>(x.1 * y.1,addE x.2 y.2))++mulL (P.drop (i + 1)) Q:=by rw [hdrop]; rfl
  rw [hcons,List.foldl_append]
  have hin' : wh (qct9 (fromP P) (fromP Q) s4 s6 (i : Int)) (fromP S,0) = _:=hin
  by_cases c : InB ((Q.map fun y=>(x.1 * y.1,addE x.2 y.2)).foldl putP S)
  ·rw [if_pos c] at hin'
   have step : qcL9 (fromP P) (fromP Q) s4 s6 (fromP S,(i : Int)) = some (.inl (fromP ((Q.map fun y=>(x.1 * y.1,addE x.2 y.2)).foldl putP S),((i + 1 : Nat) : Int))):=by
    simp only [qcL9,qba9]
    rw [if_pos (by omega),hin',Option.bind_some,qg9 (by omega)]
   rw [qf9 step]
   refine ih (i + 1) _ (by omega) (qiF9 _ _ hS (fun z hz=>?_)) c
   obtain ⟨y,hy,rfl⟩:=List.mem_map.1 hz
   exact ⟨Nat.mul_pos (hP.pos x hxm) (hQ.pos y hy),qhr9 (hP.ex x hxm) (hQ.ex y hy)⟩
  ·rw [if_neg c] at hin'
   refine ⟨0,?_⟩
   rw [if_neg (fun hh=>c (qgP9 _ _ hh).1)]
   refine qe9 ?_
   simp only [qcL9,qba9]
   rw [if_pos (by omega),hin',Option.bind_some]
theorem qoG9 {p q : List Mono} (hp : PolyT p) (hq : PolyT q) : qgh9 p q = qbv9 p q:=by
 by_cases c1 : chkC p 4611686018427387904 = 0
 rotate_left
 ·unfold qgh9 qbv9
  rw [qF9 hp,Option.bind_some,if_neg c1,qgB9 hp hq,if_neg c1,Option.bind_some,if_neg c1]
 by_cases c2 : chkC q 4611686018427387904 = 0
 rotate_left
 ·unfold qgh9 qbv9
  rw [qF9 hp,Option.bind_some,if_pos c1,qF9 hq,Option.bind_some,if_neg c2,qgB9 hp hq,if_pos c1,Option.bind_some,if_neg c2]
 have vp:=(qic9 hp).1 c1
 have vq:=(qic9 hq).1 c2
 rw [Mul_p hp hq vp vq]
 unfold qgh9
 rw [qF9 hp,Option.bind_some,if_pos c1,qF9 hq,Option.bind_some,if_pos c2,c2]
 obtain ⟨z,hw⟩:=qyz9 (P:=p.map toM) (Q:=q.map toM) (s4:=[]) (s6:=0) vp.ok vp.bd vq.ok vq.bd (p.map toM).length 0 [] (by omega) qdk9 (by unfold InB; simp)
 rw [← vp.from hp,← vq.from hq,List.drop_zero] at hw
 have hw' : wh (qcL9 p q ([] : List Mono) 0) (([] : List Mono),0) = _:=hw
 rw [hw',Option.bind_some]
 unfold mulQ mulP
 by_cases c : InB ((mulL (p.map toM) (q.map toM)).foldl putP [])
 ·rw [if_pos c,if_pos c]
 ·rw [if_neg c,if_neg c]
end Ld.Law

import Derived.Test.YtmkohpkfeamjiaaTk9
set_option maxHeartbeats 400000
set_option linter.unusedVariables false
set_option linter.unusedSimpArgs false
set_option linter.unusedSectionVars false
namespace Le
open Ld Lt Go Go.Proofs Go.Abs
set_option maxRecDepth 8000
def qnV9 : ACode:=.reg [] [] [.M 30 4,.M 31 0,.M 32 2,.T 33 (.ix 2 (.tmp 31) (.tmp 32)),.T 34 (.fa 1 (.tmp 33)),.T 35 (.load none (.tmp 34)),.T 36 (.len (.tmp 35)),.K 37 (.bin .lss (.tmp 30) (.tmp 36))]
def qms9 : ACode:=.reg [] [] [.M 40 0,.M 41 2,.T 42 (.ix 2 (.tmp 40) (.tmp 41)),.T 43 (.fa 1 (.tmp 42)),.T 44 (.load none (.tmp 43)),.M 45 4,.T 46 (.ix 1 (.tmp 44) (.tmp 45)),⟨none,.store 1 (.tmp 46) (cI 9),none,false,false⟩]
def qoR9 : ACode:=.reg [] [] [.M 38 4,.T 39 (.bin .add (.tmp 38) (cI 1)),.N 4 39]
def qpj9 : ACode:=.reg [] [] [.M 13 3,.M 14 0,.M 15 2,.T 16 (.ix 2 (.tmp 14) (.tmp 15)),.T 17 (.fa 0 (.tmp 16)),.T 18 (.load none (.tmp 17)),.T 19 (.len (.tmp 18)),.K 20 (.bin .lss (.tmp 13) (.tmp 19))]
def qpe9 : ACode:=.reg [] [] [.M 23 0,.M 24 2,.T 25 (.ix 2 (.tmp 23) (.tmp 24)),.T 26 (.fa 0 (.tmp 25)),.T 27 (.load none (.tmp 26)),.M 28 3,.T 29 (.ix 1 (.tmp 27) (.tmp 28)),⟨none,.store 1 (.tmp 29) (.const (.int .u32 9)),none,false,false⟩]
def qnF9 : ACode:=.reg [] [] [.M 21 3,.T 22 (.bin .add (.tmp 21) (cI 1)),.N 3 22]
def qhF9 : ACode:=.reg [] [] [.M 7 2,.M 8 0,.T 9 (.len (.tmp 8)),.K 10 (.bin .lss (.tmp 7) (.tmp 9))]
def qoy9 : ACode:=.reg [] [] [.K 3 (.mv (cI 0))]
def qpc9 : ACode:=.reg [] [] [.K 4 (.mv (cI 0))]
def qjL9 : ACode:=.reg [] [] [.M 47 0,.M 48 2,.T 49 (.ix 2 (.tmp 47) (.tmp 48)),.T 50 (.fa 0 (.tmp 49)),.T 51 (.load none (.tmp 50)),.T 52 (.lit 1 [(0,.const (.int .u32 8))]),.T 53 (.app 1 4 (.tmp 51) (.tmp 52)),.N 5 53]
def qjF9 : ACode:=.reg [] [] [.M 54 0,.M 55 2,.T 56 (.ix 2 (.tmp 54) (.tmp 55)),.T 57 (.fa 1 (.tmp 56)),.T 58 (.load none (.tmp 57)),.T 59 (.lit 1 [(0,.const (.int .i64 8))]),.T 60 (.app 1 8 (.tmp 58) (.tmp 59)),.N 6 60]
def qjT9 : ACode:=.reg [] [] [.M 61 5,.M 62 5,.T 63 (.len (.tmp 62)),.T 64 (.bin .sub (.tmp 63) (cI 1)),.T 65 (.ix 1 (.tmp 61) (.tmp 64)),⟨none,.store 1 (.tmp 65) (.const (.int .u32 7)),none,false,false⟩]
def qjM9 : ACode:=.reg [] [] [.M 66 6,.M 67 6,.T 68 (.len (.tmp 67)),.T 69 (.bin .sub (.tmp 68) (cI 1)),.T 70 (.ix 1 (.tmp 66) (.tmp 69)),⟨none,.store 1 (.tmp 70) (cI 7),none,false,false⟩]
def qjQ9 : ACode:=.reg [] [] [.M 71 0,.M 72 2,.T 73 (.build [(0,1),(1,1)] [.im true [],.im true []] []),.T 74 (.ix 2 (.tmp 71) (.tmp 72)),⟨none,.store 2 (.tmp 74) (.tmp 73),none,false,false⟩]
def qnX9 : ACode:=.reg [] [] [.M 11 2,.T 12 (.bin .add (.tmp 11) (cI 1)),.N 2 12]
def qjv9 : ACode:=.reg [] [] [.K 2 (.mv (cI 0))]
def qhG9 : ACode:=.seq (.seq (qnV9) (.cond (.tmp 37) (some 37) (.skip) (.exit 4))) (.seq (.block 5 137438953472 (qms9)) (qoR9))
def qhD9 : ACode:=.seq (.seq (qpj9) (.cond (.tmp 20) (some 20) (.skip) (.exit 2))) (.seq (.block 3 1048576 (qpe9)) (qnF9))
def qeL9 : ACode:=.seq (.seq (qhF9) (.cond (.tmp 10) (some 10) (.skip) (.exit 0))) (.seq (.block 1 137440003192 (.seq (.seq (qoy9) (.block 2 1049608 (.loop qhD9))) (.seq (.seq (qpc9) (.block 4 137440003096 (.loop qhG9))) (.seq (qjL9) (.seq (qjF9) (.seq (qjT9) (.seq (qjM9) (qjQ9)))))))) (qnX9))
def c23 : ACode:=.seq (qjv9) (.block 0 137440003192 (.loop qeL9))
section
variable {C : Cfg} {H : AHeap} {R i n c lc : Nat} {es : List (List PV)} {x y : PV}
def en1 (R n i k : Nat) : Env:=[(0,.ref R 0 0 n),(2,PI i),(3,PI k)]
theorem qxl9 (hr : H[R]? = some (.row false 0 2 es)) (he : es[i]? = some [.ref c 0 0 lc,x]) (hi : i < n) : semA C (Lim C) 137440003197 qhD9 ⟨en1 R n i lc,H⟩ = some (.exit 2,⟨en1 R n i lc,H⟩):=by
 have i1 : ((i : Int) < (n : Int)) = True:=eq_true (by omega)
 have i2 : ((0 : Int)≤(i : Int)) = True:=eq_true (by omega)
 simp +decide only [go_sem,qhD9,qpj9,qpe9,qnF9,en1,hr,he,i1,i2,Int.toNat_natCast,Nat.zero_add,Int.lt_irrefl]
theorem qxf9 {rs : List (List PV)} {k : Nat} {u : PV} (hr : H[R]? = some (.row false 0 2 es)) (he : es[i]? = some [.ref c 0 0 lc,x]) (hi : i < n) (hc : H[c]? = some (.row false 0 1 rs)) (hu : rs[k]? = some [u]) (hk : k < lc) (hl : lc≤1048576) : semA C (Lim C) 137440003197 qhD9 ⟨en1 R n i k,H⟩ = some (.normal,⟨en1 R n i (k + 1),H.set c (.row false 0 1 (rs.set k [.d (.v (.int .u32 9))]))⟩):=by
 have i1 : ((i : Int) < (n : Int)) = True:=eq_true (by omega)
 have i2 : ((0 : Int)≤(i : Int)) = True:=eq_true (by omega)
 have i3 : ((k : Int) < (lc : Int)) = True:=eq_true (by omega)
 have i4 : ((0 : Int)≤(k : Int)) = True:=eq_true (by omega)
 have i5 : w64 ((k : Int) + 1) = ((k + 1 : Nat) : Int):=by rw [qh9 (by omega) (by omega)]; omega
 simp +decide only [go_sem,qhD9,qpj9,qpe9,qnF9,en1,hr,he,hc,hu,i1,i2,i3,i4,i5,Int.toNat_natCast,Nat.zero_add]
def en2 (R n i j : Nat) : Env:=[(0,.ref R 0 0 n),(2,PI i),(4,PI j)]
theorem qvw9 (hr : H[R]? = some (.row false 0 2 es)) (he : es[i]? = some [x,.ref c 0 0 lc]) (hi : i < n) : semA C (Lim C) 137440003197 qhG9 ⟨en2 R n i lc,H⟩ = some (.exit 4,⟨en2 R n i lc,H⟩):=by
 have i1 : ((i : Int) < (n : Int)) = True:=eq_true (by omega)
 have i2 : ((0 : Int)≤(i : Int)) = True:=eq_true (by omega)
 simp +decide only [go_sem,qhG9,qnV9,qoR9,qms9,en2,hr,he,i1,i2,Int.toNat_natCast,Nat.zero_add,Int.lt_irrefl]
theorem qvQ9 {rs : List (List PV)} {j : Nat} {u : PV} (hr : H[R]? = some (.row false 0 2 es)) (he : es[i]? = some [x,.ref c 0 0 lc]) (hi : i < n) (hc : H[c]? = some (.row false 0 1 rs)) (hu : rs[j]? = some [u]) (hk : j < lc) (hl : lc≤1048576) : semA C (Lim C) 137440003197 qhG9 ⟨en2 R n i j,H⟩ = some (.normal,⟨en2 R n i (j + 1),H.set c (.row false 0 1 (rs.set j [.d (.v (.int .i64 9))]))⟩):=by
 have i1 : ((i : Int) < (n : Int)) = True:=eq_true (by omega)
 have i2 : ((0 : Int)≤(i : Int)) = True:=eq_true (by omega)
 have i3 : ((j : Int) < (lc : Int)) = True:=eq_true (by omega)
 have i4 : ((0 : Int)≤(j : Int)) = True:=eq_true (by omega)
 have i5 : w64 ((j : Int) + 1) = ((j + 1 : Nat) : Int):=by rw [qh9 (by omega) (by omega)]; omega
 simp +decide only [go_sem,qhG9,qnV9,qoR9,qms9,en2,hr,he,hc,hu,i1,i2,i3,i4,i5,Int.toNat_natCast,Nat.zero_add]
end
def One (rs : List (List PV)) (n : Nat) : Prop:=rs.length = n∧∀ r∈rs,r.length = 1
theorem One.get {rs : List (List PV)} {n k : Nat} (h : One rs n) (hk : k < n) : ∃ u,rs[k]? = some [u]:=by
 have hl : k < rs.length:=by rw [h.1]; exact hk
 have:=h.2 rs[k] (List.getElem_mem hl)
 match hr : rs[k],this with
 | [u],_=>exact ⟨u,by rw [List.getElem?_eq_getElem hl,hr]⟩
theorem One.set {rs : List (List PV)} {n k : Nat} {u : PV} (h : One rs n) : One (rs.set k [u]) n:=by
 refine ⟨by rw [List.length_set]; exact h.1,fun r hr=>?_⟩
 rcases List.mem_or_eq_of_mem_set hr with h1 | h1
 ·exact h.2 r h1
 ·rw [h1]; rfl
section
variable {C : Cfg} {R i n c lc : Nat} {es : List (List PV)} {x y : PV}
theorem lp1 (hi : i < n) (hl : lc≤1048576) (hRc : R ≠ c) (he : es[i]? = some [.ref c 0 0 lc,x]) : ∀ (d k : Nat) (H : AHeap) (rs : List (List PV)),k + d = lc→H[R]? = some (.row false 0 2 es)→H[c]? = some (.row false 0 1 rs)→One rs lc →
  ∃ rs',One rs' lc∧qM9 (semA C (Lim C) 137440003197 qhD9) ⟨en1 R n i k,H⟩ = some (.exit 2,⟨en1 R n i lc,H.set c (.row false 0 1 rs')⟩):=by
 intro d
 induction d with
 | zero =>
  intro k H rs hk hr hc ho
  obtain rfl : k = lc:=by omega
  refine ⟨rs,ho,?_⟩
  rw [qbE9,qxl9 hr he hi]
  have : H.set c (.row false 0 1 rs) = H:=by
   refine List.ext_getElem? fun j=>?_
   rw [List.getElem?_set]
   split
   ·rename_i e; subst e; rw [if_pos (List.getElem?_eq_some_iff.1 hc).1,hc]
   ·rfl
  rw [this]
 | succ d ih =>
  intro k H rs hk hr hc ho
  obtain ⟨u,hu⟩:=ho.get (k:=k) (by omega)
  have hcl:=(List.getElem?_eq_some_iff.1 hc).1
  obtain ⟨rs',h1,h2⟩:=ih (k + 1) (H.set c (.row false 0 1 (rs.set k [.d (.v (.int .u32 9))]))) _ (by omega) (by rw [List.getElem?_set_ne (Ne.symm hRc)]; exact hr) (by rw [List.getElem?_set_self hcl]) ho.set
  refine ⟨rs',h1,?_⟩
  rw [qbE9,qxf9 hr he hi hc hu (by omega) hl]
  simp only []
  rw [h2,List.set_set]
theorem lp2 (hi : i < n) (hl : lc≤1048576) (hRc : R ≠ c) (he : es[i]? = some [x,.ref c 0 0 lc]) : ∀ (d j : Nat) (H : AHeap) (rs : List (List PV)),j + d = lc→H[R]? = some (.row false 0 2 es)→H[c]? = some (.row false 0 1 rs)→One rs lc →
  ∃ rs',One rs' lc∧qM9 (semA C (Lim C) 137440003197 qhG9) ⟨en2 R n i j,H⟩ = some (.exit 4,⟨en2 R n i lc,H.set c (.row false 0 1 rs')⟩):=by
 intro d
 induction d with
 | zero =>
  intro j H rs hk hr hc ho
  obtain rfl : j = lc:=by omega
  refine ⟨rs,ho,?_⟩
  rw [qbE9,qvw9 hr he hi]
  have : H.set c (.row false 0 1 rs) = H:=by
   refine List.ext_getElem? fun j=>?_
   rw [List.getElem?_set]
   split
   ·rename_i e; subst e; rw [if_pos (List.getElem?_eq_some_iff.1 hc).1,hc]
   ·rfl
  rw [this]
 | succ d ih =>
  intro j H rs hk hr hc ho
  obtain ⟨u,hu⟩:=ho.get (k:=j) (by omega)
  have hcl:=(List.getElem?_eq_some_iff.1 hc).1
  obtain ⟨rs',h1,h2⟩:=ih (j + 1) (H.set c (.row false 0 1 (rs.set j [.d (.v (.int .i64 9))]))) _ (by omega) (by rw [List.getElem?_set_ne (Ne.symm hRc)]; exact hr) (by rw [List.getElem?_set_self hcl]) ho.set
  refine ⟨rs',h1,?_⟩
  rw [qbE9,qvQ9 hr he hi hc hu (by omega) hl]
  simp only []
  rw [h2,List.set_set]
end
section
variable {C : Cfg} {R i n c e lc le : Nat} {es : List (List PV)} {H : AHeap}
def en0 (R n i : Nat) : Env:=[(0,.ref R 0 0 n),(2,PI i)]
def tl : ACode:=.seq (qjL9) (.seq (qjF9) (.seq (qjT9) (.seq (qjM9) (qjQ9))))
def en5 (R n i c lc : Nat) : Env:=[(0,.ref R 0 0 n),(2,PI i),(5,.ref c 1 0 (lc + 1))]
def en6 (R n i c lc e le : Nat) : Env:=[(0,.ref R 0 0 n),(2,PI i),(5,.ref c 1 0 (lc + 1)),(6,.ref e 1 0 (le + 1))]
def v8 : PV:=.d (.v (.int .u32 8))
def w8 : PV:=.d (.v (.int .i64 8))
theorem run11 {x : PV} {r1 : List (List PV)} (hr : H[R]? = some (.row false 0 2 es)) (he : es[i]? = some [.ref c 0 0 lc,x]) (hi : i < n) (hc : H[c]? = some (.row false 0 1 r1)) (h1 : r1.length = lc) (hl : lc≤1048576) : semA C (Lim C) 137440003197 qjL9 ⟨en0 R n i,H⟩ = some (.normal,⟨en5 R n i c lc,H.set c (.row false 1 1 (r1++[[v8]]))⟩):=by
 have i1 : ((i : Int) < (n : Int)) = True:=eq_true (by omega)
 have i2 : ((0 : Int)≤(i : Int)) = True:=eq_true (by omega)
 have i3 : (lc + 1) * 4≤140737488355328:=by omega
 have t1 : r1.take lc = r1:=List.take_of_length_le (by omega)
 simp +decide only [go_sem,qjL9,en0,en5,v8,hr,he,hc,t1,i1,i2,i3,Int.toNat_natCast,Nat.zero_add]
theorem run12 {x : PV} {r2 : List (List PV)} (hr : H[R]? = some (.row false 0 2 es)) (he : es[i]? = some [x,.ref e 0 0 le]) (hi : i < n) (hc : H[e]? = some (.row false 0 1 r2)) (h1 : r2.length = le) (hl : le≤1048576) : semA C (Lim C) 137440003197 qjF9 ⟨en5 R n i c lc,H⟩ = some (.normal,⟨en6 R n i c lc e le,H.set e (.row false 1 1 (r2++[[w8]]))⟩):=by
 have i1 : ((i : Int) < (n : Int)) = True:=eq_true (by omega)
 have i2 : ((0 : Int)≤(i : Int)) = True:=eq_true (by omega)
 have i3 : (le + 1) * 8≤140737488355328:=by omega
 have t1 : r2.take le = r2:=List.take_of_length_le (by omega)
 simp +decide only [go_sem,qjF9,en5,en6,w8,hr,he,hc,t1,i1,i2,i3,Int.toNat_natCast,Nat.zero_add]
theorem run13 {q : List (List PV)} {u : PV} (hc : H[c]? = some (.row false 1 1 q)) (hu : q[lc]? = some [u]) (hl : lc≤1048576) : semA C (Lim C) 137440003197 qjT9 ⟨en6 R n i c lc e le,H⟩ = some (.normal,⟨en6 R n i c lc e le,H.set c (.row false 1 1 (q.set lc [.d (.v (.int .u32 7))]))⟩):=by
 have i5 : w64 (((lc + 1 : Nat) : Int) - 1) = (lc : Int):=by rw [qh9 (by omega) (by omega)]; omega
 have i1 : ((lc : Int) < ((lc + 1 : Nat) : Int)) = True:=eq_true (by omega)
 have i2 : ((0 : Int)≤(lc : Int)) = True:=eq_true (by omega)
 simp +decide only [go_sem,qjT9,en6,hc,hu,i1,i2,i5,Int.toNat_natCast,Nat.zero_add]
theorem run14 {q : List (List PV)} {u : PV} (hc : H[e]? = some (.row false 1 1 q)) (hu : q[le]? = some [u]) (hl : le≤1048576) : semA C (Lim C) 137440003197 qjM9 ⟨en6 R n i c lc e le,H⟩ = some (.normal,⟨en6 R n i c lc e le,H.set e (.row false 1 1 (q.set le [.d (.v (.int .i64 7))]))⟩):=by
 have i5 : w64 (((le + 1 : Nat) : Int) - 1) = (le : Int):=by rw [qh9 (by omega) (by omega)]; omega
 have i1 : ((le : Int) < ((le + 1 : Nat) : Int)) = True:=eq_true (by omega)
 have i2 : ((0 : Int)≤(le : Int)) = True:=eq_true (by omega)
 simp +decide only [go_sem,qjM9,en6,hc,hu,i1,i2,i5,Int.toNat_natCast,Nat.zero_add]
theorem run15 {x y : PV} (hr : H[R]? = some (.row false 0 2 es)) (he : es[i]? = some [x,y]) (hi : i < n) : semA C (Lim C) 137440003197 qjQ9 ⟨en6 R n i c lc e le,H⟩ = some (.normal,⟨en6 R n i c lc e le,H.set R (.row false 0 2 (es.set i [.im true [],.im true []]))⟩):=by
 have i1 : ((i : Int) < (n : Int)) = True:=eq_true (by omega)
 have i2 : ((0 : Int)≤(i : Int)) = True:=eq_true (by omega)
 simp +decide only [go_sem,qjQ9,en6,hr,he,i1,i2,Int.toNat_natCast,Nat.zero_add]
end
end Le
namespace Le
open Ld Lt Go Go.Proofs Go.Abs
set_option maxRecDepth 8000
section
variable {C : Cfg} {R n i : Nat} {H : AHeap}
theorem r1_lt (hi : i < n) : semA C (Lim C) 137440003197 (.seq qhF9 (.cond (.tmp 10) (some 10) (.skip) (.exit 0))) ⟨en0 R n i,H⟩ = some (.normal,⟨en0 R n i,H⟩):=by
 have i1 : ((i : Int) < (n : Int)) = True:=eq_true (by omega)
 simp +decide only [go_sem,qhF9,en0,i1]
theorem r1_ge : semA C (Lim C) 137440003197 (.seq qhF9 (.cond (.tmp 10) (some 10) (.skip) (.exit 0))) ⟨en0 R n n,H⟩ = some (.exit 0,⟨en0 R n n,H⟩):=by
 simp +decide only [go_sem,qhF9,en0,Int.lt_irrefl]
theorem qzK9 : semA C (Lim C) 137440003197 qoy9 ⟨en0 R n i,H⟩ = some (.normal,⟨en1 R n i 0,H⟩):=by
 simp +decide only [go_sem,qoy9,en0,en1]
theorem qAI9 : semA C (Lim C) 137440003197 qpc9 ⟨en0 R n i,H⟩ = some (.normal,⟨en2 R n i 0,H⟩):=by
 simp +decide only [go_sem,qpc9,en0,en2]
theorem qAq9 (hi : i < 1048576) : semA C (Lim C) 137440003197 qnX9 ⟨en0 R n i,H⟩ = some (.normal,⟨en0 R n (i + 1),H⟩):=by
 have i5 : w64 ((i : Int) + 1) = ((i + 1 : Nat) : Int):=by rw [qh9 (by omega) (by omega)]; omega
 simp +decide only [go_sem,qnX9,en0,i5]
theorem qAb9 : semA C (Lim C) 137440003197 qjv9 ⟨[(0,.ref R 0 0 n)],H⟩ = some (.normal,⟨en0 R n 0,H⟩):=by
 simp +decide only [go_sem,qjv9,en0]
theorem del1 {k : Nat} : (en1 R n i k).del 1049608 = en0 R n i:=by simp +decide only [go_sem,en1,en0]
theorem del2 {k : Nat} : (en2 R n i k).del 137440003096 = en0 R n i:=by simp +decide only [go_sem,en2,en0]
theorem del6 {c lc e le : Nat} : (en6 R n i c lc e le).del 137440003192 = en0 R n i:=by simp +decide only [go_sem,en6,en0]
theorem qgi9 {C : Cfg} {L : Oracle} {k : Nat} {a b : ACode} {s : St} : semA C L k (.seq a b) s = match semA C L k a s with
  | some (.normal,s')=>semA C L k b s'
  | r=>r:=rfl
theorem qiq9 {C : Cfg} {L : Oracle} {k id d : Nat} {c : ACode} {s : St} : semA C L k (.block id d c) s = match semA C L k c s with
  | some (.normal,s')=>some (.normal,⟨Env.del d s'.env,s'.h⟩)
  | some (.exit j,s')=>if j = id then some (.normal,⟨Env.del d s'.env,s'.h⟩) else some (.exit j,s')
  | r=>r:=rfl
structure Sp (N R : Nat) (L : List Mono) (i : Nat) (H : AHeap) : Prop where
 row : ∃ es,H[R]? = some (.row false 0 2 es)∧∀ k m,i≤k→L[k]? = some m→es[k]? = some [.ref (N + 2 * k) 0 0 m.Coef.length,.ref (N + 2 * k + 1) 0 0 m.Exps.length]
 ob : ∀ k m,i≤k→L[k]? = some m→(∃ rs,H[N + 2 * k]? = some (.row false 0 1 rs)∧One rs m.Coef.length)∧(∃ rs,H[N + 2 * k + 1]? = some (.row false 0 1 rs)∧One rs m.Exps.length)
theorem round {N : Nat} {L : List Mono} (hR : N + 2 * L.length≤R) (hn : n = L.length) (hs : L.length≤1048576) (hsm : ∀ m∈L,m.Coef.length≤1048576∧m.Exps.length≤1048576) (S : Sp N R L i H) (hi : i < n) : ∃ H',semA C (Lim C) 137440003197 qeL9 ⟨en0 R n i,H⟩ = some (.normal,⟨en0 R n (i + 1),H'⟩)∧Sp N R L (i + 1) H':=by
 have hx : L[i]? = some (L[i]'(by omega)):=List.getElem?_eq_getElem _
 generalize L[i]'(by omega) = m at hx
 have hm:=hsm m (List.mem_of_getElem? hx)
 obtain ⟨es,hr,hes⟩:=S.row
 have he:=hes i m (Nat.le_refl _) hx
 obtain ⟨⟨r1,hc,o1⟩,⟨r2,hE,o2⟩⟩:=S.ob i m (Nat.le_refl _) hx
 have nRc : R ≠ N + 2 * i:=by omega
 have nRe : R ≠ N + 2 * i + 1:=by omega
 have nce : N + 2 * i ≠ N + 2 * i + 1:=by omega
 obtain ⟨q1,p1,l1⟩:=lp1 (C:=C) hi hm.1 nRc he m.Coef.length 0 H r1 (by omega) hr hc o1
 have hcl:=(List.getElem?_eq_some_iff.1 hc).1
 have hel:=(List.getElem?_eq_some_iff.1 hE).1
 -- behind the first loop
 have hr1 : (H.set (N + 2 * i) (.row false 0 1 q1))[R]? = some (.row false 0 2 es):=by rw [List.getElem?_set_ne (Ne.symm nRc)]; exact hr
 have hE1 : (H.set (N + 2 * i) (.row false 0 1 q1))[N + 2 * i + 1]? = some (.row false 0 1 r2):=by rw [List.getElem?_set_ne nce]; exact hE
 have hc1 : (H.set (N + 2 * i) (.row false 0 1 q1))[N + 2 * i]? = some (.row false 0 1 q1):=List.getElem?_set_self hcl
 obtain ⟨q2,p2,l2⟩:=lp2 (C:=C) hi hm.2 nRe he m.Exps.length 0 _ r2 (by omega) hr1 hE1 o2
 generalize hH1 : H.set (N + 2 * i) (.row false 0 1 q1) = H1 at l1 hr1 hE1 hc1 l2
 have hel1:=(List.getElem?_eq_some_iff.1 hE1).1
 have hr2 : (H1.set (N + 2 * i + 1) (.row false 0 1 q2))[R]? = some (.row false 0 2 es):=by rw [List.getElem?_set_ne (Ne.symm nRe)]; exact hr1
 have hc2 : (H1.set (N + 2 * i + 1) (.row false 0 1 q2))[N + 2 * i]? = some (.row false 0 1 q1):=by rw [List.getElem?_set_ne (Ne.symm nce)]; exact hc1
 have hE2 : (H1.set (N + 2 * i + 1) (.row false 0 1 q2))[N + 2 * i + 1]? = some (.row false 0 1 q2):=List.getElem?_set_self hel1
 have oth2 : ∀ k,k ≠ N + 2 * i→k ≠ N + 2 * i + 1→(H1.set (N + 2 * i + 1) (.row false 0 1 q2))[k]? = H[k]?:=fun k h1 h2=>by
  rw [List.getElem?_set_ne (Ne.symm h2),← hH1,List.getElem?_set_ne (Ne.symm h1)]
 generalize H1.set (N + 2 * i + 1) (.row false 0 1 q2) = H2 at l2 hr2 hc2 hE2 oth2
 have hcl2:=(List.getElem?_eq_some_iff.1 hc2).1
 have a11:=run11 (C:=C) hr2 he hi hc2 p1.1 hm.1
 have hr3 : (H2.set (N + 2 * i) (.row false 1 1 (q1++[[v8]])))[R]? = some (.row false 0 2 es):=by rw [List.getElem?_set_ne (Ne.symm nRc)]; exact hr2
 have hE3 : (H2.set (N + 2 * i) (.row false 1 1 (q1++[[v8]])))[N + 2 * i + 1]? = some (.row false 0 1 q2):=by rw [List.getElem?_set_ne nce]; exact hE2
 have hc3 : (H2.set (N + 2 * i) (.row false 1 1 (q1++[[v8]])))[N + 2 * i]? = some (.row false 1 1 (q1++[[v8]])):=List.getElem?_set_self hcl2
 have oth3 : ∀ k,k ≠ N + 2 * i→k ≠ N + 2 * i + 1→(H2.set (N + 2 * i) (.row false 1 1 (q1++[[v8]])))[k]? = H[k]?:=fun k h1 h2=>by
  rw [List.getElem?_set_ne (Ne.symm h1)]; exact oth2 k h1 h2
 generalize H2.set (N + 2 * i) (.row false 1 1 (q1++[[v8]])) = H3 at a11 hr3 hE3 hc3 oth3
 have hel3:=(List.getElem?_eq_some_iff.1 hE3).1
 have a12:=run12 (C:=C) (c:=N + 2 * i) (lc:=m.Coef.length) hr3 he hi hE3 p2.1 hm.2
 have hr4 : (H3.set (N + 2 * i + 1) (.row false 1 1 (q2++[[w8]])))[R]? = some (.row false 0 2 es):=by rw [List.getElem?_set_ne (Ne.symm nRe)]; exact hr3
 have hc4 : (H3.set (N + 2 * i + 1) (.row false 1 1 (q2++[[w8]])))[N + 2 * i]? = some (.row false 1 1 (q1++[[v8]])):=by rw [List.getElem?_set_ne (Ne.symm nce)]; exact hc3
 have hE4 : (H3.set (N + 2 * i + 1) (.row false 1 1 (q2++[[w8]])))[N + 2 * i + 1]? = some (.row false 1 1 (q2++[[w8]])):=List.getElem?_set_self hel3
 have oth4 : ∀ k,k ≠ N + 2 * i→k ≠ N + 2 * i + 1→(H3.set (N + 2 * i + 1) (.row false 1 1 (q2++[[w8]])))[k]? = H[k]?:=fun k h1 h2=>by
  rw [List.getElem?_set_ne (Ne.symm h2)]; exact oth3 k h1 h2
 generalize H3.set (N + 2 * i + 1) (.row false 1 1 (q2++[[w8]])) = H4 at a12 hr4 hE4 hc4 oth4
 have u1 : (q1++[[v8]])[m.Coef.length]? = some [v8]:=by rw [List.getElem?_append_right (by rw [p1.1]; exact Nat.le_refl _),p1.1,Nat.sub_self]; rfl
 have u2 : (q2++[[w8]])[m.Exps.length]? = some [w8]:=by rw [List.getElem?_append_right (by rw [p2.1]; exact Nat.le_refl _),p2.1,Nat.sub_self]; rfl
 have a13:=run13 (C:=C) (R:=R) (n:=n) (i:=i) (e:=N + 2 * i + 1) (le:=m.Exps.length) hc4 u1 hm.1
 generalize (q1++[[v8]]).set m.Coef.length [PV.d (D.v (Value.int IntKind.u32 7))] = z1 at a13
 have hr5 : (H4.set (N + 2 * i) (.row false 1 1 z1))[R]? = some (.row false 0 2 es):=by rw [List.getElem?_set_ne (Ne.symm nRc)]; exact hr4
 have hE5 : (H4.set (N + 2 * i) (.row false 1 1 z1))[N + 2 * i + 1]? = some (.row false 1 1 (q2++[[w8]])):=by rw [List.getElem?_set_ne nce]; exact hE4
 have oth5 : ∀ k,k ≠ N + 2 * i→k ≠ N + 2 * i + 1→(H4.set (N + 2 * i) (.row false 1 1 z1))[k]? = H[k]?:=fun k h1 h2=>by
  rw [List.getElem?_set_ne (Ne.symm h1)]; exact oth4 k h1 h2
 generalize H4.set (N + 2 * i) (.row false 1 1 z1) = H5 at a13 hr5 hE5 oth5
 have a14:=run14 (C:=C) (R:=R) (n:=n) (i:=i) (c:=N + 2 * i) (lc:=m.Coef.length) hE5 u2 hm.2
 generalize (q2++[[w8]]).set m.Exps.length [PV.d (D.v (Value.int IntKind.i64 7))] = z2 at a14
 have hr6 : (H5.set (N + 2 * i + 1) (.row false 1 1 z2))[R]? = some (.row false 0 2 es):=by rw [List.getElem?_set_ne (Ne.symm nRe)]; exact hr5
 have oth6 : ∀ k,k ≠ N + 2 * i→k ≠ N + 2 * i + 1→(H5.set (N + 2 * i + 1) (.row false 1 1 z2))[k]? = H[k]?:=fun k h1 h2=>by
  rw [List.getElem?_set_ne (Ne.symm h2)]; exact oth5 k h1 h2
 generalize H5.set (N + 2 * i + 1) (.row false 1 1 z2) = H6 at a14 hr6 oth6
 have a15:=run15 (C:=C) (c:=N + 2 * i) (lc:=m.Coef.length) (e:=N + 2 * i + 1) (le:=m.Exps.length) hr6 he hi
 have hRl:=(List.getElem?_eq_some_iff.1 hr6).1
 refine ⟨H6.set R (.row false 0 2 (es.set i [.im true [],.im true []])),?_,⟨⟨_,List.getElem?_set_self hRl,fun k m' hk hm'=>?_⟩,fun k m' hk hm'=>?_⟩⟩
 ·have b1 : semA C (Lim C) 137440003197 (.block 2 1049608 (.loop qhD9)) ⟨en1 R n i 0,H⟩ = some (.normal,⟨en0 R n i,H1⟩):=by
   simp only [semA,l1,del1,if_true]
  have b2 : semA C (Lim C) 137440003197 (.block 4 137440003096 (.loop qhG9)) ⟨en2 R n i 0,H1⟩ = some (.normal,⟨en0 R n i,H2⟩):=by
   simp only [semA,l2,del2,if_true]
  rw [qeL9,qgi9,r1_lt hi]
  simp only [qgi9,qiq9,qzK9,b1,qAI9,b2,a11,a12,a13,a14,a15,del6]
  exact qAq9 (by omega)
 ·rw [List.getElem?_set_ne (by omega)]
  exact hes k m' (by omega) hm'
 ·have hkl:=(List.getElem?_eq_some_iff.1 hm').1
  obtain ⟨⟨s1,g1,g2⟩,⟨s2,g3,g4⟩⟩:=S.ob k m' (by omega) hm'
  refine ⟨⟨s1,?_,g2⟩,⟨s2,?_,g4⟩⟩
  ·rw [List.getElem?_set_ne (by omega),oth6 _ (by omega) (by omega)]; exact g1
  ·rw [List.getElem?_set_ne (by omega),oth6 _ (by omega) (by omega)]; exact g3
end
end Le
namespace Le
open Ld Lt Go Go.Proofs Go.Abs
set_option maxRecDepth 8000
section
variable {C : Cfg} {R n i : Nat} {H : AHeap}
theorem rounds {N : Nat} {L : List Mono} (hR : N + 2 * L.length≤R) (hn : n = L.length) (hs : L.length≤1048576) (hsm : ∀ m∈L,m.Coef.length≤1048576∧m.Exps.length≤1048576) : ∀ (d i : Nat) (H : AHeap),i + d = n→Sp N R L i H→∃ H',qM9 (semA C (Lim C) 137440003197 qeL9) ⟨en0 R n i,H⟩ = some (.exit 0,⟨en0 R n n,H'⟩):=by
 intro d
 induction d with
 | zero =>
  intro i H hi S
  obtain rfl : i = n:=by omega
  refine ⟨H,?_⟩
  rw [qbE9,qeL9,qgi9,r1_ge]
 | succ d ih =>
  intro i H hi S
  obtain ⟨H1,h1,S1⟩:=round (C:=C) hR hn hs hsm S (by omega)
  obtain ⟨H',h2⟩:=ih (i + 1) H1 (by omega) S1
  exact ⟨H',by rw [qbE9,h1]; exact h2⟩
theorem qmA9 (is23 : IsF C 23 75 137440003197 c23 []) {N : Nat} {L : List Mono} (hR : N + 2 * L.length≤R) (hs : L.length≤1048576) (hsm : ∀ m∈L,m.Coef.length≤1048576∧m.Exps.length≤1048576) (S : Sp N R L 0 H) : ∃ H',Lim C 23 [.ref R 0 0 L.length] H = some (resOf [],H'):=by
 obtain ⟨H',h1⟩:=rounds (C:=C) hR rfl hs hsm L.length 0 H (by omega) S
 refine ⟨H',run_L is23 (nbA rfl) ?_⟩
 have e0 : qbt9 137440003197 0 [.ref R 0 0 L.length] = [(0,.ref R 0 0 L.length)]:=by simp +decide only [go_sem]
 rw [e0,c23,qgi9,qAb9]
 simp only [qiq9,show semA C (Lim C) 137440003197 (.loop qeL9) = qM9 (semA C (Lim C) 137440003197 qeL9) from rfl,h1,if_true]
 rfl
theorem qmH9 (is23 : IsF C 23 75 137440003197 c23 []) : ∃ H',Lim C 23 [.d (.rd [])] H = some (resOf [],H'):=by
 refine ⟨H,run_L is23 (nbA rfl) ?_⟩
 have e0 : qbt9 137440003197 0 [.d (.rd [])] = [(0,.d (.rd []))]:=by simp +decide only [go_sem]
 have a0 : semA C (Lim C) 137440003197 qjv9 ⟨[(0,.d (.rd []))],H⟩ = some (.normal,⟨[(0,.d (.rd [])),(2,PI 0)],H⟩):=by
  simp +decide only [go_sem,qjv9]
 have a1 : semA C (Lim C) 137440003197 (.seq qhF9 (.cond (.tmp 10) (some 10) (.skip) (.exit 0))) ⟨[(0,.d (.rd [])),(2,PI 0)],H⟩ = some (.exit 0,⟨[(0,.d (.rd [])),(2,PI 0)],H⟩):=by
  simp +decide only [go_sem,qhF9]
 have a2 : qM9 (semA C (Lim C) 137440003197 qeL9) ⟨[(0,.d (.rd [])),(2,PI 0)],H⟩ = some (.exit 0,⟨[(0,.d (.rd [])),(2,PI 0)],H⟩):=by
  rw [qbE9,qeL9,qgi9,a1]
 rw [e0,c23,qgi9,a0]
 simp only [qiq9,show semA C (Lim C) 137440003197 (.loop qeL9) = qM9 (semA C (Lim C) 137440003197 qeL9) from rfl,a2,if_true]
 rfl
def OwnP (H : AHeap) (pv : PV) (L : List Mono) : Prop:=(pv = .d (.rd [])∧L = [])∨∃ pre,H = pre++nestH pre.length L∧pv = .ref (pre.length + 2 * L.length) 0 0 L.length
theorem qre9 {pre : AHeap} {L : List Mono} : Sp pre.length (pre.length + 2 * L.length) L 0 (pre++nestH pre.length L):=by
 have at' : ∀ j,(pre++nestH pre.length L)[pre.length + j]? = (nestH pre.length L)[j]?:=fun j=>by
  rw [List.getElem?_append_right (by omega),show pre.length + j - pre.length = j by omega]
 refine ⟨⟨_,(at' _).trans qiY9,fun k m _ hm=>?_⟩,fun k m _ hm=>⟨⟨_,(at' _).trans (qoL9 hm),?_⟩,⟨_,(at' (2 * k + 1)).trans (qot9 hm),?_⟩⟩⟩
 ·rw [List.getElem?_map,qrA9 _ _ _ _ hm]; rfl
 ·refine ⟨qgr9,fun r hr=>?_⟩
  obtain ⟨a,_,rfl⟩:=List.mem_map.1 hr; rfl
 ·refine ⟨qgr9,fun r hr=>?_⟩
  obtain ⟨a,_,rfl⟩:=List.mem_map.1 hr; rfl
theorem quR9 (is23 : IsF C 23 75 137440003197 c23 []) {pv : PV} {L : List Mono} (h : OwnP H pv L) (hs : L.length≤1048576) (hsm : ∀ m∈L,m.Coef.length≤1048576∧m.Exps.length≤1048576) : ∃ H',Lim C 23 [pv] H = some (resOf [],H'):=by
 rcases h with ⟨rfl,rfl⟩ | ⟨pre,rfl,rfl⟩
 ·exact qmH9 is23
 ·exact qmA9 is23 (Nat.le_refl _) hs hsm qre9
theorem qoW9 {h : AHeap} : ∀ {k : List MK},(∀ x∈k,h[x.c]? = some (.row false 0 1 (rowP qb9 x.m.Coef))∧h[x.e]? = some (.row false 0 1 (rowP intD x.m.Exps)))→mapO (mapO (rs h 39)) (k.map encK) = some ((k.map (·.m)).map qa9)
 | [],_=>rfl
 | x::k,hk=>by
  have h1:=hk x List.mem_cons_self
  have h2:=qoW9 (k:=k) (fun y hy=>hk y (List.mem_cons_of_mem _ hy))
  simp only [List.map_cons,mapO,qmd9 h1.1 h1.2,h2]
theorem qAD9 {pv : PV} {L : List Mono} (h : OwnP H pv L) : rs H depth pv = some (.rd (L.map qa9)):=by
 rcases h with ⟨rfl,rfl⟩ | ⟨pre,rfl,rfl⟩
 ·rfl
 ·have ho : (pre++nestH pre.length L)[pre.length + 2 * L.length]? = some (.row false 0 2 ((kel pre.length L).map encK)):=by
   rw [List.getElem?_append_right (by omega),show pre.length + 2 * L.length - pre.length = 2 * L.length by omega]
   exact qiY9
  show (match Abs.rowAt (pre++nestH pre.length L) (pre.length + 2 * L.length) 0 with | some (_,_,es)=>(mapO (mapO (rs (pre++nestH pre.length L) 39)) ((es.drop 0).take L.length)).map D.rd | none=>none) = _
  simp only [Abs.rowAt,ho,if_true]
  rw [List.drop_zero,List.take_of_length_le (by rw [List.length_map,qhl9]; exact Nat.le_refl _),qoW9 (fun x hx=>?_),kel_m]; rfl
  have:=qkv9 L pre x hx
  have e : pre++nestH pre.length L = (pre++objs L)++[.row false 0 2 ((kel pre.length L).map encK)]:=by unfold nestH; rw [List.append_assoc]
  rw [e]
  exact ⟨qby9 this.1,qby9 this.2⟩
end
end Le

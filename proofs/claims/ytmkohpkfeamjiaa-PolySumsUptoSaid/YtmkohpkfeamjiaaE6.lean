import Derived.Test.YtmkohpkfeamjiaaTq6
import Derived.Test.YtmkohpkfeamjiaaPq6
import Derived.Test.YtmkohpkfeamjiaaPSW4
import Derived.Test.YtmkohpkfeamjiaaAbs28
import Derived.Test.YtmkohpkfeamjiaaU4
import Derived.Test.YtmkohpkfeamjiaaPSW11
import Derived.Test.YtmkohpkfeamjiaaPSW15
set_option maxHeartbeats 400000
set_option linter.unusedVariables false
set_option linter.unusedSimpArgs false
set_option linter.unusedSectionVars false
namespace Le
open Ld Lt Go Go.Proofs Go.Abs
set_option maxRecDepth 8000
def qpW9 : ACode:=.reg [] [] [.M 30 4,.M 31 0,.M 32 2,.T 33 (.ix 2 (.tmp 31) (.tmp 32)),.T 34 (.fa 1 (.tmp 33)),.T 35 (.load none (.tmp 34)),.T 36 (.len (.tmp 35)),.K 37 (.bin .lss (.tmp 30) (.tmp 36))]
def qoe9 : ACode:=.reg [] [] [.M 40 0,.M 41 2,.T 42 (.ix 2 (.tmp 40) (.tmp 41)),.T 43 (.fa 1 (.tmp 42)),.T 44 (.load none (.tmp 43)),.M 45 4,.T 46 (.ix 1 (.tmp 44) (.tmp 45)),⟨none,.store 1 (.tmp 46) (cI 9),none,false,false⟩]
def qqZ9 : ACode:=.reg [] [] [.M 38 4,.T 39 (.bin .add (.tmp 38) (cI 1)),.N 4 39]
def qrr9 : ACode:=.reg [] [] [.M 13 3,.M 14 0,.M 15 2,.T 16 (.ix 2 (.tmp 14) (.tmp 15)),.T 17 (.fa 0 (.tmp 16)),.T 18 (.load none (.tmp 17)),.T 19 (.len (.tmp 18)),.K 20 (.bin .lss (.tmp 13) (.tmp 19))]
def qrl9 : ACode:=.reg [] [] [.M 23 0,.M 24 2,.T 25 (.ix 2 (.tmp 23) (.tmp 24)),.T 26 (.fa 0 (.tmp 25)),.T 27 (.load none (.tmp 26)),.M 28 3,.T 29 (.ix 1 (.tmp 27) (.tmp 28)),⟨none,.store 1 (.tmp 29) (.const (.int .u32 9)),none,false,false⟩]
def qpB9 : ACode:=.reg [] [] [.M 21 3,.T 22 (.bin .add (.tmp 21) (cI 1)),.N 3 22]
def qjJ9 : ACode:=.reg [] [] [.M 7 2,.M 8 0,.T 9 (.len (.tmp 8)),.K 10 (.bin .lss (.tmp 7) (.tmp 9))]
def qqD9 : ACode:=.reg [] [] [.K 3 (.mv (cI 0))]
def qrj9 : ACode:=.reg [] [] [.K 4 (.mv (cI 0))]
def qlS9 : ACode:=.reg [] [] [.M 47 0,.M 48 2,.T 49 (.ix 2 (.tmp 47) (.tmp 48)),.T 50 (.fa 0 (.tmp 49)),.T 51 (.load none (.tmp 50)),.T 52 (.lit 1 [(0,.const (.int .u32 8))]),.T 53 (.app 1 4 (.tmp 51) (.tmp 52)),.N 5 53]
def qlM9 : ACode:=.reg [] [] [.M 54 0,.M 55 2,.T 56 (.ix 2 (.tmp 54) (.tmp 55)),.T 57 (.fa 1 (.tmp 56)),.T 58 (.load none (.tmp 57)),.T 59 (.lit 1 [(0,.const (.int .i64 8))]),.T 60 (.app 1 8 (.tmp 58) (.tmp 59)),.N 6 60]
def qmd9 : ACode:=.reg [] [] [.M 61 5,.M 62 5,.T 63 (.len (.tmp 62)),.T 64 (.bin .sub (.tmp 63) (cI 1)),.T 65 (.ix 1 (.tmp 61) (.tmp 64)),⟨none,.store 1 (.tmp 65) (.const (.int .u32 7)),none,false,false⟩]
def qlU9 : ACode:=.reg [] [] [.M 66 6,.M 67 6,.T 68 (.len (.tmp 67)),.T 69 (.bin .sub (.tmp 68) (cI 1)),.T 70 (.ix 1 (.tmp 66) (.tmp 69)),⟨none,.store 1 (.tmp 70) (cI 7),none,false,false⟩]
def qlZ9 : ACode:=.reg [] [] [.M 71 0,.M 72 2,.T 73 (.build [(0,1),(1,1)] [.im true [],.im true []] []),.T 74 (.ix 2 (.tmp 71) (.tmp 72)),⟨none,.store 2 (.tmp 74) (.tmp 73),none,false,false⟩]
def qpY9 : ACode:=.reg [] [] [.M 11 2,.T 12 (.bin .add (.tmp 11) (cI 1)),.N 2 12]
def qlC9 : ACode:=.reg [] [] [.K 2 (.mv (cI 0))]
def qjK9 : ACode:=.seq (.seq (qpW9) (.cond (.tmp 37) (some 37) (.skip) (.exit 4))) (.seq (.block 5 137438953472 (qoe9)) (qqZ9))
def qjF9 : ACode:=.seq (.seq (qrr9) (.cond (.tmp 20) (some 20) (.skip) (.exit 2))) (.seq (.block 3 1048576 (qrl9)) (qpB9))
def qgW9 : ACode:=.seq (.seq (qjJ9) (.cond (.tmp 10) (some 10) (.skip) (.exit 0))) (.seq (.block 1 137440003192 (.seq (.seq (qqD9) (.block 2 1049608 (.loop qjF9))) (.seq (.seq (qrj9) (.block 4 137440003096 (.loop qjK9))) (.seq (qlS9) (.seq (qlM9) (.seq (qmd9) (.seq (qlU9) (qlZ9)))))))) (qpY9))
def c23 : ACode:=.seq (qlC9) (.block 0 137440003192 (.loop qgW9))
section
variable {C : Cfg} {H : AHeap} {R i n c lc : Nat} {es : List (List PV)} {x y : PV}
def en1 (R n i k : Nat) : Env:=[(0,.ref R 0 0 n),(2,PI i),(3,PI k)]
theorem qzw9 (hr : H[R]? = some (.row false 0 2 es)) (he : es[i]? = some [.ref c 0 0 lc,x]) (hi : i < n) : semA C (Lim C) 137440003197 qjF9 ⟨en1 R n i lc,H⟩ = some (.exit 2,⟨en1 R n i lc,H⟩):=by
 have i1 : ((i : Int) < (n : Int)) = True:=eq_true (by omega)
 have i2 : ((0 : Int)≤(i : Int)) = True:=eq_true (by omega)
 simp +decide only [go_sem,qjF9,qrr9,qrl9,qpB9,en1,hr,he,i1,i2,Int.toNat_natCast,Nat.zero_add,Int.lt_irrefl]
theorem qzr9 {rs : List (List PV)} {k : Nat} {u : PV} (hr : H[R]? = some (.row false 0 2 es)) (he : es[i]? = some [.ref c 0 0 lc,x]) (hi : i < n) (hc : H[c]? = some (.row false 0 1 rs)) (hu : rs[k]? = some [u]) (hk : k < lc) (hl : lc≤1048576) : semA C (Lim C) 137440003197 qjF9 ⟨en1 R n i k,H⟩ = some (.normal,⟨en1 R n i (k + 1),H.set c (.row false 0 1 (rs.set k [.d (.v (.int .u32 9))]))⟩):=by
 have i1 : ((i : Int) < (n : Int)) = True:=eq_true (by omega)
 have i2 : ((0 : Int)≤(i : Int)) = True:=eq_true (by omega)
 have i3 : ((k : Int) < (lc : Int)) = True:=eq_true (by omega)
 have i4 : ((0 : Int)≤(k : Int)) = True:=eq_true (by omega)
 have i5 : w64 ((k : Int) + 1) = ((k + 1 : Nat) : Int):=by rw [qbj9 (by omega) (by omega)]; omega
 simp +decide only [go_sem,qjF9,qrr9,qrl9,qpB9,en1,hr,he,hc,hu,i1,i2,i3,i4,i5,Int.toNat_natCast,Nat.zero_add]
def en2 (R n i j : Nat) : Env:=[(0,.ref R 0 0 n),(2,PI i),(4,PI j)]
theorem qxI9 (hr : H[R]? = some (.row false 0 2 es)) (he : es[i]? = some [x,.ref c 0 0 lc]) (hi : i < n) : semA C (Lim C) 137440003197 qjK9 ⟨en2 R n i lc,H⟩ = some (.exit 4,⟨en2 R n i lc,H⟩):=by
 have i1 : ((i : Int) < (n : Int)) = True:=eq_true (by omega)
 have i2 : ((0 : Int)≤(i : Int)) = True:=eq_true (by omega)
 simp +decide only [go_sem,qjK9,qpW9,qqZ9,qoe9,en2,hr,he,i1,i2,Int.toNat_natCast,Nat.zero_add,Int.lt_irrefl]
theorem qyb9 {rs : List (List PV)} {j : Nat} {u : PV} (hr : H[R]? = some (.row false 0 2 es)) (he : es[i]? = some [x,.ref c 0 0 lc]) (hi : i < n) (hc : H[c]? = some (.row false 0 1 rs)) (hu : rs[j]? = some [u]) (hk : j < lc) (hl : lc≤1048576) : semA C (Lim C) 137440003197 qjK9 ⟨en2 R n i j,H⟩ = some (.normal,⟨en2 R n i (j + 1),H.set c (.row false 0 1 (rs.set j [.d (.v (.int .i64 9))]))⟩):=by
 have i1 : ((i : Int) < (n : Int)) = True:=eq_true (by omega)
 have i2 : ((0 : Int)≤(i : Int)) = True:=eq_true (by omega)
 have i3 : ((j : Int) < (lc : Int)) = True:=eq_true (by omega)
 have i4 : ((0 : Int)≤(j : Int)) = True:=eq_true (by omega)
 have i5 : w64 ((j : Int) + 1) = ((j + 1 : Nat) : Int):=by rw [qbj9 (by omega) (by omega)]; omega
 simp +decide only [go_sem,qjK9,qpW9,qqZ9,qoe9,en2,hr,he,hc,hu,i1,i2,i3,i4,i5,Int.toNat_natCast,Nat.zero_add]
end
def One (rs : List (List PV)) (n : Nat) : Prop:=rs.length = n∧∀ r∈rs,r.length = 1
theorem One.get {rs : List (List PV)} {n k : Nat} (h : One rs n) (hk : k < n) : ∃ u,rs[k]? = some [u]:=by
 have hl : k < rs.length:=by rw [h.1]; exact hk
 have:=h.2 rs[k] (List.getElem_mem hl)
 match hr : rs[k],this with
 | [u],_=>exact ⟨u,by rw [List.getElem?_eq_getElem hl,hr]⟩
theorem One.set {rs : List (List PV)} {n k : Nat} {u : PV} (h : One rs n) : One (rs.set k [u]) n:=by
 refine ⟨by rw [List.length_set]; exact h.1,fun r hr=>?_⟩
 rcases List.mem_or_eq_of_mem_set hr with h1 | h1
 ·exact h.2 r h1
 ·rw [h1]; rfl
section
variable {C : Cfg} {R i n c lc : Nat} {es : List (List PV)} {x y : PV}
theorem lp1 (hi : i < n) (hl : lc≤1048576) (hRc : R ≠ c) (he : es[i]? = some [.ref c 0 0 lc,x]) : ∀ (d k : Nat) (H : AHeap) (rs : List (List PV)),k + d = lc→H[R]? = some (.row false 0 2 es)→H[c]? = some (.row false 0 1 rs)→One rs lc →
  ∃ rs',One rs' lc∧qch9 (semA C (Lim C) 137440003197 qjF9) ⟨en1 R n i k,H⟩ = some (.exit 2,⟨en1 R n i lc,H.set c (.row false 0 1 rs')⟩):=by
 intro d
 induction d with
 | zero =>
  intro k H rs hk hr hc ho
  obtain rfl : k = lc:=by omega
  refine ⟨rs,ho,?_⟩
  rw [qfg9,qzw9 hr he hi]
  have : H.set c (.row false 0 1 rs) = H:=by
   refine List.ext_getElem? fun j=>?_
   rw [List.getElem?_set]
   split
   ·rename_i e; subst e; rw [if_pos (List.getElem?_eq_some_iff.1 hc).1,hc]
   ·rfl
  rw [this]
 | succ d ih =>
  intro k H rs hk hr hc ho
  obtain ⟨u,hu⟩:=ho.get (k:=k) (by omega)
  have hcl:=(List.getElem?_eq_some_iff.1 hc).1
  obtain ⟨rs',h1,h2⟩:=ih (k + 1) (H.set c (.row false 0 1 (rs.set k [.d (.v (.int .u32 9))]))) _ (by omega) (by rw [List.getElem?_set_ne (Ne.symm hRc)]; exact hr) (by rw [List.getElem?_set_self hcl]) ho.set
  refine ⟨rs',h1,?_⟩
  rw [qfg9,qzr9 hr he hi hc hu (by omega) hl]
  simp only []
  rw [h2,List.set_set]
theorem lp2 (hi : i < n) (hl : lc≤1048576) (hRc : R ≠ c) (he : es[i]? = some [x,.ref c 0 0 lc]) : ∀ (d j : Nat) (H : AHeap) (rs : List (List PV)),j + d = lc→H[R]? = some (.row false 0 2 es)→H[c]? = some (.row false 0 1 rs)→One rs lc →
  ∃ rs',One rs' lc∧qch9 (semA C (Lim C) 137440003197 qjK9) ⟨en2 R n i j,H⟩ = some (.exit 4,⟨en2 R n i lc,H.set c (.row false 0 1 rs')⟩):=by
 intro d
 induction d with
 | zero =>
  intro j H rs hk hr hc ho
  obtain rfl : j = lc:=by omega
  refine ⟨rs,ho,?_⟩
  rw [qfg9,qxI9 hr he hi]
  have : H.set c (.row false 0 1 rs) = H:=by
   refine List.ext_getElem? fun j=>?_
   rw [List.getElem?_set]
   split
   ·rename_i e; subst e; rw [if_pos (List.getElem?_eq_some_iff.1 hc).1,hc]
   ·rfl
  rw [this]
 | succ d ih =>
  intro j H rs hk hr hc ho
  obtain ⟨u,hu⟩:=ho.get (k:=j) (by omega)
  have hcl:=(List.getElem?_eq_some_iff.1 hc).1
  obtain ⟨rs',h1,h2⟩:=ih (j + 1) (H.set c (.row false 0 1 (rs.set j [.d (.v (.int .i64 9))]))) _ (by omega) (by rw [List.getElem?_set_ne (Ne.symm hRc)]; exact hr) (by rw [List.getElem?_set_self hcl]) ho.set
  refine ⟨rs',h1,?_⟩
  rw [qfg9,qyb9 hr he hi hc hu (by omega) hl]
  simp only []
  rw [h2,List.set_set]
end
section
variable {C : Cfg} {R i n c e lc le : Nat} {es : List (List PV)} {H : AHeap}
def en0 (R n i : Nat) : Env:=[(0,.ref R 0 0 n),(2,PI i)]
def tl : ACode:=.seq (qlS9) (.seq (qlM9) (.seq (qmd9) (.seq (qlU9) (qlZ9))))
def en5 (R n i c lc : Nat) : Env:=[(0,.ref R 0 0 n),(2,PI i),(5,.ref c 1 0 (lc + 1))]
def en6 (R n i c lc e le : Nat) : Env:=[(0,.ref R 0 0 n),(2,PI i),(5,.ref c 1 0 (lc + 1)),(6,.ref e 1 0 (le + 1))]
def v8 : PV:=.d (.v (.int .u32 8))
def w8 : PV:=.d (.v (.int .i64 8))
theorem run11 {x : PV} {r1 : List (List PV)} (hr : H[R]? = some (.row false 0 2 es)) (he : es[i]? = some [.ref c 0 0 lc,x]) (hi : i < n) (hc : H[c]? = some (.row false 0 1 r1)) (h1 : r1.length = lc) (hl : lc≤1048576) : semA C (Lim C) 137440003197 qlS9 ⟨en0 R n i,H⟩ = some (.normal,⟨en5 R n i c lc,H.set c (.row false 1 1 (r1++[[v8]]))⟩):=by
 have i1 : ((i : Int) < (n : Int)) = True:=eq_true (by omega)
 have i2 : ((0 : Int)≤(i : Int)) = True:=eq_true (by omega)
 have i3 : (lc + 1) * 4≤140737488355328:=by omega
 have t1 : r1.take lc = r1:=List.take_of_length_le (by omega)
 simp +decide only [go_sem,qlS9,en0,en5,v8,hr,he,hc,t1,i1,i2,i3,Int.toNat_natCast,Nat.zero_add]
theorem run12 {x : PV} {r2 : List (List PV)} (hr : H[R]? = some (.row false 0 2 es)) (he : es[i]? = some [x,.ref e 0 0 le]) (hi : i < n) (hc : H[e]? = some (.row false 0 1 r2)) (h1 : r2.length = le) (hl : le≤1048576) : semA C (Lim C) 137440003197 qlM9 ⟨en5 R n i c lc,H⟩ = some (.normal,⟨en6 R n i c lc e le,H.set e (.row false 1 1 (r2++[[w8]]))⟩):=by
 have i1 : ((i : Int) < (n : Int)) = True:=eq_true (by omega)
 have i2 : ((0 : Int)≤(i : Int)) = True:=eq_true (by omega)
 have i3 : (le + 1) * 8≤140737488355328:=by omega
 have t1 : r2.take le = r2:=List.take_of_length_le (by omega)
 simp +decide only [go_sem,qlM9,en5,en6,w8,hr,he,hc,t1,i1,i2,i3,Int.toNat_natCast,Nat.zero_add]
theorem run13 {q : List (List PV)} {u : PV} (hc : H[c]? = some (.row false 1 1 q)) (hu : q[lc]? = some [u]) (hl : lc≤1048576) : semA C (Lim C) 137440003197 qmd9 ⟨en6 R n i c lc e le,H⟩ = some (.normal,⟨en6 R n i c lc e le,H.set c (.row false 1 1 (q.set lc [.d (.v (.int .u32 7))]))⟩):=by
 have i5 : w64 (((lc + 1 : Nat) : Int) - 1) = (lc : Int):=by rw [qbj9 (by omega) (by omega)]; omega
 have i1 : ((lc : Int) < ((lc + 1 : Nat) : Int)) = True:=eq_true (by omega)
 have i2 : ((0 : Int)≤(lc : Int)) = True:=eq_true (by omega)
 simp +decide only [go_sem,qmd9,en6,hc,hu,i1,i2,i5,Int.toNat_natCast,Nat.zero_add]
theorem run14 {q : List (List PV)} {u : PV} (hc : H[e]? = some (.row false 1 1 q)) (hu : q[le]? = some [u]) (hl : le≤1048576) : semA C (Lim C) 137440003197 qlU9 ⟨en6 R n i c lc e le,H⟩ = some (.normal,⟨en6 R n i c lc e le,H.set e (.row false 1 1 (q.set le [.d (.v (.int .i64 7))]))⟩):=by
 have i5 : w64 (((le + 1 : Nat) : Int) - 1) = (le : Int):=by rw [qbj9 (by omega) (by omega)]; omega
 have i1 : ((le : Int) < ((le + 1 : Nat) : Int)) = True:=eq_true (by omega)
 have i2 : ((0 : Int)≤(le : Int)) = True:=eq_true (by omega)
 simp +decide only [go_sem,qlU9,en6,hc,hu,i1,i2,i5,Int.toNat_natCast,Nat.zero_add]
theorem run15 {x y : PV} (hr : H[R]? = some (.row false 0 2 es)) (he : es[i]? = some [x,y]) (hi : i < n) : semA C (Lim C) 137440003197 qlZ9 ⟨en6 R n i c lc e le,H⟩ = some (.normal,⟨en6 R n i c lc e le,H.set R (.row false 0 2 (es.set i [.im true [],.im true []]))⟩):=by
 have i1 : ((i : Int) < (n : Int)) = True:=eq_true (by omega)
 have i2 : ((0 : Int)≤(i : Int)) = True:=eq_true (by omega)
 simp +decide only [go_sem,qlZ9,en6,hr,he,i1,i2,Int.toNat_natCast,Nat.zero_add]
end
end Le
namespace Le
open Ld Lt Go Go.Proofs Go.Abs
set_option maxRecDepth 8000
section
variable {C : Cfg} {R n i : Nat} {H : AHeap}
theorem r1_lt (hi : i < n) : semA C (Lim C) 137440003197 (.seq qjJ9 (.cond (.tmp 10) (some 10) (.skip) (.exit 0))) ⟨en0 R n i,H⟩ = some (.normal,⟨en0 R n i,H⟩):=by
 have i1 : ((i : Int) < (n : Int)) = True:=eq_true (by omega)
 simp +decide only [go_sem,qjJ9,en0,i1]
theorem r1_ge : semA C (Lim C) 137440003197 (.seq qjJ9 (.cond (.tmp 10) (some 10) (.skip) (.exit 0))) ⟨en0 R n n,H⟩ = some (.exit 0,⟨en0 R n n,H⟩):=by
 simp +decide only [go_sem,qjJ9,en0,Int.lt_irrefl]
theorem qBZ9 : semA C (Lim C) 137440003197 qqD9 ⟨en0 R n i,H⟩ = some (.normal,⟨en1 R n i 0,H⟩):=by
 simp +decide only [go_sem,qqD9,en0,en1]
theorem qCU9 : semA C (Lim C) 137440003197 qrj9 ⟨en0 R n i,H⟩ = some (.normal,⟨en2 R n i 0,H⟩):=by
 simp +decide only [go_sem,qrj9,en0,en2]
theorem qCD9 (hi : i < 1048576) : semA C (Lim C) 137440003197 qpY9 ⟨en0 R n i,H⟩ = some (.normal,⟨en0 R n (i + 1),H⟩):=by
 have i5 : w64 ((i : Int) + 1) = ((i + 1 : Nat) : Int):=by rw [qbj9 (by omega) (by omega)]; omega
 simp +decide only [go_sem,qpY9,en0,i5]
theorem qCp9 : semA C (Lim C) 137440003197 qlC9 ⟨[(0,.ref R 0 0 n)],H⟩ = some (.normal,⟨en0 R n 0,H⟩):=by
 simp +decide only [go_sem,qlC9,en0]
theorem del1 {k : Nat} : (en1 R n i k).del 1049608 = en0 R n i:=by simp +decide only [go_sem,en1,en0]
theorem del2 {k : Nat} : (en2 R n i k).del 137440003096 = en0 R n i:=by simp +decide only [go_sem,en2,en0]
theorem del6 {c lc e le : Nat} : (en6 R n i c lc e le).del 137440003192 = en0 R n i:=by simp +decide only [go_sem,en6,en0]
theorem qiv9 {C : Cfg} {L : Oracle} {k : Nat} {a b : ACode} {s : St} : semA C L k (.seq a b) s = match semA C L k a s with
  | some (.normal,s')=>semA C L k b s'
  | r=>r:=rfl
theorem qkB9 {C : Cfg} {L : Oracle} {k id d : Nat} {c : ACode} {s : St} : semA C L k (.block id d c) s = match semA C L k c s with
  | some (.normal,s')=>some (.normal,⟨Env.del d s'.env,s'.h⟩)
  | some (.exit j,s')=>if j = id then some (.normal,⟨Env.del d s'.env,s'.h⟩) else some (.exit j,s')
  | r=>r:=rfl
structure Sp (N R : Nat) (L : List Mono) (i : Nat) (H : AHeap) : Prop where
 row : ∃ es,H[R]? = some (.row false 0 2 es)∧∀ k m,i≤k→L[k]? = some m→es[k]? = some [.ref (N + 2 * k) 0 0 m.Coef.length,.ref (N + 2 * k + 1) 0 0 m.Exps.length]
 ob : ∀ k m,i≤k→L[k]? = some m→(∃ rs,H[N + 2 * k]? = some (.row false 0 1 rs)∧One rs m.Coef.length)∧(∃ rs,H[N + 2 * k + 1]? = some (.row false 0 1 rs)∧One rs m.Exps.length)
theorem round {N : Nat} {L : List Mono} (hR : N + 2 * L.length≤R) (hn : n = L.length) (hs : L.length≤1048576) (hsm : ∀ m∈L,m.Coef.length≤1048576∧m.Exps.length≤1048576) (S : Sp N R L i H) (hi : i < n) : ∃ H',semA C (Lim C) 137440003197 qgW9 ⟨en0 R n i,H⟩ = some (.normal,⟨en0 R n (i + 1),H'⟩)∧Sp N R L (i + 1) H':=by
 have hx : L[i]? = some (L[i]'(by omega)):=List.getElem?_eq_getElem _
 generalize L[i]'(by omega) = m at hx
 have hm:=hsm m (List.mem_of_getElem? hx)
 obtain ⟨es,hr,hes⟩:=S.row
 have he:=hes i m (Nat.le_refl _) hx
 obtain ⟨⟨r1,hc,o1⟩,⟨r2,hE,o2⟩⟩:=S.ob i m (Nat.le_refl _) hx
 have nRc : R ≠ N + 2 * i:=by omega
 have nRe : R ≠ N + 2 * i + 1:=by omega
 have nce : N + 2 * i ≠ N + 2 * i + 1:=by omega
 obtain ⟨q1,p1,l1⟩:=lp1 (C:=C) hi hm.1 nRc he m.Coef.length 0 H r1 (by omega) hr hc o1
 have hcl:=(List.getElem?_eq_some_iff.1 hc).1
 have hel:=(List.getElem?_eq_some_iff.1 hE).1
 -- behind the first loop
 have hr1 : (H.set (N + 2 * i) (.row false 0 1 q1))[R]? = some (.row false 0 2 es):=by rw [List.getElem?_set_ne (Ne.symm nRc)]; exact hr
 have hE1 : (H.set (N + 2 * i) (.row false 0 1 q1))[N + 2 * i + 1]? = some (.row false 0 1 r2):=by rw [List.getElem?_set_ne nce]; exact hE
 have hc1 : (H.set (N + 2 * i) (.row false 0 1 q1))[N + 2 * i]? = some (.row false 0 1 q1):=List.getElem?_set_self hcl
 obtain ⟨q2,p2,l2⟩:=lp2 (C:=C) hi hm.2 nRe he m.Exps.length 0 _ r2 (by omega) hr1 hE1 o2
 generalize hH1 : H.set (N + 2 * i) (.row false 0 1 q1) = H1 at l1 hr1 hE1 hc1 l2
 have hel1:=(List.getElem?_eq_some_iff.1 hE1).1
 have hr2 : (H1.set (N + 2 * i + 1) (.row false 0 1 q2))[R]? = some (.row false 0 2 es):=by rw [List.getElem?_set_ne (Ne.symm nRe)]; exact hr1
 have hc2 : (H1.set (N + 2 * i + 1) (.row false 0 1 q2))[N + 2 * i]? = some (.row false 0 1 q1):=by rw [List.getElem?_set_ne (Ne.symm nce)]; exact hc1
 have hE2 : (H1.set (N + 2 * i + 1) (.row false 0 1 q2))[N + 2 * i + 1]? = some (.row false 0 1 q2):=List.getElem?_set_self hel1
 have oth2 : ∀ k,k ≠ N + 2 * i→k ≠ N + 2 * i + 1→(H1.set (N + 2 * i + 1) (.row false 0 1 q2))[k]? = H[k]?:=fun k h1 h2=>by
  rw [List.getElem?_set_ne (Ne.symm h2),← hH1,List.getElem?_set_ne (Ne.symm h1)]
 generalize H1.set (N + 2 * i + 1) (.row false 0 1 q2) = H2 at l2 hr2 hc2 hE2 oth2
 have hcl2:=(List.getElem?_eq_some_iff.1 hc2).1
 have a11:=run11 (C:=C) hr2 he hi hc2 p1.1 hm.1
 have hr3 : (H2.set (N + 2 * i) (.row false 1 1 (q1++[[v8]])))[R]? = some (.row false 0 2 es):=by rw [List.getElem?_set_ne (Ne.symm nRc)]; exact hr2
 have hE3 : (H2.set (N + 2 * i) (.row false 1 1 (q1++[[v8]])))[N + 2 * i + 1]? = some (.row false 0 1 q2):=by rw [List.getElem?_set_ne nce]; exact hE2
 have hc3 : (H2.set (N + 2 * i) (.row false 1 1 (q1++[[v8]])))[N + 2 * i]? = some (.row false 1 1 (q1++[[v8]])):=List.getElem?_set_self hcl2
 have oth3 : ∀ k,k ≠ N + 2 * i→k ≠ N + 2 * i + 1→(H2.set (N + 2 * i) (.row false 1 1 (q1++[[v8]])))[k]? = H[k]?:=fun k h1 h2=>by
  rw [List.getElem?_set_ne (Ne.symm h1)]; exact oth2 k h1 h2
 generalize H2.set (N + 2 * i) (.row false 1 1 (q1++[[v8]])) = H3 at a11 hr3 hE3 hc3 oth3
 have hel3:=(List.getElem?_eq_some_iff.1 hE3).1
 have a12:=run12 (C:=C) (c:=N + 2 * i) (lc:=m.Coef.length) hr3 he hi hE3 p2.1 hm.2
 have hr4 : (H3.set (N + 2 * i + 1) (.row false 1 1 (q2++[[w8]])))[R]? = some (.row false 0 2 es):=by rw [List.getElem?_set_ne (Ne.symm nRe)]; exact hr3
 have hc4 : (H3.set (N + 2 * i + 1) (.row false 1 1 (q2++[[w8]])))[N + 2 * i]? = some (.row false 1 1 (q1++[[v8]])):=by rw [List.getElem?_set_ne (Ne.symm nce)]; exact hc3
 have hE4 : (H3.set (N + 2 * i + 1) (.row false 1 1 (q2++[[w8]])))[N + 2 * i + 1]? = some (.row false 1 1 (q2++[[w8]])):=List.getElem?_set_self hel3
 have oth4 : ∀ k,k ≠ N + 2 * i→k ≠ N + 2 * i + 1→(H3.set (N + 2 * i + 1) (.row false 1 1 (q2++[[w8]])))[k]? = H[k]?:=fun k h1 h2=>by
  rw [List.getElem?_set_ne (Ne.symm h2)]; exact oth3 k h1 h2
 generalize H3.set (N + 2 * i + 1) (.row false 1 1 (q2++[[w8]])) = H4 at a12 hr4 hE4 hc4 oth4
 have u1 : (q1++[[v8]])[m.Coef.length]? = some [v8]:=by rw [List.getElem?_append_right (by rw [p1.1]; exact Nat.le_refl _),p1.1,Nat.sub_self]; rfl
 have u2 : (q2++[[w8]])[m.Exps.length]? = some [w8]:=by rw [List.getElem?_append_right (by rw [p2.1]; exact Nat.le_refl _),p2.1,Nat.sub_self]; rfl
 have a13:=run13 (C:=C) (R:=R) (n:=n) (i:=i) (e:=N + 2 * i + 1) (le:=m.Exps.length) hc4 u1 hm.1
 generalize (q1++[[v8]]).set m.Coef.length [PV.d (D.v (Value.int IntKind.u32 7))] = z1 at a13
 have hr5 : (H4.set (N + 2 * i) (.row false 1 1 z1))[R]? = some (.row false 0 2 es):=by rw [List.getElem?_set_ne (Ne.symm nRc)]; exact hr4
 have hE5 : (H4.set (N + 2 * i) (.row false 1 1 z1))[N + 2 * i + 1]? = some (.row false 1 1 (q2++[[w8]])):=by rw [List.getElem?_set_ne nce]; exact hE4
 have oth5 : ∀ k,k ≠ N + 2 * i→k ≠ N + 2 * i + 1→(H4.set (N + 2 * i) (.row false 1 1 z1))[k]? = H[k]?:=fun k h1 h2=>by
  rw [List.getElem?_set_ne (Ne.symm h1)]; exact oth4 k h1 h2
 generalize H4.set (N + 2 * i) (.row false 1 1 z1) = H5 at a13 hr5 hE5 oth5
 have a14:=run14 (C:=C) (R:=R) (n:=n) (i:=i) (c:=N + 2 * i) (lc:=m.Coef.length) hE5 u2 hm.2
 generalize (q2++[[w8]]).set m.Exps.length [PV.d (D.v (Value.int IntKind.i64 7))] = z2 at a14
 have hr6 : (H5.set (N + 2 * i + 1) (.row false 1 1 z2))[R]? = some (.row false 0 2 es):=by rw [List.getElem?_set_ne (Ne.symm nRe)]; exact hr5
 have oth6 : ∀ k,k ≠ N + 2 * i→k ≠ N + 2 * i + 1→(H5.set (N + 2 * i + 1) (.row false 1 1 z2))[k]? = H[k]?:=fun k h1 h2=>by
  rw [List.getElem?_set_ne (Ne.symm h2)]; exact oth5 k h1 h2
 generalize H5.set (N + 2 * i + 1) (.row false 1 1 z2) = H6 at a14 hr6 oth6
 have a15:=run15 (C:=C) (c:=N + 2 * i) (lc:=m.Coef.length) (e:=N + 2 * i + 1) (le:=m.Exps.length) hr6 he hi
 have hRl:=(List.getElem?_eq_some_iff.1 hr6).1
 refine ⟨H6.set R (.row false 0 2 (es.set i [.im true [],.im true []])),?_,⟨⟨_,List.getElem?_set_self hRl,fun k m' hk hm'=>?_⟩,fun k m' hk hm'=>?_⟩⟩
 ·have b1 : semA C (Lim C) 137440003197 (.block 2 1049608 (.loop qjF9)) ⟨en1 R n i 0,H⟩ = some (.normal,⟨en0 R n i,H1⟩):=by
   simp only [semA,l1,del1,if_true]
  have b2 : semA C (Lim C) 137440003197 (.block 4 137440003096 (.loop qjK9)) ⟨en2 R n i 0,H1⟩ = some (.normal,⟨en0 R n i,H2⟩):=by
   simp only [semA,l2,del2,if_true]
  rw [qgW9,qiv9,r1_lt hi]
  simp only [qiv9,qkB9,qBZ9,b1,qCU9,b2,a11,a12,a13,a14,a15,del6]
  exact qCD9 (by omega)
 ·rw [List.getElem?_set_ne (by omega)]
  exact hes k m' (by omega) hm'
 ·have hkl:=(List.getElem?_eq_some_iff.1 hm').1
  obtain ⟨⟨s1,g1,g2⟩,⟨s2,g3,g4⟩⟩:=S.ob k m' (by omega) hm'
  refine ⟨⟨s1,?_,g2⟩,⟨s2,?_,g4⟩⟩
  ·rw [List.getElem?_set_ne (by omega),oth6 _ (by omega) (by omega)]; exact g1
  ·rw [List.getElem?_set_ne (by omega),oth6 _ (by omega) (by omega)]; exact g3
end
end Le
namespace Le
open Ld Lt Go Go.Proofs Go.Abs
set_option maxRecDepth 8000
section
variable {C : Cfg} {R n i : Nat} {H : AHeap}
theorem rounds {N : Nat} {L : List Mono} (hR : N + 2 * L.length≤R) (hn : n = L.length) (hs : L.length≤1048576) (hsm : ∀ m∈L,m.Coef.length≤1048576∧m.Exps.length≤1048576) : ∀ (d i : Nat) (H : AHeap),i + d = n→Sp N R L i H→∃ H',qch9 (semA C (Lim C) 137440003197 qgW9) ⟨en0 R n i,H⟩ = some (.exit 0,⟨en0 R n n,H'⟩):=by
 intro d
 induction d with
 | zero =>
  intro i H hi S
  obtain rfl : i = n:=by omega
  refine ⟨H,?_⟩
  rw [qfg9,qgW9,qiv9,r1_ge]
 | succ d ih =>
  intro i H hi S
  obtain ⟨H1,h1,S1⟩:=round (C:=C) hR hn hs hsm S (by omega)
  obtain ⟨H',h2⟩:=ih (i + 1) H1 (by omega) S1
  exact ⟨H',by rw [qfg9,h1]; exact h2⟩
theorem qvY9 (is23 : IsF C 23 75 137440003197 c23 []) {N : Nat} {L : List Mono} (hR : N + 2 * L.length≤R) (hs : L.length≤1048576) (hsm : ∀ m∈L,m.Coef.length≤1048576∧m.Exps.length≤1048576) (S : Sp N R L 0 H) : ∃ H',Lim C 23 [.ref R 0 0 L.length] H = some (resOf [],H'):=by
 obtain ⟨H',h1⟩:=rounds (C:=C) hR rfl hs hsm L.length 0 H (by omega) S
 refine ⟨H',run_L is23 (nbA rfl) ?_⟩
 have e0 : qcW9 137440003197 0 [.ref R 0 0 L.length] = [(0,.ref R 0 0 L.length)]:=by simp +decide only [go_sem]
 rw [e0,c23,qiv9,qCp9]
 simp only [qkB9,show semA C (Lim C) 137440003197 (.loop qgW9) = qch9 (semA C (Lim C) 137440003197 qgW9) from rfl,h1,if_true]
 rfl
theorem qwy9 (is23 : IsF C 23 75 137440003197 c23 []) : ∃ H',Lim C 23 [.d (.rd [])] H = some (resOf [],H'):=by
 refine ⟨H,run_L is23 (nbA rfl) ?_⟩
 have e0 : qcW9 137440003197 0 [.d (.rd [])] = [(0,.d (.rd []))]:=by simp +decide only [go_sem]
 have a0 : semA C (Lim C) 137440003197 qlC9 ⟨[(0,.d (.rd []))],H⟩ = some (.normal,⟨[(0,.d (.rd [])),(2,PI 0)],H⟩):=by
  simp +decide only [go_sem,qlC9]
 have a1 : semA C (Lim C) 137440003197 (.seq qjJ9 (.cond (.tmp 10) (some 10) (.skip) (.exit 0))) ⟨[(0,.d (.rd [])),(2,PI 0)],H⟩ = some (.exit 0,⟨[(0,.d (.rd [])),(2,PI 0)],H⟩):=by
  simp +decide only [go_sem,qjJ9]
 have a2 : qch9 (semA C (Lim C) 137440003197 qgW9) ⟨[(0,.d (.rd [])),(2,PI 0)],H⟩ = some (.exit 0,⟨[(0,.d (.rd [])),(2,PI 0)],H⟩):=by
  rw [qfg9,qgW9,qiv9,a1]
 rw [e0,c23,qiv9,a0]
 simp only [qkB9,show semA C (Lim C) 137440003197 (.loop qgW9) = qch9 (semA C (Lim C) 137440003197 qgW9) from rfl,a2,if_true]
 rfl
def OwnP (H : AHeap) (pv : PV) (L : List Mono) : Prop:=(pv = .d (.rd [])∧L = [])∨∃ pre,H = pre++nestH pre.length L∧pv = .ref (pre.length + 2 * L.length) 0 0 L.length
theorem qzM9 {pre : AHeap} {L : List Mono} : Sp pre.length (pre.length + 2 * L.length) L 0 (pre++nestH pre.length L):=by
 have at' : ∀ j,(pre++nestH pre.length L)[pre.length + j]? = (nestH pre.length L)[j]?:=fun j=>by
  rw [List.getElem?_append_right (by omega),show pre.length + j - pre.length = j by omega]
 refine ⟨⟨_,(at' _).trans qmX9,fun k m _ hm=>?_⟩,fun k m _ hm=>⟨⟨_,(at' _).trans (qqR9 hm),?_⟩,⟨_,(at' (2 * k + 1)).trans (qqy9 hm),?_⟩⟩⟩
 ·rw [List.getElem?_map,qtX9 _ _ _ _ hm]; rfl
 ·refine ⟨qjH9,fun r hr=>?_⟩
  obtain ⟨a,_,rfl⟩:=List.mem_map.1 hr; rfl
 ·refine ⟨qjH9,fun r hr=>?_⟩
  obtain ⟨a,_,rfl⟩:=List.mem_map.1 hr; rfl
theorem qxf9 (is23 : IsF C 23 75 137440003197 c23 []) {pv : PV} {L : List Mono} (h : OwnP H pv L) (hs : L.length≤1048576) (hsm : ∀ m∈L,m.Coef.length≤1048576∧m.Exps.length≤1048576) : ∃ H',Lim C 23 [pv] H = some (resOf [],H'):=by
 rcases h with ⟨rfl,rfl⟩ | ⟨pre,rfl,rfl⟩
 ·exact qwy9 is23
 ·exact qvY9 is23 (Nat.le_refl _) hs hsm qzM9
theorem qwJ9 {h : AHeap} : ∀ {k : List MK},(∀ x∈k,h[x.c]? = some (.row false 0 1 (rowP qc9 x.m.Coef))∧h[x.e]? = some (.row false 0 1 (rowP intD x.m.Exps)))→mapO (mapO (rs h 39)) (k.map encK) = some ((k.map (·.m)).map qa9)
 | [],_=>rfl
 | x::k,hk=>by
  have h1:=hk x List.mem_cons_self
  have h2:=qwJ9 (k:=k) (fun y hy=>hk y (List.mem_cons_of_mem _ hy))
  simp only [List.map_cons,mapO,qlV9 h1.1 h1.2,h2]
theorem qCP9 {pv : PV} {L : List Mono} (h : OwnP H pv L) : rs H depth pv = some (.rd (L.map qa9)):=by
 rcases h with ⟨rfl,rfl⟩ | ⟨pre,rfl,rfl⟩
 ·rfl
 ·have ho : (pre++nestH pre.length L)[pre.length + 2 * L.length]? = some (.row false 0 2 ((kel pre.length L).map encK)):=by
   rw [List.getElem?_append_right (by omega),show pre.length + 2 * L.length - pre.length = 2 * L.length by omega]
   exact qmX9
  show (match Abs.rowAt (pre++nestH pre.length L) (pre.length + 2 * L.length) 0 with | some (_,_,es)=>(mapO (mapO (rs (pre++nestH pre.length L) 39)) ((es.drop 0).take L.length)).map D.rd | none=>none) = _
  simp only [Abs.rowAt,ho,if_true]
  rw [List.drop_zero,List.take_of_length_le (by rw [List.length_map,qkk9]; exact Nat.le_refl _),qwJ9 (fun x hx=>?_),kel_m]; rfl
  have:=qpz9 L pre x hx
  have e : pre++nestH pre.length L = (pre++objs L)++[.row false 0 2 ((kel pre.length L).map encK)]:=by unfold nestH; rw [List.append_assoc]
  rw [e]
  exact ⟨qeY9 this.1,qeY9 this.2⟩
end
end Le
namespace Le
open Ld Go Go.Proofs Go.Abs
set_option maxRecDepth 8000
def mode2 : FuncId→Nat
 | 17=>2
 | 23=>1
 | _=>0
noncomputable def prim2 : FuncId→Option (List PV→AHeap→Option (PV × AHeap))
 | 12=>some (callP Ld.C (Lim Ld.C) 12)
 | 13=>some (callP Ld.C (Lim Ld.C) 13)
 | 16=>some (callP Ld.C (Lim Ld.C) 16)
 | 18=>some (callP Ld.C (Lim Ld.C) 18)
 | 19=>some (callP Ld.C (Lim Ld.C) 19)
 | 20=>some (callP Ld.C (Lim Ld.C) 20)
 | 21=>some (callP Ld.C (Lim Ld.C) 21)
 | 22=>some (callP Ld.C (Lim Ld.C) 22)
 | 43=>some (callP Ld.C (Lim Ld.C) 43)
 | 44=>some (callP Ld.C (Lim Ld.C) 44)
 | 45=>some (callP Ld.C (Lim Ld.C) 45)
 | 46=>some Lt.primTold2
 | _=>none
def k4 : Hint:=⟨576460752303505395,0,[],[],[],[]⟩
def k23 : Hint:=⟨137440003197,0,[(0,137440003192),(1,137440003192),(2,1049608),(3,1048576),(4,137440003096),(5,137438953472)],[],[],[]⟩
noncomputable def hint2 : FuncId→Hint
 | 4=>k4
 | 23=>k23
 | g=>Ld.hint g
def uses2 : List FuncId:=[4,17,23]
noncomputable def C2 : Cfg:={ P:=Try.prog,mode:=mode2,prim:=prim2,hint:=hint2,use:=fun g=>uses2.contains g,settle:=Ld.C.settle }
theorem C2_P : C2.P = Try.prog:=rfl
theorem qdI9 {W : World} {g : FuncId} : FSound W Try.prog g (callP Ld.C (Lim Ld.C) g):=fun args h r h' ho X m w vs H hv =>
 (qjZ9 (Ld.cOk W).toCSound (qdV9 (Ld.cOk W)) H hv ho).2
theorem qCa9 : Ld.okAll Try.prog hint2 uses2 = true:=by kernel_rfl
theorem cOk2 (W : World) : COk W C2:=by
 have all : ∀ g, C2.use g = true → ∃ fn c, Try.prog.funcs[g]? = some fn ∧ fn.name ≠ "runtime.NumGoroutine" ∧ fn.body = some c ∧ okT (hint2 g) c = true := by
  intro g hg
  have hm : g∈uses2:=by simpa [C2] using hg
  have h1:=List.all_eq_true.1 qCa9 g hm
  cases hf : Try.prog.funcs[g]? with
  | none=>rw [hf] at h1; cases h1
  | some fn =>
   rw [hf] at h1
   simp only [Bool.and_eq_true,decide_eq_true_eq] at h1
   cases hb : fn.body with
   | none=>rw [hb] at h1; cases h1.2
   | some c=>rw [hb] at h1; exact ⟨fn,c,rfl,h1.1,hb,h1.2⟩
 refine { use:=fun g hg=>?_,prim:=fun g p hg=>?_,orders:=?_,hints:=fun g fn c hg hf hc=>?_ }
 ·obtain ⟨fn,c,h1,h2,h3,_⟩:=all g hg
  exact ⟨fn,h1,h2,by rw [h3]; rfl⟩
 ·have hg' : prim2 g = some p:=hg
  unfold prim2 at hg'
  split at hg'
  ·cases hg'; exact ⟨Ld.callable Try.func12 (by kernel_rfl) (by kernel_rfl),qdI9⟩
  ·cases hg'; exact ⟨Ld.callable Try.func13 (by kernel_rfl) (by kernel_rfl),qdI9⟩
  ·cases hg'; exact ⟨Ld.callable Try.func16 (by kernel_rfl) (by kernel_rfl),qdI9⟩
  ·cases hg'; exact ⟨Ld.callable Try.func18 (by kernel_rfl) (by kernel_rfl),qdI9⟩
  ·cases hg'; exact ⟨Ld.callable Try.func19 (by kernel_rfl) (by kernel_rfl),qdI9⟩
  ·cases hg'; exact ⟨Ld.callable Try.func20 (by kernel_rfl) (by kernel_rfl),qdI9⟩
  ·cases hg'; exact ⟨Ld.callable Try.func21 (by kernel_rfl) (by kernel_rfl),qdI9⟩
  ·cases hg'; exact ⟨Ld.callable Try.func22 (by kernel_rfl) (by kernel_rfl),qdI9⟩
  ·cases hg'; exact ⟨Ld.callable Try.func43 (by kernel_rfl) (by kernel_rfl),qdI9⟩
  ·cases hg'; exact ⟨Ld.callable Try.func44 (by kernel_rfl) (by kernel_rfl),qdI9⟩
  ·cases hg'; exact ⟨Ld.callable Try.func45 (by kernel_rfl) (by kernel_rfl),qdI9⟩
  ·cases hg'; exact ⟨Ld.callable Try.func46 (by kernel_rfl) (by kernel_rfl),Lt.told2_sound Lt.cOk W⟩
  ·cases hg'
 ·show Try.prog.follows .mixedOrders = true
  kernel_rfl
 ·obtain ⟨fn',c',h1,_,h3,h4⟩:=all g hg
  have e : fn' = fn:=oiA (h1.symm.trans hf)
  subst e
  have e2 : c' = c:=oiA (h3.symm.trans hc)
  subst e2
  exact h4
theorem is23 : IsF C2 23 75 137440003197 c23 []:=⟨⟨Try.f23,_,C2_P ▸ Try.func23,rfl,rfl,rfl,by kernel_rfl,rfl⟩⟩
theorem is17 : IsF C2 17 34 1105232627 Ld.c17 [.tmp 4,.tmp 5]:=⟨⟨Try.f17,_,C2_P ▸ Try.func17,rfl,rfl,rfl,by kernel_rfl,rfl⟩⟩
section
variable {args : List PV} {h : AHeap}
theorem ps12 : callP C2 (Lim C2) 12 args h = callP Ld.C (Lim Ld.C) 12 args h:=rfl
theorem ps13 : callP C2 (Lim C2) 13 args h = callP Ld.C (Lim Ld.C) 13 args h:=rfl
theorem ps16 : callP C2 (Lim C2) 16 args h = callP Ld.C (Lim Ld.C) 16 args h:=rfl
theorem ps18 : callP C2 (Lim C2) 18 args h = callP Ld.C (Lim Ld.C) 18 args h:=rfl
theorem ps19 : callP C2 (Lim C2) 19 args h = callP Ld.C (Lim Ld.C) 19 args h:=rfl
theorem ps20 : callP C2 (Lim C2) 20 args h = callP Ld.C (Lim Ld.C) 20 args h:=rfl
theorem ps21 : callP C2 (Lim C2) 21 args h = callP Ld.C (Lim Ld.C) 21 args h:=rfl
theorem ps22 : callP C2 (Lim C2) 22 args h = callP Ld.C (Lim Ld.C) 22 args h:=rfl
theorem ps43 : callP C2 (Lim C2) 43 args h = callP Ld.C (Lim Ld.C) 43 args h:=rfl
theorem ps44 : callP C2 (Lim C2) 44 args h = callP Ld.C (Lim Ld.C) 44 args h:=rfl
theorem ps45 : callP C2 (Lim C2) 45 args h = callP Ld.C (Lim Ld.C) 45 args h:=rfl
end
theorem qyN9 {h : AHeap} {id : Nat} {L : List (ByteArray × Mono)} {x : List Mono} (hx : toldP L = some x) (ho : h[id]? = some (.map (mapP keyS qa9 L))) : ∃ pv H,callP C2 (Lim C2) 46 [.mp id] h = some (pv,H)∧OwnP H pv x:=by
 refine ⟨_,_,?_,.inr ⟨h,rfl,rfl⟩⟩
 show Lt.primTold2 [.mp id] h = _
 simp only [Lt.primTold2,ho,qqz9,Option.bind_some,hx,Option.map_some]
def addS (G : AHeap) (s0 : List Mono) (s1 : List Mono) (s4 : List Mono) (s6 : Int) (s21 : List Mono) (s22 : Int) : Int × (List (ByteArray × Mono))→AHeap→St:=fun (s23,m7) gt=>⟨[(0,.d (.rd (s0.map qa9))),(1,.d (.rd (s1.map qa9))),(4,.d (.rd (s4.map qa9))),(5,PI 0),(6,PI s6),(7,.mp G.length),(21,.d (.rd (s21.map qa9))),(22,PI s22),(23,PI s23)],(G++(.map (mapP keyS qa9 m7)::gt))⟩
def addX (G : AHeap) (s0 : List Mono) (s1 : List Mono) (s4 : List Mono) (s6 : Int) (s21 : List Mono) (s22 : Int) : (((List Mono) × Int) ⊕ (Int × (List (ByteArray × Mono))))→AExit × St→Prop
 | .inl r,q=>XL C2 [.tmp 4,.tmp 5] (fun vs _=>vs = [.d (.rd (r.1.map qa9)),PI r.2]∧r.1 = []) q
 | .inr (s23,m7),q=>∃ g,q = (.exit 0,addS G s0 s1 s4 s6 s21 s22 (s23,m7) g)
set_option maxHeartbeats 60000000 in
theorem qCz9 {G : AHeap} {s0 : List Mono} {s1 : List Mono} {s4 : List Mono} {s6 : Int} {s21 : List Mono} {s22 : Int} : Sim C2 1105232627 qlL9 (qdz9 s0 s1 s4 s6 s21 s22) (addS G s0 s1 s4 s6 s21 s22) (addX G s0 s1 s4 s6 s21 s22):=by
 intro s g r hr
 obtain ⟨s23,m7⟩:=s
 have ⟨gt,hg0⟩ : ∃ y,y = g:=⟨_,rfl⟩
 subst hg0
 simp only [qdz9] at hr
 rcases iteP hr with ⟨h1,hr⟩ | ⟨h1,hr⟩
 obtain ⟨x3,h2,x4,h3,hr⟩:=bs2 hr
 obtain ⟨z5,h3k⟩:=qis9 (g1:=G) (g2:=(gt++(.row false 0 2 [[.d (.rd (x3.Coef.map qc9)),.d (.rd (x3.Exps.map intD))]]::[]))) h3
 replace h3k:=qA9 rfl rfl rfl h3k
 try simp only [go_sem] at h3k
 rcases iteB hr with ⟨h4,hr⟩ | ⟨h4,hr⟩
 obtain rfl:=oiA hr
 refine ⟨(gt++(.row false 0 2 [[.d (.rd (x3.Coef.map qc9)),.d (.rd (x3.Exps.map intD))]]::z5)),?_⟩
 rotate_left
 obtain rfl:=oiA hr
 refine xl_of (vs:=[.d (.rd []),PI 2]) (hp:=(G++(.map (mapP keyS qa9 x4.2)::(gt++(.row false 0 2 [[.d (.rd (x3.Coef.map qc9)),.d (.rd (x3.Exps.map intD))]]::z5))))) ⟨rfl,rfl⟩ ?_
 rotate_left
 obtain rfl:=oiA hr
 refine xe_of ⟨gt,rfl⟩ ?_
 rotate_left
 all_goals (simp +decide only [go_sem,decide_not,addS,qlL9,ps45, *])
end Le
namespace Le
open Ld Go Go.Proofs Go.Abs
set_option maxRecDepth 8000
set_option maxHeartbeats 60000000 in
theorem qzR9 {a0 : List Mono} {a1 : List Mono} {r : (List Mono) × Int} (hr : qcE9 a0 a1 = some r) (G : AHeap) : ∃ pv H,Lim C2 17 [.d (.rd (a0.map qa9)),.d (.rd (a1.map qa9))] G = some (resOf [pv,PI r.2],H)∧OwnP H pv r.1:=by
 simp only [qcE9] at hr
 obtain ⟨x1,h1,hr⟩:=bsome hr
 have h1k:=fun h=>(qeo9 h1).o rfl rfl rfl (h:=h) (args:=[.im true [[.d (.rd (a0.map qa9))],[.d (.rd (a1.map qa9))]]]) rfl
 try simp only [go_sem] at h1k
 rcases iteP hr with ⟨h2,hr⟩ | ⟨h2,hr⟩
 obtain ⟨x2,h3,hr⟩:=bsome hr
 have h3k:=fun h=>(qeX9 h3).o rfl rfl rfl (h:=h) (args:=[.im true [[.d (.rd (a0.map qa9))],[.d (.rd (a1.map qa9))]]]) rfl
 try simp only [go_sem] at h3k
 obtain ⟨x6,h4,hr⟩:=bsome hr
 obtain ⟨q4,h4L,h4X⟩:=(qCz9 (G:=G)).L (g:=[]) h4
 rcases x6 with x7 | ⟨x8,x9⟩
 try dsimp only at hr
 obtain ⟨st4,vs4,hp4,rfl,h4R,hv,hnil⟩:=h4X
 simp only [addS,go_sem] at h4L
 obtain rfl:=oiA hr
 rw [hnil] at hv
 subst hv
 refine ⟨.d (.rd []),hp4,run_L is17 (nbA rfl) ?_,.inl ⟨rfl,hnil⟩⟩
 rotate_left
 try dsimp only at hr
 obtain ⟨z10,rfl⟩:=h4X
 simp only [addS,go_sem] at h4L
 obtain ⟨x11,h5,hr⟩:=bsome hr
 obtain ⟨pv,H,h5k,hown⟩:=qyN9 (h:=G++(.map (mapP keyS qa9 x9)::z10)) (id:=G.length) h5 (by rw [List.getElem?_append_right (Nat.le_refl _),Nat.sub_self]; rfl)
 obtain rfl:=oiA hr
 refine ⟨pv,H,run_L is17 (nbA rfl) ?_,hown⟩
 rotate_left
 obtain rfl:=oiA hr
 refine ⟨.d (.rd []),G,run_L is17 (nbA rfl) ?_,.inl ⟨rfl,rfl⟩⟩
 rotate_left
 all_goals (simp +decide only [go_sem,decide_not,Ld.c17,ps43,ps44, *])
end Le
namespace Le
open Ld Ld.Law Go Go.Proofs Go.Abs
set_option maxRecDepth 8000
def c4_r0 : ACode:=.reg [] [] [.K 4 (.mv (.const (.bool false)))]
def c4_r1 : ACode:=.reg [] [] [.T 14 (.call 12 []),.N 5 14]
def c4_r2 : ACode:=.reg [] [] [.M 15 5,.K 16 (.not (.tmp 15))]
def c4_r3 : ACode:=.reg [] [] [.K 4 (.mv (.const (.bool false)))]
def c4_r4 : ACode:=.reg [] [] [.M 17 0,.T 18 (.call 13 [.tmp 17]),.N 6 18]
def c4_r5 : ACode:=.reg [] [] [.M 19 1,.T 20 (.call 13 [.tmp 19]),.N 7 20]
def c4_r6 : ACode:=.reg [] [] [.M 22 6,.M 23 7,.T 24 (.call 17 [.tmp 22,.tmp 23]),.M 21 24,.T 25 (.ext (.tmp 21) 0),.T 26 (.ext (.tmp 21) 1),.N 8 25,.N 9 26]
def c4_r7 : ACode:=.reg [] [] [.M 28 0,.M 29 1,.T 30 (.call 18 [.tmp 28,.tmp 29]),.M 27 30,.T 31 (.ext (.tmp 27) 0),.T 32 (.ext (.tmp 27) 1),.N 10 31,.N 11 32]
def c4_r8 : ACode:=.reg [] [] [.M 33 9,.M 34 11,.T 35 (.bin .neq (.tmp 33) (.tmp 34)),.M 36 35,.MG 37 36 false 8,.MG 38 36 false 10,.TG 39 36 false (.call 16 [.tmp 37,.tmp 38]),.TG 40 36 false (.not (.tmp 39)),.T 41 (.pick (.tmp 36) (.const (.bool true)) (.tmp 40)),.M 42 41,.MG 43 42 false 6,.MG 44 42 false 7,.TG 45 42 false (.call 19 [.tmp 43,.tmp 44]),.MG 46 42 false 0,.MG 47 42 false 1,.TG 48 42 false (.call 20 [.tmp 46,.tmp 47]),.TG 49 42 false (.binB .neq (.tmp 45) (.tmp 48)),.T 50 (.pick (.tmp 42) (.const (.bool true)) (.tmp 49)),.M 51 50,.MG 52 51 false 6,.MG 53 51 false 7,.TG 54 51 false (.call 21 [.tmp 52,.tmp 53]),.MG 55 51 false 0,.MG 56 51 false 1,.TG 57 51 false (.call 22 [.tmp 55,.tmp 56]),.TG 58 51 false (.binB .neq (.tmp 54) (.tmp 57)),.K 59 (.pick (.tmp 51) (.const (.bool true)) (.tmp 58))]
def c4_r9 : ACode:=.reg [] [] [.K 4 (.mv (.const (.bool false)))]
def qwk9 : ACode:=.reg [] [] [.M 60 8,.T 61 (.call 23 [.tmp 60])]
def qwW9 : ACode:=.reg [] [] [.M 63 6,.M 64 7,.T 65 (.call 17 [.tmp 63,.tmp 64]),.M 62 65,.T 66 (.ext (.tmp 62) 0),.T 67 (.ext (.tmp 62) 1),.N 12 66,.N 13 67]
def qwL9 : ACode:=.reg [] [] [.M 68 5,.M 69 68,.MG 70 69 true 6,.MG 71 69 true 0,.TG 72 69 true (.call 16 [.tmp 70,.tmp 71]),.T 73 (.pick (.tmp 69) (.tmp 72) (.const (.bool false))),.M 74 73,.MG 75 74 true 7,.MG 76 74 true 1,.TG 77 74 true (.call 16 [.tmp 75,.tmp 76]),.T 78 (.pick (.tmp 74) (.tmp 77) (.const (.bool false))),.M 79 78,.MG 80 79 true 12,.MG 81 79 true 10,.TG 82 79 true (.call 16 [.tmp 80,.tmp 81]),.T 83 (.pick (.tmp 79) (.tmp 82) (.const (.bool false))),.M 84 83,.MG 85 84 true 13,.MG 86 84 true 11,.TG 87 84 true (.bin .eql (.tmp 85) (.tmp 86)),.T 88 (.pick (.tmp 84) (.tmp 87) (.const (.bool false))),.N 4 88]
def c4 : ACode:=.seq (c4_r0) (.seq (c4_r1) (.seq (.seq (c4_r2) (.cond (.tmp 16) (some 16) (.seq (c4_r3) (.ret)) (.skip))) (.seq (c4_r4) (.seq (c4_r5) (.seq (c4_r6) (.seq (c4_r7) (.seq (.seq (c4_r8) (.cond (.tmp 59) (some 59) (.seq (c4_r9) (.ret)) (.skip))) (.seq (qwk9) (.seq (qwW9) (.seq (qwL9) (.ret)))))))))))
theorem is4 : IsF C2 4 89 576460752303505395 c4 [.tmp 4]:=⟨⟨Try.f4,_,C2_P ▸ Try.func4,rfl,rfl,rfl,by kernel_rfl,rfl⟩⟩
theorem qqC9 {a0 a1 : List Mono} {x : List Mono × Int} (hx : qcE9 a0 a1 = some x) (G : AHeap) : ∃ pv H,callP C2 (Lim C2) 17 [.d (.rd (a0.map qa9)),.d (.rd (a1.map qa9))] G = some (.tp [pv,PI x.2],H)∧OwnP H pv x.1:=by
 obtain ⟨pv,H,h1,h2⟩:=qzR9 hx G
 exact ⟨pv,H,qwT9 (C:=C2) (g:=17) rfl rfl rfl (args:=[.d (.rd (a0.map qa9)),.d (.rd (a1.map qa9))]) (ds:=[.rd (a0.map qa9),.rd (a1.map qa9)]) rfl rfl h1,h2⟩
theorem qor9 {pv : PV} {H : AHeap} {L M : List Mono} {b : Bool} (ho : OwnP H pv L) (hb : qfs9 L M = some b) : callP Ld.C (Lim Ld.C) 16 [pv,.d (.rd (M.map qa9))] H = some (PB b,H):=by
 have ha : mapO (rs H depth) [pv,.d (.rd (M.map qa9))] = some [.rd (L.map qa9),.rd (M.map qa9)]:=by
  simp only [mapO,qCP9 ho]; rfl
 exact (qir9 hb).o rfl rfl rfl (h:=H) ha
theorem qvu9 {pv : PV} {H : AHeap} {L : List Mono} (ho : OwnP H pv L) (hT : PolyT L) : ∃ H',callP C2 (Lim C2) 23 [pv] H = some (.tp [],H'):=by
 obtain ⟨H',h⟩:=qxf9 is23 ho hT.1 (fun m hm=>⟨(hT.2 m hm).sc,(hT.2 m hm).se⟩)
 exact ⟨H',qA9 (C:=C2) (g:=23) rfl rfl rfl h⟩
theorem qoW9 {p : List Mono} (tp : PolyT p) : qks9 p = some p:=by
 unfold qks9
 refine if_pos ⟨tp.1,fun m hm=>?_⟩
 have:=tp.2 m hm
 exact ⟨this.sc,this.se⟩
set_option maxHeartbeats 60000000 in
theorem sums_run {p q : List Mono} (tp : PolyT p) (tq : PolyT q) : ∃ H,Lim C2 4 [.d (.rd (p.map qa9)),.d (.rd (q.map qa9))] [] = some (resOf [PB true],H):=by
 obtain ⟨x,h1,h2,_⟩:=qyI9 tp tq
 have k12:=fun h=>(qsG9 shown2).k rfl rfl rfl h
 have k13p:=fun h=>qqj9 (h:=h) (qoW9 tp)
 have k13q:=fun h=>qqj9 (h:=h) (qoW9 tq)
 obtain ⟨pv,H1,k17,ho⟩:=qqC9 h1 []
 have k18:=fun h=>(qwM9 ((qzz9 tp tq).trans h1)).k rfl rfl rfl h
 have k16:=qor9 ho (qjp9 h2)
 obtain ⟨bA,hA⟩ : ∃ b,qdE9 p q = some b:=⟨_,qip9 tp tq⟩
 obtain ⟨bG,hG⟩ : ∃ b,qeK9 p q = some b:=⟨_,qkI9 tp tq⟩
 have k19:=fun h=>(qiu9 hA).k rfl rfl rfl h
 have k20:=fun h=>(qkZ9 ((qlj9 tp tq).trans hA)).k rfl rfl rfl h
 have k21:=fun h=>(qkm9 hG).k rfl rfl rfl h
 have k22:=fun h=>(qpm9 ((qrm9 tp tq).trans hG)).k rfl rfl rfl h
 obtain ⟨H2,k23⟩:=qvu9 ho h2
 obtain ⟨pv',H3,k17',ho'⟩:=qqC9 h1 H2
 have k16':=qor9 ho' (qjp9 h2)
 have k16p:=fun h=>(qir9 (qjp9 tp)).k rfl rfl rfl h
 have k16q:=fun h=>(qir9 (qjp9 tq)).k rfl rfl rfl h
 clear h1 h2 hA hG ho ho'
 simp only [go_sem] at k12 k13p k13q k18 k19 k20 k21 k22 k16p k16q k16 k16'
 refine ⟨H3,run_L is4 (nbA rfl) ?_⟩
 simp +decide only [go_sem,decide_not,c4,c4_r0,c4_r1,c4_r2,c4_r3,c4_r4,c4_r5,c4_r6,c4_r7,c4_r8,c4_r9,qwk9,qwW9,qwL9,ps12,ps13,ps16,ps18,ps19,ps20,ps21,ps22,k12,k13p,k13q,k17,k18,k16,k19,k20,k21,k22,k23,k17',k16',k16p,k16q,Bool.not_true,Bool.not_false,bne_self_eq_false,ne_eq,not_true_eq_false]
end Le

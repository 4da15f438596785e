import Derived.Test.YtmkohpkfeamjiaaTk9
set_option maxHeartbeats 400000
set_option linter.unusedVariables false
set_option linter.unusedSimpArgs false
set_option linter.unusedSectionVars false
namespace Lt.Cp
open Ld Lt Go Go.Proofs Go.Abs
set_option maxRecDepth 8000
noncomputable def b13 : Code:=match Try.f13.body with | some c=>c | none=>.skip
theorem body13 : Try.f13.body = some b13:=rfl
noncomputable def e0 : Code:=sL b13
noncomputable def e1 : Code:=sL (sR b13)
noncomputable def e2 : Code:=sL (sL (sR (sR b13)))
noncomputable def lbe : Code:=lC (bC (sR (sL (sR (sR b13)))))
noncomputable def e6 : Code:=sR (sR (sR b13))
theorem qzq9 : b13 = .seq e0 (.seq e1 (.seq (.seq e2 (.block 0 (.loop lbe))) e6)):=rfl
def hc : Hint:=⟨541,0,[(0,512),(1,512)],[(5,[7,14,17,1011,1013])],[],[(1,[(3,2)])]⟩
def g3 : ACode:=.reg [] [] [.M 6 4,.M 7 0,.T 8 (.len (.tmp 7)),.K 9 (.bin .lss (.tmp 6) (.tmp 8))]
def g5 : ACode:=.reg [] [] [.M 12 3,.T 13 (.lit 1 []),.M 14 0,.M 15 4,⟨some (16,false),.ix 2 (.tmp 14) (.tmp 15),none,true,false⟩,.T 17 (.fa 0 (.tmp 16)),⟨some (18,false),.load none (.tmp 17),none,true,false⟩,.T 19 (.app 1 4 (.tmp 13) (.tmp 18)),.T 20 (.lit 1 []),.M 21 0,.M 22 4,⟨some (23,false),.ixB 2 (.tmp 21) (.tmp 22),none,true,false⟩,.T 24 (.fa 1 (.tmp 23)),⟨some (25,false),.loadB none (.tmp 24),none,true,false⟩,.T 26 (.app 1 8 (.tmp 20) (.tmp 25)),.T 27 (.build [(0,1),(1,1)] [.im true [],.im true []] [(0,.tmp 19),(1,.tmp 26)]),.T 28 (.lit 2 [(0,.tmp 27)]),.T 29 (.app 2 48 (.tmp 12) (.tmp 28)),.N 3 29]
def g4 : ACode:=.reg [] [] [.M 10 4,.T 11 (.bin .add (.tmp 10) (cI 1)),.N 4 11]
def g0 : ACode:=.reg [] [] [.K 2 (.mv (.const (.slice none 0 0)))]
def g1 : ACode:=.reg [] [(3,2)] [.T 5 (.lit 2 []),.N 3 5]
def g2 : ACode:=.reg [] [] [.K 4 (.mv (cI 0))]
def g6 : ACode:=.seq (.reg [] [] [.M 30 3,.N 2 30]) .ret
def gl : ACode:=.seq (.seq g3 (.cond (.tmp 9) (some 9) .skip (.exit 0))) (.seq (.block 1 512 g5) g4)
theorem s0 : qP9 C.P C.settle hc 31 e0 = some g0:=by kernel_rfl
theorem s1 : qP9 C.P C.settle hc 31 e1 = some g1:=by kernel_rfl
theorem s2 : qP9 C.P C.settle hc 31 e2 = some g2:=by kernel_rfl
theorem s6 : qP9 C.P C.settle hc 31 e6 = some g6:=by kernel_rfl
theorem sl : qP9 C.P C.settle hc 31 lbe = some gl:=by kernel_rfl
theorem k0 : qbb9 hc e0 = true:=by kernel_rfl
theorem k1 : qbb9 hc e1 = true:=by kernel_rfl
theorem k2 : qbb9 hc e2 = true:=by kernel_rfl
theorem k6 : qbb9 hc e6 = true:=by kernel_rfl
theorem kl : qbb9 hc lbe = true:=by kernel_rfl
def envC (p : List Mono) (v i : Nat) : Env:=[(0,.d (.rd (p.map qa9))),(2,.im true []),(3,.ref 0 v 0 i),(4,.d (.v (.int .i64 (i : Int))))]
def envS (p : List Mono) : Env:=[(0,.d (.rd (p.map qa9)))]
theorem sem0 {p : List Mono} : semA C (Lim C) 541 g0 ⟨envS p,[]⟩ = some (.normal,⟨[(0,.d (.rd (p.map qa9))),(2,.im true [])],[]⟩):=by
 simp +decide only [go_sem,g0,envS]
theorem sem1 {p : List Mono} : semA C (Lim C) 541 g1 ⟨[(0,.d (.rd (p.map qa9))),(2,.im true [])],[]⟩ = some (.normal,⟨[(0,.d (.rd (p.map qa9))),(2,.im true []),(3,.ref 0 0 0 0)],[.row false 0 2 []]⟩):=by
 simp +decide only [go_sem,g1]
theorem sem2 {p : List Mono} : semA C (Lim C) 541 g2 ⟨[(0,.d (.rd (p.map qa9))),(2,.im true []),(3,.ref 0 0 0 0)],[.row false 0 2 []]⟩ = some (.normal,⟨envC p 0 0,[.row false 0 2 (rowP qa9 [])]⟩):=by
 simp +decide only [go_sem,g2,envC,qkJ9,Int.natCast_zero]
def h5c (v : Nat) (L : List Mono) (m : Mono) : AHeap:=[.row false (v + 1) 2 (rowP qa9 L++[[.ref 1 0 0 m.Coef.length,.ref 2 0 0 m.Exps.length]]),.row false 0 1 (rowP qb9 m.Coef),.row false 0 1 (rowP intD m.Exps)]
set_option maxHeartbeats 4000000 in
theorem semL {p L : List Mono} {m : Mono} {v i : Nat} (hL : L.length = i) (hp : p.length≤1048576) (hm : p[i]? = some m) (hc : m.Coef.length≤1048576) (he : m.Exps.length≤1048576) : semA C (Lim C) 541 gl ⟨envC p v i,[.row false v 2 (rowP qa9 L)]⟩ = some (.normal,⟨envC p (v + 1) (i + 1),h5c v L m⟩):=by
 have hi:=(List.getElem?_eq_some_iff.1 hm).1
 have i1 : m.Coef.length * 4≤140737488355328:=by omega
 have i2 : m.Exps.length * 8≤140737488355328:=by omega
 have i3 : (i + 1) * 48≤140737488355328:=by omega
 have i4 : (rowP qa9 L).length = i:=by rw [qgr9,hL]
 have i5 : (i : Int) < (p.length : Int):=by omega
 have i6 : (p.map qa9)[i]? = some (qa9 m):=by rw [List.getElem?_map,hm]; rfl
 have i8 : idx p (i : Int) = some m:=qc9 hm
 have i7 : w64 ((i : Int) + 1) = ((i + 1 : Nat) : Int):=by rw [qh9 (by omega) (by omega)]; omega
 simp +decide only [go_sem,gl,g3,g4,g5,envC,h5c,i1,i2,i3,i4,i5,i6,i7,i8,hL,if_true,List.length_map]
theorem semE {p L : List Mono} {v i : Nat} (hi : i = p.length) : semA C (Lim C) 541 gl ⟨envC p v i,[.row false v 2 (rowP qa9 L)]⟩ = some (.exit 0,⟨envC p v i,[.row false v 2 (rowP qa9 L)]⟩):=by
 have i5 : ((i : Int) < (p.length : Int)) = False:=eq_false (by omega)
 simp +decide only [go_sem,gl,g3,envC,i5,if_false,List.length_map]
def envD (p : List Mono) (v i : Nat) : Env:=[(0,.d (.rd (p.map qa9))),(2,.ref 0 v 0 i),(3,.ref 0 v 0 i),(4,.d (.v (.int .i64 (i : Int))))]
theorem sem6 {p L : List Mono} {v i : Nat} : semA C (Lim C) 541 g6 ⟨envC p v i,[.row false v 2 (rowP qa9 L)]⟩ = some (.ret,⟨envD p v i,[.row false v 2 (rowP qa9 L)]⟩):=by
 simp +decide only [go_sem,g6,envC,envD]
end Lt.Cp
namespace Lt.Cp
open Ld Lt Go Go.Proofs Go.Abs
set_option maxRecDepth 8000
theorem rs6a {v : Nat} {L : List Mono} {m : Mono} : rs (h5c v L m) depth (.ref 1 0 0 m.Coef.length) = some (.rd (m.Coef.map qb9)):=qle9 (h:=h5c v L m) (id:=1) rfl rfl
theorem rs6b {v : Nat} {L : List Mono} {m : Mono} : rs (h5c v L m) depth (.ref 2 0 0 m.Exps.length) = some (.rd (m.Exps.map intD)):=qle9 (h:=h5c v L m) (id:=2) rfl rfl
theorem re6a {v : Nat} {L : List Mono} {m : Mono} : reach (h5c v L m) depth (.ref 1 0 0 m.Coef.length) = [1]:=qjg9 (h:=h5c v L m) (id:=1) rfl
theorem re6b {v : Nat} {L : List Mono} {m : Mono} : reach (h5c v L m) depth (.ref 2 0 0 m.Exps.length) = [2]:=qjg9 (h:=h5c v L m) (id:=2) rfl
section
variable {W0 : World} {E : Nat→Prop} {X : Nat→Prop} {h : AHeap} {m : Places} {w w' : World} {a : Act}
theorem qhM9 {v : Nat} {L : List Mono} {mo : Mono} {b : Nat} (hb : Ex X [.row false (v + 1) 2 (rowP qa9 (L++[mo]))] m b) : Ex X (h5c v L mo) m b:=by
 rcases hb with hb | ⟨id,o,bo,k1,k2,k3⟩
 ·exact .inl hb
 ·match id,k1 with
  | 0,k1=>exact .inr ⟨0,_,bo,rfl,rfl,k3⟩
theorem absorb {v : Nat} {L : List Mono} {mo : Mono} (H : HRel W0 X (h5c v L mo) m w) : HRel W0 X [.row false (v + 1) 2 (rowP qa9 (L++[mo]))] m w:=by
 have far : ∀ id,id ≠ 0→∀ g bo fz ver sz es,m id = some (g,bo)→(h5c v L mo)[id]? = some (.row fz ver sz es)→¬ Ex X [.row false (v + 1) 2 (rowP qa9 (L++[mo]))] m g:=by
  intro id hid g bo fz ver sz es hm ho hb
  rcases hb with hb | ⟨id',o,bo',k1,k2,k3⟩
  ·exact H.apart id _ g bo ho hm hb
  ·match id',k1,k3 with
   | 0,k1,k3=>exact hid (H.inj id 0 _ _ g bo bo' ho rfl hm k3)
 have dmv : ∀ {d : D} {x : Value},VRel (Ex X (h5c v L mo) m) (h5c v L mo) m w (.d d) x→VRel (Ex X [.row false (v + 1) 2 (rowP qa9 (L++[mo]))] m) [.row false (v + 1) 2 (rowP qa9 (L++[mo]))] m w (.d d) x:=by
  intro d x hv
  cases hv with
  | d _ _ hd=>exact .d _ _ (hd.move (fun b _ hb=>qhM9 hb) (fun _ _ _=>rfl))
 have one : ∀ id o,([.row false (v + 1) 2 (rowP qa9 (L++[mo]))] : AHeap)[id]? = some o→id = 0∧o = .row false (v + 1) 2 (rowP qa9 (L++[mo])):=by
  intro id o ho
  match id,ho with
  | 0,ho=>exact ⟨rfl,by simpa using ho.symm⟩
 refine ⟨fun id o ho=>?_,fun id o g bo ho hm=>?_,fun id id' o o' g bo bo' ho ho' _ _=>?_,fun id o g bo ho hm=>?_,H.xlt,H.osz,H.old,fun id o g bo ho hm=>?_⟩
 ·obtain ⟨rfl,rfl⟩:=one id o ho
  have h0:=H.obj 0 _ rfl
  cases hp : m 0 with
  | none =>
   rw [hp] at h0
   have : (rowP qa9 L++[[PV.ref 1 0 0 mo.Coef.length,.ref 2 0 0 mo.Exps.length]]) = []:=h0
   simp at this
  | some p =>
   obtain ⟨g,bo⟩:=p
   rw [hp] at h0
   obtain ⟨c0,cur,e,c1,c2,c3,c4⟩:=h0
   have hlen : (rowP qa9 (L++[mo])).length = (rowP qa9 L++[[PV.ref 1 0 0 mo.Coef.length,.ref 2 0 0 mo.Exps.length]]).length:=by simp [rowP]
   refine ⟨c0,cur,e,c1,by rw [hlen]; exact c2,fun i cs hi=>?_,fun i j cs u hi hj=>?_⟩
   ·rw [qkw9] at hi
    cases hx : (L++[mo])[i]? with
    | none=>rw [hx] at hi; cases hi
    | some a=>rw [hx] at hi; cases hi; rfl
   ·rw [qkc9] at hi
    rcases Nat.lt_or_ge i (rowP qa9 L).length with hlt | hge
    ·rw [List.getElem?_append_left hlt] at hi
     have hi' : (rowP qa9 L++[[PV.ref 1 0 0 mo.Coef.length,.ref 2 0 0 mo.Exps.length]])[i]? = some cs:=by rw [List.getElem?_append_left hlt]; exact hi
     obtain ⟨x,x1,x2,x3⟩:=c4 i j cs u hi' hj
     refine ⟨x,x1,x2,?_⟩
     rw [qkw9] at hi
     cases hx : L[i]? with
     | none=>rw [hx] at hi; cases hi
     | some a =>
      rw [hx] at hi
      cases hi
      rw [List.getElem?_map] at hj
      cases hy : (qa9 a)[j]? with
      | none=>rw [hy] at hj; cases hj
      | some d=>rw [hy] at hj; cases hj; exact dmv x3
    ·rw [List.getElem?_append_right hge] at hi
     have hi0 : i = (rowP qa9 L).length:=by
      rcases Nat.lt_or_ge (i - (rowP qa9 L).length) 1 with c | c
      ·omega
      ·rw [List.getElem?_eq_none (by simpa [rowP] using c)] at hi; cases hi
     have hi' : (rowP qa9 L++[[PV.ref 1 0 0 mo.Coef.length,.ref 2 0 0 mo.Exps.length]])[i]? = some [PV.ref 1 0 0 mo.Coef.length,.ref 2 0 0 mo.Exps.length]:=by rw [hi0]; simp
     rw [hi0,Nat.sub_self] at hi
     have hcs : cs = [.d (.rd (mo.Coef.map qb9)),.d (.rd (mo.Exps.map intD))]:=by simpa [rowP,qa9] using hi.symm
     subst hcs
     match j,hj with
     | 0,hj =>
      obtain ⟨x,x1,x2,x3⟩:=c4 i 0 _ _ hi' rfl
      cases hj
      exact ⟨x,x1,x2,.d _ _ (qed9 H (fun b hb=>qhM9 hb) _ _ _ _ rs6a (fun id hid=>by
       rw [re6a,List.mem_singleton] at hid
       exact far id (by omega)) x3)⟩
     | 1,hj =>
      obtain ⟨x,x1,x2,x3⟩:=c4 i 1 _ _ hi' rfl
      cases hj
      exact ⟨x,x1,x2,.d _ _ (qed9 H (fun b hb=>qhM9 hb) _ _ _ _ rs6b (fun id hid=>by
       rw [re6b,List.mem_singleton] at hid
       exact far id (by omega)) x3)⟩
     | j + 2,hj=>simp at hj
 ·obtain ⟨rfl,rfl⟩:=one id o ho
  exact H.lt 0 _ g bo rfl hm
 ·rw [(one id o ho).1,(one id' o' ho').1]
 ·obtain ⟨rfl,rfl⟩:=one id o ho
  exact H.apart 0 _ g bo rfl hm
 ·obtain ⟨rfl,rfl⟩:=one id o ho
  exact H.new 0 _ g bo rfl hm

theorem qpg9 {p : List Mono} {v n i : Nat} : (envC p v n).get i = if i = 0 then .d (.rd (p.map qa9)) else if i = 2 then .im true [] else if i = 3 then .ref 0 v 0 n else if i = 4 then .d (.v (.int .i64 (n : Int))) else .junk:=by
 simp only [envC,Env.get]
theorem qum9 {p : List Mono} {v n i : Nat} (hk : hc.keep.testBit i = false) : (envC p v n).get i = .junk:=by
 rw [qpg9]
 by_cases e0 : i = 0
 ·subst e0; exact absurd hk (by decide)
 rw [if_neg e0]
 by_cases e2 : i = 2
 ·subst e2; exact absurd hk (by decide)
 rw [if_neg e2]
 by_cases e3 : i = 3
 ·subst e3; exact absurd hk (by decide)
 rw [if_neg e3]
 by_cases e7 : i = 4
 ·subst e7; exact absurd hk (by decide)
 rw [if_neg e7]
theorem sabsorb {p : List Mono} {v n : Nat} {L : List Mono} {mo : Mono} (hs : SRel W0 X hc 0 31 ⟨envC p (v + 1) (n + 1),h5c v L mo⟩ m w a) : SRel W0 X hc 0 31 ⟨envC p (v + 1) (n + 1),[.row false (v + 1) 2 (rowP qa9 (L++[mo]))]⟩ m w a:=by
 refine ⟨hs.size,hs.dfs,absorb hs.heap,fun i=>?_,fun i _ hk=>qum9 hk⟩
 show VRel _ _ _ _ ((envC p (v + 1) (n + 1)).get i) _
 have h1 : VRel (Ex X (h5c v L mo) m) (h5c v L mo) m w ((envC p (v + 1) (n + 1)).get i) (a.eval (.tmp i)):=hs.env i
 rw [qpg9] at h1 ⊢
 generalize a.eval (.tmp i) = val at h1 ⊢
 split
 ·rename_i e
  rw [if_pos e] at h1
  cases h1 with | d _ _ hd=>exact .d _ _ (hd.move (fun b _ hb=>qhM9 hb) (fun _ _ _=>rfl))
 rename_i e0
 rw [if_neg e0] at h1
 split
 ·rename_i e
  rw [if_pos e] at h1
  cases h1 with
  | im t xs A c sz f hc ht hsz hA hc1 hr=>exact .im _ _ A c sz f hc ht hsz hA (fun i j cs u ad h1=>by simp at h1) (fun i j cs u h1=>by simp at h1)
 rename_i e2
 rw [if_neg e2] at h1
 split
 ·rename_i e
  rw [if_pos e] at h1
  cases h1 with
  | ref id ver off len v hs' =>
   obtain ⟨A,cap,e1,e2,e3,fz,ver',sz,es,ho,hle,hcur⟩:=hs'
   cases ho
   refine .ref _ _ _ _ _ ⟨A,cap,e1,e2,e3,false,_,2,_,rfl,hle,fun e=>?_⟩
   obtain ⟨c1,c2⟩:=hcur e
   exact ⟨by simpa [rowP] using c1,c2⟩
 rename_i e3
 rw [if_neg e3] at h1
 split
 ·rename_i e
  rw [if_pos e] at h1
  cases h1 with | d _ _ hd=>cases hd; exact .d _ _ (.v _)
 ·exact .junk _
end
set_option maxHeartbeats 4000000 in
theorem copied_sound (hC : ∀ w,COk w C) (W0 : World) : FSound W0 Try.prog 13 qdt9:=by
 intro args h rv h' ho X m w vs H hv
 unfold qdt9 at ho
 split at ho
 ·rename_i xs
  split at ho
  ·rename_i hex
   obtain ⟨p,rfl,hp⟩:=hex
   obtain ⟨rfl,rfl⟩:=Prod.mk.inj (oiA ho)
   obtain ⟨v0,rfl⟩ : ∃ v0,vs = [v0]:=by
    have h1:=hv.1
    match vs,h1 with
    | [v0],_=>exact ⟨v0,rfl⟩
   have hv0:=hv.2 0 _ _ rfl rfl
   have hd0 : DRel (Ex X h m) w (.rd (p.map qa9)) v0:=by cases hv0 with | d _ _ hd=>exact hd
   have hY : ∀ b,Ex X h m b→b < w.heap.size:=by
    rintro b (hb | ⟨id',o,bo',k1,_,k3⟩)
    ·exact H.xlt b hb
    ·exact H.lt id' o b bo' k1 k3
   have H0 : HRel w (Ex X h m) [] (fun _=>none) w:=⟨(fun id o ho=>by simp at ho),(fun id o g bo ho=>by simp at ho),(fun id id' o o' g bo bo' ho=>by simp at ho),(fun id o g bo ho=>by simp at ho),hY,Nat.le_refl _,fun b _=>rfl,(fun id o g bo ho=>by simp at ho)⟩
   have hEx : ∀ b,Ex (Ex X h m) [] (fun _=>none) b→Ex X h m b:=by
    rintro b (hb | ⟨id',o,bo',k1,_,k3⟩)
    ·exact hb
    ·simp at k1
   refine calls_of_wp Try.func13 body13 ?_
   have hsz0 : (([v0].toArray++Array.replicate (Try.f13.ntmps - [v0].toArray.size) undef)).size = 31:=by
    simp only [Array.size_append,Array.size_replicate,show Try.f13.ntmps = 31 from rfl]; simp
   have h00 : ({ tmps:=[v0].toArray++Array.replicate (Try.f13.ntmps - [v0].toArray.size) undef,defers:=[] } : Act).eval (.tmp 0) = v0:=by
    simp only [Act.eval,Array.getD_eq_getD_getElem?]
    rw [Array.getElem?_append_left (by simp)]
    simp
   have hdf : ({ tmps:=[v0].toArray++Array.replicate (Try.f13.ntmps - [v0].toArray.size) undef,defers:=[] } : Act).defers = []:=rfl
   generalize ha : ({ tmps:=[v0].toArray++Array.replicate (Try.f13.ntmps - [v0].toArray.size) undef,defers:=[] } : Act) = a at h00 hdf
   have hsa : a.tmps.size = 31:=by rw [← ha]; exact hsz0
   clear ha hsz0
   have S0 : SRel w (Ex X h m) hc 0 31 ⟨envS p,[]⟩ (fun _=>none) w a:=by
    refine ⟨hsa,hdf,H0,fun i=>?_,fun i _ hk=>?_⟩
    ·show VRel _ _ _ _ ((envS p).get i) _
     simp only [envS,Env.get]
     split
     ·rename_i e
      rw [e,h00]
      exact .d _ _ (hd0.move (fun b _ hb=>hEx b hb) (fun _ _ _=>rfl))
     ·exact .junk _
    ·show (envS p).get i = .junk
     simp only [envS,Env.get]
     split
     ·rename_i e; subst e; exact absurd hk (by decide)
     ·rfl
   rw [qzq9]
   refine wp_seq ?_
   refine qbo9 (hC w).toCSound (qbJ9 (hC w)) (hC w).orders hc 31 e0 _ .normal _ (qbe9 e0 g0 _ _ s0 sem0) k0 _ _ w a S0 (fun a1 m1 w1 S1 V1=>?_)
   show (Code.seq e1 _).wp C.P _ a1 w1
   refine wp_seq ?_
   refine qbo9 (hC w).toCSound (qbJ9 (hC w)) (hC w).orders hc 31 e1 _ .normal _ (qbe9 e1 g1 _ _ s1 sem1) k1 _ _ w1 a1 S1 (fun a2 m2 w2 S2 V2=>?_)
   show (Code.seq (.seq e2 _) e6).wp C.P _ a2 w2
   refine wp_seq (wp_seq ?_)
   refine qbo9 (hC w).toCSound (qbJ9 (hC w)) (hC w).orders hc 31 e2 _ .normal _ (qbe9 e2 g2 _ _ s2 sem2) k2 _ _ w2 a2 S2 (fun a3 m3 w3 S3 V3=>?_)
   show (Code.block 0 (.loop lbe)).wp C.P _ a3 w3
   refine wp_block ?_
   refine wp_loop_ghost (fun k a' w'=>∃ v i m',i + k = p.length∧SRel w (Ex X h m) hc 0 31 ⟨envC p v i,[.row false v 2 (rowP qa9 (p.take i))]⟩ m' w' a'∧w'.os = w.os∧w'.tape = w.tape∧Outs w w') p.length ⟨0,0,m3,by omega,S3,by rw [V3.os,V2.os,V1.os],by rw [V3.tape,V2.tape,V1.tape],V1.output.trans (V2.output.trans V3.output)⟩ ?_
   rintro k a4 w4 ⟨v,i,m4,hik,S4,o1,o2,o3⟩
   have htl : (p.take i).length = i:=by rw [List.length_take]; omega
   cases k with
   | zero =>
    refine qbo9 (hC w).toCSound (qbJ9 (hC w)) (hC w).orders hc 31 lbe _ (.exit 0) _ (qbe9 lbe gl _ _ sl (semE (p:=p) (L:=p.take i) (v:=v) (i:=i) (by omega))) kl _ _ w4 a4 S4 (fun a5 m5 w5 S5 V5=>?_)
    show e6.wp C.P _ a5 w5
    refine qbo9 (hC w).toCSound (qbJ9 (hC w)) (hC w).orders hc 31 e6 _ .ret _ (qbe9 e6 g6 _ _ s6 sem6) k6 _ _ w5 a5 S5 (fun a6 m6 w6 S6 V6=>?_)
    have hr : mapO (resP C.P ⟨envD p v i,[.row false v 2 (rowP qa9 (p.take i))]⟩) Try.f13.results.toList = some [.ref 0 v 0 i]:=rfl
    obtain ⟨x,r1,r2⟩:=qfu9 S6.heap S6.env hr
    have hti : p.take i = p:=List.take_of_length_le (by omega)
    have hrs : rs [.row false v 2 (rowP qa9 (p.take i))] depth (.ref 0 v 0 i) = some (.rd (p.map qa9)):=by
     have:=qle9 (f:=qa9) (l:=p.take i) (h:=[.row false v 2 (rowP qa9 (p.take i))]) (id:=0) (ver:=v) (fz:=false) (sz:=2) rfl htl
     rw [this,hti]
    have hd : DRel (Ex X h m) w6 (.rd (p.map qa9)) x:=qed9 S6.heap (fun b hb=>.inl hb) _ _ _ _ hrs (fun id hid g bo fz ver sz es hm ho hy=>S6.heap.apart id _ g bo ho hm hy) r2
    have q1 : w6.os = w.os:=by rw [V6.os,V5.os,o1]
    have q2 : w6.tape = w.tape:=by rw [V6.tape,V5.tape,o2]
    have q3 : Outs w w6:=o3.trans (V5.output.trans V6.output)
    have q4 : w.heap.size≤w6.heap.size:=S6.heap.osz
    have q5 : ∀ b,b < w.heap.size→w6.heap[b]? = w.heap[b]?:=fun b hb=>S6.heap.old b hb
    exact ⟨S6.dfs,x,r1,m,.d _ _ hd,HRel.grow H q1 q2 q3 q4 q5,Evo.grow H q1 q2 q3 q4 q5⟩
   | succ k =>
    have hm : p[i]? = some (p[i]'(by omega)):=List.getElem?_eq_getElem _
    have hsm:=hp.2 _ (List.mem_of_getElem? hm)
    have htk : p.take i++[p[i]'(by omega)] = p.take (i + 1):=by rw [List.take_add_one,hm]; rfl
    refine qbo9 (hC w).toCSound (qbJ9 (hC w)) (hC w).orders hc 31 lbe _ .normal _ (qbe9 lbe gl _ _ sl (semL (p:=p) (L:=p.take i) (v:=v) (i:=i) htl hp.1 hm hsm.1 hsm.2)) kl _ _ w4 a4 S4 (fun a5 m5 w5 S5 V5=>?_)
    have S6:=sabsorb S5
    rw [htk] at S6
    exact ⟨k,Nat.lt_succ_self k,v + 1,i + 1,m5,by omega,S6,by rw [V5.os,o1],by rw [V5.tape,o2],o3.trans V5.output⟩
  ·cases ho
 ·cases ho
end Lt.Cp
namespace Ld
open Go Go.Proofs Go.Abs Go.Lib Go.Shelf Go.RowKit
theorem callable {g : FuncId} {fn : Func} (h : Try.prog.funcs[g]? = some fn) (h1 : decide (fn.name ≠ "runtime.NumGoroutine") = true) (h2 : fn.body.isSome = true) : Callable Try.prog g := ⟨fn, h, of_decide_eq_true h1, h2⟩
noncomputable def okAll (P : Program) (t : FuncId→Hint) (l : List FuncId) : Bool:=l.all fun g=>match P.funcs[g]? with
 | some fn => decide (fn.name ≠ "runtime.NumGoroutine") && (match fn.body with | some c => okT (t g) c | none => false)
 | none=>false
theorem qts9 : okAll Try.prog hint uses = true:=by kernel_rfl
theorem cOk (W : World) : COk W C:=by
 have all : ∀ g, C.use g = true → ∃ fn c, Try.prog.funcs[g]? = some fn ∧ fn.name ≠ "runtime.NumGoroutine" ∧ fn.body = some c ∧ okT (hint g) c = true := by
  intro g hg
  have hm : g∈uses:=by simpa [C] using hg
  have h1:=List.all_eq_true.1 qts9 g hm
  cases hf : Try.prog.funcs[g]? with
  | none=>rw [hf] at h1; cases h1
  | some fn =>
   rw [hf] at h1
   simp only [Bool.and_eq_true,decide_eq_true_eq] at h1
   cases hb : fn.body with
   | none=>rw [hb] at h1; cases h1.2
   | some c=>rw [hb] at h1; exact ⟨fn,c,rfl,h1.1,hb,h1.2⟩
 refine { use:=fun g hg=>?_,prim:=fun g p hg=>?_,orders:=?_,hints:=fun g fn c hg hf hc=>?_ }
 ·obtain ⟨fn,c,h1,h2,h3,_⟩:=all g hg
  exact ⟨fn,h1,h2,by rw [h3]; rfl⟩
 ·have hg' : prim g = some p:=hg
  unfold prim at hg'
  split at hg'
  ·cases hg'; exact ⟨callable Try.func13 (by kernel_rfl) (by kernel_rfl),Lt.Cp.copied_sound Lt.cOk W⟩
  ·cases hg'; exact ⟨callable Try.func46 (by kernel_rfl) (by kernel_rfl),Lt.told_sound Lt.cOk W⟩
  ·cases hg'; exact ⟨callable Try.func61 (by kernel_rfl) (by kernel_rfl),cls_61 W⟩
  ·cases hg'; exact ⟨callable Try.func72 (by kernel_rfl) (by kernel_rfl),qzG9 W⟩
  ·cases hg'; exact ⟨callable Try.func74 (by kernel_rfl) (by kernel_rfl),cls_74 W⟩
  ·cases hg'
 ·show Try.prog.follows .mixedOrders = true
  kernel_rfl
 ·obtain ⟨fn',c',h1,_,h3,h4⟩:=all g hg
  have e : fn' = fn:=oiA (h1.symm.trans hf)
  subst e
  have e2 : c' = c:=oiA (h3.symm.trans hc)
  subst e2
  exact h4
end Ld

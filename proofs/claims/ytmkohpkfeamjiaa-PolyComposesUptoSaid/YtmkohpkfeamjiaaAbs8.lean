import Derived.Test.YtmkohpkfeamjiaaAbs6
set_option maxHeartbeats 400000
set_option linter.unusedVariables false
set_option linter.unusedSimpArgs false
set_option linter.unusedSectionVars false
namespace Go.Abs
open Go Go.RowKit

section
variable {W0 : World} {E : Nat→Prop} {X : Nat→Prop} {h h' : AHeap} {m : Places} {w : World} {P : Program}

theorem qmg9 {t e : TypeId} {i : TypeInfo} (hu : P.underlying t = some (.slice e)) (hi : P.info? e = some i) (A : Option Addr) (n c l k : Nat) (hlk : l≤k) (hkn : k≤n) (hnc : n≤c) (vlo vhi : Option Value)
  (hlo : match vlo with | none=>l = 0 | some v=>∃ kk,v = .int kk l) (hhi : match vhi with | none=>k = n | some v=>∃ kk,v = .int kk k) :
  (Instr.sliceAt t (.slice A n c) vlo vhi none).run P w = .ok (.slice (if c = l then A else A.map (·.add (l * i.size))) (k - l) (c - l)) w:=by
 have hkc : k≤c:=by omega
 cases vlo with
 | none =>
  cases vhi with
  | none =>
   subst hlo; subst hhi
   simp [Instr.sliceAt,run_underlying hu,Instr.slice,Instr.sliceBounds,qbd9 hi]
  | some b =>
   obtain ⟨kb,rfl⟩:=hhi
   subst hlo
   simp [Instr.sliceAt,run_underlying hu,Instr.slice,Instr.sliceBounds,Instr.sliceBound,asIntOf,qbd9 hi,hkc]
 | some a =>
  obtain ⟨ka,rfl⟩:=hlo
  cases vhi with
  | none =>
   subst hhi
   simp [Instr.sliceAt,run_underlying hu,Instr.slice,Instr.sliceBounds,Instr.sliceBound,asIntOf,qbd9 hi,hlk]
  | some b =>
   obtain ⟨kb,rfl⟩:=hhi
   simp [Instr.sliceAt,run_underlying hu,Instr.slice,Instr.sliceBounds,Instr.sliceBound,asIntOf,qbd9 hi,hlk,hkc]

theorem qrh9 {α : Type} (xs : List α) (l k i : Nat) (c : α) (hc : ((xs.drop l).take (k - l))[i]? = some c) : i < k - l∧xs[l + i]? = some c:=by
 rw [List.getElem?_take] at hc
 split at hc
 ·rename_i hlt
  rw [List.getElem?_drop] at hc
  exact ⟨hlt,hc⟩
 ·cases hc

theorem qyB9 {t e : TypeId} {i : TypeInfo} {x y : PV} {v : Value} {n l k : Nat} {full : Bool} (hu : P.underlying t = some (.slice e)) (hi : P.info? e = some i) (hv : VRel E h m w x v) (hlen : lenP x = some n) (hsz : szOk h i.size x = true)
  (hlk : l≤k) (hkn : k≤n) (hfull : full = true→k = n) (hc : cutP x l k full = some y) (vlo vhi : Option Value)
  (hlo : match vlo with | none=>l = 0 | some v=>∃ kk,v = .int kk l) (hhi : match vhi with | none=>k = n | some v=>∃ kk,v = .int kk k) :
  ∃ u,(Instr.sliceAt t v vlo vhi none).run P w = .ok u w∧VRel E h m w y u:=by
 have haddr : ∀ (A : Option Addr) (c : Nat) (ad : Addr),l < c→(if c = l then A else A.map (·.add (l * i.size))) = some ad→∃ a0,A = some a0∧ad = a0.add (l * i.size):=by
  intro A c ad hlc he
  rw [if_neg (by omega)] at he
  cases A with
  | none=>simp at he
  | some a0=>simp at he; exact ⟨a0,rfl,he.symm⟩
 cases hv with
 | d x v hd =>
  cases hd with
  | rd xs A c sz f hcc hsz' hA hE hr =>
   simp only [lenP,Option.some.injEq] at hlen
   subst hlen
   simp only [cutP] at hc
   split at hc
   ·simp only [Option.some.injEq] at hc
    subst hc
    refine ⟨_,qmg9 hu hi A xs.length c l k hlk hkn hcc vlo vhi hlo hhi,.d _ _ ?_⟩
    have hl : k - l = ((xs.drop l).take (k - l)).length:=by simp; omega
    have hall : ∀ (j : Nat) (cs : List D),xs[j]? = some cs→cs.length = i.size:=fun j cs hj=>by
     have:=List.all_eq_true.1 hsz cs (List.mem_of_getElem? hj)
     simpa using this
    generalize hxs : (xs.drop l).take (k - l) = xs' at hl ⊢
    rw [hl]
    have hg : ∀ (j : Nat) (cs : List D),xs'[j]? = some cs→j < k - l∧xs[l + j]? = some cs:=fun j cs hj=>qrh9 xs l k j cs (by rw [hxs]; exact hj)
    refine .rd xs' _ _ i.size (fun a b=>f (l + a) b) (by omega) (fun j cs hj=>hall _ _ (hg j cs hj).2) (fun j cs hj=>?_) (fun a b cs u ad ha hb had=>?_) (fun a b cs u ha hb=>hr _ _ cs u (hg a cs ha).2 hb)
    ·obtain ⟨h1,h2⟩:=hg j cs hj
     obtain ⟨a0,rfl⟩:=hA _ _ h2
     exact ⟨a0.add (l * i.size),by rw [if_neg (by omega)]; rfl⟩
    ·obtain ⟨h1,h2⟩:=hg a cs ha
     obtain ⟨a0,rfl,rfl⟩:=haddr A c ad (by omega) had
     obtain ⟨q1,q2,q3⟩:=hE (l + a) b cs u a0 h2 hb rfl
     have e1 : sz = i.size:=(hsz' _ _ h2).symm.trans (hall _ _ h2)
     refine ⟨by rw [qbI9]; exact q1,?_,q3⟩
     rw [qfE9,← q2,e1,Nat.add_mul,Nat.add_assoc]
   ·cases hc
  | _=>simp [lenP] at hlen
 | im tt xs A c sz f hcc ht hsz' hA hE hr =>
  simp only [lenP,Option.some.injEq] at hlen
  subst hlen
  simp only [cutP] at hc
  split at hc
  ·simp only [Option.some.injEq] at hc
   subst hc
   refine ⟨_,qmg9 hu hi A xs.length c l k hlk hkn hcc vlo vhi hlo hhi,?_⟩
   have hl : k - l = ((xs.drop l).take (k - l)).length:=by simp; omega
   have hall : ∀ (j : Nat) (cs : List PV),xs[j]? = some cs→cs.length = i.size:=fun j cs hj=>by
    have:=List.all_eq_true.1 hsz cs (List.mem_of_getElem? hj)
    simpa using this
   have htc : (tt && (full || k == xs.length)) = true→k - l = c - l:=fun e=>by
    simp at e
    have h1:=ht e.1
    have h2 : k = xs.length:=e.2.elim hfull id
    omega
   generalize hxs : (xs.drop l).take (k - l) = xs' at hl ⊢
   have htc' : (tt && (full || k == xs.length)) = true→xs'.length = c - l:=fun e=>by rw [← hl]; exact htc e
   rw [hl]
   have hg : ∀ (j : Nat) (cs : List PV),xs'[j]? = some cs→j < k - l∧xs[l + j]? = some cs:=fun j cs hj=>qrh9 xs l k j cs (by rw [hxs]; exact hj)
   refine .im (tt && (full || k == xs.length)) xs' _ _ i.size (fun a b=>f (l + a) b) (by omega) htc' (fun j cs hj=>hall _ _ (hg j cs hj).2) (fun j cs hj=>?_) (fun a b cs u ad ha hb had=>?_) (fun a b cs u ha hb=>hr _ _ cs u (hg a cs ha).2 hb)
   ·obtain ⟨h1,h2⟩:=hg j cs hj
    obtain ⟨a0,rfl⟩:=hA _ _ h2
    exact ⟨a0.add (l * i.size),by rw [if_neg (by omega)]; rfl⟩
   ·obtain ⟨h1,h2⟩:=hg a cs ha
    obtain ⟨a0,rfl,rfl⟩:=haddr A c ad (by omega) had
    obtain ⟨q1,q2,q3⟩:=hE (l + a) b cs u a0 h2 hb rfl
    have e1 : sz = i.size:=(hsz' _ _ h2).symm.trans (hall _ _ h2)
    refine ⟨by rw [qbI9]; exact q1,?_,q3⟩
    rw [qfE9,← q2,e1,Nat.add_mul,Nat.add_assoc]
  ·cases hc
 | ref id ver off len v hs =>
  simp only [lenP,Option.some.injEq] at hlen
  subst hlen
  simp only [cutP] at hc
  split at hc
  ·simp only [Option.some.injEq] at hc
   subst hc
   obtain ⟨A,c,rfl,hlc,hA,fz,ver',sz',es,hob,hle,hcur⟩:=hs
   have hsz2 : sz' = i.size:=by simpa [szOk,hob] using hsz
   subst hsz2
   refine ⟨_,qmg9 hu hi A len c l k hlk hkn hlc vlo vhi hlo hhi,.ref _ _ _ _ _ ⟨_,_,rfl,by omega,fun hp=>?_,fz,ver',i.size,es,hob,hle,fun e=>?_⟩⟩
   ·obtain ⟨a,rfl⟩:=hA (by omega)
    exact ⟨a.add (l * i.size),by rw [if_neg (by omega)]; rfl⟩
   ·obtain ⟨c1,c2⟩:=hcur e
    refine ⟨by omega,?_⟩
    cases hm : m id with
    | none =>
     rw [hm] at c2
     have c2 : c = 0:=c2
     show c - l = 0
     omega
    | some p =>
     obtain ⟨g,bo⟩:=p
     rw [hm] at c2
     obtain ⟨cur,e,d1,d2,d3⟩:=c2
     refine ⟨cur,e,d1,fun hp=>?_,Nat.le_trans (Nat.mul_le_mul_right _ (by omega)) d3⟩
     rw [if_neg (by omega),d2 (by omega)]
     simp only [Option.map_some]
     rw [qep9,← Nat.add_mul,Nat.add_assoc]
  ·cases hc
 | _=>simp [lenP] at hlen

theorem qsk9 {t : TypeId} {x y : PV} {v : Value} {lo hi : Option PV} {vlo vhi : Option Value} {h1 : AHeap} (hv : VRel E h m w x v) (hlo : ∀ z,lo = some z→∃ v,vlo = some v∧VRel E h m w z v) (hlo' : lo = none→vlo = none) (hhi : ∀ z,hi = some z→∃ v,vhi = some v∧VRel E h m w z v) (hhi' : hi = none→vhi = none)
  (ho : opCut P h t x lo hi none = some (y,h1)) : h1 = h∧∃ u,(Instr.sliceAt t v vlo vhi none).run P w = .ok u w∧VRel E h m w y u:=by
 unfold opCut at ho
 simp only at ho
 split at ho
 ·rename_i s
  obtain rfl:=hv.to_v rfl
  exact qsu9 hlo hlo' hhi hhi' ho
 ·cases he : qt9 P t with
  | none=>simp [he] at ho
  | some e =>
   cases hl : lenP x with
   | none=>simp [he,hl] at ho
   | some n =>
    simp only [he,hl] at ho
    cases hsz : sizeT P e with
    | none=>simp [hsz] at ho
    | some sz =>
     cases hbl : bnd 0 lo with
     | none=>simp [hsz,hbl] at ho
     | some l =>
      cases hbk : bnd n hi with
      | none=>simp [hsz,hbl,hbk] at ho
      | some k =>
       simp only [hsz,hbl,hbk] at ho
       split at ho
       ·rename_i hb
        obtain ⟨b1,b2,b3,b4⟩:=hb
        obtain ⟨i,hi1,rfl⟩:=qcu9 hsz
        cases hc : cutP x l.toNat k.toNat hi.isNone with
        | none=>simp [hc] at ho
        | some z =>
         simp only [hc,Option.map_some,Option.some.injEq,Prod.mk.injEq] at ho
         obtain ⟨rfl,rfl⟩:=ho
         refine ⟨rfl,qyB9 (qbr9 he) hi1 hv hl b1 (by omega) (by omega) (fun hf=>?_) hc vlo vhi ?_ ?_⟩
         ·cases hi with
          | none=>simp only [bnd,Option.some.injEq] at hbk; omega
          | some _=>simp at hf
         ·cases lo with
          | none=>rw [hlo' rfl]; simp only [bnd,Option.some.injEq] at hbl; show l.toNat = 0; omega
          | some a =>
           obtain ⟨va,rfl,hr⟩:=hlo a rfl
           obtain ⟨kk,rfl⟩:=hr.as_int hbl
           exact ⟨kk,by rw [Int.toNat_of_nonneg b2]⟩
         ·cases hi with
          | none=>rw [hhi' rfl]; simp only [bnd,Option.some.injEq] at hbk; show k.toNat = n; omega
          | some a =>
           obtain ⟨va,rfl,hr⟩:=hhi a rfl
           obtain ⟨kk,rfl⟩:=hr.as_int hbk
           exact ⟨kk,by rw [Int.toNat_of_nonneg (by omega)]⟩
       ·cases ho

theorem qwS9 {t e : TypeId} {i : TypeInfo} (hu : P.underlying t = some (.slice e)) (hi : P.info? e = some i) (A : Option Addr) (n c : Nat) (hnc : n≤c) (k1 k2 : IntKind) :
  (Instr.sliceAt t (.slice A n c) none (some (.int k1 n)) (some (.int k2 n))).run P w = .ok (.slice (if n = 0 then A else A.map (·.add (0 * i.size))) n n) w:=by
 simp [Instr.sliceAt,run_underlying hu,Instr.slice,Instr.sliceBounds,Instr.sliceBound,asIntOf,qbd9 hi,hnc]
theorem qww9 {t e : TypeId} {i : TypeInfo} (hu : P.underlying t = some (.slice e)) (hi : P.info? e = some i) (A : Option Addr) (n C l k c : Nat) (hlk : l≤k) (hkc : k≤c) (hcC : c≤C) (k0 k1 k2 : IntKind) :
  (Instr.sliceAt t (.slice A n C) (some (.int k0 l)) (some (.int k1 k)) (some (.int k2 c))).run P w = .ok (.slice (if c = l then A else A.map (·.add (l * i.size))) (k - l) (c - l)) w:=by
 have hk : k≤C:=by omega
 simp [Instr.sliceAt,run_underlying hu,Instr.slice,Instr.sliceBounds,Instr.sliceBound,asIntOf,qbd9 hi,hlk,hkc,hcC,hk]
theorem qsJ9 {t e : TypeId} {i : TypeInfo} {x y lo m1 : PV} {hi : Option PV} {v vm vlo : Value} {vhi : Option Value} (hu : P.underlying t = some (.slice e)) (hi1 : P.info? e = some i) (hv : VRel E h m w x v) (hlo : VRel E h m w lo vlo) (hhi : ∀ z,hi = some z→∃ v,vhi = some v∧VRel E h m w z v) (hm : VRel E h m w m1 vm)
  (hc : cutR i.size h x lo hi m1 = some y) : ∃ u,(Instr.sliceAt t v (some vlo) vhi (some vm)).run P w = .ok u w∧VRel E h m w y u:=by
 unfold cutR at hc
 split at hc
 ·rename_i id ver off len
  split at hc
  ·rename_i l k c hl hk hcc
   split at hc
   ·rename_i hcond
    obtain ⟨s1,b1,b2,b3,b4⟩:=hcond
    obtain rfl:=Option.some.inj hc
    cases hi with
    | none=>simp at hk
    | some a =>
     obtain ⟨va,rfl,hr⟩:=hhi a rfl
     obtain ⟨k0,rfl⟩:=hlo.as_int hl
     obtain ⟨k1,rfl⟩:=hr.as_int hk
     obtain ⟨k2,rfl⟩:=hm.as_int hcc
     obtain ⟨l,rfl⟩:=Int.eq_ofNat_of_zero_le b1
     obtain ⟨k,rfl⟩:=Int.eq_ofNat_of_zero_le (Int.le_trans b1 b2)
     obtain ⟨c,rfl⟩:=Int.eq_ofNat_of_zero_le (Int.le_trans (Int.le_trans b1 b2) b3)
     cases hv with
     | ref _ _ _ _ _ hs =>
      obtain ⟨A,C,rfl,hlc,hA,fz,ver',sz',es,hob,hle,hcur⟩:=hs
      have hsz2 : sz' = i.size:=by simpa [szOk,hob] using s1
      subst hsz2
      have e1 : ((l : Int)).toNat = l:=Int.toNat_natCast l
      have e2 : ((k : Int) - (l : Int)).toNat = k - l:=by omega
      rw [e1,e2]
      refine ⟨_,qww9 hu hi1 A len C l k c (by omega) (by omega) (by omega) k0 k1 k2,.ref _ _ _ _ _ ⟨_,_,rfl,by omega,fun hp=>?_,fz,ver',i.size,es,hob,hle,fun e=>?_⟩⟩
      ·obtain ⟨a,rfl⟩:=hA (by omega)
       exact ⟨a.add (l * i.size),by rw [if_neg (by omega)]; rfl⟩
      ·obtain ⟨c1,c2⟩:=hcur e
       refine ⟨by omega,?_⟩
       cases hm : m id with
       | none =>
        rw [hm] at c2
        have c2 : C = 0:=c2
        show c - l = 0
        omega
       | some p =>
        obtain ⟨g,bo⟩:=p
        rw [hm] at c2
        obtain ⟨cur,e,d1,d2,d3⟩:=c2
        refine ⟨cur,e,d1,fun hp=>?_,Nat.le_trans (Nat.mul_le_mul_right _ (by omega)) d3⟩
        rw [if_neg (by omega),d2 (by omega)]
        simp only [Option.map_some]
        rw [qep9,← Nat.add_mul,Nat.add_assoc]
   ·cases hc
  ·cases hc
 ·cases hc
theorem qrR9 {t : TypeId} {x y m1 : PV} {v vm : Value} {lo hi : Option PV} {vlo vhi : Option Value} {h1 : AHeap} (hv : VRel E h m w x v) (hlo : ∀ z,lo = some z→∃ v,vlo = some v∧VRel E h m w z v) (hlo' : lo = none→vlo = none) (hhi : ∀ z,hi = some z→∃ v,vhi = some v∧VRel E h m w z v) (hm : VRel E h m w m1 vm)
  (ho : opCut P h t x lo hi (some m1) = some (y,h1)) : h1 = h∧∃ u,(Instr.sliceAt t v vlo vhi (some vm)).run P w = .ok u w∧VRel E h m w y u:=by
 unfold opCut at ho
 simp only at ho
 cases lo with
 | some a =>
  obtain ⟨va,rfl,hr⟩:=hlo a rfl
  cases he : qt9 P t with
  | none=>simp [he] at ho
  | some e =>
  cases hsz : sizeT P e with
  | none=>simp [he,hsz] at ho
  | some sz =>
  simp only [he,hsz] at ho
  obtain ⟨i,hi1,rfl⟩:=qcu9 hsz
  cases hc : cutR i.size h x a hi m1 with
  | none=>simp [hc] at ho
  | some z =>
  simp only [hc,Option.map_some,Option.some.injEq,Prod.mk.injEq] at ho
  obtain ⟨rfl,rfl⟩:=ho
  exact ⟨rfl,qsJ9 (qbr9 he) hi1 hv hr hhi hm hc⟩
 | none =>
 cases he : qt9 P t with
 | none=>simp [he] at ho
 | some e =>
 cases hsz : sizeT P e with
 | none=>simp [he,hsz] at ho
 | some sz =>
 simp only [he,hsz] at ho
 obtain ⟨i,hi1,rfl⟩:=qcu9 hsz
 cases hc : cutF i.size h x hi m1 with
 | none=>simp [hc] at ho
 | some z =>
 simp only [hc,Option.map_some,Option.some.injEq,Prod.mk.injEq] at ho
 obtain ⟨rfl,rfl⟩:=ho
 refine ⟨rfl,?_⟩
 unfold cutF at hc
 split at hc
 ·rename_i xs
  split at hc
  ·rename_i k c hk hcc
   split at hc
   ·rename_i hcond
    obtain ⟨s1,rfl,rfl⟩:=hcond
    obtain rfl:=Option.some.inj hc
    cases hi with
    | none=>simp at hk
    | some a =>
     obtain ⟨va,rfl,hr⟩:=hhi a rfl
     obtain ⟨k1,rfl⟩:=hr.as_int hk
     obtain ⟨k2,rfl⟩:=hm.as_int hcc
     rw [hlo' rfl]
     cases hv with
     | d _ _ hd =>
      cases hd with
      | rd _ A c sz f hcc' hsz' hA hE hr' =>
       refine ⟨_,qwS9 (qbr9 he) hi1 A xs.length c hcc' k1 k2,?_⟩
       have hl : (xs.map (·.map PV.d)).length = xs.length:=List.length_map ..
       have hg : ∀ (j : Nat) (cs : List PV),(xs.map (·.map PV.d))[j]? = some cs→∃ cs0,xs[j]? = some cs0∧cs = cs0.map PV.d:=fun j cs hj=>by
        rw [List.getElem?_map] at hj
        obtain ⟨cs0,h0,rfl⟩:=Option.map_eq_some_iff.1 hj
        exact ⟨cs0,h0,rfl⟩
       have hg2 : ∀ (cs0 : List D) (j : Nat) (u : PV),(cs0.map PV.d)[j]? = some u→∃ u0,cs0[j]? = some u0∧u = .d u0:=fun cs0 j u hj=>by
        rw [List.getElem?_map] at hj
        obtain ⟨u0,h0,rfl⟩:=Option.map_eq_some_iff.1 hj
        exact ⟨u0,h0,rfl⟩
       generalize hxs : xs.map (·.map PV.d) = xs' at hl hg
       rw [← hl]
       refine .im true xs' _ _ sz f (Nat.le_refl _) (fun _=>rfl) (fun j cs hj=>?_) (fun j cs hj=>?_) (fun a b cs u ad ha hb had=>?_) (fun a b cs u ha hb=>?_)
       ·obtain ⟨cs0,h0,rfl⟩:=hg j cs hj
        rw [List.length_map]; exact hsz' j cs0 h0
       ·obtain ⟨cs0,h0,rfl⟩:=hg j cs hj
        obtain ⟨a0,rfl⟩:=hA j cs0 h0
        have:=(List.getElem?_eq_some_iff.1 hj).1
        exact ⟨a0.add (0 * i.size),by rw [if_neg (by omega)]; rfl⟩
       ·obtain ⟨cs0,h0,rfl⟩:=hg a cs ha
        obtain ⟨u0,hu0,rfl⟩:=hg2 cs0 b u hb
        have:=(List.getElem?_eq_some_iff.1 ha).1
        rw [if_neg (by omega)] at had
        obtain ⟨a0,rfl⟩:=hA a cs0 h0
        simp only [Option.map_some,Option.some.injEq] at had
        subst had
        obtain ⟨q1,q2,q3⟩:=hE a b cs0 u0 a0 h0 hu0 rfl
        refine ⟨by rw [qbI9]; exact q1,?_,q3⟩
        rw [qfE9,Nat.zero_mul,Nat.zero_add]; exact q2
       ·obtain ⟨cs0,h0,rfl⟩:=hg a cs ha
        obtain ⟨u0,hu0,rfl⟩:=hg2 cs0 b u hb
        exact .d _ _ (hr' a b cs0 u0 h0 hu0)
   ·cases hc
  ·cases hc
 ·cases hc

theorem qhf9 {r : Nat} {o : Obj} (hg : w.heap[r]? = some o) (hc : ∀ a b c,o ≠ .cells a b c) : (getObj r).run P w = .ok o w:=by
 cases o <;> first | exact absurd rfl (hc _ _ _) | simp only [getObj,Sem.run,hg]
theorem qgx9 {kt : TypeId} {k : Value} (hk : qfk9 P kt k = true) : ∃ d,P.underlying kt = some d∧keyD d k = true:=by
 unfold qfk9 at hk
 cases hu : P.underlying kt with
 | none=>simp [hu] at hk
 | some d=>rw [hu] at hk; exact ⟨d,rfl,hk⟩
theorem qja9 {kt : TypeId} {k : Value} {b : Bool} (hk : qfk9 P kt k = true) : (Instr.checkKey b 10000 kt k).run P w = .ok () w:=by
 show (Instr.checkKey b (9999 + 1) kt k).run P w = .ok () w
 obtain ⟨d,hu,hd⟩:=qgx9 hk
 rw [Instr.checkKey]
 cases d <;> simp [keyD] at hd <;> simp [run_underlying hu]
theorem qiG9 {d : TypeDesc} {k k' : Value} (hk : keyD d k = true) : Instr.sameNow d k k' = keyEq k k':=by
 cases d <;> cases k <;> simp [keyD] at hk <;> cases k' <;> simp [Instr.sameNow,keyEq]
theorem qoj9 {kt : TypeId} {k : Value} {d : TypeDesc} (hu : P.underlying kt = some d) (hk : qfk9 P kt k = true) {es : List (Value × PV)} {ents : List MapEntry} (hl : ents.length = es.length)
  (hr : ∀ (i : Nat) (k : Value) (u : PV) (x : MapEntry),es[i]? = some (k,u)→ents[i]? = some x→x.key = k∧VRel E h m w u x.val) {r : Option (Nat × PV)} (hlk : lookP k es = some r) (n : Nat) :
  match r with
  | none=>Instr.findNow d k ents n = some none
  | some (i,u)=>∃ x,ents[i]? = some x∧es[i]? = some (x.key,u)∧keyEq k x.key = some true∧Instr.findNow d k ents n = some (some (n + i,x.val))∧VRel E h m w u x.val:=by
 have hkd : keyD d k = true:=by
  obtain ⟨d',hu',hd⟩:=qgx9 hk
  rw [hu] at hu'
  obtain rfl:=Option.some.inj hu'
  exact hd
 clear hk
 induction es generalizing ents r n with
 | nil =>
  simp only [lookP,Option.some.injEq] at hlk
  subst hlk
  cases ents with
  | nil=>rfl
  | cons a b=>simp at hl
 | cons p rest ih =>
  obtain ⟨k',u⟩:=p
  cases ents with
  | nil=>simp at hl
  | cons x xs =>
   obtain ⟨h0,h0'⟩:=hr 0 k' u x rfl rfl
   simp only [lookP] at hlk
   cases hke : keyEq k k' with
   | none=>simp [hke] at hlk
   | some b =>
    cases b with
    | true =>
     simp only [hke,Option.some.injEq] at hlk
     subst hlk
     refine ⟨x,rfl,by simp [h0],by rw [h0]; exact hke,?_,h0'⟩
     simp [Instr.findNow,qiG9 hkd,h0,hke]
    | false =>
     simp only [hke] at hlk
     cases hrest : lookP k rest with
     | none=>simp [hrest] at hlk
     | some q =>
      simp only [hrest,Option.map_some,Option.some.injEq] at hlk
      subst hlk
      have:=ih (ents:=xs) (by simpa using hl) (fun i k u x a b=>hr (i + 1) k u x (by simpa using a) (by simpa using b)) hrest (n + 1)
      cases q with
      | none =>
       simp only [Option.map_none] at this ⊢
       simp [Instr.findNow,qiG9 hkd,h0,hke,this]
      | some q =>
       obtain ⟨i,u'⟩:=q
       simp only [Option.map_some] at this ⊢
       obtain ⟨y,a1,a2,a3,a4,a5⟩:=this
       refine ⟨y,by simpa using a1,by simpa using a2,a3,?_,a5⟩
       simp only [Instr.findNow,qiG9 hkd,h0,hke,a4]
       congr 3
       omega

theorem qpZ9 (H : HRel W0 X h m w) {t : TypeId} {x k y : PV} {v vk : Value} {ok : Bool} {h1 : AHeap} (hv : VRel (Ex X h m) h m w x v) (hk : VRel (Ex X h m) h m w k vk) (ho : qip9 P h t x k ok = some (y,h1)) :
  h1 = h∧∃ u,(Instr.lookup t v vk ok).run P w = .ok u w∧VRel (Ex X h m) h m w y u:=by
 unfold qip9 at ho
 split at ho
 ·rename_i kt et id kv hu hkv
  obtain rfl:=hk.to_v hkv
  split at ho
  ·rename_i es z hid hz
   split at ho
   ·rename_i hkt
    cases hv with
    | mp id es' g bo ho' hm =>
     rw [hid] at ho'
     injection ho' with ho'
     injection ho' with ho'
     subst ho'
     have H1:=H.obj id _ hid
     rw [hm] at H1
     obtain ⟨ents,clock,a1,a2,a3,a4⟩:=H1
     have hgo:=qhf9 (P:=P) a1 (by simp)
     obtain ⟨d,hd,hkd⟩:=qgx9 hkt
     have hck:=fun b=>qja9 (P:=P) (w:=w) (b:=b) hkt
     have hfind:=fun {r} (hr : lookP vk es = some r)=>qoj9 (E:=Ex X h m) (h:=h) (m:=m) (w:=w) hd hkt (ents:=ents.toList) (by simpa using a2) (fun i k u x p q=>a3 i k u x p (by simpa using q)) hr 0
     obtain ⟨zv,hz1,hz2⟩:=qnd9 (E:=Ex X h m) (h:=h) (m:=m) (w:=w) hz
     split at ho
     ·cases ho
     ·rename_i hlk
      simp only [Option.some.injEq,Prod.mk.injEq] at ho
      obtain ⟨rfl,rfl⟩:=ho
      have hf:=hfind hlk
      refine ⟨rfl,_,?_,qjU9 hz2⟩
      simp [Instr.lookup,run_underlying hu,hgo,hck,Instr.findKey,run_underlying hd,hf,hz1]
     ·rename_i i u hlk
      simp only [Option.some.injEq,Prod.mk.injEq] at ho
      obtain ⟨rfl,rfl⟩:=ho
      obtain ⟨x,b1,b2,b3,b4,b5⟩:=hfind hlk
      refine ⟨rfl,_,?_,qjU9 b5⟩
      simp [Instr.lookup,run_underlying hu,hgo,hck,Instr.findKey,run_underlying hd,b4]
   ·cases ho
  ·cases ho
 ·cases ho
end
end Go.Abs
namespace Go.Abs
open Go Go.RowKit

section
variable {W0 : World} {E : Nat→Prop} {X : Nat→Prop} {h h' : AHeap} {m : Places} {w : World} {P : Program}

def CRel (E : Nat→Prop) (h : AHeap) (m : Places) (w : World) (cs : List PV) (vs : List Value) : Prop :=
 vs.length = cs.length∧∀ (j : Nat) (u : PV) (y : Value),cs[j]? = some u→vs[j]? = some y→y.oneCell' = true∧VRel E h m w u y
theorem CRel.of_cells {x : PV} {v : Value} (hv : VRel E h m w x v) (hok : qcP9 x = true) : CRel E h m w (qU9 x) v.cells.toList:=by
 obtain ⟨h1,h2⟩:=hv.cells hok
 exact ⟨by simpa using h1,fun j u y a b=>h2 j u y a (by simpa using b)⟩
theorem CRel.one {cs : List PV} {vs : List Value} (hc : CRel E h m w cs vs) : ∀ x∈vs,x.oneCell' = true:=by
 intro x hx
 obtain ⟨j,hj,rfl⟩:=List.getElem_of_mem hx
 have hlt : j < cs.length:=by rw [← hc.1]; exact hj
 exact (hc.2 j cs[j] vs[j] (List.getElem?_eq_getElem hlt) (List.getElem?_eq_getElem hj)).1
theorem CRel.splice {cs ys : List PV} {vs zs : List Value} (hc : CRel E h m w cs vs) (hy : CRel E h m w ys zs) (off : Nat) (hle : off + ys.length≤cs.length) :
  CRel E h m w (splice cs off ys) (vs.take off++zs++vs.drop (off + zs.length)):=by
 obtain ⟨c1,c2⟩:=hc
 obtain ⟨y1,y2⟩:=hy
 unfold Go.Abs.splice
 refine ⟨by simp; omega,fun j u y h1 h2=>?_⟩
 rw [y1] at h2
 rcases Nat.lt_or_ge j off with a | a
 ·rw [List.append_assoc,List.getElem?_append_left (by simp; omega),List.getElem?_take,if_pos a] at h1 h2
  exact c2 j u y h1 h2
 ·rcases Nat.lt_or_ge j (off + ys.length) with b | b
  ·rw [List.append_assoc,List.getElem?_append_right (by simp; omega),List.getElem?_append_left (by simp; omega)] at h1 h2
   have e1 : (cs.take off).length = off:=by simp; omega
   have e2 : (vs.take off).length = off:=by simp; omega
   rw [e1] at h1; rw [e2] at h2
   exact y2 _ u y h1 h2
  ·rw [List.getElem?_append_right (by simp; omega),List.getElem?_drop] at h1 h2
   have e1 : (cs.take off++ys).length = off + ys.length:=by simp; omega
   have e2 : (vs.take off++zs).length = off + ys.length:=by simp; omega
   rw [e1] at h1; rw [e2] at h2
   exact c2 _ u y h1 h2

theorem qxc9 (ys : List Value) : ∀ (vs : Array Value) (off k : Nat),off + k + ys.length≤vs.size→((ys.zipIdx k).foldl (fun cs (p : Value × Nat)=>cs.setIfInBounds (off + p.2) p.1) vs).toList = vs.toList.take (off + k)++ys++vs.toList.drop (off + k + ys.length):=by
 induction ys with
 | nil=>intro vs off k _; simp
 | cons y r ih =>
  intro vs off k hle
  simp only [List.length_cons] at hle
  simp only [List.zipIdx_cons,List.foldl_cons]
  rw [ih (vs.setIfInBounds (off + k) y) off (k + 1) (by simp; omega)]
  have:=list_seg_step vs.toList (off + k) y r (by simp; omega)
  simpa [Array.toList_setIfInBounds,Nat.add_assoc] using this

theorem qmV9 {place : Nat→Option (Nat × Nat)} {cells : Array Value} {i : Nat} {v : Value} {rest : List (Nat × Value)} {off n : Nat} (hp : place i = some (off,n)) (hn : v.cells.size = n) (hle : off + n≤cells.size) :
  Instr.fill place cells ((i,v)::rest) = Instr.fill place (cells.toList.take off++v.cells.toList++cells.toList.drop (off + n)).toArray rest:=by
 have hf:=qxc9 v.cells.toList cells off 0 (by simp; omega)
 have e : (v.cells.zipIdx.foldl (fun cs (p : Value × Nat)=>cs.setIfInBounds (off + p.2) p.1) cells) = (cells.toList.take off++v.cells.toList++cells.toList.drop (off + n)).toArray:=by
  apply Array.ext'
  rw [← Array.foldl_toList]
  simp only [Array.toList_zipIdx,Nat.add_zero] at hf ⊢
  rw [hf]
  simp [hn]
 simp only [Instr.fill,hp]
 rw [if_neg (by simp; omega)]
 exact congrArg (fun c=>Instr.fill place c rest) e

def PRelL (E : Nat→Prop) (h : AHeap) (m : Places) (w : World) (ps : List (Nat × PV)) (qs : List (Nat × Value)) : Prop :=
 qs.length = ps.length∧∀ (j : Nat) (p : Nat × PV) (q : Nat × Value),ps[j]? = some p→qs[j]? = some q→q.1 = p.1∧VRel E h m w p.2 q.2

theorem qtn9 {fs : Array Field} {place : Nat→Option (Nat × Nat)} (hpl : ∀ (i : Nat) (f : Field) (n : Nat),fs[i]? = some f→sizeT P f.type = some n→place i = some (f.offset,n)) :
  ∀ {ps : List (Nat × PV)} {qs : List (Nat × Value)} {cs cs' : List PV} {vs : Array Value},PRelL E h m w ps qs→CRel E h m w cs vs.toList→qgG9 fs P cs ps = some cs'→∃ vs',Instr.fill place vs qs = some vs'∧CRel E h m w cs' vs'.toList:=by
 intro ps
 induction ps with
 | nil =>
  intro qs cs cs' vs hp hc hb
  simp only [qgG9,Option.some.injEq] at hb
  subst hb
  obtain ⟨h1,_⟩:=hp
  obtain rfl : qs = []:=List.eq_nil_of_length_eq_zero (by simpa using h1)
  exact ⟨vs,rfl,hc⟩
 | cons p r ih =>
  intro qs cs cs' vs hp hc hb
  obtain ⟨h1,h2⟩:=hp
  cases qs with
  | nil=>simp at h1
  | cons q qs =>
   obtain ⟨i,x⟩:=p
   obtain ⟨i',v⟩:=q
   obtain ⟨e,hxv⟩:=h2 0 _ _ rfl rfl
   simp only at e hxv
   subst e
   simp only [qgG9] at hb
   cases hf : fs[i']? with
   | none=>simp [hf] at hb
   | some f =>
    simp only [hf] at hb
    cases hn : sizeT P f.type with
    | none=>simp [hn] at hb
    | some n =>
     simp only [hn] at hb
     split at hb
     ·rename_i hc0
      obtain ⟨o1,o2,o3⟩:=hc0
      have hcx:=CRel.of_cells hxv o1
      have hvn : v.cells.size = n:=by have:=hcx.1; simp at this; omega
      have hsz : vs.size = cs.length:=by have:=hc.1; simpa using this
      have hcc:=hc.splice hcx f.offset (by omega)
      rw [qmV9 (hpl i' f n hf hn) hvn (by omega)]
      have hcc' : CRel E h m w (splice cs f.offset (qU9 x)) (vs.toList.take f.offset++v.cells.toList++vs.toList.drop (f.offset + n)).toArray.toList:=by
       have : v.cells.toList.length = n:=by simpa using hvn
       rw [this] at hcc
       simpa using hcc
      exact ih ⟨by simpa using h1,fun j p q a b=>h2 (j + 1) p q (by simpa using a) (by simpa using b)⟩ hcc' hb
     ·cases hb
theorem qly9 {n : Nat} : ∀ {ps : List (Nat × PV)} {qs : List (Nat × Value)} {cs cs' : List PV} {vs : Array Value},PRelL E h m w ps qs→CRel E h m w cs vs.toList→qfN9 n cs ps = some cs'→∃ vs',Instr.fill (fun i=>some (i * n,n)) vs qs = some vs'∧CRel E h m w cs' vs'.toList:=by
 intro ps
 induction ps with
 | nil =>
  intro qs cs cs' vs hp hc hb
  simp only [qfN9,Option.some.injEq] at hb
  subst hb
  obtain ⟨h1,_⟩:=hp
  obtain rfl : qs = []:=List.eq_nil_of_length_eq_zero (by simpa using h1)
  exact ⟨vs,rfl,hc⟩
 | cons p r ih =>
  intro qs cs cs' vs hp hc hb
  obtain ⟨h1,h2⟩:=hp
  cases qs with
  | nil=>simp at h1
  | cons q qs =>
   obtain ⟨i,x⟩:=p
   obtain ⟨i',v⟩:=q
   obtain ⟨e,hxv⟩:=h2 0 _ _ rfl rfl
   simp only at e hxv
   subst e
   simp only [qfN9] at hb
   split at hb
   ·rename_i hc0
    obtain ⟨o1,o2,o3⟩:=hc0
    have hcx:=CRel.of_cells hxv o1
    have hvn : v.cells.size = n:=by have:=hcx.1; simp at this; omega
    have hsz : vs.size = cs.length:=by have:=hc.1; simpa using this
    have hcc:=hc.splice hcx (i' * n) (by omega)
    rw [qmV9 rfl hvn (by omega)]
    have hcc' : CRel E h m w (splice cs (i' * n) (qU9 x)) (vs.toList.take (i' * n)++v.cells.toList++vs.toList.drop (i' * n + n)).toArray.toList:=by
     have : v.cells.toList.length = n:=by simpa using hvn
     rw [this] at hcc
     simpa using hcc
    exact ih ⟨by simpa using h1,fun j p q a b=>h2 (j + 1) p q (by simpa using a) (by simpa using b)⟩ hcc' hb
   ·cases hb

theorem qvk9 {α β : Type} {g : α→Sem β} {k : α→β} : ∀ {l : List α},(∀ f∈l,(g f).run P w = .ok (k f) w)→(l.mapM g).run P w = .ok (l.map k) w:=by
 intro l
 induction l with
 | nil=>intro _; simp
 | cons a r ih =>
  intro hh
  simp only [List.mapM_cons,Sem.run_bind,hh a (by simp),Result.andThen_ok,ih (fun f hf=>hh f (by simp [hf]))]
  simp

theorem qqR9 {t : TypeId} {ps : List (Nat × PV)} {qs : Array (Nat × Value)} {y : PV} {h1 : AHeap} (hp : PRelL E h m w ps qs.toList) (ho : qhj9 P h t ps = some (y,h1)) :
  h1 = h∧∃ u,(Instr.build t qs).run P w = .ok u w∧VRel E h m w y u:=by
 have fin : ∀ {cs' : List PV} {vs' : Array Value},CRel E h m w cs' vs'.toList→VRel E h m w (.ag cs') (.agg vs'):=by
  intro cs' vs' hc
  have : vs' = vs'.toList.toArray:=by simp
  rw [this]
  exact .ag _ _ hc.1 (fun j x hx=>hc.one x (List.mem_of_getElem? hx)) (fun j u x a b=>(hc.2 j u x a b).2)
 unfold qhj9 at ho
 cases hz : zeroCells P t with
 | none=>simp [hz] at ho
 | some cs =>
  obtain ⟨i,z,hi,hzz,hs1,hs2,hs3,hs4⟩:=qeh9 (E:=E) (h:=h) (m:=m) (w:=w) hz
  have hzr : (zeroValue t).run P w = .ok z w:=by simp [zeroValue,typeInfo,hi,hzz]
  have hc0 : CRel E h m w cs z.cells.toList:=⟨by simp [hs1,hs2],fun j u y a b=>hs4 j u y a (by simpa using b)⟩
  cases hu : P.underlying t with
  | none=>simp [hz,hu] at ho
  | some d =>
   cases d with
   | struct fs =>
    simp only [hz,hu] at ho
    split at ho
    ·rename_i hall
     cases hb : qgG9 fs P cs ps with
     | none=>simp [hb] at ho
     | some cs' =>
      simp only [hb,Option.map_some,Option.some.injEq,Prod.mk.injEq] at ho
      obtain ⟨rfl,rfl⟩:=ho
      let k : Field→Nat × Nat:=fun f=>(f.offset,((P.info? f.type).map (·.size)).getD 0)
      have hm : ((fs.mapM (fun f=>Prod.mk f.offset <$> sizeOf f.type)) : Sem (Array (Nat × Nat))).run P w = .ok (fs.map k) w:=by
       have h2:=qvk9 (P:=P) (w:=w) (g:=fun f : Field=>(Prod.mk f.offset <$> sizeOf f.type : Sem (Nat × Nat))) (k:=k) (l:=fs.toList) (fun f hf=>by
        have:=List.all_eq_true.1 hall f hf
        cases hif : P.info? f.type with
        | none=>simp [hif] at this
        | some ii=>simp [qbd9 hif,k,hif])
       rw [Array.mapM_eq_mapM_toList]
       rw [show (List.toArray <$> (fs.toList.mapM (fun f : Field=>Prod.mk f.offset <$> sizeOf f.type)) : Sem _) = (fs.toList.mapM (fun f : Field=>Prod.mk f.offset <$> sizeOf f.type)) >>= fun a=>pure a.toArray from (bind_pure_comp _ _).symm]
       rw [Sem.run_bind,h2]
       simp only [Result.andThen_ok,Sem.run_pure]
       congr 1
       apply Array.ext'
       simp
      obtain ⟨vs',f1,f2⟩:=qtn9 (P:=P) (fs:=fs) (place:=((fs.map k)[·]?)) (fun i f n hf hn=>by
       obtain ⟨ii,hii,rfl⟩:=qcu9 hn
       simp [hf,k,hii]) hp hc0 hb
      refine ⟨rfl,_,?_,fin f2⟩
      have f1' : Instr.fill (fun x=>Option.map k fs[x]?) z.cells qs.toList = some vs':=by simpa using f1
      simp [Instr.build,hzr,run_underlying hu,hm,f1']
    ·cases ho
   | array len e =>
    simp only [hz,hu] at ho
    cases hn : sizeT P e with
    | none=>simp [hn] at ho
    | some n =>
     simp only [hn,Option.bind_some] at ho
     cases hb : qfN9 n cs ps with
     | none=>simp [hb] at ho
     | some cs' =>
      simp only [hb,Option.map_some,Option.some.injEq,Prod.mk.injEq] at ho
      obtain ⟨rfl,rfl⟩:=ho
      obtain ⟨ii,hii,rfl⟩:=qcu9 hn
      obtain ⟨vs',f1,f2⟩:=qly9 hp hc0 hb
      refine ⟨rfl,_,?_,fin f2⟩
      simp [Instr.build,hzr,run_underlying hu,qbd9 hii,f1]
   | _=>simp [hz,hu] at ho
end
end Go.Abs

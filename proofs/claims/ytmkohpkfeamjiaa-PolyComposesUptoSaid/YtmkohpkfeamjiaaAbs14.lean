import Derived.Test.YtmkohpkfeamjiaaAbs12
set_option maxHeartbeats 400000
set_option linter.unusedVariables false
set_option linter.unusedSimpArgs false
set_option linter.unusedSectionVars false
namespace Go.Abs
open Go Go.RowKit

section
variable {W0 : World} {E : Nat→Prop} {X : Nat→Prop} {h h' : AHeap} {m : Places} {w w' : World} {P : Program}

theorem qfc9 {A : Option Addr} {news : List Value} {n size len cap : Nat} (hl : news.length = n * size) (hn : ∀ (j : Nat) (u : Value),news[j]? = some u→∃ a,A = some a∧w.cell? (a.add j) = some u) :
  (Builtin.firstCells size n (.slice A len cap)).run P w = .ok news.toArray w:=by
 cases A with
 | none =>
  cases news with
  | nil=>simp [Builtin.firstCells]
  | cons u r =>
   obtain ⟨a,ha,_⟩:=hn 0 u rfl
   cases ha
 | some b =>
  exact run_firstCells_some w size n b len cap news hl (fun j u hu=>by
   obtain ⟨a,ha,hc⟩:=hn j u hu
   cases ha
   exact hc)

theorem qkn9 {t t' ty e e' : TypeId} {i : TypeInfo} (hu : P.underlying t = some (.slice e)) (hu' : P.underlying t' = some (.slice e')) (hi : P.info? e = some i) {A B : Option Addr} {sLen sCap n c : Nat} {news : List Value}
  (hl : news.length = n * i.size) (hn : ∀ (j : Nat) (u : Value),news[j]? = some u→∃ a,B = some a∧w.cell? (a.add j) = some u) (hroom : sLen + n≤sCap) {ts : Array TypeId} (h0 : ts[0]? = some t) (h1 : ts[1]? = some t') :
  (Builtin.append_ ts ty #[.slice A sLen sCap,.slice B n c]).run P w = match A with
   | some a=>((storeCells (a.add (sLen * i.size)) news).run P w).andThen fun _ w'=>.ok (.slice A (sLen + n) sCap) w'
   | none=>.ok (.slice A (sLen + n) sCap) w:=by
 have hf:=qfc9 (P:=P) (size:=i.size) (len:=n) (cap:=c) hl hn
 cases A with
 | none=>simp [Builtin.append_,h0,h1,run_underlying hu,run_underlying hu',sizeOf,typeInfo,hi,Builtin.lenOf,hroom,hf]
 | some a=>simp [Builtin.append_,h0,h1,run_underlying hu,run_underlying hu',sizeOf,typeInfo,hi,Builtin.lenOf,hroom,hf]

theorem qkh9 {t t' ty e e' : TypeId} {i : TypeInfo} {z : Value} (hu : P.underlying t = some (.slice e)) (hu' : P.underlying t' = some (.slice e')) (hi : P.info? e = some i) (hz : i.zero = some z) {A B : Option Addr} {sLen sCap n c : Nat} {olds news : List Value}
  (hlo : olds.length = sLen * i.size) (ho : ∀ (j : Nat) (u : Value),olds[j]? = some u→∃ a,A = some a∧w.cell? (a.add j) = some u)
  (hl : news.length = n * i.size) (hn : ∀ (j : Nat) (u : Value),news[j]? = some u→∃ a,B = some a∧w.cell? (a.add j) = some u) (hg : sCap < sLen + n) (hb : 0 < i.bytes) (hfit : (sLen + n) * i.bytes≤140737488355328) {ts : Array TypeId} (h0 : ts[0]? = some t) (h1 : ts[1]? = some t') :
  (Builtin.append_ ts ty #[.slice A sLen sCap,.slice B n c]).run P w =
   .ok (.slice (some ⟨w.heap.size,0,none⟩) (sLen + n) (grownCap w (sLen + n) sCap e))
    (w.drew.alloc (.cells (olds++news++(Builtin.zeroCells z.cells (grownCap w (sLen + n) sCap e - (sLen + n))).toList).toArray e)):=by
 have hnr : ¬ (sLen + n≤sCap):=by omega
 have hfits:=growslice_fits (need:=sLen + n) (old:=sCap) (bytes:=i.bytes) hg hfit
 have h48' : ¬ (281474976710656 < Builtin.nextslicecap (sLen + n) sCap * i.bytes):=by omega
 have hsmall : (sLen + n)≤140737488355328:=by
  have : (sLen + n) * 1≤(sLen + n) * i.bytes:=Nat.mul_le_mul_left _ hb
  omega
 have hf:=qfc9 (P:=P) (w:=w.drew) (size:=i.size) (len:=n) (cap:=c) hl (by simpa using hn)
 have hfo:=qfc9 (P:=P) (w:=w.drew) (size:=i.size) (len:=sLen) (cap:=sCap) hlo (by simpa using ho)
 have h63' : ¬ (9223372036854775807 < ((sLen : Int) + (n : Int))):=by omega
 simp [Builtin.append_,h0,h1,run_underlying hu,run_underlying hu',sizeOf,typeInfo,zeroValue,hi,hz,Builtin.lenOf,hnr,h63',h48',Question.forced,hf,hfo,newRow,grownCap]
 congr 2
 apply Array.ext'
 simp

theorem qmt9 {ys : List (List PV)} {n : Nat} (h : ys.all (fun cs=>cs.length == n) = true) : ∀ (i : Nat) (cs : List PV),ys[i]? = some cs→cs.length = n:=by
 intro i cs hi
 have:=List.all_eq_true.1 h cs (List.mem_of_getElem? hi)
 simpa using this

theorem CRel.append {cs ds : List PV} {vs us : List Value} (h1 : CRel E h m w cs vs) (h2 : CRel E h m w ds us) : CRel E h m w (cs++ds) (vs++us):=by
 refine ⟨by simp [h1.1,h2.1],fun j u y a b=>?_⟩
 rcases Nat.lt_or_ge j cs.length with c | c
 ·rw [List.getElem?_append_left c] at a
  rw [List.getElem?_append_left (by rw [h1.1]; exact c)] at b
  exact h1.2 j u y a b
 ·rw [List.getElem?_append_right c] at a
  rw [List.getElem?_append_right (by rw [h1.1]; exact c),h1.1] at b
  exact h2.2 _ u y a b

theorem qvK9 (H : HRel W0 X h m w) {id ver sz : Nat} {es0 : List (List PV)} (hid : h[id]? = some (.row false ver sz es0)) {news rest : List Value} {e : TypeId} {es : List (List PV)} (hheap : w'.heap = w.heap.push (.cells (news++rest).toArray e (0,0))) (hos : w'.os = w.os) (htape : w'.tape = w.tape) (hout : Outs w w')
  (h0 : 0 < sz) (hsz : ∀ (i : Nat) (cs : List PV),es[i]? = some cs→cs.length = sz) (hc : CRel (Ex X h m) h m w es.flatten news) :
  let h':=h.set id (AObj.row false (ver + 1) sz es); let m':=upd m id (some (w.heap.size,0))
  Evo (Ex X h m) h m w (Ex X h' m') h' m' w'∧HRel W0 X h' m' w':=by
 intro h' m'
 have hsize : w'.heap.size = w.heap.size + 1:=by rw [hheap]; simp
 have hnew : w'.heap[w.heap.size]? = some (.cells (news++rest).toArray e (0,0)):=by rw [hheap]; simp
 refine qeq9 H hid rfl _ _ hos htape hout (by omega) (fun b hb _=>by rw [hheap,Array.getElem?_push_lt hb]; exact (Array.getElem?_eq_getElem hb).symm) ⟨by omega,fun z=>z,rfl,fun e=>by omega⟩ (fun g bo hp=>by cases hp; exact ⟨by omega,.inr (Nat.le_refl _)⟩) (fun hev=>?_)
 have hnl : news.length = es.length * sz:=by rw [hc.1,qdZ9 hsz]
 refine ⟨h0,_,e,hnew,by simp; omega,hsz,fun i j cs u hi hj=>?_⟩
 have hjl : j < sz:=by rw [← hsz i cs hi]; exact (List.getElem?_eq_some_iff.1 hj).1
 have hfl:=qfz9 hsz i j hjl
 rw [hi,Option.bind_some,hj] at hfl
 have hlt : i * sz + j < news.length:=by rw [hc.1]; exact (List.getElem?_eq_some_iff.1 hfl).1
 have hn:=List.getElem?_eq_getElem hlt
 obtain ⟨c1,c2⟩:=hc.2 _ _ _ hfl hn
 refine ⟨news[i * sz + j],?_,c1,c2.evo hev⟩
 simp only [Nat.zero_add,List.getElem?_toArray]
 rw [List.getElem?_append_left hlt,hn]

theorem qro9 {xs ys : List (List PV)} {n : Nat} (h1 : ∀ (i : Nat) (cs : List PV),xs[i]? = some cs→cs.length = n) (h2 : ∀ (i : Nat) (cs : List PV),ys[i]? = some cs→cs.length = n) : ∀ (i : Nat) (cs : List PV),(xs++ys)[i]? = some cs→cs.length = n:=by
 intro i cs hi
 rcases Nat.lt_or_ge i xs.length with c | c
 ·rw [List.getElem?_append_left c] at hi; exact h1 i cs hi
 ·rw [List.getElem?_append_right c] at hi; exact h2 _ cs hi

theorem qqa9 {t t' ty e : TypeId} {k k' : IntKind} {i : TypeInfo} {z : Value} (hu : P.underlying t = some (.slice e)) (hu' : P.underlying t' = some (.int k)) (hi : P.info? e = some i) (hz : i.zero = some z) (hzs : z.cells.size = i.size) {A : Option Addr} {n : Int} (hn : 0 < n) (hs : 0 < i.size) (hb : 0 < i.bytes) (hfit : n * i.bytes≤140737488355328) {ts : Array TypeId} (h0 : ts[0]? = some t) (h1 : ts[1]? = some t') :
  (Builtin.append_ ts ty #[.slice A 0 0,.int k' n]).run P w =
   .ok (.slice (some ⟨w.heap.size,0,none⟩) n.toNat (grownCap w n.toNat 0 e))
    (w.drew.alloc (.cells ((Builtin.zeroCells z.cells n.toNat).toList++(Builtin.zeroCells z.cells (grownCap w n.toNat 0 e - n.toNat)).toList).toArray e)):=by
 obtain ⟨m,rfl⟩ : ∃ m : Nat,n = (m : Int):=⟨n.toNat,by omega⟩
 have hm : 0 < m:=by omega
 have hmul : ((m * i.bytes : Nat) : Int) = (m : Int) * (i.bytes : Int):=Int.natCast_mul _ _
 have hfit' : m * i.bytes≤140737488355328:=by omega
 have hnr : ¬ (m≤0):=by omega
 have hfits:=growslice_fits (need:=m) (old:=0) (bytes:=i.bytes) (by omega) hfit'
 have h48' : ¬ (281474976710656 < Builtin.nextslicecap m 0 * i.bytes):=by omega
 have hsmall : m≤140737488355328:=by
  have : m * 1≤m * i.bytes:=Nat.mul_le_mul_left _ hb
  omega
 have hw : IntKind.i64.wrap (m : Int) = (m : Int):=by rw [IntKind.wrap_i64]; omega
 have hneg : ¬ ((m : Int) < 0):=by omega
 have hbig : ¬ (281474976710656 < (m : Int) * (i.bytes : Int)):=by omega
 have hms : ¬ (m * i.size = 0):=by
  have:=Nat.mul_pos hm hs
  omega
 have h63' : ¬ (9223372036854775807 < (m : Int)):=by omega
 have hfo:=qfc9 (P:=P) (w:=w.drew) (size:=i.size) (len:=0) (cap:=0) (A:=A) (news:=[]) (n:=0) (by simp) (fun j u hj=>by simp at hj)
 simp [Builtin.append_,h0,h1,run_underlying hu,run_underlying hu',sizeOf,typeInfo,zeroValue,hi,hz,Builtin.lenOf,asInt,asIntOf,hw,hneg,hbig,hms,hnr,h63',h48',Question.forced,hfo,newRow,grownCap]
 rw [if_neg (by omega)]
 congr 3
 apply Array.ext'
 simp
theorem qoS9 (H : HRel W0 X h m w) {t t' ty : TypeId} {e' : TypeId} {s x y : PV} {vs vx : Value} {ys : List (List PV)} {h1 : AHeap} {ts : Array TypeId} (h0 : ts[0]? = some t) (h1' : ts[1]? = some t') (hu' : P.underlying t' = some (.slice e'))
  (hs : VRel (Ex X h m) h m w s vs) (hx : VRel (Ex X h m) h m w x vx) (hel : elems h x = some ys) (ho : qgt9 P h t s ys = some (y,h1)) :
  ∃ u w',(Builtin.append_ ts ty #[vs,vx]).run P w = .ok u w'∧Out W0 X h m w y h1 u w':=by
 unfold qgt9 at ho
 cases ht : qt9 P t with
 | none=>simp [ht] at ho
 | some e =>
  have hu:=qbr9 ht
  simp only [ht] at ho
  cases hi : P.info? e with
  | none=>simp [hi] at ho
  | some i =>
   simp only [hi] at ho
   split at ho
   ·cases ho
   ·rename_i hc
    have c1 : 0 < i.size:=by omega
    have c2 : 0 < i.bytes:=by omega
    obtain ⟨z,hz,hzs⟩ : ∃ z,i.zero = some z∧z.cells.size = i.size:=by
     have hc3 : qhz9 i = true:=by
      cases hq : qhz9 i with
      | true=>rfl
      | false=>simp [hq] at hc
     unfold qhz9 at hc3
     cases hz : i.zero with
     | none=>simp [hz] at hc3
     | some z=>exact ⟨z,rfl,by simpa [hz] using hc3⟩
    have grown : ∀ (id ver need old : Nat) (pre : List Value) (es' : List (List PV)) (h'' : AHeap) (m'' : Places) (w2 : World),pre.length = need * i.size→es'.length = need→h''[id]? = some (.row false ver i.size es')→m'' id = some (w.heap.size,0) →
      w2.heap[w.heap.size]? = some (.cells (pre++(Builtin.zeroCells z.cells (grownCap w need old e - need)).toList).toArray e (0,0)) →
      SRef h'' m'' w2 id ver 0 need (.slice (some ⟨w.heap.size,0,none⟩) need (grownCap w need old e)):=by
     intro id ver need old pre es' h'' m'' w2 g1 g2 g3 g4 g5
     have hge:=grownCap_ge w need old e
     refine ⟨_,_,rfl,hge,fun _=>⟨_,rfl⟩,false,ver,i.size,es',g3,Nat.le_refl _,fun _=>⟨by omega,?_⟩⟩
     rw [g4]
     refine ⟨_,e,g5,fun _=>by simp,?_⟩
     simp only [List.size_toArray,List.length_append,g1,Array.length_toList,size_zeroCells,hzs,← Nat.add_mul]
     exact Nat.mul_le_mul_right _ (by omega)
    split at ho
    ·rename_i es
     split at ho
     ·rename_i hb
      obtain ⟨b1,b2,b3,b4⟩:=hb
      simp only [Option.some.injEq,Prod.mk.injEq] at ho
      obtain ⟨rfl,rfl⟩:=ho
      have hys:=qmt9 b3
      have hes:=qmt9 b4
      obtain ⟨B,cB,news,rfl,hcB,n1,n2⟩:=qhP9 H hx hel hys
      obtain ⟨A,cA,olds,hA,hcA,o1,o2⟩:=qhP9 (ys:=es) H hs rfl hes
      have hcap : cA = es.length:=by
       cases hs with
       | im tight xs A' c sz f hc' ht' _ _ _ _ =>
        simp only [Value.slice.injEq] at hA
        have:=ht' rfl
        omega
      subst hA
      subst hcap
      have hnl : news.length = ys.length * i.size:=by rw [n1.1,qdZ9 hys]
      have hol : olds.length = es.length * i.size:=by rw [o1.1,qdZ9 hes]
      rcases Nat.eq_zero_or_pos ys.length with hy0 | hy0
      ·have hyn : ys = []:=List.eq_nil_of_length_eq_zero hy0
       subst hyn
       have hen : es = []:=by
        rcases b2 with b2 | b2
        ·exact b2
        ·exact absurd rfl b2
       subst hen
       have hnn : news = []:=List.eq_nil_of_length_eq_zero (by simpa using hnl)
       subst hnn
       have hr:=qkn9 (P:=P) (w:=w) (ty:=ty) (A:=A) (sLen:=0) (sCap:=0) (c:=cB) hu hu' hi (news:=[]) (n:=0) (B:=B) (by simp) (fun j u hj=>by simp at hj) (Nat.le_refl _) h0 h1'
       have hh:=qgl9 (w':=w) H (.row false 0 i.size []) none rfl rfl (Outs.refl w) (Nat.le_refl _) (fun _ _=>rfl) (fun g bo hp=>by cases hp) (fun _=>rfl)
       refine ⟨.slice A 0 0,w,?_,_,?_,hh.2,hh.1⟩
       ·rw [show (Value.slice A ([] : List (List PV)).length ([] : List (List PV)).length) = .slice A 0 0 from rfl,show (Value.slice B ([] : List (List PV)).length cB) = .slice B 0 cB from rfl,hr]
        cases A <;> simp [storeCells]
       ·refine .ref _ _ _ _ _ ⟨A,0,rfl,Nat.le_refl _,fun k=>by simp at k,false,0,i.size,[],by simp,Nat.le_refl _,fun _=>⟨by simp,?_⟩⟩
        simp
      ·have hr:=qkh9 (P:=P) (w:=w) (ty:=ty) (A:=A) (sLen:=es.length) (sCap:=es.length) (c:=cB) hu hu' hi hz hol o2 hnl n2 (by omega) c2 b1 h0 h1'
       have hsz:=qro9 hes hys
       have hcr : CRel (Ex X h m) h m w (es++ys).flatten (olds++news):=by rw [List.flatten_append]; exact o1.append n1
       have hh:=qjN9 (w':=w.drew.alloc (.cells (olds++news++(Builtin.zeroCells z.cells (grownCap w (es.length + ys.length) es.length e - (es.length + ys.length))).toList).toArray e)) (rest:=(Builtin.zeroCells z.cells (grownCap w (es.length + ys.length) es.length e - (es.length + ys.length))).toList) (e:=e) (es:=es++ys) (sz:=i.size) H (by simp only [World.alloc]; rfl) rfl rfl (Outs.push rfl (by rintro _ _ _ ⟨⟩; rfl) rfl) c1 hsz hcr
       refine ⟨_,_,hr,_,?_,hh.2,hh.1⟩
       exact .ref _ _ _ _ _ (grown _ _ _ _ (olds++news) (es++ys) _ _ _ (by rw [List.length_append,hol,hnl,Nat.add_mul]) (by simp) (by simp) (by simp) (heap_alloc_new w.drew _))
     ·cases ho
    ·rename_i id ver off len
     split at ho
     ·rename_i fz ver' sz es hid
      split at ho
      ·rename_i hb
       obtain ⟨rfl,rfl,rfl,b1,b3⟩:=hb
       simp only [Option.some.injEq,Prod.mk.injEq] at ho
       obtain ⟨rfl,rfl⟩:=ho
       have hys:=qmt9 b3
       obtain ⟨B,cB,news,rfl,hcB,n1,n2⟩:=qhP9 H hx hel hys
       have hnl : news.length = ys.length * i.size:=by rw [n1.1,qdZ9 hys]
       have hid' : id < h.length:=(List.getElem?_eq_some_iff.1 hid).1
       have hel2 : elems h (.ref id ver off len) = some ((es.drop off).take len):=by simp [elems,rowAt,hid]
       have hor:=H.obj id _ hid
       have hes0 : ∀ (j : Nat) (cs : List PV),es[j]? = some cs→cs.length = i.size:=by
        intro j cs hj
        cases hm : m id with
        | none=>rw [hm] at hor; have : es = []:=hor; subst this; simp at hj
        | some p=>obtain ⟨g,bo⟩:=p; rw [hm] at hor; obtain ⟨_,_,_,_,_,r3,_⟩:=hor; exact r3 j cs hj
       have hes : ∀ (j : Nat) (cs : List PV),((es.drop off).take len)[j]? = some cs→cs.length = i.size:=by
        intro j cs hj
        have:=List.mem_of_getElem? hj
        have:=List.mem_of_mem_drop (List.mem_of_mem_take this)
        obtain ⟨k,hk⟩:=List.getElem?_of_mem this
        exact hes0 k cs hk
       obtain ⟨A,cA,olds,hA,hcA,o1,o2⟩:=qhP9 H hs hel2 hes
       subst hA
       cases hs with
       | ref _ _ _ _ _ hsr =>
        obtain ⟨A',cap,hv0,hv1,hv2,fz1,ver1,sz1,es1,ho1,hle,hcur⟩:=hsr
        simp only [Value.slice.injEq] at hv0
        obtain ⟨rfl,hlen,rfl⟩:=hv0
        rw [hid] at ho1
        simp only [Option.some.injEq,AObj.row.injEq] at ho1
        obtain ⟨rfl,rfl,rfl,rfl⟩:=ho1
        obtain ⟨d1,d2⟩:=hcur rfl
        have hol : olds.length = len * i.size:=by rw [o1.1,qdZ9 hes,hlen]
        rw [hlen]
        have hsz:=qro9 hes hys
        have hcr : CRel (Ex X h m) h m w ((es.drop off).take len++ys).flatten (olds++news):=by rw [List.flatten_append]; exact o1.append n1
        rcases Nat.lt_or_ge cA (len + ys.length) with hgr | hroom
        ·have hr:=qkh9 (P:=P) (w:=w) (ty:=ty) (A:=A) (sLen:=len) (sCap:=cA) (c:=cB) hu hu' hi hz hol o2 hnl n2 hgr c2 b1 h0 h1'
         have hh:=qvK9 (w':=w.drew.alloc (.cells (olds++news++(Builtin.zeroCells z.cells (grownCap w (len + ys.length) cA e - (len + ys.length))).toList).toArray e)) (rest:=(Builtin.zeroCells z.cells (grownCap w (len + ys.length) cA e - (len + ys.length))).toList) (e:=e) H hid (by simp only [World.alloc]; rfl) rfl rfl (Outs.push rfl (by rintro _ _ _ ⟨⟩; rfl) rfl) c1 hsz hcr
         refine ⟨_,_,hr,_,?_,hh.2,hh.1⟩
         exact .ref _ _ _ _ _ (grown _ _ _ _ (olds++news) ((es.drop off).take len++ys) _ _ _ (by rw [List.length_append,hol,hnl,Nat.add_mul]) (by rw [List.length_append,hlen]) (by simp [hid']) (by simp) (heap_alloc_new w.drew _))
        ·have hr:=qkn9 (P:=P) (w:=w) (ty:=ty) (A:=A) (sLen:=len) (sCap:=cA) (c:=cB) hu hu' hi hnl n2 hroom h0 h1'
         cases hm : m id with
         | none =>
          rw [hm] at hor d2
          have hes1 : es = []:=hor
          subst hes1
          have hl0 : len = 0:=by simp at d1; omega
          subst hl0
          have hy0 : ys = []:=List.eq_nil_of_length_eq_zero (by omega)
          subst hy0
          have hnn : news = []:=List.eq_nil_of_length_eq_zero (by simpa using hnl)
          subst hnn
          have hh:=qeq9 (w':=w) H hid rfl (.row false (ver + 1) i.size []) none rfl rfl (Outs.refl w) (Nat.le_refl _) (fun _ _ _=>rfl) ⟨by omega,fun z=>z,rfl,fun e=>by omega⟩ (fun g bo hp=>by cases hp) (fun _=>rfl)
          refine ⟨.slice A 0 0,w,?_,_,?_,by simpa using hh.2,by simpa using hh.1⟩
          ·rw [hr]
           cases A <;> simp [storeCells,d2]
          ·refine .ref _ _ _ _ _ ⟨A,0,rfl,Nat.le_refl _,fun k=>by simp at k,false,ver + 1,i.size,[],by simp [hid'],Nat.le_refl _,fun _=>⟨by simp,?_⟩⟩
           simp
         | some p =>
          obtain ⟨g,bo⟩:=p
          rw [hm] at hor d2
          obtain ⟨s0,cur,e1,r1,r2,r3,r4⟩:=hor
          obtain ⟨cur1,e2,f1,f2,f3⟩:=d2
          rw [r1] at f1
          cases f1
          obtain ⟨sz,hsze⟩ : ∃ sz,sz = i.size:=⟨_,rfl⟩
          rw [← hsze] at hnl f3 hid hr c1 hsz r2 r3 s0 f2 hol ⊢
          simp only [← hsze] at r4 hys
          have hfit : (bo + off) * sz + len * sz + news.length≤cur.size:=by
           refine Nat.le_trans ?_ f3
           rw [hnl,Nat.add_assoc,← Nat.add_mul,← Nat.add_mul]
           exact Nat.mul_le_mul_right _ (by omega)
          have hrun : (Builtin.append_ ts ty #[.slice A len cA,.slice B ys.length cB]).run P w = .ok (.slice A (len + ys.length) cA) (w.setRow g (cur.toList.take ((bo + off) * sz + len * sz)++news++cur.toList.drop ((bo + off) * sz + len * sz + news.length)).toArray):=by
           rw [hr]
           rcases Nat.eq_zero_or_pos cA with hc0 | hc0
           ·have hnn : news = []:=List.eq_nil_of_length_eq_zero (by rw [hnl,show ys.length = 0 by omega]; simp)
            rw [hnn,List.append_nil,List.length_nil,Nat.add_zero,List.take_append_drop,Array.toArray_toList,setRow_self w g cur _ (0,0) r1]
            cases A <;> simp [storeCells]
           ·rw [f2 hc0]
            have hst:=run_storeCells_at P g ((bo + off) * sz + len * sz) _ news 0 cur w r1 (by simpa using hfit) n1.one
            simp only [Nat.add_zero] at hst
            simp only [qep9,hst,Result.andThen_ok]
          have hgl : g < w.heap.size:=H.lt id _ g bo hid hm
          have hg' : (w.setRow g (cur.toList.take ((bo + off) * sz + len * sz)++news++cur.toList.drop ((bo + off) * sz + len * sz + news.length)).toArray).heap[g]? = some (.cells _ _ (0,0)):=setRow_heap w g cur _ _ (0,0) r1
          have hget:=fun k=>qmj9 (l:=cur.toList) (ys:=news) (o:=(bo + off) * sz + len * sz) (by simpa using hfit) k
          have hsz' : (cur.toList.take ((bo + off) * sz + len * sz)++news++cur.toList.drop ((bo + off) * sz + len * sz + news.length)).toArray.size = cur.size:=by
           simp only [List.size_toArray,List.length_append,List.length_take,List.length_drop,Array.length_toList]; omega
          generalize hcd : (cur.toList.take ((bo + off) * sz + len * sz)++news++cur.toList.drop ((bo + off) * sz + len * sz + news.length)) = curL at hrun hg' hget hsz'
          have hh:=qeq9 (w':=w.setRow g curL.toArray) H hid rfl (.row false (ver + 1) sz ((es.drop off).take len++ys)) (some (g,bo + off)) rfl rfl (Outs.turn r1 hg' (fun b hb=>setRow_other w g b _ hb) (by rintro _ _ _ ⟨⟩; rfl) (by rintro _ _ _ ⟨⟩; rfl) rfl) (by simp) (fun b hb hne=>setRow_other w g b _ (hne g bo hm))
           ⟨by omega,fun z=>z,rfl,fun e=>by omega⟩ (fun g1 bo1 hp1=>by cases hp1; exact ⟨by simpa using hgl,.inl ⟨bo,hm⟩⟩)
           (fun hev=>by
            refine ⟨s0,_,_,hg',?_,hsz,fun k j cs u hk hj=>?_⟩
            ·rw [hsz',List.length_append,hlen]
             exact Nat.le_trans (Nat.mul_le_mul_right _ (by omega)) f3
            ·have hjl : j < sz:=by rw [← hsz k cs hk]; exact (List.getElem?_eq_some_iff.1 hj).1
             rw [List.getElem?_toArray,hget]
             have ek : (bo + off + k) * sz + j = (bo + off) * sz + (k * sz + j):=by rw [Nat.add_mul (bo + off) k]; omega
             rcases Nat.lt_or_ge k len with a | a
             ·rw [List.getElem?_append_left (by omega),List.getElem?_take,if_pos a,List.getElem?_drop] at hk
              have : k * sz + sz≤len * sz:=by rw [← Nat.succ_mul]; exact Nat.mul_le_mul_right _ (by omega)
              rw [if_pos (by omega)]
              obtain ⟨q,q1,q2,q3⟩:=r4 (off + k) j cs u hk hj
              rw [← Nat.add_assoc] at q1
              exact ⟨q,by simpa using q1,q2,q3.evo hev⟩
             ·rw [List.getElem?_append_right (by omega),hlen] at hk
              have hkl : k - len < ys.length:=(List.getElem?_eq_some_iff.1 hk).1
              have e1 : k * sz = len * sz + (k - len) * sz:=by rw [← Nat.add_mul]; congr 1; omega
              have e2 : (k - len) * sz + sz≤ys.length * sz:=by rw [← Nat.succ_mul]; exact Nat.mul_le_mul_right _ (by omega)
              rw [if_neg (by omega),if_pos (by omega)]
              have e3 : (bo + off + k) * sz + j - ((bo + off) * sz + len * sz) = (k - len) * sz + j:=by omega
              rw [e3]
              have hfl:=qfz9 hys (k - len) j hjl
              rw [hk,Option.bind_some,hj] at hfl
              have hlt : (k - len) * sz + j < news.length:=by omega
              obtain ⟨q1,q2⟩:=n1.2 _ _ _ hfl (List.getElem?_eq_getElem hlt)
              exact ⟨_,List.getElem?_eq_getElem hlt,q1,q2.evo hev⟩)
          refine ⟨_,_,hrun,_,?_,hh.2,hh.1⟩
          refine .ref _ _ _ _ _ ⟨A,cA,rfl,hroom,fun k=>⟨_,f2 (by omega)⟩,false,ver + 1,sz,(es.drop off).take len++ys,by simp [hid'],Nat.le_refl _,fun _=>⟨by rw [List.length_append,hlen]; omega,?_⟩⟩
          simp only [upd_same]
          exact ⟨_,_,hg',fun k=>by simpa using f2 k,by rw [hsz']; simpa using f3⟩
      ·cases ho
     ·cases ho
    ·cases ho

theorem qra9 (H : HRel W0 X h m w) {t : TypeId} {x y : PV} {v : Value} {h1 : AHeap} (hv : VRel (Ex X h m) h m w x v) (ho : qia9 P h t x = some (y,h1)) : ∃ u w',(Instr.range t v).run P w = .ok u w'∧Out W0 X h m w y h1 u w':=by
 unfold qia9 at ho
 split at ho
 ·rename_i s hu
  simp only [Option.some.injEq,Prod.mk.injEq] at ho
  obtain ⟨rfl,rfl⟩:=ho
  obtain rfl:=hv.to_v rfl
  have hh:=qgl9 (w':={ w with heap:=w.heap.push (.stringIter s 0) }) H (.siter s 0) (some (w.heap.size,0)) rfl rfl (Outs.push rfl (by rintro _ _ _ ⟨⟩) rfl) (by simp) (fun b hb=>by simp [Array.getElem?_push,hb]; omega) (fun g bo hp=>by cases hp; simp) (fun _=>by simp [ORel])
  exact ⟨.pointer (some ⟨w.heap.size,0,none⟩),{ w with heap:=w.heap.push (.stringIter s 0) },by simp [Instr.range,run_underlying hu],_,.it _ s 0 _ 0 (by simp) (by simp),hh.2,hh.1⟩
 ·cases ho
theorem qsf9 (H : HRel W0 X h m w) {x y : PV} {v : Value} {b : Bool} {t : TypeId} {h1 : AHeap} (hv : VRel (Ex X h m) h m w x v) (ho : qjw9 h x b = some (y,h1)) : ∃ u w',(Instr.next v b t).run P w = .ok u w'∧Out W0 X h m w y h1 u w':=by
 unfold qjw9 at ho
 split at ho
 ·rename_i id
  split at ho
  ·rename_i hb
   subst hb
   cases hv with
   | it _ s' pos' g bo ho' hm =>
    split at ho
    ·rename_i s pos hid
     obtain ⟨e1,e2⟩ : s = s'∧pos = pos':=by
      rw [hid] at ho'
      simpa using ho'
     subst e1
     subst e2
     have H1:=H.obj id _ hid
     rw [hm] at H1
     have H1' : w.heap[g]? = some (.stringIter s pos):=H1
     have hgo:=qhf9 (P:=P) H1' (by simp)
     have hgl : g < w.heap.size:=H.lt id _ g bo hid hm
     split at ho
     ·rename_i hlt
      simp only [Option.some.injEq,Prod.mk.injEq] at ho
      obtain ⟨rfl,rfl⟩:=ho
      have hso:=qiB9 (P:=P) (o':=.stringIter s (pos + (Utf8.decode s pos).2)) H1' (by simp)
      have hh:=qeq9 (w':={ w with heap:=w.heap.setIfInBounds g (.stringIter s (pos + (Utf8.decode s pos).2)) }) H hid rfl (.siter s (pos + (Utf8.decode s pos).2)) (m id) rfl rfl (Outs.turn H1' (o':=.stringIter s (pos + (Utf8.decode s pos).2)) (by simp [hgl]) (fun b hb=>by simp [Ne.symm hb]) (by rintro _ _ _ ⟨⟩) (by rintro _ _ _ ⟨⟩) rfl) (by simp) (fun b hb hne=>by
       have:=hne g bo hm
       simp [Ne.symm this]) rfl (fun g' bo' hp=>by
       rw [hm] at hp
       cases hp
       exact ⟨by simpa using hgl,.inl ⟨bo,hm⟩⟩) (fun _=>by
       rw [hm]
       simp [ORel,hgl])
      refine ⟨.tuple #[.bool true,.int .i64 pos,.int .i32 (Utf8.decode s pos).1],_,by simp [Instr.next,hgo,hlt,hso]; rfl,_,?_,hh.2,hh.1⟩
      exact .tp _ [.bool true,.int .i64 pos,.int .i32 (Utf8.decode s pos).1] rfl (fun j u x a b=>by
       match j,a,b with
       | 0,a,b=>simp at a b; subst a; subst b; exact .d _ _ (.v _)
       | 1,a,b=>simp at a b; subst a; subst b; exact .d _ _ (.v _)
       | 2,a,b=>simp at a b; subst a; subst b; exact .d _ _ (.v _)
       | (k + 3),a,b=>simp at a)
     ·rename_i hlt
      simp only [Option.some.injEq,Prod.mk.injEq] at ho
      obtain ⟨rfl,rfl⟩:=ho
      refine ⟨.tuple #[.bool false],_,by simp [Instr.next,hgo,hlt],Out.same H ?_⟩
      exact .tp _ [.bool false] rfl (fun j u x a b=>by
       match j,a,b with
       | 0,a,b=>simp at a b; subst a; subst b; exact .d _ _ (.v _)
       | (k + 1),a,b=>simp at a)
    ·cases ho
  ·cases ho
 ·cases ho
end
end Go.Abs
namespace Go.Abs
open Go Go.RowKit

section
variable {W0 : World} {E E' : Nat→Prop} {X : Nat→Prop} {h h' : AHeap} {m : Places} {w w' : World} {P : Program}

def VRels (E : Nat→Prop) (h : AHeap) (m : Places) (w : World) (xs : List PV) (vs : List Value) : Prop :=
 vs.length = xs.length∧∀ (j : Nat) (u : PV) (y : Value),xs[j]? = some u→vs[j]? = some y→VRel E h m w u y

theorem VRels.nil : VRels E h m w [] []:=⟨rfl,fun j u y a=>by simp at a⟩
theorem VRels.cons {x : PV} {v : Value} {xs : List PV} {vs : List Value} (h0 : VRel E h m w x v) (h1 : VRels E h m w xs vs) : VRels E h m w (x::xs) (v::vs):=by
 refine ⟨by simp [h1.1],fun j u y a b=>?_⟩
 cases j with
 | zero=>simp at a b; subst a; subst b; exact h0
 | succ j=>exact h1.2 j u y (by simpa using a) (by simpa using b)
theorem VRels.append {xs ys : List PV} {vs us : List Value} (h1 : VRels E h m w xs vs) (h2 : VRels E h m w ys us) : VRels E h m w (xs++ys) (vs++us):=by
 refine ⟨by simp [h1.1,h2.1],fun j u y a b=>?_⟩
 rcases Nat.lt_or_ge j xs.length with c | c
 ·rw [List.getElem?_append_left c] at a
  rw [List.getElem?_append_left (by rw [h1.1]; exact c)] at b
  exact h1.2 j u y a b
 ·rw [List.getElem?_append_right c] at a
  rw [List.getElem?_append_right (by rw [h1.1]; exact c),h1.1] at b
  exact h2.2 _ u y a b
theorem VRels.map {α : Type} {f : α→PV} {g : α→Value} : ∀ {l : List α},(∀ x∈l,VRel E h m w (f x) (g x))→VRels E h m w (l.map f) (l.map g):=by
 intro l
 induction l with
 | nil=>intro _; exact VRels.nil
 | cons a r ih=>intro hh; exact VRels.cons (hh a (by simp)) (ih (fun x hx=>hh x (by simp [hx])))
theorem VRels.toVs {xs : List PV} {vs us : List Value} (hh : VRels E h m w xs vs) (hm : mapO toV xs = some us) : vs = us:=by
 obtain ⟨h1,h2⟩:=qbO9 hm
 apply List.ext_getElem?
 intro j
 cases hx : xs[j]? with
 | none =>
  have : xs.length≤j:=by simpa using hx
  rw [List.getElem?_eq_none (by rw [hh.1]; exact this),List.getElem?_eq_none (by omega)]
 | some x =>
  have hlt : j < vs.length:=by rw [hh.1]; exact (List.getElem?_eq_some_iff.1 hx).1
  obtain ⟨u,hu,hxu⟩:=h2 j x hx
  rw [hu,List.getElem?_eq_getElem hlt]
  rw [(hh.2 j x _ hx (List.getElem?_eq_getElem hlt)).to_v hxu]

theorem qnq9 (H : HRel W0 X h m w) {t t' ty : TypeId} {ts : Array TypeId} {vs vx : Value} {k : IntKind} {n : Int} {y : PV} {h1 : AHeap} (h0 : ts[0]? = some t) (h1' : ts[1]? = some t') (hs : VRel (Ex X h m) h m w (.im true []) vs) (hx : VRel (Ex X h m) h m w (.d (.v (.int k n))) vx) (ho : qgg9 P h t t' n = some (y,h1)) :
  ∃ u w',(Builtin.append_ ts ty #[vs,vx]).run P w = .ok u w'∧Out W0 X h m w y h1 u w':=by
 unfold qgg9 at ho
 split at ho
 ·rename_i e k2 ht hu'
  have hu:=qbr9 ht
  split at ho
  ·rename_i i zs hi hz
   obtain ⟨i',z,hi',hzz,hs1,hs2,hs3,hs4⟩:=qeh9 (E:=Ex X h m) (h:=h) (m:=m) (w:=w) hz
   rw [hi] at hi'
   cases hi'
   have hs2 : (zs.map setl).length = i.size:=by rw [List.length_map]; exact hs2
   have hs4 : ∀ (j : Nat) (u : PV) (y : Value),(zs.map setl)[j]? = some u→z.cells[j]? = some y→y.oneCell' = true∧VRel (Ex X h m) h m w u y:=by
    intro j u y a b
    rw [List.getElem?_map] at a
    cases hj : zs[j]? with
    | none=>simp [hj] at a
    | some u0 =>
     simp only [hj,Option.map_some,Option.some.injEq] at a
     subst a
     have:=hs4 j u0 y hj b
     exact ⟨this.1,qkA9 this.2⟩
   clear hz
   generalize zs.map setl = zs at ho hs2 hs4
   split at ho
   ·rename_i hc
    obtain ⟨c2,c3,c4,c5⟩:=hc
    simp only [Option.some.injEq,Prod.mk.injEq] at ho
    obtain ⟨rfl,rfl⟩:=ho
    have hv : ∃ A,vs = .slice A 0 0:=by
     cases hs with
     | im tight xs A c sz f hc' ht' _ _ _ _ =>
      have h00 : c = 0:=by simpa using (ht' rfl).symm
      subst h00
      exact ⟨A,rfl⟩
    obtain ⟨A,rfl⟩:=hv
    have hvx : vx = .int k n:=by
     cases hx with
     | d _ _ hd=>cases hd; rfl
    subst hvx
    have hr:=qqa9 (P:=P) (w:=w) (ty:=ty) (A:=A) (k':=k) hu hu' hi hzz hs1 c2 c4 c5 c3 h0 h1'
    have hsz : ∀ (j : Nat) (cs : List PV),(List.replicate n.toNat zs)[j]? = some cs→cs.length = i.size:=by
     intro j cs hj
     have:=List.mem_of_getElem? hj
     rw [List.mem_replicate] at this
     rw [this.2]; exact hs2
    have hcr : CRel (Ex X h m) h m w (List.replicate n.toNat zs).flatten (Builtin.zeroCells z.cells n.toNat).toList:=by
     have hfl:=qdZ9 hsz
     refine ⟨by rw [hfl]; simp [Builtin.zeroCells,hs1],fun j u y a b=>?_⟩
     have hj : j < n.toNat * i.size:=by
      have:=(List.getElem?_eq_some_iff.1 a).1
      rw [hfl] at this
      simpa using this
     have hm:=Nat.mod_lt j c4
     have hd : j / i.size * i.size + j % i.size = j:=by rw [Nat.mul_comm]; exact Nat.div_add_mod j i.size
     have hg:=qfz9 hsz (j / i.size) (j % i.size) hm
     rw [hd,a,List.getElem?_replicate] at hg
     have hlt : j / i.size < n.toNat:=by
      rw [Nat.div_lt_iff_lt_mul c4]; exact hj
     rw [if_pos hlt,Option.bind_some] at hg
     have hb : z.cells[j % i.size]? = some y:=by
      have hlt2 : j % z.cells.size < z.cells.size:=by rw [hs1]; exact hm
      have hj2 : j < n.toNat * z.cells.size:=by rw [hs1]; exact hj
      simp only [Builtin.zeroCells,Array.toList_map,List.getElem?_map,Array.toList_range,List.getElem?_range hj2,Option.map_some,Option.some.injEq] at b
      rw [getElem!_pos z.cells _ hlt2] at b
      rw [← b,← hs1,Array.getElem?_eq_getElem hlt2]
     exact hs4 _ u y hg.symm hb
    have hh:=qjN9 (w':=w.drew.alloc (.cells ((Builtin.zeroCells z.cells n.toNat).toList++(Builtin.zeroCells z.cells (grownCap w n.toNat 0 e - n.toNat)).toList).toArray e)) (rest:=(Builtin.zeroCells z.cells (grownCap w n.toNat 0 e - n.toNat)).toList) (e:=e) (es:=List.replicate n.toNat zs) (sz:=i.size) H (by simp only [World.alloc]; rfl) rfl rfl (Outs.push rfl (by rintro _ _ _ ⟨⟩; rfl) rfl) c4 hsz hcr
    have hge:=grownCap_ge w n.toNat 0 e
    refine ⟨_,_,hr,_,?_,hh.2,hh.1⟩
    refine .ref _ _ _ _ _ ⟨_,_,rfl,hge,fun _=>⟨_,rfl⟩,false,0,i.size,List.replicate n.toNat zs,by simp,Nat.le_refl _,fun _=>⟨by simp,?_⟩⟩
    rw [upd_same]
    refine ⟨_,e,heap_alloc_new w.drew _,fun _=>by simp,?_⟩
    simp only [List.size_toArray,List.length_append,Array.length_toList,size_zeroCells,hs1,← Nat.add_mul]
    exact Nat.mul_le_mul_right _ (by omega)
   ·cases ho
  ·cases ho
 ·cases ho
theorem qnm9 {C : Cfg} (H : HRel W0 X h m w) {b : Builtin} {ts : Array TypeId} {ty : TypeId} {args : List PV} {vs : List Value} {cs : Array Bool} {r : PV} {h1 : AHeap} (hv : VRels (Ex X h m) h m w args vs) (ho : qbh9 C h b ts ty args = some (r,h1)) :
  ∃ u w',(builtin b ts ty cs vs.toArray).run C.P w = .ok (.value u) w'∧Out W0 X h m w r h1 u w':=by
 unfold qbh9 at ho
 split at ho
 ·rename_i x
  obtain ⟨l1,l2⟩:=hv
  obtain ⟨vx,rfl⟩ : ∃ v,vs = [v]:=by
   cases vs with
   | nil=>simp at l1
   | cons v r=>cases r with
    | nil=>exact ⟨v,rfl⟩
    | cons _ _=>simp at l1
  have hx:=l2 0 _ _ rfl rfl
  split at ho
  ·rename_i n hl
   obtain ⟨A,c,rfl⟩:=qza9 hx hl
   split at ho
   ·rename_i e hu
    simp only [Option.some.injEq,Prod.mk.injEq] at ho
    obtain ⟨rfl,rfl⟩:=ho
    cases ht : ts[0]? with
    | none=>simp [ht] at hu
    | some t =>
     simp only [ht,Option.bind_some] at hu
     exact ⟨_,_,by simp [builtin,Builtin.len_,ht,run_underlying hu]; rfl,Out.same H (.d _ _ (.v _))⟩
   ·cases ho
  ·rename_i hl
   split at ho
   ·rename_i id
    split at ho
    ·rename_i es kt et hid hu
     simp only [Option.some.injEq,Prod.mk.injEq] at ho
     obtain ⟨rfl,rfl⟩:=ho
     cases hx with
     | mp _ es' g bo ho' hm =>
      rw [hid] at ho'
      cases ho'
      have H1:=H.obj id _ hid
      rw [hm] at H1
      obtain ⟨ents,clock,a1,a2,a3,a4⟩:=H1
      have hgo:=qhf9 (P:=C.P) a1 (by simp)
      cases ht : ts[0]? with
      | none=>simp [ht] at hu
      | some t =>
       simp only [ht,Option.bind_some] at hu
       exact ⟨_,_,by simp [builtin,Builtin.len_,ht,run_underlying hu,hgo]; rfl,Out.same H (by rw [← a2]; exact .d _ _ (.v _))⟩
    ·cases ho
   ·cases ha : toV x with
    | none=>simp [ha] at ho
    | some a =>
     obtain rfl:=hx.to_v ha
     simp only [ha,Option.bind_some] at ho
     cases hp : pev C.P (Builtin.len_ ts ty #[vx]) with
     | none=>simp [hp] at ho
     | some u =>
      simp only [hp,Option.map_some,Option.some.injEq,Prod.mk.injEq] at ho
      obtain ⟨rfl,rfl⟩:=ho
      exact ⟨u,w,by simp [builtin,qfB9 hp w],Out.same H (.d _ _ (.v _))⟩
 ·rename_i s x
  obtain ⟨l1,l2⟩:=hv
  obtain ⟨v1,v2,rfl⟩ : ∃ v u,vs = [v,u]:=by
   cases vs with
   | nil=>simp at l1
   | cons v r=>cases r with
    | nil=>simp at l1
    | cons u r=>cases r with
     | nil=>exact ⟨v,u,rfl⟩
     | cons _ _=>simp at l1
  have hs:=l2 0 _ _ rfl rfl
  have hx:=l2 1 _ _ rfl rfl
  split at ho
  ·rename_i t t' h0 h1'
   split at ho
   ·rename_i e' ys he' hel
    obtain ⟨u,w',a1,a2⟩:=qoS9 (ty:=ty) H h0 h1' (qbr9 he') hs hx hel ho
    exact ⟨u,w',by simp [builtin,a1],a2⟩
   ·split at ho
    ·obtain ⟨u,w',a1,a2⟩:=qnq9 (ty:=ty) H h0 h1' hs hx ho
     exact ⟨u,w',by simp [builtin,a1],a2⟩
    ·cases ho
  ·cases ho
 ·rename_i es
  obtain ⟨l1,l2⟩:=hv
  obtain ⟨vx,rfl⟩ : ∃ v,vs = [v]:=by
   cases vs with
   | nil=>simp at l1
   | cons v r=>cases r with
    | nil=>exact ⟨v,rfl⟩
    | cons _ _=>simp at l1
  have hx:=l2 0 _ _ rfl rfl
  split at ho
  ·rename_i e hu
   simp only [Option.some.injEq,Prod.mk.injEq] at ho
   obtain ⟨rfl,rfl⟩:=ho
   cases ht : ts[0]? with
   | none=>simp [ht] at hu
   | some t =>
    simp only [ht,Option.bind_some] at hu
    cases hx with
    | im tight xs A c sz f hc' ht' _ _ _ _ =>
     have h00 : c = es.length:=(ht' rfl).symm
     subst h00
     exact ⟨_,_,by simp [builtin,Builtin.cap_,ht,run_underlying hu]; rfl,Out.same H (.d _ _ (.v _))⟩
  ·cases ho
 ·cases ha : mapO toV args with
  | none=>simp [ha] at ho
  | some us =>
   obtain rfl:=hv.toVs ha
   simp only [ha,Option.bind_some] at ho
   cases hp : pev C.P (Builtin.min_ ts ty vs.toArray) with
   | none=>simp [hp] at ho
   | some u =>
    simp only [hp,Option.map_some,Option.some.injEq,Prod.mk.injEq] at ho
    obtain ⟨rfl,rfl⟩:=ho
    exact ⟨u,w,by simp [builtin,qfB9 hp w],Out.same H (.d _ _ (.v _))⟩
 ·cases ha : mapO toV args with
  | none=>simp [ha] at ho
  | some us =>
   obtain rfl:=hv.toVs ha
   simp only [ha,Option.bind_some] at ho
   cases hp : pev C.P (Builtin.max_ ts ty vs.toArray) with
   | none=>simp [hp] at ho
   | some u =>
    simp only [hp,Option.map_some,Option.some.injEq,Prod.mk.injEq] at ho
    obtain ⟨rfl,rfl⟩:=ho
    exact ⟨u,w,by simp [builtin,qfB9 hp w],Out.same H (.d _ _ (.v _))⟩
 ·cases ho
end

section
variable {W0 : World} {E E' : Nat→Prop} {X : Nat→Prop} {h h' : AHeap} {m : Places} {w w' : World} {P : Program}

theorem qeF9 {α β : Type} {l : List α} {f : α→List β} {x : α} (hx : x∈l) {y : β} (hy : y∈f x) : y∈l.flatMap f:=List.mem_flatMap.2 ⟨x,hx,hy⟩

theorem qed9 (H : HRel W0 X h m w) (hEE : ∀ b,E' b→Ex X h m b) : ∀ (n : Nat) (x : PV) (d : D) (v : Value),rs h n x = some d→(∀ id∈reach h n x,∀ g bo fz ver sz es,m id = some (g,bo)→h[id]? = some (.row fz ver sz es)→¬ E' g)→VRel (Ex X h m) h m w x v→DRel E' w d v:=by
 intro n
 induction n with
 | zero=>intro x d v hr; simp [rs] at hr
 | succ n ih =>
  intro x d v hr hre hv
  have cells : ∀ (cs : List PV) (ds : List D) (vs : List Value),mapO (rs h n) cs = some ds→vs.length = cs.length→(∀ id∈cs.flatMap (reach h n),∀ g bo fz ver sz es,m id = some (g,bo)→h[id]? = some (.row fz ver sz es)→¬ E' g) →
    (∀ (j : Nat) (u : PV) (x : Value),cs[j]? = some u→vs[j]? = some x→VRel (Ex X h m) h m w u x)→∀ (j : Nat) (u : D) (x : Value),ds[j]? = some u→vs[j]? = some x→DRel E' w u x:=by
   intro cs ds vs hm hl hre hvr j u x hj hx
   obtain ⟨m1,m2⟩:=qbO9 hm
   have hlt : j < cs.length:=by rw [← m1]; exact (List.getElem?_eq_some_iff.1 hj).1
   obtain ⟨u',hu',hru⟩:=m2 j cs[j] (List.getElem?_eq_getElem hlt)
   rw [hj] at hu'
   cases hu'
   exact ih _ _ _ hru (fun id hid=>hre id (qeF9 (List.getElem_mem hlt) hid)) (hvr j _ x (List.getElem?_eq_getElem hlt) hx)
  -- a row of cells at a place
  have rowD : ∀ (es : List (List PV)) (dss : List (List D)) (A : Option Addr) (c sz : Nat) (f : Nat→Nat→Value),mapO (mapO (rs h n)) es = some dss→es.length≤c→(∀ (i : Nat) (cs : List PV),es[i]? = some cs→cs.length = sz) →
    (∀ (i : Nat) (cs : List PV),es[i]? = some cs→∃ ad,A = some ad)→(∀ id∈es.flatMap (fun cs=>cs.flatMap (reach h n)),∀ g bo fz ver sz es,m id = some (g,bo)→h[id]? = some (.row fz ver sz es)→¬ E' g) →
    (∀ (i j : Nat) (cs : List PV) (u : PV) (ad : Addr),es[i]? = some cs→cs[j]? = some u→A = some ad→¬ E' ad.block∧w.cell? (ad.add (i * sz + j)) = some (f i j)∧(f i j).oneCell' = true) →
    (∀ (i j : Nat) (cs : List PV) (u : PV),es[i]? = some cs→cs[j]? = some u→VRel (Ex X h m) h m w u (f i j))→DRel E' w (.rd dss) (.slice A es.length c):=by
   intro es dss A c sz f hm hc hsz hA hre hE hvr
   obtain ⟨m1,m2⟩:=qbO9 hm
   rw [← m1]
   have back : ∀ (i : Nat) (ds : List D),dss[i]? = some ds→∃ cs,es[i]? = some cs∧mapO (rs h n) cs = some ds:=by
    intro i ds hi
    have hlt : i < es.length:=by rw [← m1]; exact (List.getElem?_eq_some_iff.1 hi).1
    obtain ⟨ds',k1,k2⟩:=m2 i es[i] (List.getElem?_eq_getElem hlt)
    rw [hi] at k1
    cases k1
    exact ⟨_,List.getElem?_eq_getElem hlt,k2⟩
   have back2 : ∀ (i j : Nat) (ds : List D) (u : D),dss[i]? = some ds→ds[j]? = some u→∃ cs x,es[i]? = some cs∧cs[j]? = some x∧rs h n x = some u:=by
    intro i j ds u hi hj
    obtain ⟨cs,k1,k2⟩:=back i ds hi
    obtain ⟨n1,n2⟩:=qbO9 k2
    have hlt : j < cs.length:=by rw [← n1]; exact (List.getElem?_eq_some_iff.1 hj).1
    obtain ⟨u',l1,l2⟩:=n2 j cs[j] (List.getElem?_eq_getElem hlt)
    rw [hj] at l1
    cases l1
    exact ⟨cs,_,k1,List.getElem?_eq_getElem hlt,l2⟩
   refine .rd dss A c sz f (by omega) (fun i ds hi=>?_) (fun i ds hi=>?_) (fun i j ds u ad hi hj ha=>?_) (fun i j ds u hi hj=>?_)
   ·obtain ⟨cs,k1,k2⟩:=back i ds hi
    rw [(qbO9 k2).1]; exact hsz i cs k1
   ·obtain ⟨cs,k1,k2⟩:=back i ds hi
    exact hA i cs k1
   ·obtain ⟨cs,x,k1,k2,k3⟩:=back2 i j ds u hi hj
    exact hE i j cs x ad k1 k2 ha
   ·obtain ⟨cs,x,k1,k2,k3⟩:=back2 i j ds u hi hj
    refine ih _ _ _ k3 (fun id hid=>hre id ?_) (hvr i j cs x k1 k2)
    exact qeF9 (List.mem_of_getElem? k1) (qeF9 (List.mem_of_getElem? k2) hid)
  have bxD : ∀ (cs : List PV) (ds : List D) (ad : Addr) (f : Nat→Value),mapO (rs h n) cs = some ds→(∀ id∈cs.flatMap (reach h n),∀ g bo fz ver sz es,m id = some (g,bo)→h[id]? = some (.row fz ver sz es)→¬ E' g) →
    (∀ (j : Nat) (u : PV),cs[j]? = some u→¬ E' ad.block∧w.cell? (ad.add j) = some (f j)∧(f j).oneCell' = true)→(∀ (j : Nat) (u : PV),cs[j]? = some u→VRel (Ex X h m) h m w u (f j))→DRel E' w (.bx ds) (.pointer (some ad)):=by
   intro cs ds ad f hm hre hE hvr
   obtain ⟨m1,m2⟩:=qbO9 hm
   have back : ∀ (j : Nat) (u : D),ds[j]? = some u→∃ x,cs[j]? = some x∧rs h n x = some u:=by
    intro j u hj
    have hlt : j < cs.length:=by rw [← m1]; exact (List.getElem?_eq_some_iff.1 hj).1
    obtain ⟨u',l1,l2⟩:=m2 j cs[j] (List.getElem?_eq_getElem hlt)
    rw [hj] at l1
    cases l1
    exact ⟨_,List.getElem?_eq_getElem hlt,l2⟩
   refine .bx ds ad f (fun j u hj=>?_) (fun j u hj=>?_)
   ·obtain ⟨x,k1,k2⟩:=back j u hj
    exact hE j x k1
   ·obtain ⟨x,k1,k2⟩:=back j u hj
    exact ih _ _ _ k2 (fun id hid=>hre id (qeF9 (List.mem_of_getElem? k1) hid)) (hvr j x k1)
  cases hv with
  | d x v hd =>
   simp only [rs,Option.some.injEq] at hr
   subst hr
   exact hd.move (fun b _ he=>hEE b he) (fun b _ _=>rfl)
  | junk v=>simp [rs] at hr
  | im tight es A c sz f hc ht hsz hA hE hvr =>
   simp only [rs,Option.map_eq_some_iff] at hr
   obtain ⟨dss,k1,rfl⟩:=hr
   exact rowD es dss A c sz f k1 hc hsz hA (by simpa only [reach] using hre) (fun i j cs u ad a b e=>⟨fun he=>(hE i j cs u ad a b e).1 (hEE _ he),(hE i j cs u ad a b e).2⟩) hvr
  | bx cs ad f hE hvr =>
   simp only [rs,Option.map_eq_some_iff] at hr
   obtain ⟨ds,k1,rfl⟩:=hr
   exact bxD cs ds ad f k1 (by simpa only [reach] using hre) (fun j u a=>⟨fun he=>(hE j u a).1 (hEE _ he),(hE j u a).2⟩) hvr
  | ref id ver off len v hs =>
   simp only [rs] at hr
   simp only [reach] at hre
   cases hrow : rowAt h id ver with
   | none=>simp [hrow] at hr
   | some p =>
    obtain ⟨fz,sz,es⟩:=p
    have hid:=qgX9 hrow
    simp only at hid
    simp only [hrow,Option.map_eq_some_iff] at hr hre
    obtain ⟨dss,k1,rfl⟩:=hr
    obtain ⟨A,cap,rfl,hv1,hv2,fz1,ver1,sz1,es1,ho1,hle,hcur⟩:=hs
    rw [hid] at ho1
    simp only [Option.some.injEq,AObj.row.injEq] at ho1
    obtain ⟨rfl,rfl,rfl,rfl⟩:=ho1
    obtain ⟨c1,c2⟩:=hcur rfl
    have hlen : ((es.drop off).take len).length = len:=by simp; omega
    have hor:=H.obj id _ hid
    have hyi : ∀ (i : Nat) (cs : List PV),((es.drop off).take len)[i]? = some cs→i < len∧es[off + i]? = some cs:=by
     intro i cs hi
     rw [List.getElem?_take] at hi
     split at hi
     ·rename_i hlt; exact ⟨hlt,by simpa [List.getElem?_drop] using hi⟩
     ·cases hi
    have hre' : ∀ id'∈((es.drop off).take len).flatMap (fun cs=>cs.flatMap (reach h n)),∀ g bo fz ver sz es,m id' = some (g,bo)→h[id']? = some (.row fz ver sz es)→¬ E' g:=by
     intro id' hid'
     obtain ⟨cs,q1,q2⟩:=List.mem_flatMap.1 hid'
     exact hre id' (List.mem_cons_of_mem _ (qeF9 (List.mem_of_mem_drop (List.mem_of_mem_take q1)) q2))
    rw [← hlen]
    cases hm : m id with
    | none =>
     rw [hm] at hor
     have hes : es = []:=hor
     subst hes
     exact rowD _ dss A cap sz (fun _ _=>.bool true) k1 (by omega) (fun i cs hi=>by simp at hi) (fun i cs hi=>by simp at hi) hre' (fun i j cs u ad hi=>by simp at hi) (fun i j cs u hi=>by simp at hi)
    | some p =>
     obtain ⟨g,bo⟩:=p
     rw [hm] at hor c2
     obtain ⟨s0,cur,e,r1,r2,r3,r4⟩:=hor
     obtain ⟨cur',e',d1,d2,d3⟩:=c2
     rw [r1] at d1
     simp only [Option.some.injEq,Obj.cells.injEq] at d1
     obtain ⟨rfl,rfl,_⟩:=d1
     have look : ∀ (i j : Nat) (cs : List PV) (u : PV),((es.drop off).take len)[i]? = some cs→cs[j]? = some u→∃ y,cur[(bo + off + i) * sz + j]? = some y∧y.oneCell' = true∧VRel (Ex X h m) h m w u y:=by
      intro i j cs u hi hj
      obtain ⟨y,y1,y2,y3⟩:=r4 (off + i) j cs u (hyi i cs hi).2 hj
      rw [← Nat.add_assoc] at y1
      exact ⟨y,y1,y2,y3⟩
     refine rowD _ dss A cap sz (fun i j=>(cur[(bo + off + i) * sz + j]?).getD (.bool true)) k1 (by omega) (fun i cs hi=>r3 _ cs (hyi i cs hi).2) (fun i cs hi=>hv2 (by have:=(hyi i cs hi).1; omega)) hre' (fun i j cs u ad hi hj ha=>?_) (fun i j cs u hi hj=>?_)
     ·obtain ⟨y,y1,y2,y3⟩:=look i j cs u hi hj
      have:=(hyi i cs hi).1
      have hA:=d2 (by omega)
      rw [ha] at hA
      cases hA
      refine ⟨hre id (by simp) g bo _ _ _ _ hm hid,?_,by rw [y1]; exact y2⟩
      have e2 : (bo + off) * sz + (i * sz + j) = (bo + off + i) * sz + j:=by rw [Nat.add_mul (bo + off) i]; omega
      rw [qep9,e2]
      simp [World.cell?,r1,y1]
     ·obtain ⟨y,y1,y2,y3⟩:=look i j cs u hi hj
      rw [y1]; exact y3
  | ptr id ver idx off v hp =>
   simp only [rs] at hr
   simp only [reach] at hre
   cases hrow : rowAt h id ver with
   | none=>simp [hrow] at hr
   | some p =>
    obtain ⟨fz,sz,es⟩:=p
    have hid:=qgX9 hrow
    simp only at hid
    simp only [hrow] at hr hre
    cases hcs : es[idx]? with
    | none=>simp [hcs] at hr
    | some cs =>
     simp only [hcs,Option.bind_some,Option.map_eq_some_iff] at hr
     obtain ⟨ds,k1,rfl⟩:=hr
     obtain ⟨⟨ad,rfl⟩,fz1,ver1,sz1,es1,ho1,hle,hcur⟩:=hp
     rw [hid] at ho1
     simp only [Option.some.injEq,AObj.row.injEq] at ho1
     obtain ⟨rfl,rfl,rfl,rfl⟩:=ho1
     obtain ⟨c1,c2⟩:=hcur rfl
     have hor:=H.obj id _ hid
     cases hm : m id with
     | none=>rw [hm] at c2; exact c2.elim
     | some p =>
      obtain ⟨g,bo⟩:=p
      rw [hm] at hor c2
      simp only [Value.pointer.injEq,Option.some.injEq] at c2
      subst c2
      obtain ⟨s0,cur,e,r1,r2,r3,r4⟩:=hor
      have look : ∀ (j : Nat) (u : PV),(cs.drop off)[j]? = some u→∃ y,cur[(bo + idx) * sz + off + j]? = some y∧y.oneCell' = true∧VRel (Ex X h m) h m w u y:=by
       intro j u hj
       rw [List.getElem?_drop] at hj
       obtain ⟨y,y1,y2,y3⟩:=r4 idx (off + j) cs u hcs hj
       rw [← Nat.add_assoc] at y1
       exact ⟨y,y1,y2,y3⟩
      refine bxD _ ds _ (fun j=>(cur[(bo + idx) * sz + off + j]?).getD (.bool true)) k1 (fun id' hid'=>?_) (fun j u hj=>?_) (fun j u hj=>?_)
      ·obtain ⟨x,q1,q2⟩:=List.mem_flatMap.1 hid'
       exact hre id' (List.mem_cons_of_mem _ (qeF9 (List.mem_of_getElem? hcs) (qeF9 (List.mem_of_mem_drop q1) q2)))
      ·obtain ⟨y,y1,y2,y3⟩:=look j u hj
       refine ⟨hre id (by simp) g bo _ _ _ _ hm hid,?_,by rw [y1]; exact y2⟩
       rw [qep9]
       simp [World.cell?,r1,y1]
      ·obtain ⟨y,y1,y2,y3⟩:=look j u hj
       rw [y1]; exact y3
  | mp=>simp [rs] at hr
  | it=>simp [rs] at hr
  | tp=>simp [rs] at hr
  | ag cs vs hl h1 hvr =>
   simp only [rs,Option.map_eq_some_iff] at hr
   obtain ⟨ds,k1,rfl⟩:=hr
   exact .ag ds vs (by rw [hl,(qbO9 k1).1]) h1 (cells cs ds vs k1 hl (by simpa only [reach] using hre) hvr)
  | ifc t x v hv =>
   simp only [rs,Option.map_eq_some_iff] at hr
   obtain ⟨d,k1,rfl⟩:=hr
   exact .ifc t d v (ih _ _ _ k1 (by simpa only [reach] using hre) hv)
  | fn f cs vs hl hvr =>
   simp only [rs,Option.map_eq_some_iff] at hr
   obtain ⟨ds,k1,rfl⟩:=hr
   exact .fn f ds vs (by rw [hl,(qbO9 k1).1]) (cells cs ds vs k1 hl (by simpa only [reach] using hre) hvr)
end
end Go.Abs

import Derived.Test.YtmkohpkfeamjiaaAbs31
set_option maxHeartbeats 400000
set_option linter.unusedVariables false
set_option linter.unusedSimpArgs false
set_option linter.unusedSectionVars false
namespace Go.Abs
open Go
section
def idx {α : Type} (l : List α) (i : Int) : Option α:=if 0≤i then l[i.toNat]? else none
def cutL {α : Type} (l : List α) (i k : Int) : Option (List α):=if 0≤i∧i≤k∧k≤l.length then some ((l.drop i.toNat).take (k.toNat - i.toNat)) else none
def w64 (n : Int) : Int:=IntKind.i64.wrap n
abbrev PI (n : Int) : PV:=.d (.v (.int .i64 n))
abbrev PB (b : Bool) : PV:=.d (.v (.bool b))
theorem fold64 (n : Int) : IntKind.i64.wrap n = w64 n:=rfl
def sidx (s : ByteArray) (i : Int) : Option Int:=if 0≤i then (s[i.toNat]?).map fun b=>((b.toNat : Nat) : Int) else none
def mget {K V : Type} [DecidableEq K] : List (K × V)→K→Option V
 | [],_=>none
 | (k',v)::r,k=>if k = k' then some v else mget r k
def mset {K V : Type} [DecidableEq K] : List (K × V)→K→V→List (K × V)
 | [],k,v=>[(k,v)]
 | (k',u)::r,k,v=>if k = k' then (k,v)::r else (k',u)::mset r k v
def rowP {α : Type} (f : α→List D) (l : List α) : List (List PV):=l.map fun a=>(f a).map PV.d
def mapP {K V : Type} (k : K→Value) (f : V→List D) (l : List (K × V)) : List (Value × PV):=l.map fun p=>(k p.1,match f p.2 with | [x]=>.d x | cs=>.ag (cs.map PV.d))
def keyI (n : Int) : Value:=.int .i64 n
def keyS (s : ByteArray) : Value:=.string s
def intD (n : Int) : List D:=[.v (.int .i64 n)]
def qb9 (n : Int) : List D:=[.v (.int .u32 n)]
def qN9 (n : Int) : List D:=[.v (.int .u8 n)]
def boolD (b : Bool) : List D:=[.v (.bool b)]
def strD (s : ByteArray) : List D:=[.v (.string s)]
def ifD (x : D) : List D:=[x]
def lsD {α : Type} (f : α→List D) (l : List α) : List D:=[.rd (l.map f)]
def ar2D {α : Type} (f : α→List D) (p : α × α) : List D:=f p.1++f p.2
def ar3D {α : Type} (f : α→List D) (p : α × α × α) : List D:=f p.1++(f p.2.1++f p.2.2)

theorem gsome {α : Type} {p : Prop} [Decidable p] {a : Option α} {r : α} (h : (if p then a else none) = some r) : (p = True)∧a = some r:=by
 by_cases hp : p
 ·rw [if_pos hp] at h; exact ⟨eq_true hp,h⟩
 ·rw [if_neg hp] at h; cases h
theorem bsome {α β : Type} {o : Option α} {f : α→Option β} {r : β} (h : o.bind f = some r) : ∃ a,o = some a∧f a = some r:=Option.bind_eq_some_iff.1 h

def asI (t : TypeId) (k : IntKind) : D→Option Int
 | .ifc t' (.v (.int k' n))=>if t' = t∧k' = k then some n else none
 | _=>none
def ifInt : D→Bool
 | .ifc _ (.v (.int .i64 _))=>true
 | _=>false
def itW {σ ρ : Type} (step : σ→Option (σ ⊕ ρ)) : Nat→σ→Option ρ
 | 0,_=>none
 | n + 1,s=>match step s with
  | none=>none
  | some (.inl s')=>itW step n s'
  | some (.inr r)=>some r
open Classical in
noncomputable def wh {σ ρ : Type} (step : σ→Option (σ ⊕ ρ)) (s : σ) : Option ρ :=
 if h : ∃ n r,itW step n s = some r then some (Classical.choose (Classical.choose_spec h)) else none
theorem qph9 {σ ρ : Type} {step : σ→Option (σ ⊕ ρ)} : ∀ (n : Nat) (s : σ) (r : ρ),itW step n s = some r→∀ k,itW step (n + k) s = some r:=by
 intro n
 induction n with
 | zero=>intro s r h; cases h
 | succ n ih =>
  intro s r h k
  rw [show n + 1 + k = (n + k) + 1 from by omega]
  simp only [itW] at h ⊢
  split at h
  ·cases h
  ·exact ih _ _ h k
  ·exact h
theorem wh_of {σ ρ : Type} {step : σ→Option (σ ⊕ ρ)} {n : Nat} {s : σ} {r : ρ} (h : itW step n s = some r) : wh step s = some r:=by
 have hex : ∃ n r,itW step n s = some r:=⟨n,r,h⟩
 unfold wh
 rw [dif_pos hex]
 have h1:=Classical.choose_spec (Classical.choose_spec hex)
 have h2:=qph9 _ _ _ h (Classical.choose hex)
 have h3:=qph9 _ _ _ h1 n
 rw [Nat.add_comm] at h3
 rw [h2] at h3
 exact h3.symm
theorem qhq9 {σ ρ : Type} {step : σ→Option (σ ⊕ ρ)} {s : σ} {r : ρ} (h : wh step s = some r) : ∃ n,itW step n s = some r:=by
 unfold wh at h
 split at h
 ·rename_i hex
  have h1:=Classical.choose_spec (Classical.choose_spec hex)
  simp only [Option.some.injEq] at h
  rw [h] at h1
  exact ⟨_,h1⟩
 ·cases h
theorem wh_eq {σ ρ : Type} (step : σ→Option (σ ⊕ ρ)) (s : σ) : wh step s = match step s with
  | none=>none
  | some (.inl s')=>wh step s'
  | some (.inr r)=>some r:=by
 cases hs : step s with
 | none =>
  simp only
  cases hw : wh step s with
  | none=>rfl
  | some r =>
   obtain ⟨n,hn⟩:=qhq9 hw
   cases n with
   | zero=>cases hn
   | succ n=>simp [itW,hs] at hn
 | some x =>
  cases x with
  | inr r=>exact wh_of (n:=1) (by simp [itW,hs])
  | inl s' =>
   simp only
   cases hw : wh step s' with
   | some r =>
    obtain ⟨n,hn⟩:=qhq9 hw
    exact wh_of (n:=n + 1) (by simp [itW,hs,hn])
   | none =>
    cases hw2 : wh step s with
    | none=>rfl
    | some r =>
     obtain ⟨n,hn⟩:=qhq9 hw2
     cases n with
     | zero=>cases hn
     | succ n =>
      simp only [itW,hs] at hn
      rw [wh_of hn] at hw
      cases hw
theorem qf9 {σ ρ : Type} {step : σ→Option (σ ⊕ ρ)} {s s' : σ} (h : step s = some (.inl s')) : wh step s = wh step s':=by rw [wh_eq,h]
theorem qe9 {σ ρ : Type} {step : σ→Option (σ ⊕ ρ)} {s : σ} {r : ρ} (h : step s = some (.inr r)) : wh step s = some r:=by rw [wh_eq,h]
theorem qAB9 {σ ρ G : Type} {step : σ→Option (σ ⊕ ρ)} {sem : St→Option (AExit × St)} {S : σ→G→St} {X : ρ→AExit × St→Prop}
  (h : ∀ s g r,step s = some r→Sum.elim (fun s'=>∃ g',sem (S s g) = some (.normal,S s' g')) (fun x=>∃ q,sem (S s g) = some q∧q.1 ≠ .normal∧X x q) r) {s : σ} {g : G} {x : ρ} (hw : wh step s = some x) :
  ∃ q,qM9 sem (S s g) = some q∧X x q:=by
 obtain ⟨n,hn⟩:=qhq9 hw
 clear hw
 induction n generalizing s g with
 | zero=>cases hn
 | succ n ih =>
  simp only [itW] at hn
  cases hs : step s with
  | none=>simp [hs] at hn
  | some r =>
   have hh:=h s g r hs
   cases r with
   | inl s' =>
    obtain ⟨g',hg⟩:=hh
    rw [hs] at hn
    obtain ⟨q,h1,h2⟩:=ih (g:=g') hn
    exact ⟨q,qlU9 hg h1,h2⟩
   | inr x' =>
    obtain ⟨q,h2,h1,h3⟩:=hh
    rw [hs] at hn
    simp only [Option.some.injEq] at hn
    subst hn
    obtain ⟨e,st⟩:=q
    exact ⟨_,qkx9 h2 h1,h3⟩

def qzh9 {α ρ : Type} (g : Nat→α→Option ρ) : Nat→List α→Option ρ
 | _,[]=>none
 | i,x::r=>match g i x with
  | some q=>some q
  | none=>qzh9 g (i + 1) r
theorem qh9 {n : Int} (h1 : -4611686018427387904≤n) (h2 : n < 4611686018427387904) : w64 n = n:=by unfold w64; rw [IntKind.wrap_i64]; omega
theorem qc9 {α : Type} {l : List α} {i : Nat} {a : α} (h : l[i]? = some a) : idx l (i : Int) = some a:=by unfold idx; rw [if_pos (by omega)]; simpa using h
def RetOK (C : Cfg) (rs : List ResultVar) (s : St) (v : PV) : Prop:=∃ vs,mapO (resP C.P s) rs = some vs∧rsT s.h (resOf vs) = some v
theorem qzy9 {C : Cfg} {f : FuncId} {nt keep : Nat} {ac : ACode} {rs : List ResultVar} (hf : IsF C f nt keep ac rs) {args : List PV} (hn : args.length≤nt) {h : AHeap} {q : AExit × St} {v : PV}
  (hs : semA C (Lim C) keep ac ⟨qbt9 keep 0 args,h⟩ = some q) (he : q.1 = .normal∨q.1 = .ret) (hv : RetOK C rs q.2 v) : ∃ p hp,Lim C f args h = some (p,hp)∧rsT hp p = some v:=by
 obtain ⟨vs,h1,h2⟩:=hv
 obtain ⟨e,env,h'⟩:=q
 exact ⟨_,_,Lim_A hf hn hs he h1,h2⟩

theorem qxH9 {h : AHeap} (ds : List D) : mapO (rs h depth) (ds.map PV.d) = some ds:=by
 induction ds with
 | nil=>rfl
 | cons d r ih=>simp only [List.map_cons,mapO,rs_dd,ih]
theorem qwA9 {h : AHeap} (ds : List D) : (ds.map PV.d).flatMap (reach h depth) = []:=by
 induction ds with
 | nil=>rfl
 | cons d r ih=>simp only [List.map_cons,List.flatMap_cons,ih,qoV9,List.append_nil]
theorem qxJ9 {C : Cfg} {g : FuncId} (hp : C.prim g = none) (hu : C.use g = true) (hm : C.mode g = 0) {ds : List D} {v : PV} (hL : ∃ p hp,Lim C g (ds.map PV.d) [] = some (p,hp)∧rsT hp p = some v) (h : AHeap) : callP C (Lim C) g (ds.map PV.d) h = some (v,h):=by
 obtain ⟨p,hq,h1,h2⟩:=hL
 simp only [callP,hp,hu,if_true,hm,qxH9,qwA9,h1,h2]
 simp only [show ¬ ((0 : Nat) = 1) by decide,show ¬ ((0 : Nat) = 2) by decide,if_false]
 simp only [freezeAll,List.foldl_nil,ite_self]
theorem qwI9 {C : Cfg} {g : FuncId} (hp : C.prim g = none) (hu : C.use g = true) (hm : C.mode g = 0) {ds : List D} {v : PV} (hL : ∃ p hp,Lim C g (ds.map PV.d) [] = some (p,hp)∧rsT hp p = some v) {h : AHeap} {args : List PV} (ha : mapO (rs h depth) args = some ds) :
  callP C (Lim C) g args h = some (v,if scalar v = true then h else freezeAll (args.flatMap (reach h depth)) h):=by
 obtain ⟨p,hq,h1,h2⟩:=hL
 simp only [callP,hp,hu,if_true,hm,ha,h1,h2]
 simp only [show ¬ ((0 : Nat) = 1) by decide,show ¬ ((0 : Nat) = 2) by decide,if_false]

theorem qhd9 {α : Type} {f : α→List D} {sz : Nat} (hf : ∀ a,(f a).length = sz) {h : AHeap} {l : List α} {k : IntKind} {n : Int} : ixA h sz (.d (.rd (l.map f))) (.d (.v (.int k n))) = (idx l n).map fun a=>.d (.bx (f a)):=by
 simp only [ixA,lenP,qbj9,List.length_map,idx]
 by_cases h0 : 0≤n
 ·by_cases h1 : n < l.length
  ·rw [if_pos ⟨h0,h1⟩,if_pos h0]
   have hlt : n.toNat < l.length:=by omega
   simp [qeS9,List.getElem?_eq_getElem hlt,qeK9,hf]
  ·rw [if_neg (fun e=>h1 e.2),if_pos h0,List.getElem?_eq_none (by omega)]; rfl
 ·rw [if_neg (fun e=>h0 e.1),if_neg h0]; rfl
theorem ql9 {α : Type} {l : List α} {i : Int} {a : α} (h : idx l i = some a) : 0≤i∧i < l.length∧l[i.toNat]? = some a:=by
 unfold idx at h
 split at h
 ·rename_i h0
  have:=(List.getElem?_eq_some_iff.1 h).1
  exact ⟨h0,by omega,h⟩
 ·cases h
theorem qzr9 {h : AHeap} {sz id ver off len : Nat} {k : IntKind} {n : Int} : ixA h sz (.ref id ver off len) (.d (.v (.int k n))) = if 0≤n∧n < (len : Int) then (match h[id]? with
  | some (.row _ _ sz' _)=>if sz' = sz then some (.ptr id ver (off + n.toNat) 0) else none
  | _=>none) else none:=by
 simp only [ixA,lenP,qbj9,qeS9]
 split
 ·rename_i hc
  rw [if_pos (show n.toNat < len by omega)]
  by_cases he : qeK9 h sz (.ptr id ver (off + n.toNat) 0) = true
  ·simp only [if_pos he]
   simp only [qeK9] at he
   split at he
   ·rename_i fz v sz' es heq
    simp only [heq]
    rw [if_pos (by simpa using he)]
   ·cases he
  ·simp only [if_neg he]
   simp only [qeK9] at he
   split
   ·rename_i fz v sz' es heq
    simp only [heq] at he
    rw [if_neg (by simpa using he)]
   ·rfl
 ·rfl
theorem qxM9 {k : IntKind} {n : Int} : (Value.int k n).oneCell' = true:=rfl
theorem qwm9 {b : Bool} : (Value.bool b).oneCell' = true:=rfl
theorem qyO9 {s : ByteArray} : (Value.string s).oneCell' = true:=rfl
theorem qwx9 : Value.nilIface.oneCell' = true:=rfl
theorem qkw9 {α : Type} {f : α→List D} {l : List α} {i : Nat} : (rowP f l)[i]? = (l[i]?).map fun a=>(f a).map PV.d:=by simp [rowP]
theorem qkJ9 {α : Type} {f : α→List D} : rowP f [] = []:=rfl
theorem qjq9 {α : Type} {f : α→List D} {a : α} {l : List α} : rowP f (a::l) = (f a).map PV.d::rowP f l:=rfl
theorem qkc9 {α : Type} {f : α→List D} {l m : List α} : rowP f (l++m) = rowP f l++rowP f m:=by simp [rowP]
theorem qgr9 {α : Type} {f : α→List D} {l : List α} : (rowP f l).length = l.length:=by simp [rowP]
theorem qtG9 {α : Type} {f : α→List D} {l : List α} : (rowP f l).take l.length = rowP f l:=by rw [← qgr9 (f:=f),List.take_length]
theorem qiz9 {α : Type} {f : α→List D} {l : List α} {n : Nat} (h : l.length = n) : (rowP f l).take n = rowP f l:=by rw [← h,qtG9]
theorem qwa9 {α : Type} {f : α→List D} {l : List α} {i : Nat} {a : α} : rowP f (l.set i a) = (rowP f l).set i ((f a).map PV.d):=by simp [rowP]
theorem qwe9 {α : Type} {f : α→List D} {l : List α} {h : AHeap} : elems h (.d (.rd (l.map f))) = some (rowP f l):=by simp [elems,rowP]
theorem qwV9 {h : AHeap} {t : Bool} {es : List (List PV)} : elems h (.im t es) = some es:=rfl
theorem qtA9 {h : AHeap} {id ver off len : Nat} : elems h (.ref id ver off len) = (rowAt h id ver).map fun p=>(p.2.2.drop off).take len:=rfl
theorem qef9 {α : Type} {f : α→List D} {n : Nat} (hf : ∀ a,(f a).length = n) {l : List α} : (rowP f l).all (fun cs=>cs.length == n) = true:=by
 simp [rowP,hf]
theorem quY9 {α : Type} {f : α→List D} {n : Nat} (hf : ∀ a,(f a).length = n) {l : List α} : (l.map f).all (fun cs=>cs.length == n) = true:=by
 simp [hf]
theorem qeB9 {α : Type} {f : α→List D} {n : Nat} (hf : ∀ a,(f a).length = n) {h : AHeap} {l : List α} {i k : Int} {a b : IntKind} : cutA n h (.d (.rd (l.map f))) (some (.d (.v (.int a i)))) (some (.d (.v (.int b k)))) = (cutL l i k).map fun l=>.d (.rd (l.map f)):=by
 simp only [cutA,lenP,bnd,qbj9,szOk,quY9 hf,List.length_map,cutL,cutP,true_and]
 by_cases hc : 0≤i∧i≤k∧k≤l.length
 ·rw [if_pos hc,if_pos hc,if_pos (by omega)]
  simp [List.map_drop,List.map_take]
 ·rw [if_neg hc,if_neg hc]; rfl
theorem qdv9 {α : Type} {f : α→List D} {n : Nat} (hf : ∀ a,(f a).length = n) {h : AHeap} {l : List α} {k : Int} {b : IntKind} : cutA n h (.d (.rd (l.map f))) none (some (.d (.v (.int b k)))) = (cutL l 0 k).map fun l=>.d (.rd (l.map f)):=by
 rw [← qeB9 hf (a:=.i64) (b:=b)]; rfl
theorem qdr9 {α : Type} {f : α→List D} {n : Nat} (hf : ∀ a,(f a).length = n) {h : AHeap} {l : List α} {i : Int} {a : IntKind} : cutA n h (.d (.rd (l.map f))) (some (.d (.v (.int a i)))) none = (cutL l i (l.length : Int)).map fun l=>.d (.rd (l.map f)):=by
 rw [← qeB9 hf (a:=a) (b:=.i64)]
 simp only [cutA,lenP,bnd,qbj9,List.length_map,Option.getD_some]; rfl
theorem qgJ9 {α : Type} {f : α→List D} {l : List α} {h : AHeap} {n : Nat} : mapO (mapO (rs h (n + 1))) (rowP f l) = some (l.map f):=by
 have h1 : ∀ ds : List D,mapO (rs h (n + 1)) (ds.map PV.d) = some ds:=by
  intro ds
  induction ds with
  | nil=>rfl
  | cons d r ih=>simp only [List.map_cons,mapO,rs_v,ih]
 induction l with
 | nil=>rfl
 | cons a r ih =>
  rw [qjq9]
  simp only [mapO,h1,ih,List.map_cons]
theorem qqO9 {α : Type} {f : α→List D} {l : List α} {h : AHeap} : mapO (mapO (rs h 39)) (rowP f l) = some (l.map f):=qgJ9 (n:=38)
theorem qgY9 {α : Type} {f : α→List D} {l : List α} {h : AHeap} {n : Nat} : (rowP f l).flatMap (fun cs=>cs.flatMap (reach h (n + 1))) = []:=by
 have h1 : ∀ ds : List D,(ds.map PV.d).flatMap (reach h (n + 1)) = []:=by
  intro ds
  induction ds with
  | nil=>rfl
  | cons d r ih=>simp only [List.map_cons,List.flatMap_cons,qxD9,ih,List.append_nil]
 induction l with
 | nil=>rfl
 | cons a r ih=>rw [qjq9,List.flatMap_cons,h1,ih]; rfl
theorem qnU9 {α : Type} {f : α→List D} {l : List α} {h : AHeap} : (rowP f l).flatMap (fun cs=>cs.flatMap (reach h 39)) = []:=qgY9 (n:=38)
theorem qzL9 {h : AHeap} {id ver off len : Nat} : rs h depth (.ref id ver off len) = match rowAt h id ver with
  | some p=>(mapO (mapO (rs h 39)) ((p.2.2.drop off).take len)).map .rd
  | none=>none:=by
 show (match rowAt h id ver with | some (_,_,es)=>(mapO (mapO (rs h 39)) ((es.drop off).take len)).map D.rd | none=>none) = _
 cases rowAt h id ver <;> rfl
theorem rs_im {h : AHeap} {t : Bool} {es : List (List PV)} : rs h depth (.im t es) = (mapO (mapO (rs h 39)) es).map .rd:=rfl
theorem rs_ag {h : AHeap} {cs : List PV} : rs h depth (.ag cs) = (mapO (rs h 39) cs).map .ag:=rfl
theorem qAs9 {h : AHeap} {t : TypeId} {x : PV} : rs h depth (.ifc t x) = (rs h 39 x).map (.ifc t):=rfl
theorem rs_fn {h : AHeap} {f : FuncId} {cs : List PV} : rs h depth (.fn f cs) = (mapO (rs h 39) cs).map (.fn f):=rfl
theorem qvx9 {h : AHeap} {f : FuncId} {cs : List PV} : reach h depth (.fn f cs) = cs.flatMap (reach h 39):=rfl
theorem qzj9 {h : AHeap} {id ver i off : Nat} : rs h depth (.ptr id ver i off) = match rowAt h id ver with
  | some p=>(p.2.2[i]?).bind fun cs=>(mapO (rs h 39) (cs.drop off)).map D.bx
  | none=>none:=by
 show (match rowAt h id ver with | some (_,_,es)=>(es[i]?).bind fun cs=>(mapO (rs h 39) (cs.drop off)).map D.bx | none=>none) = _
 cases rowAt h id ver <;> rfl
theorem qwt9 {h : AHeap} {id ver i off : Nat} : rs h 39 (.ptr id ver i off) = match rowAt h id ver with
  | some p=>(p.2.2[i]?).bind fun cs=>(mapO (rs h 38) (cs.drop off)).map D.bx
  | none=>none:=by
 show (match rowAt h id ver with | some (_,_,es)=>(es[i]?).bind fun cs=>(mapO (rs h 38) (cs.drop off)).map D.bx | none=>none) = _
 cases rowAt h id ver <;> rfl
theorem qtE9 {h : AHeap} {id ver i off : Nat} : reach h depth (.ptr id ver i off) = id::(match rowAt h id ver with
   | some p=>p.2.2.flatMap fun cs=>cs.flatMap (reach h 39)
   | none=>[]):=by
 show (id::(match rowAt h id ver with | some (_,_,es)=>es.flatMap fun cs=>cs.flatMap (reach h 39) | none=>[])) = _
 cases rowAt h id ver <;> rfl
theorem qrc9 {h : AHeap} {id ver i off : Nat} : reach h 39 (.ptr id ver i off) = id::(match rowAt h id ver with
   | some p=>p.2.2.flatMap fun cs=>cs.flatMap (reach h 38)
   | none=>[]):=by
 show (id::(match rowAt h id ver with | some (_,_,es)=>es.flatMap fun cs=>cs.flatMap (reach h 38) | none=>[])) = _
 cases rowAt h id ver <;> rfl
theorem qzV9 {h : AHeap} {x : D} : rs h 39 (.d x) = some x:=rfl
theorem qyV9 {h : AHeap} {t : Bool} {es : List (List PV)} : rs h 39 (.im t es) = (mapO (mapO (rs h 38)) es).map .rd:=rfl
theorem qyt9 {h : AHeap} {cs : List PV} : rs h 39 (.ag cs) = (mapO (rs h 38) cs).map .ag:=rfl
theorem qAy9 {h : AHeap} {x : D} : rs h 38 (.d x) = some x:=rfl
theorem qzd9 {h : AHeap} {t : Bool} {es : List (List PV)} : rs h 38 (.im t es) = (mapO (mapO (rs h 37)) es).map .rd:=rfl
theorem qAC9 {h : AHeap} {x : D} : rs h 37 (.d x) = some x:=rfl
theorem qtw9 {h : AHeap} {id ver off len : Nat} : reach h depth (.ref id ver off len) = id::(match rowAt h id ver with
   | some p=>p.2.2.flatMap fun cs=>cs.flatMap (reach h 39)
   | none=>[]):=by
 show (id::(match rowAt h id ver with | some (_,_,es)=>es.flatMap fun cs=>cs.flatMap (reach h 39) | none=>[])) = _
 cases rowAt h id ver <;> rfl
theorem qwz9 {h : AHeap} {t : Bool} {es : List (List PV)} : reach h depth (.im t es) = es.flatMap fun cs=>cs.flatMap (reach h 39):=rfl
theorem qvz9 {h : AHeap} {cs : List PV} : reach h depth (.ag cs) = cs.flatMap (reach h 39):=rfl
theorem qug9 {h : AHeap} {t : TypeId} {x : PV} : reach h depth (.ifc t x) = reach h 39 x:=rfl
theorem qur9 {h : AHeap} {x : D} : reach h 39 (.d x) = []:=rfl
theorem qsY9 {h : AHeap} {t : Bool} {es : List (List PV)} : reach h 39 (.im t es) = es.flatMap fun cs=>cs.flatMap (reach h 38):=rfl
theorem qsd9 {h : AHeap} {cs : List PV} : reach h 39 (.ag cs) = cs.flatMap (reach h 38):=rfl
theorem quD9 {h : AHeap} {x : D} : reach h 38 (.d x) = []:=rfl
theorem qrN9 {h : AHeap} {t : Bool} {es : List (List PV)} : reach h 38 (.im t es) = es.flatMap fun cs=>cs.flatMap (reach h 37):=rfl
theorem qve9 {h : AHeap} {x : D} : reach h 37 (.d x) = []:=rfl
theorem qAa9 {h : AHeap} {vs : List PV} : rsT h (.tp vs) = (mapO (rs h depth) vs).map fun ds=>.tp (ds.map .d):=rfl
theorem qyr9 {h : AHeap} {id ver off len : Nat} : rsT h (.ref id ver off len) = (rs h depth (.ref id ver off len)).map .d:=rfl
theorem qzl9 {h : AHeap} {t : Bool} {es : List (List PV)} : rsT h (.im t es) = (rs h depth (.im t es)).map .d:=rfl
theorem qzB9 {h : AHeap} {cs : List PV} : rsT h (.ag cs) = (rs h depth (.ag cs)).map .d:=rfl
theorem qyX9 {h : AHeap} {t : TypeId} {x : PV} : rsT h (.ifc t x) = (rs h depth (.ifc t x)).map .d:=rfl
theorem qyg9 {h : AHeap} : freezeAll [] h = h:=rfl
theorem qwl9 {i : Nat} {r : List Nat} {h : AHeap} : freezeAll (i::r) h = freezeAll r (h.modify i AObj.freeze):=rfl
theorem qvB9 {o : AObj} {h : AHeap} : (o::h).modify 0 AObj.freeze = o.freeze::h:=rfl
theorem qdX9 {o : AObj} {h : AHeap} {i : Nat} : (o::h).modify (i + 1) AObj.freeze = o::h.modify i AObj.freeze:=by simp
theorem qvn9 {g l : AHeap} {k : Nat} : (g++l).modify (g.length + k) AObj.freeze = g++l.modify k AObj.freeze:=by
 induction g with
 | nil=>simp
 | cons a r ih=>rw [List.cons_append,show (a::r).length + k = (r.length + k) + 1 by simp; omega,qdX9,ih]; rfl
theorem qym9 {g l : AHeap} : (g++l).modify g.length AObj.freeze = g++l.modify 0 AObj.freeze:=qvn9 (k:=0)
theorem qvd9 {α : Type} {g l : List α} {k : Nat} : (g++l)[g.length + k]? = l[k]?:=by rw [List.getElem?_append_right (by omega),Nat.add_sub_cancel_left]
theorem qyk9 {α : Type} {g l : List α} : (g++l)[g.length]? = l[0]?:=qvd9 (k:=0)
theorem qtH9 {α : Type} {g l : List α} {k : Nat} {x : α} : (g++l).set (g.length + k) x = g++l.set k x:=by rw [List.set_append_right _ _ (by omega),Nat.add_sub_cancel_left]
theorem qxA9 {α : Type} {g l : List α} {x : α} : (g++l).set g.length x = g++l.set 0 x:=qtH9 (k:=0)
theorem qsa9 {fz : Bool} {ver sz : Nat} {es : List (List PV)} : (AObj.row fz ver sz es).freeze = .row true ver sz es:=rfl
def cutBA (s : ByteArray) (l k : Int) : Option ByteArray:=if 0≤l∧l≤k∧k≤s.size then some (s.extract l.toNat k.toNat) else none
theorem qzR9 {s : ByteArray} {k : IntKind} {n : Int} : ixSA (.d (.v (.string s))) (.d (.v (.int k n))) = (sidx s n).map fun b=>.d (.v (.int .u8 b)):=by
 simp only [ixSA,sidx]
 split
 ·cases s[n.toNat]? <;> rfl
 ·rfl
theorem qiR9 {s : ByteArray} {a b : IntKind} {l k : Int} : cutSA (.d (.v (.string s))) (some (.d (.v (.int a l)))) (some (.d (.v (.int b k)))) = (cutBA s l k).map fun s=>.d (.v (.string s)):=by
 simp only [cutSA,bnd,qbj9,cutBA]
 split <;> rfl
theorem qxT9 {s : ByteArray} {b : IntKind} {k : Int} : cutSA (.d (.v (.string s))) none (some (.d (.v (.int b k)))) = (cutBA s 0 k).map fun s=>.d (.v (.string s)):=qiR9 (a:=.i64) (b:=b)
theorem qyn9 {s : ByteArray} {a : IntKind} {l : Int} : cutSA (.d (.v (.string s))) (some (.d (.v (.int a l)))) none = (cutBA s l (s.size : Int)).map fun s=>.d (.v (.string s)):=qiR9 (a:=a) (b:=.i64)
theorem qwj9 {α : Type} {f : α→List D} {n : Nat} {a : α} : rowP f (List.replicate n a) = List.replicate n ((f a).map PV.d):=by simp [rowP]
def bxD {α : Type} (f : α→List D) (x : α) : List D:=[.bx (f x)]
theorem quq9 {α : Type} {f : α→List D} {l m : List α} : rowP f l++rowP f m = rowP f (l++m):=by simp [rowP]
theorem qdU9 {α : Type} {f : α→List D} {l : List α} {a : α} {cs : List PV} {r : List (List PV)} (h : (f a).map PV.d = cs) : rowP f l++(cs::r) = rowP f (l++[a])++r:=by simp [rowP,h]
theorem qeM9 {α : Type} {f : α→List D} {l : List α} {i : Nat} {a : α} {cs : List PV} (h : (f a).map PV.d = cs) : (rowP f l).set i cs = rowP f (l.set i a):=by rw [qwa9,h]
theorem qfG9 {α : Type} {f : α→List D} {n : Nat} {a : α} {cs : List PV} (h : (f a).map PV.d = cs) : List.replicate n cs = rowP f (List.replicate n a):=by rw [qwj9,h]
theorem qvW9 {K V : Type} {k : K→Value} {f : V→List D} : mapP k f [] = []:=rfl
theorem qxj9 {K V : Type} {k : K→Value} {f : V→List D} {l : List (K × V)} : (mapP k f l).length = l.length:=by simp [mapP]
theorem cst0 : ((0 : Nat) : Int) = 0:=rfl
theorem cst1 : ((1 : Nat) : Int) = 1:=rfl
theorem cst2 : ((2 : Nat) : Int) = 2:=rfl
theorem cst3 : ((3 : Nat) : Int) = 3:=rfl
theorem cst4 : ((4 : Nat) : Int) = 4:=rfl
theorem cst5 : ((5 : Nat) : Int) = 5:=rfl
theorem cst6 : ((6 : Nat) : Int) = 6:=rfl
theorem cst7 : ((7 : Nat) : Int) = 7:=rfl
theorem cst8 : ((8 : Nat) : Int) = 8:=rfl
theorem qlv9 {x : D} (hx : ifInt x = true) : ∃ t n,x = .ifc t (.v (.int .i64 n)):=by
 unfold ifInt at hx
 split at hx
 ·exact ⟨_,_,rfl⟩
 ·cases hx
theorem qzS9 {x : D} (hx : ifInt x = true) {t : TypeId} {z : PV} : asrA t (some z) (.d x) true = some (match asI t .i64 x with | some n=>.tp [.d (.v (.int .i64 n)),.d (.v (.bool true))] | none=>.tp [z,.d (.v (.bool false))]):=by
 obtain ⟨t',n,rfl⟩:=qlv9 hx
 simp only [asrA,dynOf,asI]
 by_cases h : t' = t
 ·subst h; simp [okTup]
 ·simp [h]
theorem qzF9 {x : D} (hx : ifInt x = true) {t : TypeId} {z : PV} : asrA t (some z) (.d x) false = (asI t .i64 x).map fun n=>.d (.v (.int .i64 n)):=by
 obtain ⟨t',n,rfl⟩:=qlv9 hx
 simp only [asrA,dynOf,asI]
 by_cases h : t' = t
 ·subst h; simp [okTup]
 ·simp [h]
theorem qnO9 {V : Type} {f : V→List D} {l : List (Int × V)} {k : Int} : lookP (.int .i64 k) (mapP keyI f l) = some ((mget l k).map fun v=>((l.findIdx fun p=>decide (k = p.1)),match f v with | [x]=>PV.d x | cs=>.ag (cs.map PV.d))):=by
 induction l with
 | nil=>rfl
 | cons p r ih =>
  obtain ⟨k',v⟩:=p
  simp only [mapP,List.map_cons,keyI,lookP,keyEq,if_true,mget]
  by_cases h : k = k'
  ·subst h; simp [List.findIdx_cons]
  ·rw [show (k == k') = false by simpa using h,if_neg h]
   simp only [mapP,keyI] at ih
   simp only [ih,Option.map_some,List.findIdx_cons,h,decide_false,cond_false]
   cases mget r k <;> rfl
theorem qwk9 {V : Type} {f : V→List D} {l : List (Int × V)} {k : Int} {v : V} : mapP keyI f (mset l k v) = match mget l k with
  | none=>mapP keyI f l++[(.int .i64 k,match f v with | [x]=>PV.d x | cs=>.ag (cs.map PV.d))]
  | some _=>(mapP keyI f l).set (l.findIdx fun p=>decide (k = p.1)) (.int .i64 k,match f v with | [x]=>PV.d x | cs=>.ag (cs.map PV.d)):=by
 induction l with
 | nil=>rfl
 | cons p r ih =>
  obtain ⟨k',u⟩:=p
  simp only [mset,mget]
  by_cases h : k = k'
  ·subst h; simp [mapP,keyI,List.findIdx_cons]
  ·rw [if_neg h,if_neg h]
   simp only [mapP,keyI,List.map_cons] at ih ⊢
   rw [ih]
   simp only [List.findIdx_cons,h,decide_false,cond_false]
   cases mget r k with
   | none=>simp
   | some w=>simp
def mapV {V : Type} (f : V→List D) (v : V) : PV:=match f v with | [x]=>PV.d x | cs=>.ag (cs.map PV.d)
theorem qev9 {V : Type} {f : V→List D} {l : List (Int × V)} {k : Int} {v : V} {W : PV} (hW : mapV f v = W) : putP (.int .i64 k) W (mapP keyI f l) = some (mapP keyI f (mset l k v)):=by
 subst hW
 unfold putP
 rw [qnO9,qwk9]
 cases mget l k <;> rfl
end
end Go.Abs

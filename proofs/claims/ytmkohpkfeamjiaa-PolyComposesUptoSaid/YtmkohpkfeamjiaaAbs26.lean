import Derived.Test.YtmkohpkfeamjiaaAbs24
set_option maxHeartbeats 400000
set_option linter.unusedVariables false
set_option linter.unusedSimpArgs false
set_option linter.unusedSectionVars false
namespace Go.Abs
open Go

section
variable {P : Program} {h : AHeap}

theorem qpC9 {s ft : TypeId} {f o : Nat} (hf : ((qdb9 P s).bind (fun fs=>fs[f]?)).map (fun fd=>(fd.type,fd.offset)) = some (ft,o)) : ∃ fs fd,qdb9 P s = some fs∧fs[f]? = some fd∧fd.type = ft∧fd.offset = o:=by
 cases hs : qdb9 P s with
 | none=>simp [hs] at hf
 | some fs =>
  cases hq : fs[f]? with
  | none=>simp [hs,hq] at hf
  | some fd =>
   simp only [hs,Option.bind_some,hq,Option.map_some,Option.some.injEq,Prod.mk.injEq] at hf
   exact ⟨fs,fd,rfl,hq,hf.1,hf.2⟩
def qAT9 (P : Program) (ft : TypeId) (o : Nat) (h : AHeap) (X : PV) : Option (PV × AHeap):=match qdR9 X with
 | some cs=>(match partP P ft cs o with
  | some x=>some (x,h)
  | none=>none)
 | none=>none

def qjG9 (n b : Nat) (h : AHeap) (s : PV) (ys : List (List PV)) : Option (PV × AHeap):=match s with
 | .im true es=>if (es.length + ys.length) * b≤140737488355328∧(es = []∨ys ≠ [])∧ys.all (fun cs=>cs.length == n) = true∧es.all (fun cs=>cs.length == n) = true then
   some (.ref h.length 0 0 (es.length + ys.length),h++[.row false 0 n (es++ys)]) else none
 | .ref id ver off len=>match h[id]? with
  | some (.row fz ver' sz es)=>if fz = false∧ver = ver'∧sz = n∧(len + ys.length) * b≤140737488355328∧ys.all (fun cs=>cs.length == n) = true then
    some (.ref id (ver + 1) 0 (len + ys.length),h.set id (.row fz (ver + 1) sz ((es.drop off).take len++ys))) else none
  | _=>none
 | _=>none
theorem qvl9 {t e : TypeId} {n b : Nat} (he : qt9 P t = some e) (hi : (P.info? e).map (fun i=>(i.size,i.bytes,qhz9 i)) = some (n,b,true)) (hn : n ≠ 0) (hb : b ≠ 0) {s : PV} {ys : List (List PV)} : qgt9 P h t s ys = qjG9 n b h s ys:=by
 cases hq : P.info? e with
 | none=>rw [hq] at hi; cases hi
 | some i =>
  rw [hq] at hi
  simp only [Option.map_some,Option.some.injEq,Prod.mk.injEq] at hi
  obtain ⟨rfl,rfl,hz⟩:=hi
  have hc : ¬ (i.size = 0∨i.bytes = 0∨qhz9 i = false):=by
   rintro (c | c | c)
   ·exact hn c
   ·exact hb c
   ·rw [hz] at c; cases c
  simp only [qgt9,he,hq,if_neg hc]
  rfl
theorem qtx9 {C : Cfg} {L : Oracle} {t t' e : TypeId} {ty : TypeId} {fv s x : PV} (he : qt9 C.P t' = some e) : qcA9 C L h (.builtin .append) fv #[t,t'] ty [s,x] = match elems h x with
  | some ys=>qgt9 C.P h t s ys
  | none=>none:=by
 simp only [qcA9,qbh9]
 have hz : ∀ n,qgg9 C.P h t t' n = none:=by
  intro n
  unfold qgg9
  rw [qbr9 he]
  cases qt9 C.P t <;> rfl
 show (match qt9 C.P t',elems h x with
  | some _,some ys=>qgt9 C.P h t s ys
  | _,_=>match s,x with
   | .im true [],.d (.v (.int _ n))=>qgg9 C.P h t t' n
   | _,_=>none) = _
 rw [he]
 cases elems h x with
 | some ys=>rfl
 | none =>
  simp only
  split
  ·exact hz _
  ·rfl

def qhC9 (tab : List (Nat × Nat)) : List PV→List (Nat × PV)→Option (List PV)
 | cs,[]=>some cs
 | cs,(i,x)::r=>match tab[i]? with
  | none=>none
  | some (off,n)=>if qcP9 x = true∧(qU9 x).length = n∧off + n≤cs.length then qhC9 tab (splice cs off (qU9 x)) r else none
theorem quo9 {fs : Array Field} {tab : List (Nat × Nat)} (ht : mapO (fun f : Field=>(sizeT P f.type).map fun n=>(f.offset,n)) fs.toList = some tab) : ∀ (ps : List (Nat × PV)) (cs : List PV),qgG9 fs P cs ps = qhC9 tab cs ps:=by
 have key : ∀ (l : List Field) (tab : List (Nat × Nat)),mapO (fun f : Field=>(sizeT P f.type).map fun n=>(f.offset,n)) l = some tab→∀ i : Nat,tab[i]? = (l[i]?).bind fun f : Field=>(sizeT P f.type).map fun n=>(f.offset,n):=by
  intro l
  induction l with
  | nil=>intro tab h i; simp only [mapO,Option.some.injEq] at h; subst h; simp
  | cons a r ih =>
   intro tab h i
   simp only [mapO] at h
   cases ha : (sizeT P a.type).map fun n=>(a.offset,n) with
   | none=>simp [ha] at h
   | some y =>
    simp only [ha] at h
    cases hr : mapO (fun f : Field=>(sizeT P f.type).map fun n=>(f.offset,n)) r with
    | none=>simp [hr] at h
    | some ys =>
     simp only [hr,Option.some.injEq] at h
     subst h
     cases i with
     | zero=>simp [ha]
     | succ i=>simpa using ih ys hr i
 have hk:=key _ _ ht
 intro ps
 induction ps with
 | nil=>intro cs; rfl
 | cons p r ih =>
  intro cs
  obtain ⟨i,x⟩:=p
  simp only [qgG9,qhC9,hk,Array.getElem?_toList]
  cases hf : fs[i]? with
  | none=>rfl
  | some f =>
   simp only [Option.bind_some]
   cases hn : sizeT P f.type with
   | none=>rfl
   | some n =>
    simp only [Option.map_some]
    split
    ·exact ih _
    ·rfl
theorem qwf9 {t : TypeId} {fs : Array Field} {zs : List PV} {tab : List (Nat × Nat)} (hz : zeroCells P t = some zs) (hu : P.underlying t = some (.struct fs)) (hall : fs.toList.all (fun f=>(P.info? f.type).isSome) = true)
  (ht : mapO (fun f : Field=>(sizeT P f.type).map fun n=>(f.offset,n)) fs.toList = some tab) {ps : List (Nat × PV)} : qhj9 P h t ps = match qhC9 tab zs ps with
  | some cs=>some (.ag cs,h)
  | none=>none:=by
 simp only [qhj9,hz,hu,hall,if_true,quo9 ht]
 cases qhC9 tab zs ps <;> rfl
theorem qno9 {t e : TypeId} {n len : Nat} {zs : List PV} (he : qt9 P t = some e) (hz : zeroCells P e = some zs) (hn : sizeT P e = some n) (h0 : 0 < n) {ps : List (Nat × PV)} : qcD9 P h t len ps = if len = ps.length∧len * n≤16777216 then (match qcG9 n 0 ps with
  | some es=>some (.im true es,h)
  | none=>none) else none:=by
 simp only [qcD9,he,hz,hn]
 by_cases hc : len = ps.length∧len * n≤16777216
 ·rw [if_pos hc,if_pos ⟨hc.1,h0,hc.2⟩]
  cases qcG9 n 0 ps <;> rfl
 ·rw [if_neg hc,if_neg (fun h=>hc ⟨h.1,h.2.2⟩)]
theorem qvZ9 {t : TypeId} {d : TypeDesc} (hu : P.underlying t = some d) (hd : ∀ ms,d ≠ .interface ms) {X : PV} : qhp9 P h t X = some (.ifc t X,h):=by
 cases d <;> first | exact absurd rfl (hd _) | simp [qhp9,hu]
theorem qtv9 {t : TypeId} {d : TypeDesc} (hu : P.underlying t = some d) (hd : ∀ ms,d ≠ .interface ms) {X : PV} {ok : Bool} : qeV9 P h X t ok = qfA9 P h X t ok:=by
 cases d <;> first | exact absurd rfl (hd _) | simp [qeV9,hu]
theorem qxa9 {s d : TypeId} {ds : TypeDesc} {k k' : IntKind} {n : Int} (hs : P.underlying s = some ds) (hd : P.underlying d = some (.int k)) : qel9 P h s d (.d (.v (.int k' n))) = some (.d (.v (.int k (k.wrap n))),h):=by
 have e : pev P (convert s d (.int k' n)) = some (.int k (k.wrap n)):=by
  simp only [convert,underlying,program,bind,pure,Sem.bind,pev,hs,hd]
  cases ds <;> rfl
 simp [qel9,toV,e]
end
end Go.Abs
namespace Go.Abs
open Go
section
variable {P : Program} {h : AHeap} {t : TypeId}
theorem rs_v {x : D} {n : Nat} : rs h (n + 1) (.d x) = some x:=rfl
theorem qxD9 {x : D} {n : Nat} : reach h (n + 1) (.d x) = []:=rfl
end
end Go.Abs
namespace Go.Abs
open Go
section
variable {C : Cfg} {L : Oracle} {h : AHeap}
theorem qle9 {α : Type} {f : α→List D} {l : List α} : rs h depth (rowD f l) = some (.rd (l.map f)):=rfl
theorem rs_dd {x : D} : rs h depth (.d x) = some x:=rfl
theorem qjg9 {α : Type} {f : α→List D} {l : List α} : reach h depth (rowD f l) = []:=rfl
theorem qoV9 {x : D} : reach h depth (.d x) = []:=rfl
theorem rsT_d {x : D} : rsT h (.d x) = some (.d x):=rfl
end
end Go.Abs
namespace Go.Abs
open Go
section
variable {C : Cfg} {L : Oracle} {nt : Nat} {ops : Array Oper} {env te : Env} {h : AHeap}
end
end Go.Abs
namespace Go.Abs
open Go


end Go.Abs

import Derived.Test.YtmkohpkfeamjiaaAbs20
import Derived.Scope
set_option maxHeartbeats 400000
set_option linter.unusedVariables false
set_option linter.unusedSimpArgs false
set_option linter.unusedSectionVars false
namespace Go.Abs
open Go Go.RowKit

theorem Env.get_set : ∀ (e : Env) (i : Nat) (v : PV) (j : Nat),(e.set i v).get j = if j = i then v else e.get j:=by
 intro e
 induction e with
 | nil=>intro i v j; simp only [Env.set,Env.get]
 | cons p r ih =>
  intro i v j
  obtain ⟨k,u⟩:=p
  simp only [Env.set]
  split
  ·rename_i h; subst h
   simp only [Env.get]
   by_cases hj : j = i
   ·simp [hj]
   ·simp [hj]
  ·split
   ·simp only [Env.get]
   ·simp only [Env.get,ih]
    by_cases hj : j = i
    ·subst hj
     rename_i hne _
     rw [if_neg hne]; simp
    ·simp [hj]
theorem Env.get_del (l : Nat) : ∀ (e : Env) (j : Nat),(e.del l).get j = if l.testBit j = true then .junk else e.get j:=by
 intro e
 induction e with
 | nil=>intro j; simp [Env.del,Env.get]
 | cons p r ih =>
  intro j
  obtain ⟨k,u⟩:=p
  simp only [Env.del]
  split
  ·rename_i h
   rw [ih,Env.get]
   by_cases hj : j = k
   ·subst hj; simp only [h,if_true]
   ·rw [if_neg hj]
  ·rename_i h
   simp only [Env.get,ih]
   by_cases hj : j = k
   ·subst hj; rw [if_pos rfl,if_neg h]; simp
   ·rw [if_neg hj,if_neg hj]
theorem Env.get_commit (keep : Nat) (e : Env) : ∀ (te : Env) (i : Nat),(Env.commit keep te e).get i = if keep.testBit i = true then get2 te e i else e.get i:=by
 intro te
 induction te with
 | nil=>intro i; simp only [Env.commit,get2]; split <;> rfl
 | cons p r ih =>
  intro i
  obtain ⟨k,u⟩:=p
  simp only [get2,Env.commit]
  by_cases hk : keep.testBit k = true
  ·rw [if_pos hk,Env.get_set,ih]
   by_cases hi : i = k
   ·subst hi; simp only [if_true,hk]
   ·rw [if_neg hi,if_neg hi]
  ·rw [if_neg hk,ih]
   by_cases hi : i = k
   ·subst hi; rw [if_neg hk,if_neg hk]
   ·rw [if_neg hi]

def qbb9 (t : Hint) : Code→Bool
 | .region id ops draw=>!draw || okReg ops (t.wrs id)
 | .seq a b=>qbb9 t a && qbb9 t b
 | .cond _ a b=>qbb9 t a && qbb9 t b
 | .block _ c=>qbb9 t c
 | .loop c=>qbb9 t c
 | _=>true

def AExit.to : AExit→Exit
 | .normal=>.normal
 | .exit id=>.exit id
 | .ret=>.ret
 | .goto l=>.goto l

section
variable {W0 : World} {X : Nat→Prop}

structure SRel (W0 : World) (X : Nat→Prop) (t : Hint) (na nt : Nat) (s : St) (m : Places) (w : World) (a : Act) : Prop where
 size : a.tmps.size = nt
 dfs : a.defers = []
 heap : HRel W0 X s.h m w
 env : TRel (Ex X s.h m) s.h m w s.env.get a
 keep : ∀ i,na≤i→t.keep.testBit i = false→s.env.get i = .junk

theorem SRel.del {t : Hint} {na nt : Nat} {s : St} {m : Places} {w : World} {a : Act} (hs : SRel W0 X t na nt s m w a) (l : Nat) : SRel W0 X t na nt ⟨Env.del l s.env,s.h⟩ m w a :=
 ⟨hs.size,hs.dfs,hs.heap,fun i=>by
  show VRel _ _ _ _ ((Env.del l s.env).get i) _
  rw [Env.get_del]
  split
  ·exact .junk _
  ·exact hs.env i,fun i h1 h2=>by
  show (Env.del l s.env).get i = _
  rw [Env.get_del]
  split
  ·rfl
  ·exact hs.keep i h1 h2⟩

theorem qwc9 (t : Hint) (c : Operand) (s : St) : (condSt t c s).h = s.h:=by
 unfold condSt
 split
 ·split <;> rfl
 ·rfl
theorem SRel.condSt {t : Hint} {na nt : Nat} {s : St} {m : Places} {w : World} {a : Act} (hs : SRel W0 X t na nt s m w a) (c : Operand) : SRel W0 X t na nt (condSt t c s) m w a:=by
 unfold Go.Abs.condSt
 split
 ·split
  ·exact hs
  ·exact hs.del _
 ·exact hs

theorem qoX9 {C : Cfg} {L : Oracle} {nt : Nat} {ops : Array Oper} {env : Env} (i : Nat) : ∀ (l : List Oper),(∀ o∈l,o.dst ≠ some i)→∀ {te te1 : Env} {h h1 : AHeap},opsS C L nt ops env l te h = some (te1,h1)→get2 te1 env i = get2 te env i:=by
 intro l
 induction l with
 | nil=>intro _ te te1 h h1 ho; simp only [opsS,Option.some.injEq,Prod.mk.injEq] at ho; rw [ho.1]
 | cons o r ih =>
  intro hne te te1 h h1 ho
  simp only [opsS,opT] at ho
  cases hv : opV C L nt ops (get2 te env) h o with
  | none=>simp [hv] at ho
  | some p0 =>
   simp only [hv,Option.bind_some] at ho
   cases hco : (if (C.settle o && o.dst.isSome) = true then coV p0.2 0 p0.1 else some p0) with
   | none=>rw [hco] at ho; simp at ho
   | some p =>
   rw [hco] at ho
   simp only [Option.bind_some] at ho
   cases hp : putT nt o.dst p.1 te with
   | none=>simp [hp] at ho
   | some te2 =>
    simp only [hp,Option.map_some,Option.bind_some] at ho
    rw [ih (fun o' ho'=>hne o' (by simp [ho'])) ho,(qhL9 (env:=env) hp).2 i]
    have:=hne o (by simp)
    cases hd : o.dst with
    | none=>rfl
    | some d =>
     simp only [setG]
     rw [if_neg]
     intro e; subst e; exact this hd
theorem qqf9 {C : Cfg} {L : Oracle} {nt : Nat} {W : List Nat} {ops : Array Oper} {env : Env} (i : Nat) : ∀ (l : List Oper) (k : Nat),(∀ o∈l,o.dst ≠ some i)→∀ {te te1 : Env} {h h1 : AHeap},opsD C L nt W ops env k l te h = some (te1,h1)→get2 te1 env i = get2 te env i:=by
 intro l
 induction l with
 | nil=>intro k _ te te1 h h1 ho; simp only [opsD,Option.some.injEq,Prod.mk.injEq] at ho; rw [ho.1]
 | cons o r ih =>
  intro k hne te te1 h h1 ho
  simp only [opsD,opS] at ho
  cases hv : opV C L nt ops (get2 te env) h o with
  | none=>simp [hv] at ho
  | some p =>
   simp only [hv,Option.bind_some] at ho
   cases hp : putT nt o.dst p.1 te with
   | none=>simp [hp] at ho
   | some te2 =>
    simp only [hp,Option.map_some,Option.bind_some] at ho
    split at ho
    ·rw [ih (k + 1) (fun o' ho'=>hne o' (by simp [ho'])) ho,(qhL9 (env:=env) hp).2 i]
     have:=hne o (by simp)
     cases hd : o.dst with
     | none=>rfl
     | some d =>
      simp only [setG]
      rw [if_neg]
      intro e; subst e; exact this hd
    ·cases ho

theorem SRel.commit {t : Hint} {na nt : Nat} {s : St} {m m' : Places} {w w' : World} {a a' : Act} {h1 : AHeap} {te1 : Env} {ops : Array Oper} (hs : SRel W0 X t na nt s m w a) (hok : ∀ o∈ops,∀ d,o.dst = some d→t.keep.testBit d = true∨na≤d)
  (hget : ∀ i,(∀ o∈ops.toList,o.dst ≠ some i)→get2 te1 s.env i = s.env.get i) (h1' : a'.tmps.size = nt) (h2 : a'.defers = []) (h3 : TRel (Ex X h1 m') h1 m' w' (get2 te1 s.env) a') (h4 : HRel W0 X h1 m' w') : SRel W0 X t na nt ⟨Env.commit t.keep te1 s.env,h1⟩ m' w' a':=by
 refine ⟨h1',h2,h4,fun i=>?_,fun i hi hk=>?_⟩
 ·show VRel _ _ _ _ ((Env.commit t.keep te1 s.env).get i) _
  rw [Env.get_commit]
  split
  ·exact h3 i
  ·rename_i hk
   rcases Nat.lt_or_ge i na with c | c
   ·have : ∀ o∈ops.toList,o.dst ≠ some i:=by
     intro o ho hd
     rcases hok o (by simpa using ho) i hd with e | e
     ·exact hk e
     ·omega
    rw [← hget i this]
    exact h3 i
   ·rw [hs.keep i c (by simpa using hk)]
    exact .junk _
 ·show (Env.commit t.keep te1 s.env).get i = _
  rw [Env.get_commit,hk,if_neg (by simp)]
  exact hs.keep i hi hk

theorem qje9 {t : Hint} {nt : Nat} {w : World} {a : Act} : ∀ (l : List (Nat × Nat)) (s s' : St) (m : Places),SRel W0 X t 0 nt s m w a→coE t l s = some s'→∃ m',SRel W0 X t 0 nt s' m' w a∧Evo (Ex X s.h m) s.h m w (Ex X s'.h m') s'.h m' w:=by
 intro l
 induction l with
 | nil =>
  intro s s' m hs ho
  simp only [coE,Option.some.injEq] at ho
  subst ho
  exact ⟨m,hs,Evo.refl _ _ _ _⟩
 | cons p r ih =>
  obtain ⟨i,k⟩:=p
  intro s s' m hs ho
  simp only [coE] at ho
  split at ho
  ·rename_i hk
   split at ho
   ·rename_i q hq
    obtain ⟨x,h1⟩:=q
    obtain ⟨m1,a1,a2,a3⟩:=qjr9 hs.heap (hs.env i) hq
    have hs1 : SRel W0 X t 0 nt ⟨s.env.set i x,h1⟩ m1 w a:=by
     refine ⟨hs.size,hs.dfs,a2,fun j=>?_,fun j _ hj=>?_⟩
     ·show VRel _ _ _ _ ((s.env.set i x).get j) _
      rw [Env.get_set]
      split
      ·rename_i e; subst e; exact a1
      ·exact (hs.env j).evo a3
     ·show (s.env.set i x).get j = _
      rw [Env.get_set,if_neg (fun e=>by subst e; rw [hk] at hj; cases hj)]
      exact hs.keep j (Nat.zero_le _) hj
    obtain ⟨m2,b1,b2⟩:=ih _ _ _ hs1 ho
    exact ⟨m2,b1,a3.trans b2⟩
   ·cases ho
  ·cases ho

theorem qbo9 {C : Cfg} {L : Oracle} (hC : CSound W0 C) (hL : OSound W0 C L) (hm : C.P.follows .mixedOrders = true) (t : Hint) (nt : Nat) : ∀ (c : Code) (s : St) (e : AExit) (s' : St),sem C L t nt c s = some (e,s')→qbb9 t c = true→∀ (Q : Exit→Act→World→Prop) (m : Places) (w : World) (a : Act),SRel W0 X t 0 nt s m w a →
  (∀ a' m' w',SRel W0 X t 0 nt s' m' w' a'→Evo (Ex X s.h m) s.h m w (Ex X s'.h m') s'.h m' w'→Q e.to a' w')→c.wp C.P Q a w:=by
 intro c
 induction c with
 | skip =>
  intro s e s' hs hok Q m w a hr hQ
  simp only [sem,Option.some.injEq,Prod.mk.injEq] at hs
  obtain ⟨rfl,rfl⟩:=hs
  exact wp_skip (hQ a m w hr (Evo.refl _ _ _ _))
 | exit id =>
  intro s e s' hs hok Q m w a hr hQ
  simp only [sem,Option.some.injEq,Prod.mk.injEq] at hs
  obtain ⟨rfl,rfl⟩:=hs
  exact wp_exit (hQ a m w hr (Evo.refl _ _ _ _))
 | ret =>
  intro s e s' hs hok Q m w a hr hQ
  simp only [sem,Option.some.injEq,Prod.mk.injEq] at hs
  obtain ⟨rfl,rfl⟩:=hs
  exact wp_ret (hQ a m w hr (Evo.refl _ _ _ _))
 | goto id =>
  intro s e s' hs hok Q m w a hr hQ
  simp only [sem,Option.some.injEq,Prod.mk.injEq] at hs
  obtain ⟨rfl,rfl⟩:=hs
  exact wp_goto (hQ a m w hr (Evo.refl _ _ _ _))
 | region id ops draw =>
  intro s0 e s'0 hs hok Q m0 w a hr0 hQ0
  simp only [qbb9] at hok
  have hpre : ∃ s,coE t (lookC t.pre id) s0 = some s:=by
   cases hq : coE t (lookC t.pre id) s0 with
   | none=>cases draw <;> simp [sem,hq] at hs
   | some s=>exact ⟨s,rfl⟩
  obtain ⟨s,hpre⟩:=hpre
  obtain ⟨m,hr,hev0⟩:=qje9 _ _ _ _ hr0 hpre
  have hQ : ∀ s',coE t (lookC t.post id) s' = some s'0→e = .normal→∀ a' m' w',SRel W0 X t 0 nt s' m' w' a'→Evo (Ex X s.h m) s.h m w (Ex X s'.h m') s'.h m' w'→Q e.to a' w':=by
   intro s' hp _ a' m' w' h1 h2
   obtain ⟨m2,k1,k2⟩:=qje9 _ _ _ _ h1 hp
   exact hQ0 a' m2 w' k1 (hev0.trans (h2.trans k2))
  have hok1 : ∀ o∈ops,∀ d,o.dst = some d→t.keep.testBit d = true∨0≤d:=fun _ _ _ _=>.inr (Nat.zero_le _)
  cases draw with
  | false =>
   simp only [sem,hpre,Option.bind_some,Option.bind_eq_some_iff,Option.map_eq_some_iff,Prod.mk.injEq] at hs
   obtain ⟨⟨te1,h1⟩,ho,s2,hpost,rfl,rfl⟩:=hs
   refine wp_region ?_
   have:=qlm9 (Q:=Q) hC hL (X:=X) ops.toList 0 (by simp) (te:=[]) hr.heap hr.size hr.dfs hr.env ho (fun a' m' w' b1 b2 b3 b4 b5=>hQ _ hpost rfl a' m' w' (hr.commit hok1 (fun i hi=>qoX9 i _ hi ho) b1 b2 b3 b4) b5)
   simpa using this
  | true =>
   simp only [sem,hpre,Option.bind_some,Option.bind_eq_some_iff,Option.map_eq_some_iff,Prod.mk.injEq] at hs
   obtain ⟨⟨te1,h1⟩,ho,s2,hpost,rfl,rfl⟩:=hs
   have hok2 : OkReg ops (t.wrs id):=qsT9 (by simpa using hok)
   obtain ⟨R,Hh,G,a1,a2,a3,a4,a5⟩:=qti9 _ _ ho
   have htr : ∀ (j : Nat) (o : Oper),ops[j]? = some o→opV C L nt ops (G j) (Hh j) o = some (R j,Hh (j + 1))∧(∀ d,o.dst = some d→d < nt)∧((t.wrs id).contains j = true∨Hh (j + 1) = Hh j)∧(∀ i,G (j + 1) i = setG (G j) o.dst (R j) i)∧((t.wrs id).contains (j + 1000) = true→qcS9 C (G j) o = true):=by
    intro j o hj
    have:=a5 j o (by simpa using hj)
    simpa using this
   have hlen : ops.toList.length = ops.size:=by simp
   rw [hlen] at a3 a4
   have hdrew : Evo (Ex X s.h m) s.h m w (Ex X s.h m) s.h m { w with drawn:=w.drawn + 1 }:=Evo.grow hr.heap rfl rfl ⟨rfl,Nat.le_succ _⟩ (Nat.le_refl _) (fun _ _=>rfl)
   have hH : HRel W0 X s.h m { w with drawn:=w.drawn + 1 }:=HRel.grow hr.heap rfl rfl ⟨rfl,Nat.le_succ _⟩ (Nat.le_refl _) (fun _ _=>rfl)
   have hlist : ∀ k,(Array.replicate ops.size false).getD k false = false:=by
    intro k
    rw [Array.getD_eq_getD_getElem?,Array.getElem?_replicate]
    split <;> rfl
   -- nothing is done yet
   have hH0 : Hh (qH9 (t.wrs id) ops.size (Array.replicate ops.size false)) = s.h:=by
    have hno : ∀ k,k < qH9 (t.wrs id) ops.size (Array.replicate ops.size false)→(t.wrs id).contains k = false:=by
     intro k hk
     cases hw : (t.wrs id).contains k with
     | false=>rfl
     | true =>
      have:=qhO9 hk hw
      rw [hlist] at this
      cases this
    have : ∀ j,j≤qH9 (t.wrs id) ops.size (Array.replicate ops.size false)→Hh j = Hh 0:=by
     intro j
     induction j with
     | zero=>intro _; rfl
     | succ j ih =>
      intro hj
      have hfl:=qeE9 (t.wrs id) ops.size (Array.replicate ops.size false)
      rcases (htr j ops[j] (Array.getElem?_eq_getElem (by omega))).2.2.1 with hw | hw
      ·rw [hno j (by omega)] at hw; cases hw
      ·rw [hw]; exact ih (by omega)
    rw [this _ (Nat.le_refl _),a1]
   refine wp_region_any hm ?_
   refine quA9 (X:=X) hC hL (W:=t.wrs id) (R:=R) (Hh:=Hh) (G:=G) (m0:=m) (w0:=w) hok2 htr (fun a' m' w' b1 b2 b3 b4 b5=>?_) ops.size (Array.replicate ops.size false) a m _ (by simp) ?_ (fun j k hj _=>by rw [hlist] at hj; cases hj) hr.size hr.dfs (by rw [hH0]; exact hH) (by
    rw [hH0]
    intro i
    unfold gAt
    split
    ·rw [a2 i]; exact (hr.env i).evo hdrew
    ·rename_i hno
     have : ∀ o∈ops.toList,o.dst ≠ some i:=by
      intro o ho' hd
      obtain ⟨k,hk⟩:=List.getElem?_of_mem ho'
      have hk' : ops[k]? = some o:=by simpa using hk
      exact hno ⟨k,by rw [hk']; exact hd,hlist k⟩
     rw [a4 i,qqf9 i _ _ this ho]
     exact (hr.env i).evo hdrew) (by rw [hH0,a1]; exact hdrew)
   ·rw [a3] at b3 b4 b5
    rw [a1] at b5
    exact hQ _ hpost rfl a' m' w' (hr.commit hok1 (fun i hi=>qqf9 i _ _ hi ho) b1 b2 (b3.congr fun i=>(a4 i).symm) b4) b5
   ·simp
 | seq x y ihx ihy =>
  intro s e s' hs hok Q m w a hr hQ
  simp only [qbb9,Bool.and_eq_true] at hok
  simp only [sem] at hs
  refine wp_seq ?_
  cases hx : sem C L t nt x s with
  | none=>simp [hx] at hs
  | some p =>
   obtain ⟨e1,s1⟩:=p
   refine ihx s e1 s1 hx hok.1 _ m w a hr (fun a' m' w' h1 h2=>?_)
   cases e1 with
   | normal =>
    simp only [hx] at hs
    exact ihy s1 e s' hs hok.2 Q m' w' a' h1 (fun a'' m'' w'' k1 k2=>hQ a'' m'' w'' k1 (h2.trans k2))
   | exit j =>
    simp only [hx,Option.some.injEq,Prod.mk.injEq] at hs
    obtain ⟨rfl,rfl⟩:=hs
    exact hQ a' m' w' h1 h2
   | ret =>
    simp only [hx,Option.some.injEq,Prod.mk.injEq] at hs
    obtain ⟨rfl,rfl⟩:=hs
    exact hQ a' m' w' h1 h2
   | goto l =>
    simp only [hx,Option.some.injEq,Prod.mk.injEq] at hs
    obtain ⟨rfl,rfl⟩:=hs
    exact hQ a' m' w' h1 h2
 | cond c x y ihx ihy =>
  intro s e s' hs hok Q m w a hr hQ
  simp only [qbb9,Bool.and_eq_true] at hok
  simp only [sem] at hs
  have hcv:=hr.env.op c
  have hr':=hr.condSt c
  have hh:=qwc9 t c s
  split at hs
  ·rename_i hc
   rw [hc] at hcv
   refine wp_cond_true hcv.as_bool (ihx _ e s' hs hok.1 Q m w a hr' (fun a' m' w' k1 k2=>hQ a' m' w' k1 ?_))
   rw [hh] at k2
   exact k2
  ·rename_i hc
   rw [hc] at hcv
   refine wp_cond_false hcv.as_bool (ihy _ e s' hs hok.2 Q m w a hr' (fun a' m' w' k1 k2=>hQ a' m' w' k1 ?_))
   rw [hh] at k2
   exact k2
  ·cases hs
 | block id c ih =>
  intro s e s' hs hok Q m w a hr hQ
  simp only [qbb9] at hok
  simp only [sem] at hs
  refine wp_block ?_
  cases hx : sem C L t nt c s with
  | none=>simp [hx] at hs
  | some p =>
   obtain ⟨e1,s1⟩:=p
   refine ih s e1 s1 hx hok _ m w a hr (fun a' m' w' h1 h2=>?_)
   cases e1 with
   | normal =>
    simp only [hx,Option.some.injEq,Prod.mk.injEq] at hs
    obtain ⟨rfl,rfl⟩:=hs
    exact hQ a' m' w' (h1.del _) h2
   | exit j =>
    simp only [hx] at hs
    simp only [AExit.to,Exit.inBlock]
    split at hs
    ·rename_i hj
     simp only [Option.some.injEq,Prod.mk.injEq] at hs
     obtain ⟨rfl,rfl⟩:=hs
     rw [if_pos hj]
     exact hQ a' m' w' (h1.del _) h2
    ·rename_i hj
     simp only [Option.some.injEq,Prod.mk.injEq] at hs
     obtain ⟨rfl,rfl⟩:=hs
     rw [if_neg hj]
     exact hQ a' m' w' h1 h2
   | ret =>
    simp only [hx,Option.some.injEq,Prod.mk.injEq] at hs
    obtain ⟨rfl,rfl⟩:=hs
    exact hQ a' m' w' h1 h2
   | goto l =>
    simp only [hx,Option.some.injEq,Prod.mk.injEq] at hs
    obtain ⟨rfl,rfl⟩:=hs
    exact hQ a' m' w' h1 h2
 | loop c ih =>
  intro s e s' hs hok Q m w a hr hQ
  simp only [qbb9] at hok
  simp only [sem,qM9] at hs
  split at hs
  ·rename_i hex
   simp only [Option.some.injEq] at hs
   have hn:=Classical.choose_spec (Classical.choose_spec hex)
   rw [hs] at hn
   refine wp_loop_ghost (fun n a' w'=>∃ s1 m',SRel W0 X t 0 nt s1 m' w' a'∧iterN (sem C L t nt c) n s1 = some (e,s')∧Evo (Ex X s.h m) s.h m w (Ex X s1.h m') s1.h m' w') _ ⟨s,m,hr,hn,Evo.refl _ _ _ _⟩ ?_
   rintro n a1 w1 ⟨s1,m1,k1,k2,k3⟩
   cases n with
   | zero=>simp [iterN] at k2
   | succ n =>
    simp only [iterN] at k2
    cases hx : sem C L t nt c s1 with
    | none=>simp [hx] at k2
    | some p =>
     obtain ⟨e1,s2⟩:=p
     refine ih s1 e1 s2 hx hok _ m1 w1 a1 k1 (fun a' m' w' h1 h2=>?_)
     cases e1 with
     | normal =>
      simp only [hx] at k2
      exact ⟨n,Nat.lt_succ_self n,s2,m',h1,k2,k3.trans h2⟩
     | exit j =>
      simp only [hx,Option.some.injEq,Prod.mk.injEq] at k2
      obtain ⟨rfl,rfl⟩:=k2
      exact hQ a' m' w' h1 (k3.trans h2)
     | ret =>
      simp only [hx,Option.some.injEq,Prod.mk.injEq] at k2
      obtain ⟨rfl,rfl⟩:=k2
      exact hQ a' m' w' h1 (k3.trans h2)
     | goto l =>
      simp only [hx,Option.some.injEq,Prod.mk.injEq] at k2
      obtain ⟨rfl,rfl⟩:=k2
      exact hQ a' m' w' h1 (k3.trans h2)
  ·cases hs
 | _=>intro s e s' hs; simp [sem] at hs
def jumpG (l : Nat) (J : Act→World→Prop) (Q : Exit→Act→World→Prop) : Exit→Act→World→Prop
 | .goto l',a,w=>l' = l∧J a w
 | e,a,w=>Q e a w
theorem qme9 {P : Program} {a : Act} {w : World} {Q : Exit→Act→World→Prop} {c rest : Code} (l : Nat) (J : Nat→Act→World→Prop) (hf : findLabel c l = some rest)
  (first : c.wp P (jumpG l (fun a w=>∃ n,J n a w) Q) a w)
  (pass : ∀ n a w,J n a w→rest.wp P (jumpG l (fun a' w'=>∃ k,k < n∧J k a' w') Q) a w) : (Code.scope c).wp P Q a w:=by
 intro b k cs
 have hg : gotoIn l (.inScope c::k) = some (.code rest::.inScope c::k):=by simp [gotoIn,hf]
 have key : ∀ n a w,J n a w→∃ e a' w',Q e a' w'∧Arrives P (lone (b.at a (.code rest::.inScope c::k)) cs w) b k cs e a' w':=by
  intro n
  induction n using Nat.strongRecOn with
  | _ n ih =>
   intro a w hJ
   obtain ⟨e,a₁,w₁,hq,harr⟩:=pass n a w hJ b (.inScope c::k) cs
   cases e with
   | normal=>exact ⟨.normal,a₁,w₁,hq,Steps.trans harr (.one step_inScope)⟩
   | exit id=>exact ⟨.exit id,a₁,w₁,hq,fun k' hk=>harr k' (by simp [exitTo,hk])⟩
   | goto l' =>
    obtain ⟨rfl,k',hlt,hJ'⟩:=hq
    obtain ⟨e₂,a₂,w₂,hq₂,harr₂⟩:=ih k' hlt a₁ w₁ hJ'
    exact ⟨e₂,a₂,w₂,hq₂,.of_steps (harr _ hg) harr₂⟩
   | ret=>exact ⟨_,a₁,w₁,hq,harr⟩
   | panic ch=>exact ⟨_,a₁,w₁,hq,harr⟩
   | outgrown=>exact ⟨_,a₁,w₁,hq,harr⟩
 obtain ⟨e,a₁,w₁,hq,harr⟩:=first b (.inScope c::k) cs
 cases e with
 | normal=>exact ⟨.normal,a₁,w₁,hq,.head step_scope (Steps.trans harr (.one step_inScope))⟩
 | exit id=>exact ⟨.exit id,a₁,w₁,hq,fun k' hk=>.head step_scope (harr k' (by simp [exitTo,hk]))⟩
 | goto l' =>
  obtain ⟨rfl,n,hJ'⟩:=hq
  obtain ⟨e₂,a₂,w₂,hq₂,harr₂⟩:=key n a₁ w₁ hJ'
  exact ⟨e₂,a₂,w₂,hq₂,.of_steps (.head step_scope (harr _ hg)) harr₂⟩
 | ret=>exact ⟨_,a₁,w₁,hq,.of_steps (.one step_scope) harr⟩
 | panic ch=>exact ⟨_,a₁,w₁,hq,.of_steps (.one step_scope) harr⟩
 | outgrown=>exact ⟨_,a₁,w₁,hq,.of_steps (.one step_scope) harr⟩
def labOf : Code→Option (Nat × Code)
 | .seq a b=>match qdT9 a with
  | some l=>some (l,b)
  | none=>labOf b
 | _=>none
def noLab : Code→Bool
 | .label _=>false
 | .seq a b=>noLab a && noLab b
 | _=>true
def okS (t : Hint) : Code→Bool
 | .seq a b=>match qdT9 a with
  | some _=>qbb9 t b
  | none=>noLab a && qbb9 t a && okS t b
 | _=>false
def okT (t : Hint) : Code→Bool
 | .seq a b=>if qhE9 b = true then qbb9 t a && okT t b else qbb9 t (.seq a b)
 | .scope c=>okS t c
 | c=>qbb9 t c
theorem qsR9 {l : Nat} : ∀ (c : Code),noLab c = true→findLabel c l = none:=by
 intro c
 induction c with
 | seq a b iha ihb =>
  intro h
  simp only [noLab,Bool.and_eq_true] at h
  simp only [findLabel,iha h.1,ihb h.2]
 | label l=>intro h; cases h
 | _=>intro _; rfl
theorem qwn9 {t : Hint} {l : Nat} {b : Code} : ∀ (c : Code),okS t c = true→labOf c = some (l,b)→findLabel c l = some (.seq .skip b):=by
 intro c
 induction c with
 | seq x y ihx ihy =>
  intro ho hl
  simp only [okS,labOf] at ho hl
  cases hi : qdT9 x with
  | some l' =>
   rw [hi] at hl
   simp only [Option.some.injEq,Prod.mk.injEq] at hl
   obtain ⟨rfl,rfl⟩:=hl
   have hx : x = .label l':=by cases x <;> simp [qdT9] at hi; rw [hi]
   subst hx
   simp [findLabel]
  | none =>
   rw [hi] at hl ho
   simp only [Bool.and_eq_true] at ho
   simp only [findLabel,qsR9 x ho.1.1,ihy ho.2 hl]
 | _=>intro _ hl; cases hl
theorem qwq9 {t : Hint} : ∀ (c : Code),okS t c = true→∃ l b,labOf c = some (l,b)∧qbb9 t b = true:=by
 intro c
 induction c with
 | seq x y ihx ihy =>
  intro ho
  simp only [okS,labOf] at ho ⊢
  cases hi : qdT9 x with
  | some l=>rw [hi] at ho; exact ⟨l,y,rfl,ho⟩
  | none=>rw [hi] at ho; simp only [Bool.and_eq_true] at ho; exact ihy ho.2
 | _=>intro ho; cases ho
theorem qse9 {C : Cfg} {L : Oracle} (hC : CSound W0 C) (hL : OSound W0 C L) (hm : C.P.follows .mixedOrders = true) (t : Hint) (nt : Nat) (c : Code) (s : St) (e : AExit) (s' : St) (hs : semS C L t nt c s = some (e,s')) (hok : okS t c = true) (Q : Exit→Act→World→Prop) (m : Places) (w : World) (a : Act) (hr : SRel W0 X t 0 nt s m w a)
  (hQ : ∀ a' m' w',SRel W0 X t 0 nt s' m' w' a'→Evo (Ex X s.h m) s.h m w (Ex X s'.h m') s'.h m' w'→Q e.to a' w') : (Code.scope c).wp C.P Q a w:=by
 obtain ⟨l,b,hlab,hokb⟩:=qwq9 c hok
 let J : Nat→Act→World→Prop:=fun n a' w'=>∃ s1 m',SRel W0 X t 0 nt s1 m' w' a'∧iterN (fun s=>gmap l (t.drop (l + 4096)) (sem C L t nt b s)) n s1 = some (e,s')∧Evo (Ex X s.h m) s.h m w (Ex X s1.h m') s1.h m' w'
 have round : ∀ n a1 w1,J n a1 w1→b.wp C.P (jumpG l (fun a' w'=>∃ k,k < n∧J k a' w') Q) a1 w1:=by
  rintro n a1 w1 ⟨s1,m1,k1,k2,k3⟩
  cases n with
  | zero=>simp [iterN] at k2
  | succ n =>
   simp only [iterN] at k2
   cases hx : sem C L t nt b s1 with
   | none=>simp [hx,gmap] at k2
   | some p =>
    obtain ⟨e1,s2⟩:=p
    refine qbo9 hC hL hm t nt b s1 e1 s2 hx hokb _ m1 w1 a1 k1 (fun a' m' w' h1 h2=>?_)
    cases e1 with
    | normal=>simp [hx,gmap] at k2
    | exit j =>
     simp only [hx,gmap,Option.some.injEq,Prod.mk.injEq] at k2
     obtain ⟨rfl,rfl⟩:=k2
     exact hQ a' m' w' h1 (k3.trans h2)
    | ret =>
     simp only [hx,gmap,Option.some.injEq,Prod.mk.injEq] at k2
     obtain ⟨rfl,rfl⟩:=k2
     exact hQ a' m' w' h1 (k3.trans h2)
    | goto l' =>
     simp only [hx,gmap] at k2
     by_cases hl : l' = l
     ·rw [if_pos hl] at k2
      simp only at k2
      exact ⟨hl,n,Nat.lt_succ_self n,_,m',h1.del _,k2,k3.trans h2⟩
     ·rw [if_neg hl] at k2; cases k2
 refine qme9 l J (qwn9 c hok hlab) ?_ (fun n a1 w1 hJ=>wp_seq (wp_skip (round n a1 w1 hJ)))
 have start : ∀ (c : Code),okS t c = true→labOf c = some (l,b)→∀ (s1 : St) (m1 : Places) (w1 : World) (a1 : Act),SRel W0 X t 0 nt s1 m1 w1 a1→semS C L t nt c s1 = some (e,s')→Evo (Ex X s.h m) s.h m w (Ex X s1.h m1) s1.h m1 w1→c.wp C.P (jumpG l (fun a w=>∃ n,J n a w) Q) a1 w1:=by
  intro c
  induction c with
  | seq x y ihx ihy =>
   intro hok hlab s1 m1 w1 a1 k1 k2 k3
   simp only [okS,labOf] at hok hlab
   simp only [semS] at k2
   cases hi : qdT9 x with
   | some l' =>
    rw [hi] at hlab k2
    simp only [Option.some.injEq,Prod.mk.injEq] at hlab
    obtain ⟨rfl,rfl⟩:=hlab
    have hx : x = .label l':=by cases x <;> simp [qdT9] at hi; rw [hi]
    subst hx
    obtain ⟨n,hn⟩ : ∃ n,iterN (fun s=>gmap l' (t.drop (l' + 4096)) (sem C L t nt y s)) n s1 = some (e,s'):=by
     simp only [qM9] at k2
     split at k2
     ·rename_i hex
      simp only [Option.some.injEq] at k2
      have hn:=Classical.choose_spec (Classical.choose_spec hex)
      rw [k2] at hn
      exact ⟨_,hn⟩
     ·cases k2
    refine wp_seq (wp_label ?_)
    have hmono : ∀ {e : Exit} {a' : Act} {w' : World},jumpG l' (fun a' w'=>∃ k,k < n∧J k a' w') Q e a' w'→jumpG l' (fun a w=>∃ n,J n a w) Q e a' w':=by
     intro e a' w' h
     cases e with
     | goto q=>exact ⟨h.1,h.2.choose,h.2.choose_spec.2⟩
     | _=>exact h
    exact wp_mono (round n a1 w1 ⟨s1,m1,k1,hn,k3⟩) (fun e a' w' h=>hmono h)
   | none =>
    rw [hi] at hlab k2 hok
    simp only [Bool.and_eq_true] at hok
    simp only at k2
    refine wp_seq ?_
    cases hx : sem C L t nt x s1 with
    | none=>simp [hx] at k2
    | some p =>
     obtain ⟨e1,s2⟩:=p
     refine qbo9 hC hL hm t nt x s1 e1 s2 hx hok.1.2 _ m1 w1 a1 k1 (fun a' m' w' h1 h2=>?_)
     cases e1 with
     | normal=>simp only [hx] at k2; exact ihy hok.2 hlab s2 m' w' a' h1 k2 (k3.trans h2)
     | ret =>
      simp only [hx,Option.some.injEq,Prod.mk.injEq] at k2
      obtain ⟨rfl,rfl⟩:=k2
      exact hQ a' m' w' h1 (k3.trans h2)
     | exit j=>simp [hx] at k2
     | goto q=>simp [hx] at k2
  | _=>intro hok; cases hok
 exact start c hok hlab s m w a hr hs (Evo.refl _ _ _ _)
theorem qrD9 {C : Cfg} {L : Oracle} (hC : CSound W0 C) (hL : OSound W0 C L) (hm : C.P.follows .mixedOrders = true) (t : Hint) (nt : Nat) : ∀ (c : Code) (s : St) (e : AExit) (s' : St),semT C L t nt c s = some (e,s')→okT t c = true→∀ (Q : Exit→Act→World→Prop) (m : Places) (w : World) (a : Act),SRel W0 X t 0 nt s m w a →
  (∀ a' m' w',SRel W0 X t 0 nt s' m' w' a'→Evo (Ex X s.h m) s.h m w (Ex X s'.h m') s'.h m' w'→Q e.to a' w')→c.wp C.P Q a w:=by
 intro c
 induction c with
 | seq x y ihx ihy =>
  intro s e s' hs hok Q m w a hr hQ
  simp only [semT] at hs
  simp only [okT] at hok
  by_cases hy : qhE9 y = true
  ·rw [if_pos hy] at hs hok
   simp only [Bool.and_eq_true] at hok
   refine wp_seq ?_
   cases hx : sem C L t nt x s with
   | none=>simp [hx] at hs
   | some p =>
    obtain ⟨e1,s1⟩:=p
    refine qbo9 hC hL hm t nt x s e1 s1 hx hok.1 _ m w a hr (fun a' m' w' h1 h2=>?_)
    cases e1 with
    | normal=>simp only [hx] at hs; exact ihy s1 e s' hs hok.2 Q m' w' a' h1 (fun a'' m'' w'' k1 k2=>hQ a'' m'' w'' k1 (h2.trans k2))
    | ret =>
     simp only [hx,Option.some.injEq,Prod.mk.injEq] at hs
     obtain ⟨rfl,rfl⟩:=hs
     exact hQ a' m' w' h1 h2
    | exit j=>simp [hx] at hs
    | goto q=>simp [hx] at hs
  ·rw [if_neg hy] at hs hok
   exact qbo9 hC hL hm t nt _ s e s' hs hok Q m w a hr hQ
 | scope c ih=>intro s e s' hs hok Q m w a hr hQ; exact qse9 hC hL hm t nt c s e s' hs hok Q m w a hr hQ
 | _=>intro s e s' hs hok Q m w a hr hQ; exact qbo9 hC hL hm t nt _ s e s' hs hok Q m w a hr hQ
end
end Go.Abs
namespace Go.Abs
open Go Go.RowKit

theorem qkd9 (keep : Nat) : ∀ (args : List PV) (k i : Nat),(qbt9 keep k args).get i = if keep.testBit i = true∧k≤i then (args[i - k]?).getD .junk else .junk:=by
 intro args
 induction args with
 | nil=>intro k i; simp [qbt9,Env.get]
 | cons x r ih =>
  intro k i
  simp only [qbt9]
  rcases Nat.lt_trichotomy i k with c | c | c
  ·have e : ¬ (keep.testBit i = true∧k≤i):=by omega
   have e' : ¬ (keep.testBit i = true∧k + 1≤i):=by omega
   rw [if_neg e]
   split
   ·rw [Env.get,if_neg (by omega),ih,if_neg e']
   ·rw [ih,if_neg e']
  ·subst c
   by_cases hk : keep.testBit i = true
   ·rw [if_pos hk,Env.get,if_pos rfl,if_pos ⟨hk,Nat.le_refl _⟩]; simp
   ·rw [if_neg hk,ih,if_neg (by omega),if_neg (by intro h; exact hk h.1)]
  ·have e : (x::r)[i - k]? = r[i - (k + 1)]?:=by
    have : i - k = (i - (k + 1)) + 1:=by omega
    rw [this]; simp
   split
   ·rw [Env.get,if_neg (by omega),ih,e]
    by_cases hk : keep.testBit i = true
    ·rw [if_pos ⟨hk,by omega⟩,if_pos ⟨hk,by omega⟩]
    ·rw [if_neg (fun h=>hk h.1),if_neg (fun h=>hk h.1)]
   ·rw [ih,e]
    by_cases hk : keep.testBit i = true
    ·rw [if_pos ⟨hk,by omega⟩,if_pos ⟨hk,by omega⟩]
    ·rw [if_neg (fun h=>hk h.1),if_neg (fun h=>hk h.1)]

structure COk (W0 : World) (C : Cfg) : Prop extends CSound W0 C where
 orders : C.P.follows .mixedOrders = true
 hints : ∀ f fn code,C.use f = true→C.P.funcs[f]? = some fn→fn.body = some code→okT (C.hint f) code = true

section
variable {W0 : World} {X : Nat→Prop} {h : AHeap} {m : Places} {w : World}

theorem qta9 {P : Program} {s : St} (H : HRel W0 X s.h m w) {a : Act} (hg : TRel (Ex X s.h m) s.h m w s.env.get a) {rv : ResultVar} {x : PV} (hr : resP P s rv = some x) :
  ∃ v,((match rv with | .tmp t=>pure (a.tmps.getD t undef) | .cell c t=>do loadVar t (← asAddr (a.tmps.getD c undef)) : Sem Value)).run P w = .ok v w∧VRel (Ex X s.h m) s.h m w x v:=by
 cases rv with
 | tmp t =>
  simp only [resP,Option.some.injEq] at hr
  subst hr
  exact ⟨_,rfl,hg t⟩
 | cell c t =>
  simp only [resP] at hr
  have hv:=hg c
  have hld:=qlt9 H hv hr
  obtain ⟨v,h1,h2⟩:=hld
  unfold loadP at hr
  cases hc : qbs9 s.h (s.env.get c) with
  | none=>simp [hc] at hr
  | some cs =>
   obtain ⟨ad,hva,_⟩:=qkm9 H hv hc
   refine ⟨v,?_,h2⟩
   have hva' : a.tmps.getD c undef = .pointer (some ad):=hva
   rw [hva] at h1
   simp only [Instr.loadAt,Instr.sureAddr,Sem.run_bind,Sem.run_pure,Result.andThen_ok] at h1
   simp only [hva',asAddr,Sem.run_bind,Sem.run_pure,Result.andThen_ok]
   exact h1

theorem qxd9 {P : Program} {w : World} {g : ResultVar→Sem Value} {f : ResultVar→Option PV} {E : Nat→Prop} {h : AHeap} {m : Places} (hg : ∀ rv x,f rv = some x→∃ v,(g rv).run P w = .ok v w∧VRel E h m w x v) : ∀ (l : List ResultVar) (xs : List PV),mapO f l = some xs→∃ vs,(l.mapM g).run P w = .ok vs w∧VRels E h m w xs vs:=by
 intro l
 induction l with
 | nil =>
  intro xs hx
  simp only [mapO,Option.some.injEq] at hx
  subst hx
  exact ⟨[],by simp,VRels.nil⟩
 | cons a r ih =>
  intro xs hx
  simp only [mapO] at hx
  cases ha : f a with
  | none=>simp [ha] at hx
  | some x =>
   simp only [ha] at hx
   cases hr : mapO f r with
   | none=>simp [hr] at hx
   | some ys =>
    simp only [hr,Option.some.injEq] at hx
    subst hx
    obtain ⟨v,h1,h2⟩:=hg a x ha
    obtain ⟨vs,k1,k2⟩:=ih ys hr
    exact ⟨v::vs,by simp [List.mapM_cons,h1,k1],VRels.cons h2 k2⟩

theorem qfu9 {P : Program} {s : St} (H : HRel W0 X s.h m w) {a : Act} (hg : TRel (Ex X s.h m) s.h m w s.env.get a) {fn : Func} {xs : List PV} (hr : mapO (resP P s) fn.results.toList = some xs) :
  ∃ v,(results fn a.tmps).run P w = .ok v w∧VRel (Ex X s.h m) s.h m w (resOf xs) v:=by
 obtain ⟨vs,h1,h2⟩:=qxd9 (fun rv x hx=>qta9 H hg hx) fn.results.toList xs hr
 unfold results
 rw [Array.mapM_eq_mapM_toList]
 have e : ∀ (k : Array Value→Sem Value) (l : Sem (List Value)),((List.toArray <$> l) >>= k : Sem Value) = l >>= fun a=>k a.toArray:=by
  intro k l
  rw [bind_map_left]
 rw [e,Sem.run_bind]
 refine ⟨if h : vs.toArray.size = 1 then vs.toArray[0] else .tuple vs.toArray,?_,?_⟩
 ·refine Eq.trans (congrArg (fun r=>Result.andThen r _) h1) ?_
  rfl
 ·have hl:=h2.1
  cases xs with
  | nil =>
   obtain rfl : vs = []:=List.eq_nil_of_length_eq_zero (by simpa using hl)
   exact .tp [] [] rfl (fun j u x a=>by simp at a)
  | cons x r =>
   cases r with
   | nil =>
    obtain ⟨v,rfl⟩ : ∃ v,vs = [v]:=by
     cases vs with
     | nil=>simp at hl
     | cons v r=>cases r with
      | nil=>exact ⟨v,rfl⟩
      | cons _ _=>simp at hl
    exact h2.2 0 x v rfl rfl
   | cons y r =>
    have : ¬ vs.toArray.size = 1:=by simp at hl ⊢; omega
    rw [dif_neg this]
    exact .tp _ vs h2.1 h2.2

theorem qso9 {C : Cfg} {L : Oracle} (hC : COk W0 C) (hL : OSound W0 C L) : OSound W0 C (runF C L):=by
 intro f hu args h r h' ho X m w vs H hv
 unfold runF at ho
 cases hf : C.P.funcs[f]? with
 | none=>simp [hf] at ho
 | some fn =>
  simp only [hf] at ho
  cases hb : fn.body with
  | none=>simp [hb] at ho
  | some code =>
   simp only [hb] at ho
   refine calls_of_wp hf hb ?_
   have hl : vs.toArray.size = args.length:=by simpa using hv.1
   have hsr : SRel W0 X (C.hint f) 0 (args.length + (fn.ntmps - args.length)) ⟨qbt9 (C.hint f).keep 0 args,h⟩ m w { tmps:=vs.toArray++Array.replicate (fn.ntmps - vs.toArray.size) undef,defers:=[] }:=by
    refine ⟨by simp [hv.1],rfl,H,fun i=>?_,fun i _ hk=>?_⟩
    ·show VRel _ _ _ _ ((qbt9 (C.hint f).keep 0 args).get i) _
     rw [qkd9]
     split
     ·rename_i hc
      simp only [Nat.sub_zero]
      cases hi : args[i]? with
      | none=>exact .junk _
      | some x =>
       have hlt : i < vs.length:=by rw [hv.1]; exact (List.getElem?_eq_some_iff.1 hi).1
       have:=hv.2 i x _ hi (List.getElem?_eq_getElem hlt)
       have e : (vs.toArray++Array.replicate (fn.ntmps - vs.toArray.size) undef).getD i undef = vs[i]:=by
        rw [Array.getD_eq_getD_getElem?,Array.getElem?_append_left (by simpa using hlt)]
        simp [hlt]
       simp only [Act.eval,Option.getD_some]
       rw [e]
       exact this
     ·exact .junk _
    ·show (qbt9 (C.hint f).keep 0 args).get i = _
     rw [qkd9,if_neg]
     intro hc
     rw [hk] at hc
     cases hc.1
   cases hs : semT C L (C.hint f) (args.length + (fn.ntmps - args.length)) code ⟨qbt9 (C.hint f).keep 0 args,h⟩ with
   | none=>simp [hs] at ho
   | some p =>
    obtain ⟨e,s⟩:=p
    refine qrD9 hC.toCSound hL hC.orders (C.hint f) _ code _ e s hs (hC.hints f fn code hu hf hb) _ m w _ hsr (fun a' m' w' k1 k2=>?_)
    have key : (mapO (resP C.P s) fn.results.toList).map (fun vs=>(resOf vs,s.h)) = some (r,h')→bodyPost C.P fn (Ret fun v w'=>Out W0 X h m w r h' v w') .normal a' w':=by
     intro hk
     simp only [Option.map_eq_some_iff,Prod.mk.injEq] at hk
     obtain ⟨xs,q1,rfl,rfl⟩:=hk
     obtain ⟨v,r1,r2⟩:=qfu9 k1.heap k1.env q1
     exact ⟨k1.dfs,v,r1,m',r2,k1.heap,k2⟩
    cases e with
    | normal=>simp only [hs] at ho; exact key ho
    | exit id=>simp [hs] at ho
    | ret=>simp only [hs] at ho; exact key ho
    | goto id=>simp [hs] at ho

theorem qqi9 {C : Cfg} (hC : COk W0 C) (d : Nat) : OSound W0 C (pcall C d):=by
 induction d with
 | zero=>intro f _ args h r h' ho; simp [pcall] at ho
 | succ d ih=>exact qso9 hC ih

theorem qnJ9 {C : Cfg} {f : FuncId} {args : List PV} {h : AHeap} {p : PV × AHeap} (hl : Lim C f args h = some p) : ∃ d,pcall C d f args h = some p:=by
 unfold Lim at hl
 split at hl
 ·rename_i k
  simp only [Option.some.injEq] at hl
  have:=Classical.choose_spec (Classical.choose_spec k)
  rw [hl] at this
  exact ⟨_,this⟩
 ·cases hl
theorem qbJ9 {C : Cfg} (hC : COk W0 C) : OSound W0 C (Lim C):=by
 intro f hu args h r h' ho
 obtain ⟨d,hd⟩:=qnJ9 ho
 exact qqi9 hC d f hu args h r h' hd
end
end Go.Abs

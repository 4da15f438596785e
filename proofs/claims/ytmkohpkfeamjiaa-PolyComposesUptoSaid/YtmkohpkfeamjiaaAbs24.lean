import Derived.Test.YtmkohpkfeamjiaaAbs22
set_option maxHeartbeats 400000
set_option linter.unusedVariables false
set_option linter.unusedSimpArgs false
set_option linter.unusedSectionVars false
namespace Go.Abs
open Go

theorem qkM9 {step : St→Option (AExit × St)} : ∀ (n : Nat) (s : St) (r : AExit × St),iterN step n s = some r→∀ k,iterN step (n + k) s = some r:=by
 intro n
 induction n with
 | zero=>intro s r h; simp [iterN] at h
 | succ n ih =>
  intro s r h k
  rw [Nat.succ_add]
  simp only [iterN] at h ⊢
  cases hs : step s with
  | none=>simp [hs] at h
  | some p =>
   obtain ⟨e,s'⟩:=p
   cases e with
   | normal=>simp only [hs] at h ⊢; exact ih s' r h k
   | exit j=>simp only [hs] at h ⊢; exact h
   | ret=>simp only [hs] at h ⊢; exact h
   | goto j=>simp only [hs] at h ⊢; exact h
theorem qcJ9 {step : St→Option (AExit × St)} {n : Nat} {s : St} {r : AExit × St} (h : iterN step n s = some r) : qM9 step s = some r:=by
 unfold qM9
 have hex : ∃ n r,iterN step n s = some r:=⟨n,r,h⟩
 rw [dif_pos hex]
 have h2:=Classical.choose_spec (Classical.choose_spec hex)
 generalize Classical.choose (Classical.choose_spec hex) = r' at h2
 generalize Classical.choose hex = n' at h2
 have a:=qkM9 n s r h n'
 have b:=qkM9 n' s r' h2 n
 rw [Nat.add_comm] at b
 rw [a] at b
 exact b.symm
theorem qdc9 {step : St→Option (AExit × St)} {s : St} {r : AExit × St} (h : qM9 step s = some r) : ∃ n,iterN step n s = some r:=by
 unfold qM9 at h
 split at h
 ·rename_i hex
  simp only [Option.some.injEq] at h
  have h2:=Classical.choose_spec (Classical.choose_spec hex)
  rw [h] at h2
  exact ⟨_,h2⟩
 ·cases h
theorem qbE9 (step : St→Option (AExit × St)) (s : St) : qM9 step s = match step s with
  | some (.normal,s')=>qM9 step s'
  | r=>r:=by
 cases hs : step s with
 | none =>
  cases hl : qM9 step s with
  | none=>rfl
  | some r =>
   obtain ⟨n,hn⟩:=qdc9 hl
   cases n with
   | zero=>simp [iterN] at hn
   | succ n=>simp [iterN,hs] at hn
 | some p =>
  obtain ⟨e,s'⟩:=p
  cases e with
  | normal =>
   simp only
   cases hl : qM9 step s' with
   | none =>
    cases hl2 : qM9 step s with
    | none=>rfl
    | some r =>
     obtain ⟨n,hn⟩:=qdc9 hl2
     cases n with
     | zero=>simp [iterN] at hn
     | succ n =>
      simp only [iterN,hs] at hn
      rw [qcJ9 hn] at hl
      cases hl
   | some r =>
    obtain ⟨n,hn⟩:=qdc9 hl
    exact qcJ9 (n:=n + 1) (by simp only [iterN,hs]; exact hn)
  | exit j=>exact qcJ9 (n:=1) (by simp only [iterN,hs])
  | ret=>exact qcJ9 (n:=1) (by simp only [iterN,hs])
  | goto j=>exact qcJ9 (n:=1) (by simp only [iterN,hs])

def Up (L M : Oracle) : Prop:=∀ f a h r,L f a h = some r→M f a h = some r
theorem Up.refl (L : Oracle) : Up L L:=fun _ _ _ _ h=>h
theorem Up.trans {L M N : Oracle} (a : Up L M) (b : Up M N) : Up L N:=fun f x h r k=>b f x h r (a f x h r k)

section
variable {C : Cfg} {M : Oracle} {Ls : Nat→Oracle}

def Fin (Ls : Nat→Oracle) (p : Oracle→Prop) : Prop:=∃ d,∀ L,Up (Ls d) L→p L
theorem Fin.mono {p q : Oracle→Prop} (h : ∀ L,p L→q L) (hp : Fin Ls p) : Fin Ls q:=let ⟨d,hd⟩:=hp; ⟨d,fun L hL=>h L (hd L hL)⟩
theorem Fin.and (hup : ∀ d,Up (Ls d) (Ls (d + 1))) {p q : Oracle→Prop} (hp : Fin Ls p) (hq : Fin Ls q) : Fin Ls fun L=>p L∧q L:=by
 obtain ⟨d,hd⟩:=hp
 obtain ⟨e,he⟩:=hq
 have chain : ∀ d k,Up (Ls d) (Ls (d + k)):=by
  intro d k
  induction k with
  | zero=>exact Up.refl _
  | succ k ih=>exact ih.trans (hup (d + k))
 exact ⟨d + e,fun L hL=>⟨hd L ((chain d e).trans hL),he L (by
  have:=chain e d
  rw [Nat.add_comm] at this
  exact this.trans hL)⟩⟩
theorem Fin.all {p : Prop} (hp : p) : Fin Ls fun _=>p:=⟨0,fun _ _=>hp⟩

theorem qhN9 (hM : ∀ f a h r,M f a h = some r→∃ d,Ls d f a h = some r) {g : FuncId} {args : List PV} {h : AHeap} {r : PV × AHeap} (ho : callP C M g args h = some r) : Fin Ls fun L=>callP C L g args h = some r:=by
 unfold callP at ho ⊢
 cases hp : C.prim g with
 | some p=>simp only [hp] at ho ⊢; exact Fin.all ho
 | none =>
  simp only [hp] at ho ⊢
  split at ho
  ·rename_i hu
   simp only [if_pos hu]
   split at ho
   ·rename_i hh
    simp only [if_pos hh]
    obtain ⟨d,hd⟩:=hM _ _ _ _ ho
    exact ⟨d,fun L hL=>hL _ _ _ _ hd⟩
   ·rename_i hh
    simp only [if_neg hh]
    cases hds : mapO (rs h depth) args with
    | none=>simp [hds] at ho
    | some ds =>
     simp only [hds] at ho ⊢
     split at ho
     ·rename_i h2
      simp only [if_pos h2]
      obtain ⟨d,hd⟩:=hM _ _ _ _ ho
      exact ⟨d,fun L hL=>hL _ _ _ _ hd⟩
     rename_i h2
     simp only [if_neg h2]
     cases hc : M g (ds.map .d) [] with
     | none=>simp [hc] at ho
     | some q =>
      simp only [hc] at ho
      obtain ⟨d,hd⟩:=hM _ _ _ _ hc
      exact ⟨d,fun L hL=>by simp only [hL _ _ _ _ hd]; exact ho⟩
  ·cases ho
theorem qjO9 (hM : ∀ f a h r,M f a h = some r→∃ d,Ls d f a h = some r) {get : Nat→PV} {h : AHeap} {o : Oper} {r : PV × AHeap} (ho : aop C M get h o = some r) : Fin Ls fun L=>aop C L get h o = some r:=by
 unfold aop at ho ⊢
 cases hop : o.op
 case call c =>
  simp only [hop] at ho ⊢
  unfold qcA9 at ho ⊢
  cases hc : c.callee with
  | builtin b=>simp only [hc] at ho ⊢; exact Fin.all ho
  | value f =>
   simp only [hc] at ho ⊢
   split at ho
   ·exact qhN9 hM ho
   ·exact qhN9 hM ho
   ·cases ho
  | invoke x name =>
   simp only [hc] at ho ⊢
   split at ho
   ·split at ho
    ·exact qhN9 hM ho
    ·cases ho
   ·split at ho
    ·exact qhN9 hM ho
    ·cases ho
   ·cases ho
 all_goals (simp only [hop] at ho ⊢; exact Fin.all ho)
theorem qxQ9 (hM : ∀ f a h r,M f a h = some r→∃ d,Ls d f a h = some r) {nt : Nat} {ops : Array Oper} {o : Oper} {env te : Env} {h : AHeap} {r : Env × AHeap} (ho : opS C M nt ops o env te h = some r) : Fin Ls fun L=>opS C L nt ops o env te h = some r:=by
 have hv : ∀ {get : Nat→PV} {p : PV × AHeap},opV C M nt ops get h o = some p→Fin Ls fun L=>opV C L nt ops get h o = some p:=by
  intro get p hp
  unfold opV at hp ⊢
  cases hg : o.guard with
  | none=>simp only [hg] at hp ⊢; exact qjO9 hM hp
  | some q =>
   obtain ⟨j,b⟩:=q
   simp only [hg] at hp ⊢
   cases hj : (ops[j]?).bind (·.dst) with
   | none=>simp [hj] at hp
   | some d =>
    simp only [hj] at hp ⊢
    split at hp
    ·rename_i hlt
     simp only [if_pos hlt]
     split at hp
     ·split at hp
      ·rename_i he
       simp only [if_pos he]; exact qjO9 hM hp
      ·rename_i he
       simp only [if_neg he]; exact Fin.all hp
     ·exact Fin.all hp
     ·cases hp
    ·cases hp
 unfold opS at ho ⊢
 cases hp : opV C M nt ops (get2 te env) h o with
 | none=>simp [hp] at ho
 | some p =>
  simp only [hp,Option.bind_some] at ho
  exact (hv hp).mono fun L hL=>by rw [hL]; exact ho
theorem qxL9 (hM : ∀ f a h r,M f a h = some r→∃ d,Ls d f a h = some r) {nt : Nat} {ops : Array Oper} {o : Oper} {env te : Env} {h : AHeap} {r : Env × AHeap} (ho : opT C M nt ops o env te h = some r) : Fin Ls fun L=>opT C L nt ops o env te h = some r:=by
 cases hp : opV C M nt ops (get2 te env) h o with
 | none=>simp [opT,hp] at ho
 | some p =>
  have hv : Fin Ls fun L=>opV C L nt ops (get2 te env) h o = some p:=by
   unfold opV at hp ⊢
   cases hg : o.guard with
   | none=>simp only [hg] at hp ⊢; exact qjO9 hM hp
   | some q =>
    obtain ⟨j,b⟩:=q
    simp only [hg] at hp ⊢
    cases hj : (ops[j]?).bind (·.dst) with
    | none=>simp [hj] at hp
    | some d =>
     simp only [hj] at hp ⊢
     split at hp
     ·rename_i hlt
      simp only [if_pos hlt]
      split at hp
      ·split at hp
       ·rename_i he
        simp only [if_pos he]; exact qjO9 hM hp
       ·rename_i he
        simp only [if_neg he]; exact Fin.all hp
      ·exact Fin.all hp
      ·cases hp
     ·cases hp
  refine hv.mono fun L hL=>?_
  unfold opT at ho ⊢
  rw [hL]
  rw [hp] at ho
  exact ho
theorem qvC9 (hup : ∀ d,Up (Ls d) (Ls (d + 1))) (hM : ∀ f a h r,M f a h = some r→∃ d,Ls d f a h = some r) {nt : Nat} {ops : Array Oper} {env : Env} : ∀ (l : List Oper) (te : Env) (h : AHeap) (r : Env × AHeap),opsS C M nt ops env l te h = some r→Fin Ls fun L=>opsS C L nt ops env l te h = some r:=by
 intro l
 induction l with
 | nil=>intro te h r ho; exact Fin.all ho
 | cons o l ih =>
  intro te h r ho
  simp only [opsS] at ho ⊢
  cases hp : opT C M nt ops o env te h with
  | none=>simp [hp] at ho
  | some p =>
   simp only [hp,Option.bind_some] at ho
   exact ((qxL9 hM hp).and hup (ih _ _ _ ho)).mono fun L hL=>by rw [hL.1]; exact hL.2
theorem qwy9 (hup : ∀ d,Up (Ls d) (Ls (d + 1))) (hM : ∀ f a h r,M f a h = some r→∃ d,Ls d f a h = some r) {nt : Nat} {W : List Nat} {ops : Array Oper} {env : Env} : ∀ (l : List Oper) (k : Nat) (te : Env) (h : AHeap) (r : Env × AHeap),opsD C M nt W ops env k l te h = some r→Fin Ls fun L=>opsD C L nt W ops env k l te h = some r:=by
 intro l
 induction l with
 | nil=>intro k te h r ho; exact Fin.all ho
 | cons o l ih =>
  intro k te h r ho
  simp only [opsD] at ho ⊢
  cases hp : opS C M nt ops o env te h with
  | none=>simp [hp] at ho
  | some p =>
   simp only [hp,Option.bind_some] at ho
   split at ho
   ·rename_i hw
    exact ((qxQ9 hM hp).and hup (ih _ _ _ _ ho)).mono fun L hL=>by rw [hL.1,Option.bind_some,if_pos hw]; exact hL.2
   ·cases ho

theorem qfD9 (hup : ∀ d,Up (Ls d) (Ls (d + 1))) (hM : ∀ f a h r,M f a h = some r→∃ d,Ls d f a h = some r) (t : Hint) (nt : Nat) : ∀ (c : Code) (s : St) (r : AExit × St),sem C M t nt c s = some r→Fin Ls fun L=>sem C L t nt c s = some r:=by
 intro c
 induction c with
 | skip=>intro s r ho; exact Fin.all ho
 | exit id=>intro s r ho; exact Fin.all ho
 | ret=>intro s r ho; exact Fin.all ho
 | goto id=>intro s r ho; exact Fin.all ho
 | region id ops draw =>
  intro s r ho
  cases draw with
  | false =>
   simp only [sem,Option.bind_eq_some_iff] at ho ⊢
   obtain ⟨s1,h0,p,h1,h2⟩:=ho
   exact (qvC9 hup hM _ _ _ _ h1).mono fun L hL=>⟨s1,h0,p,hL,h2⟩
  | true =>
   simp only [sem,Option.bind_eq_some_iff] at ho ⊢
   obtain ⟨s1,h0,p,h1,h2⟩:=ho
   exact (qwy9 hup hM _ _ _ _ _ h1).mono fun L hL=>⟨s1,h0,p,hL,h2⟩
 | seq x y ihx ihy =>
  intro s r ho
  simp only [sem] at ho ⊢
  cases hx : sem C M t nt x s with
  | none=>simp [hx] at ho
  | some p =>
   obtain ⟨e,s1⟩:=p
   cases e with
   | normal =>
    simp only [hx] at ho
    exact ((ihx s _ hx).and hup (ihy s1 r ho)).mono fun L hL=>by simp only [hL.1]; exact hL.2
   | exit j=>simp only [hx] at ho; exact (ihx s _ hx).mono fun L hL=>by simp only [hL]; exact ho
   | ret=>simp only [hx] at ho; exact (ihx s _ hx).mono fun L hL=>by simp only [hL]; exact ho
   | goto j=>simp only [hx] at ho; exact (ihx s _ hx).mono fun L hL=>by simp only [hL]; exact ho
 | cond c x y ihx ihy =>
  intro s r ho
  simp only [sem] at ho ⊢
  split at ho
  ·exact ihx _ r ho
  ·exact ihy _ r ho
  ·cases ho
 | block id c ih =>
  intro s r ho
  simp only [sem] at ho ⊢
  cases hx : sem C M t nt c s with
  | none=>simp [hx] at ho
  | some p =>
   rw [hx] at ho
   exact (ih s p hx).mono fun L hL=>by rw [hL]; exact ho
 | loop c ih =>
  intro s r ho
  simp only [sem] at ho ⊢
  obtain ⟨n,hn⟩:=qdc9 ho
  have key : ∀ (n : Nat) (s : St),iterN (sem C M t nt c) n s = some r→Fin Ls fun L=>iterN (sem C L t nt c) n s = some r:=by
   intro n
   induction n with
   | zero=>intro s hn; simp [iterN] at hn
   | succ n ihn =>
    intro s hn
    simp only [iterN] at hn ⊢
    cases hx : sem C M t nt c s with
    | none=>simp [hx] at hn
    | some p =>
     obtain ⟨e,s1⟩:=p
     cases e with
     | normal =>
      simp only [hx] at hn
      exact ((ih s _ hx).and hup (ihn s1 hn)).mono fun L hL=>by simp only [hL.1]; exact hL.2
     | exit j=>simp only [hx] at hn; exact (ih s _ hx).mono fun L hL=>by simp only [hL]; exact hn
     | ret=>simp only [hx] at hn; exact (ih s _ hx).mono fun L hL=>by simp only [hL]; exact hn
     | goto j=>simp only [hx] at hn; exact (ih s _ hx).mono fun L hL=>by simp only [hL]; exact hn
  exact (key n s hn).mono fun L hL=>qcJ9 hL
 | _=>intro s r ho; simp [sem] at ho
theorem qwb9 (hup : ∀ d,Up (Ls d) (Ls (d + 1))) (hM : ∀ f a h r,M f a h = some r→∃ d,Ls d f a h = some r) (t : Hint) (nt : Nat) : ∀ (c : Code) (s : St) (r : AExit × St),semS C M t nt c s = some r→Fin Ls fun L=>semS C L t nt c s = some r:=by
 intro c
 induction c with
 | seq x y ihx ihy =>
  intro s r ho
  simp only [semS] at ho ⊢
  cases hi : qdT9 x with
  | some l =>
   rw [hi] at ho
   simp only at ho ⊢
   obtain ⟨n,hn⟩:=qdc9 ho
   have key : ∀ (n : Nat) (s : St),iterN (fun s=>gmap l (t.drop (l + 4096)) (sem C M t nt y s)) n s = some r→Fin Ls fun L=>iterN (fun s=>gmap l (t.drop (l + 4096)) (sem C L t nt y s)) n s = some r:=by
    intro n
    induction n with
    | zero=>intro s hn; simp [iterN] at hn
    | succ n ihn =>
     intro s hn
     simp only [iterN] at hn ⊢
     cases hx : sem C M t nt y s with
     | none=>simp [hx,gmap] at hn
     | some p =>
      rw [hx] at hn
      cases hg : gmap l (t.drop (l + 4096)) (some p) with
      | none=>rw [hg] at hn; cases hn
      | some q =>
       obtain ⟨e,s1⟩:=q
       rw [hg] at hn
       cases e with
       | normal =>
        simp only at hn
        exact ((qfD9 hup hM t nt y s _ hx).and hup (ihn s1 hn)).mono fun L hL=>by simp only [hL.1,hg]; exact hL.2
       | _=>exact (qfD9 hup hM t nt y s _ hx).mono fun L hL=>by simp only [hL,hg]; exact hn
   exact (key n s hn).mono fun L hL=>qcJ9 hL
  | none =>
   rw [hi] at ho
   simp only at ho ⊢
   cases hx : sem C M t nt x s with
   | none=>simp [hx] at ho
   | some p =>
    obtain ⟨e,s1⟩:=p
    cases e with
    | normal=>simp only [hx] at ho; exact ((qfD9 hup hM t nt x s _ hx).and hup (ihy s1 r ho)).mono fun L hL=>by simp only [hL.1]; exact hL.2
    | ret=>simp only [hx] at ho; exact (qfD9 hup hM t nt x s _ hx).mono fun L hL=>by simp only [hL]; exact ho
    | exit j=>simp [hx] at ho
    | goto j=>simp [hx] at ho
 | _=>intro s r ho; simp [semS] at ho
theorem qvH9 (hup : ∀ d,Up (Ls d) (Ls (d + 1))) (hM : ∀ f a h r,M f a h = some r→∃ d,Ls d f a h = some r) (t : Hint) (nt : Nat) : ∀ (c : Code) (s : St) (r : AExit × St),semT C M t nt c s = some r→Fin Ls fun L=>semT C L t nt c s = some r:=by
 intro c
 induction c with
 | seq x y ihx ihy =>
  intro s r ho
  simp only [semT] at ho ⊢
  by_cases hy : qhE9 y = true
  ·rw [if_pos hy] at ho
   simp only [hy,if_true]
   cases hx : sem C M t nt x s with
   | none=>simp [hx] at ho
   | some p =>
    obtain ⟨e,s1⟩:=p
    cases e with
    | normal=>simp only [hx] at ho; exact ((qfD9 hup hM t nt x s _ hx).and hup (ihy s1 r ho)).mono fun L hL=>by simp only [hL.1]; exact hL.2
    | ret=>simp only [hx] at ho; exact (qfD9 hup hM t nt x s _ hx).mono fun L hL=>by simp only [hL]; exact ho
    | exit j=>simp [hx] at ho
    | goto j=>simp [hx] at ho
  ·rw [if_neg hy] at ho
   simp only [hy]
   exact qfD9 hup hM t nt _ s r ho
 | scope c ih=>intro s r ho; exact qwb9 hup hM t nt c s r ho
 | _=>intro s r ho; exact qfD9 hup hM t nt _ s r ho
theorem qnI9 (hup : ∀ d,Up (Ls d) (Ls (d + 1))) (hM : ∀ f a h r,M f a h = some r→∃ d,Ls d f a h = some r) {f : FuncId} {args : List PV} {h : AHeap} {r : PV × AHeap} (ho : runF C M f args h = some r) : Fin Ls fun L=>runF C L f args h = some r:=by
 unfold runF at ho ⊢
 cases hf : C.P.funcs[f]? with
 | none=>simp [hf] at ho
 | some fn =>
  simp only [hf] at ho ⊢
  cases hb : fn.body with
  | none=>simp [hb] at ho
  | some code =>
   simp only [hb] at ho ⊢
   cases hs : semT C M (C.hint f) (args.length + (fn.ntmps - args.length)) code ⟨qbt9 (C.hint f).keep 0 args,h⟩ with
   | none=>simp [hs] at ho
   | some p =>
    rw [hs] at ho
    exact (qvH9 hup hM _ _ _ _ _ hs).mono fun L hL=>by rw [hL]; exact ho
end

theorem qxY9 {C : Cfg} {L M : Oracle} (h : Up L M) : Up (runF C L) (runF C M):=by
 intro f a hp r ho
 obtain ⟨d,hd⟩:=qnI9 (Ls:=fun _=>L) (fun _=>Up.refl L) (fun f a h r k=>⟨0,k⟩) ho
 exact hd M h
theorem qnH9 (C : Cfg) : ∀ d,Up (pcall C d) (pcall C (d + 1)):=by
 intro d
 induction d with
 | zero=>intro f a h r ho; simp [pcall] at ho
 | succ d ih=>exact qxY9 ih
theorem qki9 (C : Cfg) (d k : Nat) : Up (pcall C d) (pcall C (d + k)):=by
 induction k with
 | zero=>exact Up.refl _
 | succ k ih=>exact ih.trans (qnH9 C (d + k))
theorem qAF9 {C : Cfg} {d : Nat} {f : FuncId} {args : List PV} {h : AHeap} {r : PV × AHeap} (ho : pcall C d f args h = some r) : Lim C f args h = some r:=by
 unfold Lim
 have hex : ∃ d r,pcall C d f args h = some r:=⟨d,r,ho⟩
 rw [dif_pos hex]
 have h2:=Classical.choose_spec (Classical.choose_spec hex)
 generalize Classical.choose (Classical.choose_spec hex) = r' at h2
 generalize Classical.choose hex = e at h2
 have a:=qki9 C d e _ _ _ _ ho
 have b:=qki9 C e d _ _ _ _ h2
 rw [Nat.add_comm] at b
 rw [a] at b
 exact b.symm
theorem qyU9 {C : Cfg} {f : FuncId} {args : List PV} {h : AHeap} {r : PV × AHeap} (ho : runF C (Lim C) f args h = some r) : Lim C f args h = some r:=by
 obtain ⟨d,hd⟩:=qnI9 (Ls:=pcall C) (qnH9 C) (fun f a h r k=>qnJ9 k) ho
 exact qAF9 (d:=d + 1) (hd _ (Up.refl _))
end Go.Abs
namespace Go.Abs
open Go

section
variable {C : Cfg} {L : Oracle} {t : Hint} {nt : Nat} {W : List Nat} {ops : Array Oper} {env te : Env} {h : AHeap}

theorem qyp9 {f : FuncId} {args : List PV} {fn : Func} {code : Code} (hf : C.P.funcs[f]? = some fn) (hb : fn.body = some code) : runF C L f args h = match semT C L (C.hint f) (args.length + (fn.ntmps - args.length)) code ⟨qbt9 (C.hint f).keep 0 args,h⟩ with
  | some (.normal,s)=>(mapO (resP C.P s) fn.results.toList).map fun vs=>(resOf vs,s.h)
  | some (.ret,s)=>(mapO (resP C.P s) fn.results.toList).map fun vs=>(resOf vs,s.h)
  | _=>none:=by
 simp only [runF,hf,hb]
 generalize semT C L (C.hint f) (args.length + (fn.ntmps - args.length)) code ⟨qbt9 (C.hint f).keep 0 args,h⟩ = z
 cases z with
 | none=>rfl
 | some p=>obtain ⟨e,s⟩:=p; cases e <;> rfl
theorem qlU9 {step : St→Option (AExit × St)} {s s' : St} {r : Option (AExit × St)} (h : step s = some (.normal,s')) (h' : qM9 step s' = r) : qM9 step s = r:=by
 rw [qbE9,h]; exact h'
theorem qkx9 {step : St→Option (AExit × St)} {s s' : St} {e : AExit} (h : step s = some (e,s')) (he : e ≠ .normal) : qM9 step s = some (e,s'):=by
 rw [qbE9,h]
 cases e <;> first | exact absurd rfl he | rfl
end
end Go.Abs
namespace Go.Abs
open Go
section
variable {C : Cfg} {L : Oracle} {h : AHeap}
theorem qzz9 {t : TypeId} {ty : TypeId} {fv x : PV} : qcA9 C L h (.builtin .len) fv #[t] ty [x] = match C.P.underlying t with
  | some (.slice _)=>(match lenP x with
   | some n=>some (.d (.v (.int .i64 n)),h)
   | none=>qbh9 C h .len #[t] ty [x])
  | _=>qbh9 C h .len #[t] ty [x]:=by
 have e : (#[t][0]?).bind C.P.underlying = C.P.underlying t:=rfl
 simp only [qcA9]
 split
 ·rename_i e' hu
  split
  ·rename_i n hl
   simp only [qbh9,hl,e,hu]
  ·rfl
 ·rfl

def rowD {α : Type} (f : α→List D) (l : List α) : PV:=.d (.rd (l.map f))
def int (n : Int) : PV:=.d (.v (.int .i64 n))
def bool (b : Bool) : PV:=.d (.v (.bool b))

section
variable {P : Program} {t : TypeId} {x y : Operand} {k : IntKind} {a b : Int}
theorem qbL9 {op : BinOp} {X Y : PV} {u v w : Value} (hn : qio9 P op t X Y = none) (hX : toV X = some u) (hY : toV Y = some v) (hp : pev P (do eqGuard op t x y u v; binOp op t u v) = some w) : opBin P h op t x y X Y = some (.d (.v w),h):=by
 simp [opBin,hn,hX,hY,hp]
theorem qbi9 {op : BinOp} {u v : Value} : qio9 P op t (.d (.v u)) (.d (.v v)) = none:=by
 have h1 : ∀ z : Value,qhY9 P t (.d (.v z)) = false:=by intro z; simp [qhY9]
 simp [qio9,h1]
theorem qAu9 : opBin P h .lss t x y (.d (.v (.int k a))) (.d (.v (.int k b))) = some (.d (.v (.bool (decide (a < b)))),h):=qbL9 qbi9 rfl rfl (by simp [eqGuard,binOp,Op.intCmp]; rfl)
theorem qAG9 : opBin P h .leq t x y (.d (.v (.int k a))) (.d (.v (.int k b))) = some (.d (.v (.bool (decide (a≤b)))),h):=qbL9 qbi9 rfl rfl (by simp [eqGuard,binOp,Op.intCmp]; rfl)
theorem qAJ9 : opBin P h .gtr t x y (.d (.v (.int k a))) (.d (.v (.int k b))) = some (.d (.v (.bool (decide (b < a)))),h):=qbL9 qbi9 rfl rfl (by simp [eqGuard,binOp,Op.intCmp]; rfl)
theorem qAz9 : opBin P h .geq t x y (.d (.v (.int k a))) (.d (.v (.int k b))) = some (.d (.v (.bool (decide (b≤a)))),h):=qbL9 qbi9 rfl rfl (by simp [eqGuard,binOp,Op.intCmp]; rfl)
theorem qzN9 : opBin P h .eql t x y (.d (.v (.int k a))) (.d (.v (.int k b))) = some (.d (.v (.bool (decide (a = b)))),h):=qbL9 qbi9 rfl rfl (by simp [eqGuard,binOp,Op.intCmp]; rfl)
theorem qzx9 : opBin P h .neq t x y (.d (.v (.int k a))) (.d (.v (.int k b))) = some (.d (.v (.bool (decide (a ≠ b)))),h):=qbL9 qbi9 rfl rfl (by simp [eqGuard,binOp,Op.intCmp]; rfl)
theorem qlG9 : opBin P h .add t x y (.d (.v (.int k a))) (.d (.v (.int k b))) = some (.d (.v (.int k (k.wrap (a + b)))),h):=qbL9 qbi9 rfl rfl (by simp [eqGuard,binOp,Op.intArith]; rfl)
theorem qzA9 : opBin P h .sub t x y (.d (.v (.int k a))) (.d (.v (.int k b))) = some (.d (.v (.int k (k.wrap (a - b)))),h):=qbL9 qbi9 rfl rfl (by simp [eqGuard,binOp,Op.intArith]; rfl)
theorem qpB9 : opBin P h .mul t x y (.d (.v (.int k a))) (.d (.v (.int k b))) = some (.d (.v (.int k (k.wrap (a * b)))),h):=qbL9 qbi9 rfl rfl (by simp [eqGuard,binOp,Op.intArith]; rfl)
theorem qAd9 {b : Bool} : opUn P h .not (.d (.v (.bool b))) = some (.d (.v (.bool (!b))),h):=by simp [opUn,toV,Op.unary]; rfl
end
end
end Go.Abs

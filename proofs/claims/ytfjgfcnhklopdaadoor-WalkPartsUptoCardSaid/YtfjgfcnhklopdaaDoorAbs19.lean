import Derived.Test.YtfjgfcnhklopdaaDoorAbs18
set_option maxHeartbeats 400000
set_option linter.unusedVariables false
set_option linter.unusedSimpArgs false
namespace Go.Abs
open Go Go.RowKit

def Direct (ops : Array Oper) (k j : Nat) : Prop := ∃ o, ops[j]? = some o ∧ ∃ e ∈ o.after, Region.binds .any e = true ∧ e.on = k
inductive Pre (ops : Array Oper) : Nat → Nat → Prop where
  | one {k j : Nat} (h : Direct ops k j) : Pre ops k j
  | step {k l j : Nat} (h : Direct ops l j) (h' : Pre ops k l) : Pre ops k j
def mask (acc : List Nat) (es : List Edge) : Nat := es.foldr (fun e s => if Region.binds .any e = true then s ||| 2 ^ e.on ||| acc.getD e.on 0 else s) 0
def masks : List Oper → List Nat → List Nat
  | [], acc => acc
  | o :: r, acc => masks r (acc ++ [mask acc o.after.toList])
theorem que9 {ops : Array Oper} {acc : List Nat} {j : Nat} {o : Oper} (ho : ops[j]? = some o) (hacc : ∀ l k, (acc.getD l 0).testBit k = true → Pre ops k l) : ∀ (es : List Edge), (∀ e ∈ es, e ∈ o.after) → ∀ k, (mask acc es).testBit k = true → Pre ops k j := by
  intro es
  induction es with
  | nil => intro _ k hk; simp [mask] at hk
  | cons e r ih =>
    intro hes k hk
    simp only [mask, List.foldr_cons] at hk
    split at hk
    · rename_i hb
      simp only [Nat.testBit_or, Bool.or_eq_true, Nat.testBit_two_pow, decide_eq_true_eq] at hk
      have hdir : Direct ops e.on j := ⟨o, ho, e, hes e (by simp), hb, rfl⟩
      rcases hk with (hk | hk) | hk
      · exact ih (fun e he => hes e (by simp [he])) k hk
      · subst hk; exact .one hdir
      · exact .step hdir (hacc _ _ hk)
    · exact ih (fun e he => hes e (by simp [he])) k hk
theorem qso9 {ops : Array Oper} : ∀ (l : List Oper) (acc : List Nat), ops.toList.drop acc.length = l → (∀ l k, (acc.getD l 0).testBit k = true → Pre ops k l) → ∀ j k, ((masks l acc).getD j 0).testBit k = true → Pre ops k j := by
  intro l
  induction l with
  | nil => intro acc _ hacc j k hk; exact hacc j k hk
  | cons o r ih =>
    intro acc hl hacc j k hk
    have ho : ops[acc.length]? = some o := by
      have := congrArg (·[0]?) hl
      simpa using this
    refine ih (acc ++ [mask acc o.after.toList]) ?_ ?_ j k hk
    · rw [List.length_append, List.length_singleton, ← List.tail_drop, hl]; rfl
    · intro l k hk
      rcases Nat.lt_trichotomy l acc.length with c | c | c
      · rw [List.getD_eq_getElem?_getD, List.getElem?_append_left c, ← List.getD_eq_getElem?_getD] at hk; exact hacc l k hk
      · subst c
        rw [List.getD_eq_getElem?_getD, List.getElem?_append_right (Nat.le_refl _)] at hk
        simp at hk
        exact que9 ho hacc o.after.toList (fun e he => by simpa using he) k hk
      · rw [List.getD_eq_getElem?_getD, List.getElem?_eq_none (by simp; omega)] at hk
        simp at hk

def heapy (o : Oper) : Bool := match o.op with
  | .move _ | .assign _ | .pick _ _ _ | .nilCheck _ | .unOp _ _ _ | .convert _ _ _ | .makeInterface _ _ | .makeFunc _ _ _ | .fieldAddr _ _ _ | .field _ _ _ | .extract _ _ | .build _ _ | .buildSlice _ _ _ | .binOp _ _ _ _ _ | .index _ _ _ | .typeAssert _ _ _ _ => false
  | _ => true
def okReg (ops : Array Oper) (W : List Nat) : Bool :=
  decide (ops.size ≤ 1000) && decide ((ops.toList.filterMap (·.dst)).Nodup) &&
  (List.range ops.size).all fun j => match ops[j]? with
    | none => true
    | some o => (o.after.all fun e => !Region.binds .any e || decide (e.on < j)) &&
      ((o.looksAt ops).all fun t => (List.range ops.size).all fun k => !decide ((ops[k]?).bind (·.dst) = some t) || ((((masks ops.toList []).getD j 0).testBit k && decide (k < j)) || (((masks ops.toList []).getD k 0).testBit j && decide (j < k)))) &&
      (!(heapy o || W.contains j) || W.all fun v => decide (1000 ≤ v) || decide (v = j) || (W.contains (j + 1000) && !W.contains j) || (decide (v < j) && ((masks ops.toList []).getD j 0).testBit v) || (decide (j < v) && ((masks ops.toList []).getD v 0).testBit j))

structure OkReg (ops : Array Oper) (W : List Nat) : Prop where
  small : ops.size ≤ 1000
  dst : ∀ (j k : Nat) (d : Tmp), (ops[j]?).bind (·.dst) = some d → (ops[k]?).bind (·.dst) = some d → j = k
  back : ∀ k j, Direct ops k j → k < j
  look : ∀ (j : Nat) (o : Oper), ops[j]? = some o → ∀ t ∈ o.looksAt ops, ∀ k, (ops[k]?).bind (·.dst) = some t → (Pre ops k j ∧ k < j) ∨ (Pre ops j k ∧ j < k)
  heap : ∀ (j : Nat) (o : Oper), ops[j]? = some o → (heapy o = true ∨ W.contains j = true) → ∀ v, W.contains v = true → 1000 ≤ v ∨ v = j ∨ (W.contains (j + 1000) = true ∧ W.contains j = false) ∨ (v < j ∧ Pre ops v j) ∨ (j < v ∧ Pre ops j v)
theorem quv9 : ∀ {l : List Oper}, (l.filterMap (·.dst)).Nodup → ∀ (j k : Nat) (d : Tmp), (l[j]?).bind (·.dst) = some d → (l[k]?).bind (·.dst) = some d → j = k := by
  intro l
  induction l with
  | nil => intro _ j k d hj; simp at hj
  | cons o r ih =>
    intro hn j k d hj hk
    have hmem : ∀ (i : Nat), (r[i]?).bind (·.dst) = some d → d ∈ r.filterMap (·.dst) := by
      intro i hi
      cases hr : r[i]? with
      | none => simp [hr] at hi
      | some x =>
        simp only [hr, Option.bind_some] at hi
        exact List.mem_filterMap.2 ⟨x, List.mem_of_getElem? hr, hi⟩
    have hn' : (r.filterMap (·.dst)).Nodup ∧ ∀ d, o.dst = some d → d ∉ r.filterMap (·.dst) := by
      rw [List.filterMap_cons] at hn
      cases ho : o.dst with
      | none => simp only [ho] at hn; exact ⟨hn, fun d hd => by cases hd⟩
      | some x => simp only [ho, List.nodup_cons] at hn; exact ⟨hn.2, fun d hd => by cases hd; exact hn.1⟩
    cases j with
    | zero =>
      cases k with
      | zero => rfl
      | succ k => exact absurd (hmem k (by simpa using hk)) (hn'.2 d (by simpa using hj))
    | succ j =>
      cases k with
      | zero => exact absurd (hmem j (by simpa using hj)) (hn'.2 d (by simpa using hk))
      | succ k => rw [ih hn'.1 j k d (by simpa using hj) (by simpa using hk)]
theorem qtf9 {ops : Array Oper} {W : List Nat} (hk : okReg ops W = true) : OkReg ops W := by
  simp only [okReg, Bool.and_eq_true, decide_eq_true_eq, List.all_eq_true, List.mem_range] at hk
  obtain ⟨⟨h0, h1⟩, h2⟩ := hk
  have hpre : ∀ j k, ((masks ops.toList []).getD j 0).testBit k = true → Pre ops k j := qso9 ops.toList [] (by simp) (fun l k hk => by simp at hk)
  have hlt : ∀ {j : Nat} {o : Oper}, ops[j]? = some o → j < ops.size := fun ho => (Array.getElem?_eq_some_iff.1 ho).1
  refine ⟨h0, fun j k d hj hk => quv9 h1 j k d (by simpa using hj) (by simpa using hk), fun k j ⟨o, ho, e, he, hb, hek⟩ => ?_, fun j o ho t ht k hk => ?_, fun j o ho hh v hv => ?_⟩
  · have := h2 j (hlt ho)
    simp only [ho, Bool.and_eq_true] at this
    have := (Array.all_eq_true_iff_forall_mem.1 this.1.1) e he
    simp only [hb, Bool.not_true, Bool.false_or, decide_eq_true_eq] at this
    omega
  · have := h2 j (hlt ho)
    simp only [ho, Bool.and_eq_true] at this
    have := List.all_eq_true.1 this.1.2 t ht
    have hkl : k < ops.size := by
      cases hq : ops[k]? with
      | none => simp [hq] at hk
      | some x => exact hlt hq
    have := List.all_eq_true.1 this k (by simpa using hkl)
    simp only [hk, decide_true, Bool.not_true, Bool.false_or, Bool.or_eq_true, Bool.and_eq_true, decide_eq_true_eq] at this
    rcases this with this | this
    · exact .inl ⟨hpre _ _ this.1, this.2⟩
    · exact .inr ⟨hpre _ _ this.1, this.2⟩
  · have := h2 j (hlt ho)
    simp only [ho, Bool.and_eq_true] at this
    have h3 := this.2
    have hor : (heapy o || W.contains j) = true := by simpa using hh
    rw [hor] at h3
    simp only [Bool.not_true, Bool.false_or] at h3
    have := List.all_eq_true.1 h3 v (by simpa using hv)
    simp only [Bool.or_eq_true, Bool.and_eq_true, decide_eq_true_eq] at this
    rcases this with (((h | h) | h) | h) | h
    · exact .inl h
    · exact .inr (.inl h)
    · exact .inr (.inr (.inl ⟨h.1, by simpa using h.2⟩))
    · exact .inr (.inr (.inr (.inl ⟨h.1, hpre _ _ h.2⟩)))
    · exact .inr (.inr (.inr (.inr ⟨h.1, hpre _ _ h.2⟩)))

theorem qtT9 {get get' : Nat → PV} {x : Operand} (h : ∀ t, x = .tmp t → get t = get' t) : evO get x = evO get' x := by
  cases x with
  | tmp t => exact h t rfl
  | _ => rfl
theorem quO9 {C : Cfg} {L : Oracle} {get get' : Nat → PV} {h : AHeap} {o : Oper} (hh : ∀ x ∈ o.op.operands, evO get x = evO get' x) : aop C L get h o = aop C L get' h o := by
  obtain ⟨dst, op, type, pos, after, guard⟩ := o
  have pairs : ∀ ps : Array (Nat × Operand), (∀ x ∈ ps.map (·.2), evO get x = evO get' x) → (ps.toList.map fun p => (p.1, evO get p.2)) = (ps.toList.map fun p => (p.1, evO get' p.2)) := fun ps hp =>
    List.map_congr_left fun p hm => by rw [hp p.2 (Array.mem_map.2 ⟨p, by simpa using hm, rfl⟩)]
  have many : ∀ ps : Array Operand, (∀ x ∈ ps, evO get x = evO get' x) → ps.toList.map (evO get) = ps.toList.map (evO get') := fun ps hp =>
    List.map_congr_left fun p hm => hp p (by simpa using hm)
  cases op <;> simp only [Op.operands] at hh <;> simp only [aop]
  case build t ps => rw [pairs ps fun x hx => hh x (by simpa using hx)]
  case buildSlice t n ps => rw [pairs ps fun x hx => hh x (by simpa using hx)]
  case makeFunc fn first captured => rw [many first fun x hx => hh x (by simp [hx]), many captured fun x hx => hh x (by simp [hx])]
  case call c =>
    have hargs : c.args.toList.map (evO get) = c.args.toList.map (evO get') := many c.args fun x hx => hh x (by simp [Call.operands, hx])
    have hc : qdW9 get c.callee = qdW9 get' c.callee := by
      cases hc : c.callee with
      | value f => exact hh f (by simp [Call.operands, hc])
      | invoke r m => exact hh r (by simp [Call.operands, hc])
      | builtin b => rfl
    rw [hargs, hc]
  case makeMap t r => cases r <;> simp_all
  case slice t x lo hi mx => cases lo <;> cases hi <;> cases mx <;> simp_all
  all_goals (first | rfl | (simp_all; done))
theorem quF9 {C : Cfg} {L : Oracle} {nt : Nat} {ops : Array Oper} {get get' : Nat → PV} {h : AHeap} {o : Oper} (hh : ∀ t ∈ o.looksAt ops, get t = get' t) : opV C L nt ops get h o = opV C L nt ops get' h o := by
  have ha : aop C L get h o = aop C L get' h o := quO9 fun x hx => qtT9 fun t ht => hh t (by
    subst ht
    exact List.mem_append_left _ (List.mem_filterMap.2 ⟨.tmp t, by simpa using hx, rfl⟩))
  unfold opV
  cases hg : o.guard with
  | none => exact ha
  | some p =>
    obtain ⟨j, b⟩ := p
    simp only
    cases hj : (ops[j]?).bind (·.dst) with
    | none => rfl
    | some d =>
      have := hh d (List.mem_append_right _ (by simp [hg, hj]))
      simp only [this, ha]

theorem qoX9 {C : Cfg} {L : Oracle} {get : Nat → PV} {h h1 : AHeap} {o : Oper} {r : PV} (hn : heapy o = false) (ho : aop C L get h o = some (r, h1)) : h1 = h ∧ ∀ h', aop C L get h' o = some (r, h') := by
  cases hop : o.op <;> simp only [heapy, hop] at hn <;> (try cases hn) <;> simp only [aop, hop] at ho ⊢
  case move x => simp only [Option.some.injEq, Prod.mk.injEq] at ho; obtain ⟨rfl, rfl⟩ := ho; exact ⟨rfl, fun _ => rfl⟩
  case assign x => simp only [Option.some.injEq, Prod.mk.injEq] at ho; obtain ⟨rfl, rfl⟩ := ho; exact ⟨rfl, fun _ => rfl⟩
  case pick c a b =>
    unfold qkg9 at ho ⊢
    split at ho
    · simp only [Option.some.injEq, Prod.mk.injEq] at ho; obtain ⟨rfl, rfl⟩ := ho; exact ⟨rfl, fun _ => by simp [*]⟩
    · cases ho
  case nilCheck x =>
    unfold opNil at ho ⊢
    split at ho <;> first | (simp only [Option.some.injEq, Prod.mk.injEq] at ho; obtain ⟨rfl, rfl⟩ := ho; exact ⟨rfl, fun _ => rfl⟩) | cases ho
  case unOp op t x =>
    unfold opUn at ho ⊢
    split at ho
    · simp only [Option.map_eq_some_iff, Prod.mk.injEq] at ho; obtain ⟨v, h2, rfl, rfl⟩ := ho; exact ⟨rfl, fun _ => by simp [*]⟩
    · cases ho
  case convert s d x =>
    unfold qht9 at ho ⊢
    split at ho
    · simp only [Option.map_eq_some_iff, Prod.mk.injEq] at ho; obtain ⟨v, h2, rfl, rfl⟩ := ho; exact ⟨rfl, fun _ => by simp [*]⟩
    · cases ho
  case makeInterface t x =>
    unfold qhX9 at ho ⊢
    split at ho
    · cases ho
    · simp only [Option.some.injEq, Prod.mk.injEq] at ho; obtain ⟨rfl, rfl⟩ := ho; exact ⟨rfl, fun _ => by simp_all⟩
    · cases ho
  case makeFunc fn first caps =>
    unfold qjb9 at ho ⊢
    split at ho
    · simp only [Option.some.injEq, Prod.mk.injEq] at ho; obtain ⟨rfl, rfl⟩ := ho; exact ⟨rfl, fun _ => by simp [*]⟩
    · cases ho
  case fieldAddr s x f =>
    unfold qft9 at ho ⊢
    split at ho
    · cases ho
    · split at ho
      · cases ho
      · split at ho
        · split at ho
          · cases ho
          · simp only [Option.map_eq_some_iff, Prod.mk.injEq] at ho; obtain ⟨v, h2, rfl, rfl⟩ := ho; exact ⟨rfl, fun _ => by simp [*]⟩
        · cases ho
  case field t x f =>
    unfold qjc9 at ho ⊢
    split at ho
    · split at ho
      · simp only [Option.map_eq_some_iff, Prod.mk.injEq] at ho; obtain ⟨v, h2, rfl, rfl⟩ := ho; exact ⟨rfl, fun _ => by simp [*]⟩
      · cases ho
    · cases ho
  case extract x i =>
    unfold qgj9 at ho ⊢
    split at ho
    · simp only [Option.map_eq_some_iff, Prod.mk.injEq] at ho; obtain ⟨v, h2, rfl, rfl⟩ := ho; exact ⟨rfl, fun _ => by simp [*]⟩
    · cases ho
  case build t ps =>
    unfold qhS9 at ho ⊢
    split at ho
    · split at ho
      · simp only [Option.map_eq_some_iff, Prod.mk.injEq] at ho; obtain ⟨v, h2, rfl, rfl⟩ := ho; exact ⟨rfl, fun _ => by simp [*]⟩
      · cases ho
    · simp only [Option.bind_eq_some_iff, Option.map_eq_some_iff, Prod.mk.injEq] at ho; obtain ⟨n, h3, v, h2, rfl, rfl⟩ := ho; exact ⟨rfl, fun _ => by simp [*]⟩
    · cases ho
  case buildSlice t n ps =>
    have key : ∀ h, qcX9 C.P h t n (ps.toList.map fun p => (p.1, evO get p.2)) = (qcX9 C.P [] t n (ps.toList.map fun p => (p.1, evO get p.2))).map fun p => (p.1, h) := by
      intro h
      unfold qcX9
      cases qK9 C.P t with
      | none => rfl
      | some e =>
        simp only
        cases zeroCells C.P e with
        | none => rfl
        | some z =>
          cases sizeT C.P e with
          | none => rfl
          | some sz =>
            simp only
            split
            · simp [Option.map_map, Function.comp_def]
            · rfl
    rw [key] at ho
    simp only [Option.map_eq_some_iff, Prod.mk.injEq] at ho
    obtain ⟨p, h2, rfl, rfl⟩ := ho
    exact ⟨rfl, fun h' => by rw [key, h2]; rfl⟩
  case binOp op t x y z =>
    unfold opBin at ho ⊢
    split at ho
    · simp only [Option.some.injEq, Prod.mk.injEq] at ho; obtain ⟨rfl, rfl⟩ := ho; exact ⟨rfl, fun _ => by simp [*]⟩
    · split at ho
      · simp only [Option.map_eq_some_iff, Prod.mk.injEq] at ho; obtain ⟨v, h2, rfl, rfl⟩ := ho; exact ⟨rfl, fun _ => by simp [*]⟩
      · cases ho
  case index t x i =>
    unfold qhY9 at ho ⊢
    split at ho
    · split at ho
      · simp only [Option.map_eq_some_iff, Prod.mk.injEq] at ho; obtain ⟨v, h2, rfl, rfl⟩ := ho; exact ⟨rfl, fun _ => by simp [*]⟩
      · cases ho
    · split at ho
      · split at ho
        · split at ho
          · simp only [Option.map_eq_some_iff, Prod.mk.injEq] at ho; obtain ⟨v, h2, rfl, rfl⟩ := ho; exact ⟨rfl, fun _ => by simp [*]⟩
          · cases ho
        · cases ho
      · cases ho
  case typeAssert x xt asserted ok =>
    have key : ∀ h, qeZ9 C.P h (evO get x) asserted ok = (qeZ9 C.P [] (evO get x) asserted ok).map fun p => (p.1, h) := by
      intro h
      unfold qeZ9 qfZ9
      cases C.P.underlying asserted with
      | none => rfl
      | some d =>
        cases d <;> try rfl
        all_goals
          cases dynOf (evO get x) with
          | none => rfl
          | some q =>
            cases q with
            | none => cases ok <;> simp [Option.map_map, Function.comp_def]
            | some p =>
              obtain ⟨t, v⟩ := p
              by_cases ht : t = asserted
              · simp [ht]
              · cases ok <;> simp [ht, Option.map_map, Function.comp_def]
    rw [key] at ho
    simp only [Option.map_eq_some_iff, Prod.mk.injEq] at ho
    obtain ⟨p, h2, rfl, rfl⟩ := ho
    exact ⟨rfl, fun h' => by rw [key, h2]; rfl⟩
theorem qob9 {get : Nat → PV} {a : Operand} (hf : (match evO get a with | .bx _ => true | .d (.bx _) => true | _ => false) = true) (h h' : AHeap) : qbH9 h (evO get a) = qbH9 h' (evO get a) := by
  split at hf
  · rename_i e; rw [e]; rfl
  · rename_i e; rw [e]; rfl
  · cases hf
theorem qnw9 {C : Cfg} {L : Oracle} {get : Nat → PV} {h h1 : AHeap} {o : Oper} {r : PV} (hf : qeb9 get o = true) (ho : aop C L get h o = some (r, h1)) : h1 = h ∧ ∀ h', aop C L get h' o = some (r, h') := by
  obtain ⟨dst, op, type, pos, after, guard⟩ := o
  cases op <;> simp only [qeb9] at hf <;> first | (exfalso; exact Bool.false_ne_true hf) | skip
  rename_i t a
  simp only [aop, loadP] at ho ⊢
  have hc := fun h' => qob9 hf h' h
  cases hx : (qbH9 h (evO get a)).bind fun cs => partP C.P t cs 0 with
  | none => simp [hx] at ho
  | some x =>
    simp only [hx, Option.map_some, Option.some.injEq, Prod.mk.injEq] at ho
    obtain ⟨rfl, rfl⟩ := ho
    exact ⟨rfl, fun h' => by rw [hc h', hx]; rfl⟩
theorem quN9 {C : Cfg} {L : Oracle} {nt : Nat} {ops : Array Oper} {get : Nat → PV} {h h1 : AHeap} {o : Oper} {r : PV} (hf : qeb9 get o = true) (ho : opV C L nt ops get h o = some (r, h1)) : h1 = h ∧ ∀ h', opV C L nt ops get h' o = some (r, h') := by
  unfold opV at ho ⊢
  cases hg : o.guard with
  | none => simp only [hg] at ho ⊢; exact qnw9 hf ho
  | some p =>
    obtain ⟨j, b⟩ := p
    simp only [hg] at ho ⊢
    cases hj : (ops[j]?).bind (·.dst) with
    | none => simp [hj] at ho
    | some d =>
      simp only [hj] at ho ⊢
      split at ho
      · rename_i hlt
        simp only [if_pos hlt]
        split at ho
        · rename_i b' hb
          split at ho
          · rename_i he
            simp only [if_pos he]; exact qnw9 hf ho
          · rename_i he
            simp only [Option.some.injEq, Prod.mk.injEq] at ho; obtain ⟨rfl, rfl⟩ := ho
            exact ⟨rfl, fun _ => by rw [if_neg he]⟩
        · simp only [Option.some.injEq, Prod.mk.injEq] at ho; obtain ⟨rfl, rfl⟩ := ho
          exact ⟨rfl, fun _ => rfl⟩
        · cases ho
      · cases ho
theorem qpE9 {C : Cfg} {L : Oracle} {nt : Nat} {ops : Array Oper} {get : Nat → PV} {h h1 : AHeap} {o : Oper} {r : PV} (hn : heapy o = false) (ho : opV C L nt ops get h o = some (r, h1)) : h1 = h ∧ ∀ h', opV C L nt ops get h' o = some (r, h') := by
  unfold opV at ho ⊢
  cases hg : o.guard with
  | none => simp only [hg] at ho ⊢; exact qoX9 hn ho
  | some p =>
    obtain ⟨j, b⟩ := p
    simp only [hg] at ho ⊢
    cases hj : (ops[j]?).bind (·.dst) with
    | none => simp [hj] at ho
    | some d =>
      simp only [hj] at ho ⊢
      split at ho
      · rename_i hlt
        simp only [if_pos hlt]
        split at ho
        · rename_i b' hb
          split at ho
          · rename_i he
            simp only [if_pos he]; exact qoX9 hn ho
          · rename_i he
            simp only [Option.some.injEq, Prod.mk.injEq] at ho; obtain ⟨rfl, rfl⟩ := ho
            exact ⟨rfl, fun _ => by rw [if_neg he]⟩
        · simp only [Option.some.injEq, Prod.mk.injEq] at ho; obtain ⟨rfl, rfl⟩ := ho
          exact ⟨rfl, fun _ => rfl⟩
        · cases ho
      · cases ho
end Go.Abs

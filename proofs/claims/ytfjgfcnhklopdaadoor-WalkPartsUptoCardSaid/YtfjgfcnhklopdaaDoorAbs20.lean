import Derived.Test.YtfjgfcnhklopdaaDoorAbs19
set_option maxHeartbeats 400000
set_option linter.unusedVariables false
set_option linter.unusedSimpArgs false
namespace Go.Abs
open Go Go.RowKit

theorem qtq9 {C : Cfg} {L : Oracle} {nt : Nat} {W : List Nat} {ops : Array Oper} {env : Env} : ∀ (l : List Oper) (k : Nat) {te te1 : Env} {h h1 : AHeap}, opsD C L nt W ops env k l te h = some (te1, h1) →
    ∃ (R : Nat → PV) (Hh : Nat → AHeap) (G : Nat → Nat → PV), Hh 0 = h ∧ (∀ i, G 0 i = get2 te env i) ∧ Hh l.length = h1 ∧ (∀ i, G l.length i = get2 te1 env i) ∧
      ∀ (j : Nat) (o : Oper), l[j]? = some o → opV C L nt ops (G j) (Hh j) o = some (R j, Hh (j + 1)) ∧ (∀ d, o.dst = some d → d < nt) ∧ (W.contains (k + j) = true ∨ Hh (j + 1) = Hh j) ∧ (∀ i, G (j + 1) i = setG (G j) o.dst (R j) i) ∧ (W.contains (k + j + 1000) = true → qeb9 (G j) o = true) := by
  intro l
  induction l with
  | nil =>
    intro k te te1 h h1 ho
    simp only [opsD, Option.some.injEq, Prod.mk.injEq] at ho
    obtain ⟨rfl, rfl⟩ := ho
    exact ⟨fun _ => .junk, fun _ => h, fun _ => get2 te env, rfl, fun _ => rfl, rfl, fun _ => rfl, fun j o hj => by simp at hj⟩
  | cons o r ih =>
    intro k te te1 h h1 ho
    simp only [opsD, opS] at ho
    cases hv : opV C L nt ops (get2 te env) h o with
    | none => simp [hv] at ho
    | some p =>
      obtain ⟨rv, h2⟩ := p
      simp only [hv, Option.bind_some] at ho
      cases hp : putT nt o.dst rv te with
      | none => simp [hp] at ho
      | some te2 =>
        simp only [hp, Option.map_some, Option.bind_some] at ho
        obtain ⟨p1, p2⟩ := qis9 (env := env) hp
        split at ho
        · rename_i hw
          obtain ⟨R, Hh, G, a1, a2, a3, a4, a5⟩ := ih (k + 1) ho
          refine ⟨fun j => match j with | 0 => rv | j + 1 => R j, fun j => match j with | 0 => h | j + 1 => Hh j, fun j => match j with | 0 => get2 te env | j + 1 => G j, rfl, fun _ => rfl, a3, a4, fun j o' hj => ?_⟩
          cases j with
          | zero =>
            simp only [List.getElem?_cons_zero, Option.some.injEq] at hj
            subst hj
            refine ⟨by simp only [a1]; exact hv, p1, ?_, fun i => ?_, fun hf => ?_⟩
            · rcases hw.1 with hw | hw
              · exact .inl (by simpa using hw)
              · exact .inr (by simp only [a1]; exact hw)
            · show G 0 i = setG (get2 te env) o.dst rv i
              rw [a2 i, p2 i]
            · exact hw.2 (by simpa using hf)
          | succ j =>
            obtain ⟨b1, b2, b3, b4, b5⟩ := a5 j o' (by simpa using hj)
            refine ⟨b1, b2, ?_, b4, fun hf => b5 (by rw [← hf]; congr 1; omega)⟩
            rcases b3 with b3 | b3
            · exact .inl (by rw [← b3]; congr 1; omega)
            · exact .inr b3
        · cases ho

section
variable {W0 : World} {X : Nat → Prop}

def qI9 (W : List Nat) (n : Nat) (listed : Array Bool) : Nat := ((List.range n).find? fun v => W.contains v && !listed.getD v false).getD n
theorem qeL9 (W : List Nat) (n : Nat) (listed : Array Bool) : qI9 W n listed ≤ n := by
  unfold qI9
  cases h : (List.range n).find? _ with
  | none => simp
  | some v =>
    have := List.mem_of_find?_eq_some h
    simp at this
    simp; omega
theorem qiu9 {W : List Nat} {n : Nat} {listed : Array Bool} {v : Nat} (hv : v < qI9 W n listed) (hw : W.contains v = true) : listed.getD v false = true := by
  have hn : v < n := Nat.lt_of_lt_of_le hv (qeL9 W n listed)
  cases hl : listed.getD v false with
  | true => rfl
  | false =>
    exfalso
    unfold qI9 at hv
    have hp : (W.contains v && !listed.getD v false) = true := by rw [hw, hl]; rfl
    cases h : (List.range n).find? (fun v => W.contains v && !listed.getD v false) with
    | none =>
      have := List.find?_eq_none.1 h v (by simpa using hn)
      exact this hp
    | some u =>
      rw [h] at hv
      simp only [Option.getD_some] at hv
      obtain ⟨_, as, bs, hab, hno⟩ := List.find?_eq_some_iff_append.1 h
      have hlen : as.length = u := by
        have h1 := congrArg (·[as.length]?) hab
        simp only [List.getElem?_append_right (Nat.le_refl _), Nat.sub_self, List.getElem?_cons_zero] at h1
        rcases Nat.lt_or_ge as.length n with c | c
        · rw [List.getElem?_range c] at h1; simpa using h1
        · rw [List.getElem?_eq_none (by simpa using c)] at h1; cases h1
      have hva : v ∈ as := by
        have h1 := congrArg (·[v]?) hab
        simp only [List.getElem?_append_left (show v < as.length by omega)] at h1
        rw [List.getElem?_range hn] at h1
        exact List.mem_of_getElem? h1.symm
      have := hno v hva
      rw [hp] at this
      cases this
theorem qiD9 {W : List Nat} {n : Nat} {listed : Array Bool} (h : qI9 W n listed < n) : W.contains (qI9 W n listed) = true ∧ listed.getD (qI9 W n listed) false = false := by
  unfold qI9 at h ⊢
  cases hf : (List.range n).find? (fun v => W.contains v && !listed.getD v false) with
  | none => rw [hf] at h; simp at h
  | some v =>
    have := List.find?_some hf
    simpa using this

theorem qvL9 (listed : Array Bool) (i k : Nat) (hi : i < listed.size) : (listed.setIfInBounds i true).getD k false = if k = i then true else listed.getD k false := by
  by_cases h : k = i
  · subst h; simp [hi]
  · rw [if_neg h]; simp [Array.getElem?_setIfInBounds_ne (Ne.symm h)]

open Classical in
noncomputable def gAt (ops : Array Oper) (G0 G : Nat → PV) (listed : Array Bool) (t : Nat) : PV := if ∃ k, (ops[k]?).bind (·.dst) = some t ∧ listed.getD k false = false then G0 t else G t

theorem quu9 {C : Cfg} {L : Oracle} (hC : CSound W0 C) (hL : OSound W0 C L) {nt : Nat} {W : List Nat} {ops : Array Oper} {Q : Exit → Act → World → Prop} (hok : OkReg ops W)
    {R : Nat → PV} {Hh : Nat → AHeap} {G : Nat → Nat → PV} (htr : ∀ (j : Nat) (o : Oper), ops[j]? = some o → opV C L nt ops (G j) (Hh j) o = some (R j, Hh (j + 1)) ∧ (∀ d, o.dst = some d → d < nt) ∧ (W.contains j = true ∨ Hh (j + 1) = Hh j) ∧ (∀ i, G (j + 1) i = setG (G j) o.dst (R j) i) ∧ (W.contains (j + 1000) = true → qeb9 (G j) o = true))
    {m0 : Places} {w0 : World} (hK : ∀ a' m' w', a'.tmps.size = nt → a'.defers = [] → TRel (Ex X (Hh ops.size) m') (Hh ops.size) m' w' (G ops.size) a' → HRel W0 X (Hh ops.size) m' w' → Evo (Ex X (Hh 0) m0) (Hh 0) m0 w0 (Ex X (Hh ops.size) m') (Hh ops.size) m' w' → Q .normal a' w') :
    ∀ (fuel : Nat) (listed : Array Bool) (a : Act) (m : Places) (w : World), listed.size = ops.size → listed.toList.count false = fuel → (∀ j k, listed.getD j false = true → Direct ops k j → listed.getD k false = true) →
      a.tmps.size = nt → a.defers = [] → HRel W0 X (Hh (qI9 W ops.size listed)) m w → TRel (Ex X (Hh (qI9 W ops.size listed)) m) (Hh (qI9 W ops.size listed)) m w (gAt ops (G 0) (G ops.size) listed) a →
      Evo (Ex X (Hh 0) m0) (Hh 0) m0 w0 (Ex X (Hh (qI9 W ops.size listed)) m) (Hh (qI9 W ops.size listed)) m w →
      wpAny C.P .any ops Q fuel listed a w := by
  have hlt : ∀ {j : Nat} {o : Oper}, ops[j]? = some o → j < ops.size := fun ho => (Array.getElem?_eq_some_iff.1 ho).1
  -- slots that an operation fills
  have hG1 : ∀ (k : Nat) (o : Oper) (t : Nat), ops[k]? = some o → o.dst = some t → ∀ j, k < j → j ≤ ops.size → G j t = R k := by
    intro k o t ho hd j hkj
    induction j with
    | zero => omega
    | succ j ih =>
      intro hj
      have hoj : ops[j]? = some ops[j] := Array.getElem?_eq_getElem (by omega)
      rw [(htr j _ hoj).2.2.2.1 t]
      rcases Nat.lt_or_ge k j with c | c
      · have hne : ops[j].dst ≠ some t := by
          intro he
          have := hok.dst k j t (by rw [ho]; exact hd) (by rw [hoj]; exact he)
          omega
        have : setG (G j) ops[j].dst (R j) t = G j t := by
          cases hdj : ops[j].dst with
          | none => rfl
          | some d =>
            simp only [setG]
            rw [if_neg]
            intro e; subst e; exact hne hdj
        rw [this]; exact ih c (by omega)
      · have e : k = j := by omega
        subst e
        rw [hoj] at ho
        cases ho
        rw [hd]; simp [setG]
  have hG0 : ∀ (t : Nat) (j : Nat), j ≤ ops.size → (∀ k, k < j → (ops[k]?).bind (·.dst) ≠ some t) → G j t = G 0 t := by
    intro t j
    induction j with
    | zero => intro _ _; rfl
    | succ j ih =>
      intro hj hno
      have hoj : ops[j]? = some ops[j] := Array.getElem?_eq_getElem (by omega)
      rw [(htr j _ hoj).2.2.2.1 t]
      have hne : ops[j].dst ≠ some t := by
        intro he
        exact hno j (by omega) (by rw [hoj]; exact he)
      have : setG (G j) ops[j].dst (R j) t = G j t := by
        cases hdj : ops[j].dst with
        | none => rfl
        | some d =>
          simp only [setG]
          rw [if_neg]
          intro e; subst e; exact hne hdj
      rw [this]; exact ih (by omega) (fun k hk => hno k (by omega))
  have hpre : ∀ (listed : Array Bool), (∀ j k, listed.getD j false = true → Direct ops k j → listed.getD k false = true) → ∀ k j, Pre ops k j → (listed.getD j false = true ∨ ∀ k', Direct ops k' j → listed.getD k' false = true) → listed.getD k false = true := by
    intro listed hcl k j hp
    induction hp with
    | one hd =>
      intro hj
      rcases hj with hj | hj
      · exact hcl _ _ hj hd
      · exact hj _ hd
    | step hd _ ih =>
      intro hj
      refine ih (.inl ?_)
      rcases hj with hj | hj
      · exact hcl _ _ hj hd
      · exact hj _ hd
  have hsame : ∀ (i j : Nat), i ≤ j → j ≤ ops.size → (∀ k, i ≤ k → k < j → W.contains k = false) → Hh j = Hh i := by
    intro i j hij
    induction j with
    | zero =>
      intro _ _
      have : i = 0 := by omega
      subst this; rfl
    | succ j ih =>
      intro hj hno
      rcases Nat.lt_or_ge i (j + 1) with c | c
      · have hoj : ops[j]? = some ops[j] := Array.getElem?_eq_getElem (by omega)
        rcases (htr j _ hoj).2.2.1 with hw | hw
        · rw [hno j (by omega) (by omega)] at hw; cases hw
        · rw [hw]; exact ih (by omega) (by omega) (fun k hk hk' => hno k hk (by omega))
      · have : i = j + 1 := by omega
        subst this; rfl
  intro fuel
  -- where all is done
  have fin : ∀ (listed : Array Bool) (a : Act) (m : Places) (w : World), listed.size = ops.size → (∀ k, k < ops.size → listed.getD k false = true) → a.tmps.size = nt → a.defers = [] → HRel W0 X (Hh (qI9 W ops.size listed)) m w → TRel (Ex X (Hh (qI9 W ops.size listed)) m) (Hh (qI9 W ops.size listed)) m w (gAt ops (G 0) (G ops.size) listed) a →
      Evo (Ex X (Hh 0) m0) (Hh 0) m0 w0 (Ex X (Hh (qI9 W ops.size listed)) m) (Hh (qI9 W ops.size listed)) m w → Q .normal a w := by
    intro listed a m w hsz hall hs hdf H hg hev
    have hfw : qI9 W ops.size listed = ops.size := by
      rcases Nat.lt_or_ge (qI9 W ops.size listed) ops.size with c | c
      · have := (qiD9 c).2
        rw [hall _ c] at this
        cases this
      · have := qeL9 W ops.size listed; omega
    rw [hfw] at H hg hev
    refine hK a m w hs hdf (hg.congr fun i => ?_) H hev
    unfold gAt
    rw [if_neg]
    rintro ⟨k, hk1, hk2⟩
    have : k < ops.size := by
      cases hq : ops[k]? with
      | none => simp [hq] at hk1
      | some x => exact hlt hq
    rw [hall k this] at hk2
    cases hk2
  have ready_nil : ∀ (listed : Array Bool), listed.size = ops.size → Region.ready .any ops listed = [] → ∀ k, k < ops.size → listed.getD k false = true := by
    intro listed hsz hr k
    induction k using Nat.strongRecOn with
    | _ k ih =>
      intro hk
      cases hl : listed.getD k false with
      | true => rfl
      | false =>
        exfalso
        have : k ∈ Region.ready .any ops listed := by
          rw [mem_ready]
          refine ⟨?_, ops[k], Array.getElem?_eq_getElem hk, fun e he hb => ?_⟩
          · have hkl : k < listed.size := by omega
            simp [hkl] at hl ⊢; exact hl
          · have hd : Direct ops e.on k := ⟨_, Array.getElem?_eq_getElem hk, e, he, hb, rfl⟩
            have := hok.back _ _ hd
            exact ih _ this (by omega)
        rw [hr] at this
        cases this
  induction fuel with
  | zero =>
    intro listed a m w hsz hcnt hcl hs hdf H hg hev
    have hall : ∀ k, k < ops.size → listed.getD k false = true := by
      intro k hk
      cases hl : listed.getD k false with
      | true => rfl
      | false =>
        exfalso
        have hkl : k < listed.size := by omega
        have : false ∈ listed.toList := by
          have h0 : listed[k] = false := by simpa [hkl] using hl
          rw [← h0]; simp
        have := List.count_pos_iff.2 this
        omega
    refine ⟨?_, fin listed a m w hsz hall hs hdf H hg hev⟩
    rw [List.eq_nil_iff_forall_not_mem]
    intro k hk
    rw [mem_ready] at hk
    obtain ⟨h0, o, ho, _⟩ := hk
    have hkl : k < listed.size := by rw [hsz]; exact hlt ho
    have h1 := hall k (hlt ho)
    simp [hkl] at h0 h1
    rw [h1] at h0
    cases h0
  | succ fuel ih =>
    intro listed a m w hsz hcnt hcl hs hdf H hg hev
    refine ⟨fun hr => fin listed a m w hsz (ready_nil listed hsz hr) hs hdf H hg hev, fun i hi => ?_⟩
    rw [mem_ready] at hi
    obtain ⟨hi0, o, ho, hed⟩ := hi
    have hil : i < ops.size := hlt ho
    have hils : i < listed.size := by omega
    have hi1 : listed.getD i false = false := by simp [hils] at hi0 ⊢; exact hi0
    have hdir : ∀ k', Direct ops k' i → listed.getD k' false = true := by
      rintro k' ⟨o', ho', e, he, hb, rfl⟩
      rw [ho] at ho'
      cases ho'
      exact hed e he hb
    have hpi : ∀ k, Pre ops k i → listed.getD k false = true := fun k hk => hpre listed hcl k i hk (.inr hdir)
    obtain ⟨t1, t2, t3, t4, t5⟩ := htr i o ho
    -- what it looks at
    have hlook : ∀ t ∈ o.looksAt ops, gAt ops (G 0) (G ops.size) listed t = G i t := by
      intro t ht
      by_cases hex : ∃ k : Nat, (ops[k]?).bind (·.dst) = some t
      · obtain ⟨k, hk⟩ := hex
        rcases hok.look i o ho t ht k hk with ⟨q1, q2⟩ | ⟨q1, q2⟩
        rotate_left
        · have hkl : listed.getD k false = false := by
            cases hl : listed.getD k false with
            | false => rfl
            | true =>
              have := hpre listed hcl i k q1 (.inl hl)
              rw [hi1] at this
              cases this
          unfold gAt
          rw [if_pos ⟨k, hk, hkl⟩]
          exact (hG0 t i (by omega) (fun k' hk' he => by
            have := hok.dst k k' t hk he
            omega)).symm
        have hkd := hpi k q1
        cases hok2 : ops[k]? with
        | none => simp [hok2] at hk
        | some x =>
          have hxd : x.dst = some t := by simpa [hok2] using hk
          rw [hG1 k x t hok2 hxd i q2 (by omega)]
          unfold gAt
          rw [if_neg, hG1 k x t hok2 hxd ops.size (by omega) (Nat.le_refl _)]
          rintro ⟨k', hk1, hk2⟩
          have := hok.dst k k' t hk hk1
          subst this
          rw [hkd] at hk2
          cases hk2
      · unfold gAt
        rw [if_neg, hG0 t ops.size (Nat.le_refl _) (fun k _ hk => hex ⟨k, hk⟩), hG0 t i (by omega) (fun k _ hk => hex ⟨k, hk⟩)]
        rintro ⟨k', hk1, _⟩
        exact hex ⟨k', hk1⟩
    have hnew : ∀ k, (listed.setIfInBounds i true).getD k false = if k = i then true else listed.getD k false := fun k => qvL9 listed i k hils
    -- the heap
    have hheap : opV C L nt ops (gAt ops (G 0) (G ops.size) listed) (Hh (qI9 W ops.size listed)) o = some (R i, Hh (qI9 W ops.size (listed.setIfInBounds i true))) := by
      rw [quF9 hlook]
      have efw : W.contains i = false → qI9 W ops.size (listed.setIfInBounds i true) = qI9 W ops.size listed := by
        intro hw
        unfold qI9
        congr 1
        apply congrArg (fun p => List.find? p (List.range ops.size))
        funext v
        rw [hnew]
        by_cases hv : v = i
        · subst hv; rw [hw]; rfl
        · rw [if_neg hv]
      by_cases hfl : W.contains (i + 1000) = true ∧ W.contains i = false
      · rw [efw hfl.2]
        exact (quN9 (t5 hfl.1) t1).2 _
      by_cases hh : heapy o = true ∨ W.contains i = true
      · have hchk : ∀ v, v < ops.size → W.contains v = true → v = i ∨ (v < i ∧ Pre ops v i) ∨ (i < v ∧ Pre ops i v) := by
          intro v hv hwv
          have hsm := hok.small
          rcases hok.heap i o ho hh v hwv with h | h | h | h
          · omega
          · exact .inl h
          · exact absurd h hfl
          · exact .inr h
        have hge : i ≤ qI9 W ops.size listed := by
          rcases Nat.lt_or_ge (qI9 W ops.size listed) i with c | c
          · exfalso
            obtain ⟨f1, f2⟩ := qiD9 (W := W) (listed := listed) (show qI9 W ops.size listed < ops.size by omega)
            rcases hchk _ (by omega) f1 with e | ⟨_, e⟩ | ⟨e, _⟩
            · omega
            · rw [hpi _ e] at f2; cases f2
            · omega
          · exact c
        have hge' : i < qI9 W ops.size (listed.setIfInBounds i true) := by
          rcases Nat.lt_or_ge i (qI9 W ops.size (listed.setIfInBounds i true)) with c | c
          · exact c
          · exfalso
            obtain ⟨f1, f2⟩ := qiD9 (W := W) (listed := listed.setIfInBounds i true) (show qI9 W ops.size (listed.setIfInBounds i true) < ops.size by omega)
            rw [hnew] at f2
            split at f2
            · cases f2
            · rcases hchk _ (by omega) f1 with e | ⟨_, e⟩ | ⟨e, _⟩
              · omega
              · rw [hpi _ e] at f2; cases f2
              · omega
        have hno : ∀ k, i < k → (k < qI9 W ops.size listed ∨ k < qI9 W ops.size (listed.setIfInBounds i true)) → W.contains k = false := by
          intro k hik hk
          cases hw : W.contains k with
          | false => rfl
          | true =>
            exfalso
            have hkl : listed.getD k false = true := by
              rcases hk with hk | hk
              · exact qiu9 hk hw
              · have := qiu9 hk hw
                rw [hnew, if_neg (by omega)] at this
                exact this
            have hks : k < ops.size := by
              rcases hk with hk | hk
              · exact Nat.lt_of_lt_of_le hk (qeL9 _ _ _)
              · exact Nat.lt_of_lt_of_le hk (qeL9 _ _ _)
            rcases hchk _ hks hw with e | ⟨e, _⟩ | ⟨_, e⟩
            · omega
            · omega
            · have := hpre listed hcl i k e (.inl hkl)
              rw [hi1] at this
              cases this
        have e2 : Hh (qI9 W ops.size (listed.setIfInBounds i true)) = Hh (i + 1) := hsame (i + 1) _ hge' (qeL9 _ _ _) (fun k hk hk' => hno k (by omega) (.inr hk'))
        have e1 : Hh (qI9 W ops.size listed) = Hh i := by
          rcases Nat.lt_or_ge i (qI9 W ops.size listed) with c | c
          · have hiw : W.contains i = false := by
              cases hw : W.contains i with
              | false => rfl
              | true => have := qiu9 c hw; rw [hi1] at this; cases this
            refine hsame i _ hge (qeL9 _ _ _) (fun k hk hk' => ?_)
            rcases Nat.lt_or_ge i k with c' | c'
            · exact hno k c' (.inl hk')
            · have : k = i := by omega
              subst this; exact hiw
          · have : qI9 W ops.size listed = i := by omega
            rw [this]
        rw [e1, e2]; exact t1
      · have hn : heapy o = false := by
          cases hq : heapy o with
          | false => rfl
          | true => exact absurd (.inl hq) hh
        have hw : W.contains i = false := by
          cases hq : W.contains i with
          | false => rfl
          | true => exact absurd (.inr hq) hh
        have e : qI9 W ops.size (listed.setIfInBounds i true) = qI9 W ops.size listed := by
          unfold qI9
          congr 1
          apply congrArg (fun p => List.find? p (List.range ops.size))
          funext v
          rw [hnew]
          by_cases hv : v = i
          · subst hv; rw [hw]; rfl
          · rw [if_neg hv]
        rw [e]
        exact (qpE9 hn t1).2 _
    unfold wpOp
    simp only [ho]
    refine qnC9 hC hL H hs hdf hg hheap t2 (fun a' m' w' a1 a2 a3 a4 a5 => ih (listed.setIfInBounds i true) a' m' w' (by simpa using hsz) ?_ ?_ a1 a2 a4 ?_ (hev.trans a5))
    · rw [Array.toList_setIfInBounds]
      have hl0 : listed.toList[i]'(by simpa using hils) = false := by
        have : listed[i] = false := by simpa [hils] using hi1
        simpa using this
      rw [List.count_set (by simpa using hils), hl0, hcnt]
      simp
    · intro j k hj hd
      rw [hnew] at hj ⊢
      split
      · rfl
      · split at hj
        · rename_i e; subst e; exact hdir k hd
        · exact hcl j k hj hd
    · refine a3.congr fun t => ?_
      cases hd : o.dst with
      | none =>
        simp only [setG]
        unfold gAt
        congr 1
        apply propext
        constructor
        · rintro ⟨k, k1, k2⟩
          rw [hnew] at k2
          split at k2
          · cases k2
          · exact ⟨k, k1, k2⟩
        · rintro ⟨k, k1, k2⟩
          refine ⟨k, k1, ?_⟩
          rw [hnew, if_neg]
          · exact k2
          · intro e; subst e; rw [ho] at k1; simp [hd] at k1
      | some d =>
        simp only [setG]
        by_cases ht : t = d
        · subst ht
          rw [if_pos rfl]
          unfold gAt
          rw [if_neg, hG1 i o t ho hd ops.size hil (Nat.le_refl _)]
          rintro ⟨k, k1, k2⟩
          have := hok.dst i k t (by rw [ho]; exact hd) k1
          subst this
          rw [hnew, if_pos rfl] at k2
          cases k2
        · rw [if_neg ht]
          unfold gAt
          congr 1
          apply propext
          constructor
          · rintro ⟨k, k1, k2⟩
            rw [hnew] at k2
            split at k2
            · cases k2
            · exact ⟨k, k1, k2⟩
          · rintro ⟨k, k1, k2⟩
            refine ⟨k, k1, ?_⟩
            rw [hnew, if_neg]
            · exact k2
            · intro e; subst e; rw [ho] at k1; simp [hd] at k1; exact ht k1.symm
end
end Go.Abs

import Derived.Test.YtfjgfcnhklopdaaDoorAbs17
set_option maxHeartbeats 400000
set_option linter.unusedVariables false
set_option linter.unusedSimpArgs false
namespace Go.Abs
open Go Go.RowKit

section
variable {W0 : World} {E E' : Nat → Prop} {X : Nat → Prop} {h h' : AHeap} {m m' : Places} {w w' : World}

theorem Act.eval_put_tmp (a : Act) (d : Tmp) (v : Value) (hd : d < a.tmps.size) (i : Nat) : (a.put (some d) v).eval (.tmp i) = if i = d then v else a.eval (.tmp i) := by
  by_cases hi : i = d
  · subst hi; simp [Act.eval, Act.put, hd]
  · rw [if_neg hi]
    simp [Act.eval, Act.put, Array.getElem?_setIfInBounds_ne (Ne.symm hi)]
theorem qia9 (a : Act) (d : Option Tmp) (v : Value) : (a.put d v).tmps.size = a.tmps.size := by
  cases d <;> simp [Act.put]
theorem qgp9 (a : Act) (d : Option Tmp) (v : Value) : (a.put d v).defers = a.defers := by
  cases d <;> rfl

theorem TRel.evo {get : Nat → PV} {a : Act} (hg : TRel E h m w get a) (hv : Evo E h m w E' h' m' w') : TRel E' h' m' w' get a := fun i => (hg i).evo hv

def setG (get : Nat → PV) (dst : Option Tmp) (r : PV) : Nat → PV := match dst with
  | none => get
  | some d => fun i => if i = d then r else get i
theorem TRel.put {get : Nat → PV} {a : Act} {nt : Nat} (hg : TRel E h m w get a) (hs : a.tmps.size = nt) {dst : Option Tmp} (hd : ∀ d, dst = some d → d < nt) {r : PV} {v : Value} (hr : VRel E h m w r v) : TRel E h m w (setG get dst r) (a.put dst v) := by
  intro i
  cases dst with
  | none => exact hg i
  | some d =>
    rw [Act.eval_put_tmp a d v (by rw [hs]; exact hd d rfl)]
    simp only [setG]
    by_cases hi : i = d
    · rw [if_pos hi, if_pos hi]; exact hr
    · rw [if_neg hi, if_neg hi]; exact hg i
theorem qis9 {nt : Nat} {dst : Option Tmp} {r : PV} {te te1 : Env} {env : Env} (hp : putT nt dst r te = some te1) : (∀ d, dst = some d → d < nt) ∧ ∀ i, get2 te1 env i = setG (get2 te env) dst r i := by
  cases dst with
  | none =>
    simp only [putT, Option.some.injEq] at hp
    subst hp
    exact ⟨fun d hd => by simp at hd, fun i => rfl⟩
  | some d =>
    simp only [putT] at hp
    split at hp
    · rename_i hlt
      simp only [Option.some.injEq] at hp
      subst hp
      exact ⟨fun d' hd => by cases hd; exact hlt, fun i => rfl⟩
    · cases hp

theorem qnC9 {C : Cfg} {L : Oracle} (hC : CSound W0 C) (hL : OSound W0 C L) (H : HRel W0 X h m w) {nt : Nat} {ops : Array Oper} {get : Nat → PV} {a : Act} (hs : a.tmps.size = nt) (hdf : a.defers = []) (hg : TRel (Ex X h m) h m w get a) {o : Oper} {r : PV} {h1 : AHeap}
    (ho : opV C L nt ops get h o = some (r, h1)) (hd : ∀ d, o.dst = some d → d < nt) {K : Act → World → Prop} {Q : Exit → Act → World → Prop}
    (hK : ∀ a' m' w', a'.tmps.size = nt → a'.defers = [] → TRel (Ex X h1 m') h1 m' w' (setG get o.dst r) a' → HRel W0 X h1 m' w' → Evo (Ex X h m) h m w (Ex X h1 m') h1 m' w' → K a' w') :
    if Region.wanted o (yielded ops a.tmps) then o.wp C.P a w K Q ∨ (o.asks C.P a w ∧ LetsOut Q) else K (a.put o.dst undef) w := by
  have done : aop C L get h o = some (r, h1) → o.wp C.P a w K Q := fun ha => quV9 hC hL H hg ha (fun v w' hout => by
    obtain ⟨m', o1, o2, o3⟩ := hout
    exact hK _ m' w' (by rw [qia9]; exact hs) (by rw [qgp9]; exact hdf) ((hg.evo o3).put hs hd o1) o2 o3)
  unfold opV at ho
  cases hgd : o.guard with
  | none =>
    simp only [hgd] at ho
    rw [if_pos (by simp [Region.wanted, hgd])]
    exact .inl (done ho)
  | some p =>
    obtain ⟨j, b⟩ := p
    simp only [hgd] at ho
    cases hj : (ops[j]?).bind (·.dst) with
    | none => simp [hj] at ho
    | some d =>
      simp only [hj] at ho
      split at ho
      · rename_i hlt
        split at ho
        · rename_i b' hb'
          have hv := hg d
          rw [hb'] at hv
          have hbv := hv.as_bool
          have hy : yielded ops a.tmps j = some b' := by
            have hsz : d < a.tmps.size := by rw [hs]; exact hlt
            simp only [Act.eval] at hbv
            unfold yielded
            rw [hj]
            simp only [Option.bind_some]
            rw [Array.getElem?_eq_getElem hsz]
            have : a.tmps[d] = .bool b' := by
              simpa [hsz] using hbv
            rw [this]
          have hwn : Region.wanted o (yielded ops a.tmps) = (b' == b) := by
            simp only [Region.wanted, hgd, hy]
            cases b <;> cases b' <;> rfl
          rw [hwn]
          split at ho
          · rename_i he
            rw [if_pos (by simpa using he)]
            exact .inl (done ho)
          · rename_i he
            simp only [Option.some.injEq, Prod.mk.injEq] at ho
            obtain ⟨rfl, rfl⟩ := ho
            rw [if_neg (by simpa using he)]
            exact hK _ m w (by rw [qia9]; exact hs) (by rw [qgp9]; exact hdf) (hg.put hs hd (.d _ _ (.v _))) H (Evo.refl _ _ _ _)
        · rename_i tv htv
          have hv := hg d
          rw [htv] at hv
          have hbv := hv.to_v rfl
          have hy : yielded ops a.tmps j = none := by
            have hsz : d < a.tmps.size := by rw [hs]; exact hlt
            simp only [Act.eval] at hbv
            unfold yielded
            rw [hj]
            simp only [Option.bind_some]
            rw [Array.getElem?_eq_getElem hsz]
            have : a.tmps[d] = .tuple tv := by
              simpa [hsz] using hbv
            rw [this]
          have hwn : Region.wanted o (yielded ops a.tmps) = false := by
            simp only [Region.wanted, hgd, hy]
            cases b <;> rfl
          rw [hwn]
          simp only [Option.some.injEq, Prod.mk.injEq] at ho
          obtain ⟨rfl, rfl⟩ := ho
          exact hK _ m w (by rw [qia9]; exact hs) (by rw [qgp9]; exact hdf) (hg.put hs hd (.d _ _ (.v _))) H (Evo.refl _ _ _ _)
        · cases ho
      · cases ho

theorem TRel.congr {get get' : Nat → PV} {a : Act} (hg : TRel E h m w get a) (he : ∀ i, get' i = get i) : TRel E h m w get' a := fun i => by rw [he]; exact hg i

theorem qnS9 {h : AHeap} {m : Places} {w : World} (H : HRel W0 X h m w) {k : Nat} {x y : PV} {v : Value} {h1 : AHeap} (hv : VRel (Ex X h m) h m w x v) (ho : qkp9 h k x = some (y, h1)) :
    ∃ m', VRel (Ex X h1 m') h1 m' w y v ∧ HRel W0 X h1 m' w ∧ Evo (Ex X h m) h m w (Ex X h1 m') h1 m' w := by
  unfold qkp9 at ho
  split at ho
  · rename_i id ver
    split at ho
    · rename_i ver' sz cs hid
      split at ho
      · split at ho
        · rename_i he
          subst he
          simp only [Option.some.injEq, Prod.mk.injEq] at ho
          obtain ⟨rfl, rfl⟩ := ho
          have hor := H.obj id _ hid
          cases hm : m id with
          | none => rw [hm] at hor; cases hor
          | some p =>
            obtain ⟨g, bo⟩ := p
            rw [hm] at hor
            obtain ⟨s0, cur, e, r1, r2, r3, r4⟩ := hor
            have hgl := H.lt id _ g bo hid hm
            have hh := qgm9 (w' := w) H hid rfl (.row false ver sz [cs.map setl]) (m id) rfl rfl (Outs.refl w) (Nat.le_refl _) (fun _ _ _ => rfl)
              ⟨Nat.le_refl _, fun z => z, rfl, fun _ => ⟨by simp, rfl, fun g1 bo1 cur1 e1 hp1 hg1 => ⟨cur1, hg1, rfl⟩⟩⟩
              (fun g1 bo1 hp1 => by
                rw [hm] at hp1
                cases hp1
                exact ⟨hgl, .inl ⟨bo, hm⟩⟩)
              (fun hev => by
                rw [hm]
                refine ⟨s0, cur, e, r1, by simpa using r2, fun i ds hd => ?_, fun i j ds u hd hj => ?_⟩
                · cases i with
                  | zero =>
                    have := r3 0 cs rfl
                    simp at hd; subst hd
                    simpa using this
                  | succ i => simp at hd
                · cases i with
                  | succ i => simp at hd
                  | zero =>
                    simp at hd; subst hd
                    rw [List.getElem?_map] at hj
                    cases hc : cs[j]? with
                    | none => rw [hc] at hj; cases hj
                    | some u0 =>
                      rw [hc] at hj
                      simp only [Option.map_some, Option.some.injEq] at hj
                      subst hj
                      obtain ⟨z, q1, q2, q3⟩ := r4 0 j cs u0 rfl hc
                      have q4 := q3.evo hev
                      rw [hm] at q4
                      exact ⟨z, q1, q2, qlg9 q4⟩)
            exact ⟨_, hv.evo hh.1, hh.2, hh.1⟩
        · cases ho
      split at ho
      · rename_i hcs
        generalize k / 4096 = jj at hcs ho
        generalize k % 4096 = kk at ho
        split at ho
        · rename_i he
          subst he
          simp only [Option.some.injEq, Prod.mk.injEq] at ho
          obtain ⟨rfl, rfl⟩ := ho
          have hlt : id < h.length := (List.getElem?_eq_some_iff.1 hid).1
          have hjl : jj < cs.length := (List.getElem?_eq_some_iff.1 hcs).1
          obtain ⟨k1, k2⟩ := qhV9 H (.row false 0 kk []) none rfl rfl (Outs.refl w) (Nat.le_refl _) (fun _ _ => rfl) (fun g bo e => by cases e) (fun _ => rfl)
          have hid' : (h ++ [.row false 0 kk []])[id]? = some (.row false ver sz [cs]) := by rw [List.getElem?_append_left hlt]; exact hid
          have hor := k2.obj id _ hid'
          cases hm : upd m h.length none id with
          | none => rw [hm] at hor; cases hor
          | some p =>
            obtain ⟨g, bo⟩ := p
            rw [hm] at hor
            obtain ⟨s0, cur, e, r1, r2, r3, r4⟩ := hor
            have hgl := k2.lt id _ g bo hid' hm
            have hh := qgm9 (w' := w) k2 hid' rfl (.row false ver sz [cs.set jj (.ref h.length 0 0 0)]) (upd m h.length none id) rfl rfl (Outs.refl w) (Nat.le_refl _) (fun _ _ _ => rfl)
              ⟨Nat.le_refl _, fun z => z, rfl, fun _ => ⟨by simp, rfl, fun g1 bo1 cur1 e1 hp1 hg1 => ⟨cur1, hg1, rfl⟩⟩⟩
              (fun g1 bo1 hp1 => by
                rw [hm] at hp1
                cases hp1
                exact ⟨hgl, .inl ⟨bo, hm⟩⟩)
              (fun hev => by
                rw [hm]
                refine ⟨s0, cur, e, r1, by simpa using r2, fun i ds hd => ?_, fun i j ds u hd hj => ?_⟩
                · cases i with
                  | zero =>
                    have := r3 0 cs rfl
                    simp at hd; subst hd
                    simpa using this
                  | succ i => simp at hd
                · cases i with
                  | succ i => simp at hd
                  | zero =>
                    simp at hd; subst hd
                    by_cases hjj : j = jj
                    · subst hjj
                      simp [hjl] at hj
                      subst hj
                      obtain ⟨z, q1, q2, q3⟩ := r4 0 j cs (.im true []) rfl hcs
                      refine ⟨z, q1, q2, ?_⟩
                      cases q3 with
                      | im t xs A c sz f hc ht hsz hA hc1 hr =>
                        have hc0 : c = 0 := by simpa using (ht rfl).symm
                        subst hc0
                        refine .ref _ _ _ _ _ ⟨A, 0, rfl, Nat.le_refl _, fun e => absurd e (by simp), false, 0, kk, [], ?_, Nat.le_refl _, fun _ => ⟨by simp, ?_⟩⟩
                        · rw [List.getElem?_set_ne (by omega)]; simp
                        · rw [qkf9 _ _ (by omega), upd_same]
                    · rw [List.getElem?_set_ne (fun e => hjj e.symm)] at hj
                      obtain ⟨z, q1, q2, q3⟩ := r4 0 j cs u rfl hj
                      have q4 := q3.evo hev
                      rw [hm] at q4
                      exact ⟨z, q1, q2, q4⟩)
            exact ⟨_, (hv.evo k1).evo hh.1, hh.2, k1.trans hh.1⟩
        · cases ho
      · cases ho
    · cases ho
  · cases ho
theorem qjY9 {h : AHeap} {m : Places} {w : World} (H : HRel W0 X h m w) {k : Nat} {x y : PV} {v : Value} {h1 : AHeap} (hv : VRel (Ex X h m) h m w x v) (ho : coV h k x = some (y, h1)) :
    ∃ m', VRel (Ex X h1 m') h1 m' w y v ∧ HRel W0 X h1 m' w ∧ Evo (Ex X h m) h m w (Ex X h1 m') h1 m' w := by
  unfold coV at ho
  split at ho
  · split at ho
    · rename_i d hd
      simp only [Option.some.injEq, Prod.mk.injEq] at ho
      obtain ⟨rfl, rfl⟩ := ho
      have hf := FzH.freezeAll (reach h depth x) h
      obtain ⟨f1, f2⟩ := qtZ9 H hf
      refine ⟨m, .d _ _ ?_, f2, f1⟩
      refine qjx9 H (fun b hb => ?_) _ _ _ _ hd (fun id hid g bo fz ver sz es hm ho hE => ?_) hv
      · rcases hb with hb | ⟨id, o, bo, k1, k2, k3⟩
        · exact .inl hb
        · obtain ⟨o0, l1, l2⟩ := hf.back k1
          refine .inr ⟨id, o0, bo, l1, ?_, k3⟩
          cases o0 <;> cases o <;> simp_all [Fz, AObj.active]
      · rcases hE with hE | ⟨id', o', bo', k1, k2, k3⟩
        · exact H.apart id _ g bo ho hm hE
        · obtain ⟨o0, l1, l2⟩ := hf.back k1
          have e := H.inj id' id o0 _ g bo' bo l1 ho k3 hm
          subst e
          have := qjF9 _ h id' fz ver sz es ho (.inl hid)
          rw [this] at k1
          cases k1
          simp [AObj.active] at k2
    · cases ho
  · split at ho
    · simp only [Option.some.injEq, Prod.mk.injEq] at ho
      obtain ⟨rfl, rfl⟩ := ho
      obtain ⟨k1, k2⟩ := qhV9 H (.row false 0 k []) none rfl rfl (Outs.refl w) (Nat.le_refl _) (fun _ _ => rfl) (fun g bo e => by cases e) (fun _ => rfl)
      refine ⟨upd m h.length none, ?_, k2, k1⟩
      cases hv with
      | im t xs A c sz f hc ht hsz hA hc1 hr =>
        have hc0 : c = 0 := by simpa using (ht rfl).symm
        subst hc0
        refine .ref _ _ _ _ _ ⟨A, 0, rfl, Nat.le_refl _, fun e => absurd e (by simp), false, 0, k, [], by simp, Nat.le_refl _, fun _ => ⟨by simp, ?_⟩⟩
        rw [upd_same]
    · exact qnS9 H hv ho
    · simp only [Option.some.injEq, Prod.mk.injEq] at ho
      obtain ⟨rfl, rfl⟩ := ho
      exact ⟨m, hv, H, Evo.refl _ _ _ _⟩

theorem qsK9 {C : Cfg} {L : Oracle} (hC : CSound W0 C) (hL : OSound W0 C L) {nt : Nat} {ops : Array Oper} {env : Env} {Q : Exit → Act → World → Prop} : ∀ (l : List Oper) (k : Nat), ops.toList.drop k = l → ∀ {te te1 : Env} {h h1 : AHeap} {m : Places} {w : World} {a : Act}, HRel W0 X h m w → a.tmps.size = nt → a.defers = [] → TRel (Ex X h m) h m w (get2 te env) a →
    opsS C L nt ops env l te h = some (te1, h1) →
    (∀ a' m' w', a'.tmps.size = nt → a'.defers = [] → TRel (Ex X h1 m') h1 m' w' (get2 te1 env) a' → HRel W0 X h1 m' w' → Evo (Ex X h m) h m w (Ex X h1 m') h1 m' w' → Q .normal a' w') →
    wpOps C.P ops Q ((List.range ops.size).drop k) a w := by
  intro l
  induction l with
  | nil =>
    intro k hk te te1 h h1 m w a H hs hdf hg ho hK
    have hle : ops.size ≤ k := by simpa using hk
    rw [List.drop_eq_nil_of_le (by simpa using hle)]
    simp only [opsS, Option.some.injEq, Prod.mk.injEq] at ho
    obtain ⟨rfl, rfl⟩ := ho
    exact hK a m w hs hdf hg H (Evo.refl _ _ _ _)
  | cons o r ih =>
    intro k hk te te1 h h1 m w a H hs hdf hg ho hK
    have hlt : k < ops.size := by
      rcases Nat.lt_or_ge k ops.size with c | c
      · exact c
      · rw [List.drop_eq_nil_of_le (by simpa using c)] at hk; cases hk
    have hok : ops[k]? = some o := by
      have : ops.toList[k]? = some o := by
        have := congrArg (·[0]?) hk
        simpa using this
      simpa using this
    have hr : ops.toList.drop (k + 1) = r := by
      rw [← List.tail_drop, hk]; rfl
    have hdr : (List.range ops.size).drop k = k :: (List.range ops.size).drop (k + 1) := by
      rw [List.drop_eq_getElem_cons (by simpa using hlt)]
      simp
    rw [hdr]
    simp only [opsS, opT] at ho
    cases hv : opV C L nt ops (get2 te env) h o with
    | none => simp [hv] at ho
    | some p0 =>
      obtain ⟨rv0, h20⟩ := p0
      simp only [hv, Option.bind_some] at ho
      cases hco : (if (C.settle o && o.dst.isSome) = true then coV h20 0 rv0 else some (rv0, h20)) with
      | none => rw [hco] at ho; simp at ho
      | some p =>
      obtain ⟨rv, h2⟩ := p
      rw [hco] at ho
      simp only [Option.bind_some] at ho
      cases hp : putT nt o.dst rv te with
      | none => simp [hp] at ho
      | some te2 =>
        simp only [hp, Option.map_some, Option.bind_some] at ho
        obtain ⟨p1, p2⟩ := qis9 (env := env) hp
        simp only [wpOps, hok]
        refine qnC9 hC hL H hs hdf hg hv p1 (fun a' m' w' a1 a2 a3 a4 a5 => ?_)
        by_cases hset : (C.settle o && o.dst.isSome) = true
        · rw [if_pos hset] at hco
          cases hd : o.dst with
          | none =>
            rw [hd] at hset
            simp at hset
          | some d =>
            rw [hd] at a3 p2 p1
            have hvd : VRel (Ex X h20 m') h20 m' w' rv0 (a'.eval (.tmp d)) := by
              have := a3 d
              simpa [setG] using this
            obtain ⟨m2, c1, c2, c3⟩ := qjY9 a4 hvd hco
            refine ih (k + 1) hr c2 a1 a2 (fun i => ?_) ho (fun a'' m'' w'' b1 b2 b3 b4 b5 => hK a'' m'' w'' b1 b2 b3 b4 (a5.trans (c3.trans b5)))
            rw [p2 i]
            simp only [setG]
            by_cases hi : i = d
            · rw [if_pos hi, hi]; exact c1
            · rw [if_neg hi]
              have := (a3 i).evo c3
              simpa [setG, hi] using this
        · rw [if_neg hset] at hco
          simp only [Option.some.injEq, Prod.mk.injEq] at hco
          obtain ⟨rfl, rfl⟩ := hco
          exact ih (k + 1) hr a4 a1 a2 (a3.congr p2) ho (fun a'' m'' w'' b1 b2 b3 b4 b5 => hK a'' m'' w'' b1 b2 b3 b4 (a5.trans b5))
end
end Go.Abs

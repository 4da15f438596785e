import Derived.Test.YtfjgfcnhklopdaaDoorAbs29
set_option maxHeartbeats 400000
set_option linter.unusedVariables false
set_option linter.unusedSimpArgs false
namespace Go.Abs
open Go
set_option maxHeartbeats 1000000
section
variable {P : Program} {h : AHeap}

theorem qnp9 {t : TypeId} {ag : Option Nat} (ha : agOf P t = some ag) (cs : List PV) (off : Nat) : partP P t cs off = partA ag cs off := by
  unfold agOf at ha
  split at ha
  · rename_i d i h1 h2
    simp only [Option.some.injEq] at ha
    subst ha
    simp only [partP, h1, h2]
    by_cases hd : qfJ9 d = true
    · simp [hd, partA]
    · simp [hd, partA]
  · cases ha
theorem qnj9 {s : TypeId} {f : Nat} {q : TypeId × Nat} (hq : fdOf P s f = some q) : ∃ fs fd, qdG9 P s = some fs ∧ fs[f]? = some fd ∧ fd.type = q.1 ∧ fd.offset = q.2 := qpN9 (ft := q.1) (o := q.2) hq
theorem qpT9 {t : TypeId} {a b : Bool} (hu : P.underlying t = some .bool) : pev P (Op.equal t (.bool a) (.bool b)) = some (a == b) := by
  have e : ∀ d, pev P (Op.equalIn (d + 1) t (.bool a) (.bool b)) = some (a == b) := by
    intro d
    simp only [Op.equalIn, underlying, program, bind, pure, Sem.bind, pev, hu]
  exact e 9999
theorem qhZ9 {α β : Type} {s : Sem α} {f : α → Sem β} {a : α} (h : pev P s = some a) : pev P (s >>= f) = pev P (f a) := by
  induction s with
  | pure x => simp only [pev, Option.some.injEq] at h; subst h; rfl
  | program k ih => exact ih P h
  | _ => cases h
theorem qsS9 {op : BinOp} {t : TypeId} {x y : Operand} {X Y Z : PV} (hu : P.underlying t = some .bool) (hb : binB op X Y = some Z) : opBin P h op t x y X Y = some (Z, h) := by
  unfold binB at hb
  split at hb
  · rename_i a b
    split at hb
    · rename_i v hv
      simp only [Option.some.injEq] at hb
      subst hb
      cases op <;> simp only [qpJ9, Option.some.injEq, reduceCtorEq] at hv
      all_goals subst hv
      · refine qcf9 qbn9 rfl rfl ?_
        simp only [eqGuard, binOp]
        exact qhZ9 (qpT9 hu)
      · refine qcf9 qbn9 rfl rfl ?_
        simp only [eqGuard, binOp]
        exact qhZ9 (qpT9 hu)
    · cases hb
  · cases hb
theorem qsi9 {op : BinOp} {t : TypeId} {x y : Operand} {X Y Z : PV} (hb : binMA op X Y = some Z) : opBin P h op t x y X Y = some (Z, h) := by
  unfold binMA at hb
  split at hb
  · split at hb
    · rename_i hk
      subst hk
      split at hb
      · rename_i v hv
        simp only [Option.some.injEq] at hb
        subst hb
        cases op with
        | quo =>
          simp only [qhp9, quoV] at hv
          split at hv
          · cases hv
          · rename_i h0; simp only [Option.some.injEq] at hv; subst hv; exact qcf9 qbn9 rfl rfl (by simp [eqGuard, binOp, Op.intDiv, h0]; rfl)
        | rem =>
          simp only [qhp9, remV] at hv
          split at hv
          · cases hv
          · rename_i h0; simp only [Option.some.injEq] at hv; subst hv; exact qcf9 qbn9 rfl rfl (by simp [eqGuard, binOp, Op.intDiv, h0]; rfl)
        | and => simp only [qhp9, Option.some.injEq] at hv; subst hv; exact qcf9 qbn9 rfl rfl (by simp [eqGuard, binOp, Op.intBits]; rfl)
        | or => simp only [qhp9, Option.some.injEq] at hv; subst hv; exact qcf9 qbn9 rfl rfl (by simp [eqGuard, binOp, Op.intBits]; rfl)
        | xor => simp only [qhp9, Option.some.injEq] at hv; subst hv; exact qcf9 qbn9 rfl rfl (by simp [eqGuard, binOp, Op.intBits]; rfl)
        | _ => simp [qhp9] at hv
      · cases hb
    · cases hb
  · cases hb
theorem qqq9 {op : BinOp} {t : TypeId} {x y : Operand} {X Y Z : PV} (hb : qlM9 op X Y = some Z) : opBin P h op t x y X Y = some (Z, h) := by
  unfold qlM9 at hb
  split at hb
  · split at hb
    · rename_i v hv
      simp only [Option.some.injEq] at hb
      subst hb
      cases op with
      | shl =>
        simp only [qjk9, shlV] at hv
        split at hv
        · rename_i h0; simp only [Option.some.injEq] at hv; subst hv; exact qcf9 qbn9 rfl rfl (by simp [eqGuard, binOp, Op.shift, Int.not_lt.2 h0]; rfl)
        · cases hv
      | shr =>
        simp only [qjk9, shrV] at hv
        split at hv
        · rename_i h0; simp only [Option.some.injEq] at hv; subst hv; exact qcf9 qbn9 rfl rfl (by simp [eqGuard, binOp, Op.shift, Int.not_lt.2 h0]; rfl)
        · cases hv
      | _ => simp [qjk9] at hv
    · cases hb
  · cases hb
theorem qsb9 {op : BinOp} {t : TypeId} {x y : Operand} {X Y Z : PV} (hb : binA op X Y = some Z) : opBin P h op t x y X Y = some (Z, h) := by
  unfold binA at hb
  split at hb
  · split at hb
    · rename_i hk
      subst hk
      split at hb
      · rename_i v hv
        simp only [Option.some.injEq] at hb
        subst hb
        cases op with
        | add => simp only [arith, Option.some.injEq] at hv; subst hv; exact qzs9
        | sub => simp only [arith, Option.some.injEq] at hv; subst hv; exact qyJ9
        | mul => simp only [arith, Option.some.injEq] at hv; subst hv; exact qzh9
        | eql => simp only [arith, Option.some.injEq] at hv; subst hv; exact qyR9
        | lss => simp only [arith, Option.some.injEq] at hv; subst hv; exact qzo9
        | gtr => simp only [arith, Option.some.injEq] at hv; subst hv; exact qzE9
        | neq => simp only [arith, Option.some.injEq] at hv; subst hv; exact qyH9
        | leq => simp only [arith, Option.some.injEq] at hv; subst hv; exact qzC9
        | geq => simp only [arith, Option.some.injEq] at hv; subst hv; exact qzv9
        | _ => simp [arith] at hv
      · cases hb
    · cases hb
  · split at hb
    · rename_i v hv
      simp only [Option.some.injEq] at hb
      subst hb
      cases op with
      | add =>
        simp only [qjf9] at hv
        split at hv
        · rename_i hs
          simp only [Option.some.injEq] at hv
          subst hv
          exact qxp9 hs
        · cases hv
      | eql => simp only [qjf9, Option.some.injEq] at hv; subst hv; exact qxd9
      | neq => simp only [qjf9, Option.some.injEq] at hv; subst hv; exact qyc9
      | _ => simp [qjf9] at hv
    · cases hb
  · cases hb
theorem qwl9 {t : TypeId} {X : PV} {lo hi : Option PV} (hX : ∀ s, X ≠ .d (.v (.string s))) : opCut P h t X lo hi none = match qK9 P t, lenP X with
      | some e, some n => (match sizeT P e, bnd 0 lo, bnd n hi with
        | some sz, some l, some k => if szOk h sz X = true ∧ 0 ≤ l ∧ l ≤ k ∧ k ≤ n then (cutP X l.toNat k.toNat hi.isNone).map fun x => (x, h) else none
        | _, _, _ => none)
      | _, _ => none := by
  cases X with
  | d d => cases d with
    | v v => cases v <;> first | rfl | exact absurd rfl (hX _)
    | _ => rfl
  | _ => rfl
theorem qsU9 {t e : TypeId} {n : Nat} (he : qK9 P t = some e) (hn : sizeT P e = some n) {X Z : PV} {lo hi : Option PV} (hc : cutA n h X lo hi = some Z) : opCut P h t X lo hi none = some (Z, h) := by
  unfold cutA at hc
  split at hc
  · rename_i n' l k h1 h2 h3
    rw [h1] at h3
    split at hc
    · rename_i hcond
      have hX : ∀ s, X ≠ .d (.v (.string s)) := by intro s e; subst e; simp [lenP] at h1
      rw [qwl9 hX]
      simp only [h1, Option.getD_some] at h3
      simp only [he, h1, hn, h2, h3, if_pos hcond, hc, Option.map_some]
    · cases hc
  · cases hc
theorem qwN9 {t : TypeId} (hu : P.underlying t = some .string) {s : ByteArray} {lo hi : Option PV} {w : PV} (hc : (match bnd 0 lo, bnd s.size hi with
    | some l, some k => if 0 ≤ l ∧ l ≤ k ∧ k ≤ s.size then some (PV.d (.v (.string (s.extract l.toNat k.toNat)))) else none
    | _, _ => none) = some w) : opCut P h t (.d (.v (.string s))) lo hi none = some (w, h) := by
  have key : ∀ (a b : Option Value) (l k : Int), (match a with | none => l = 0 | some v => ∃ kk, v = .int kk l) → (match b with | none => k = s.size | some v => ∃ kk, v = .int kk k) → 0 ≤ l ∧ l ≤ k ∧ k ≤ s.size → pev P (Instr.sliceAt t (.string s) a b none) = some (.string (s.extract l.toNat k.toNat)) := by
    intro a b l k ha hb hc
    have hk : 0 ≤ k ∧ k ≤ (s.size : Int) := ⟨by omega, hc.2.2⟩
    have hl : 0 ≤ l ∧ l ≤ ((k.toNat : Nat) : Int) := ⟨hc.1, by omega⟩
    cases b with
    | none =>
      simp only at hb
      subst hb
      simp only [Int.toNat_natCast] at hl ⊢
      cases a with
      | none =>
        simp only at ha; subst ha
        simp only [Instr.sliceAt, Instr.slice, Instr.sliceBounds, underlying, program, bind, pure, Sem.bind, pev, hu]
        rfl
      | some v =>
        obtain ⟨kk, rfl⟩ := ha
        simp only [Instr.sliceAt, Instr.slice, Instr.sliceBounds, Instr.sliceBound, asIntOf, underlying, program, bind, pure, Sem.bind, pev, hu, if_pos hl]
        rfl
    | some vb =>
      obtain ⟨kb, rfl⟩ := hb
      cases a with
      | none =>
        simp only at ha; subst ha
        simp only [Instr.sliceAt, Instr.slice, Instr.sliceBounds, Instr.sliceBound, asIntOf, underlying, program, bind, pure, Sem.bind, pev, hu, if_pos hk]
        rfl
      | some v =>
        obtain ⟨kk, rfl⟩ := ha
        simp only [Instr.sliceAt, Instr.slice, Instr.sliceBounds, Instr.sliceBound, asIntOf, underlying, program, bind, pure, Sem.bind, pev, hu, if_pos hk, if_pos hl]
        rfl
  have op : ∀ (x : Option PV) (n l : Int), bnd n x = some l → ∃ v, optV x = some v ∧ (match v with | none => l = n | some v => ∃ kk, v = .int kk l) := by
    intro x n l hx
    cases x with
    | none => simp only [bnd, Option.some.injEq] at hx; exact ⟨none, rfl, hx.symm⟩
    | some y =>
      simp only [bnd] at hx
      unfold qbQ9 at hx
      split at hx
      · rename_i kk m
        simp only [Option.some.injEq] at hx
        subst hx
        exact ⟨some (.int kk m), rfl, kk, rfl⟩
      · cases hx
  split at hc
  · rename_i l k h1 h2
    split at hc
    · rename_i hcc
      simp only [Option.some.injEq] at hc
      subst hc
      obtain ⟨a, ha1, ha2⟩ := op lo _ _ h1
      obtain ⟨b, hb1, hb2⟩ := op hi _ _ h2
      simp only [opCut, qlK9, ha1, hb1, key a b l k ha2 hb2 hcc, Option.map_some]
    · cases hc
  · cases hc
theorem qZ9 {x : Option PV} {r : PV × AHeap} (hs : same h x = some r) : ∃ z, x = some z ∧ r = (z, h) := by
  cases x with
  | none => cases hs
  | some z => simp only [same, Option.some.injEq] at hs; exact ⟨z, rfl, hs.symm⟩
end
section
variable {C : Cfg} {L : Oracle} {get : Nat → PV} {h : AHeap}
theorem qlx9 {d : TypeDesc} (hd : ¬ qlm9 d = true) : ∀ ms, d ≠ .interface ms := by
  intro ms e; subst e; exact hd rfl
theorem qkG9 {o : Oper} {r : PV × AHeap} (ho : aopA C L get h (qdY9 C.P o) = some r) : aop C L get h o = some r := by
  have raw : ∀ {o : Oper}, aopA C L get h (.raw o) = aop C L get h o := rfl
  unfold qdY9 at ho
  split at ho
  · rename_i x hop; simpa only [aop, hop, aopA] using ho
  · rename_i x hop; simpa only [aop, hop, aopA] using ho
  · rename_i c a b hop; simpa only [aop, hop, aopA] using ho
  · rename_i e hop
    split at ho
    · rename_i zs n h1 h2
      split at ho
      · rename_i h0
        simp only [aopA, qpD9] at ho
        simp only [aop, hop, qky9, h1, h2, if_pos h0]
        exact ho
      · exact ho
    · exact ho
  · rename_i t x hop; simpa only [aop, hop, aopA] using ho
  · rename_i t ps hop
    split at ho
    · rename_i q hq
      unfold tabOf at hq
      split at hq
      · rename_i zs fs hz hu
        split at hq
        · rename_i hall
          simp only [Option.map_eq_some_iff] at hq
          obtain ⟨tab, ht, rfl⟩ := hq
          simp only [aopA] at ho
          simp only [aop, hop, qvI9 hz hu hall ht]
          exact ho
        · cases hq
      · cases hq
    · exact ho
  · rename_i t len ps hop
    split at ho
    · rename_i n hn
      unfold litOf at hn
      split at hn
      · cases hn
      · rename_i e he
        split at hn
        · rename_i zs n' hz hs
          split at hn
          · rename_i hc
            simp only [Option.some.injEq] at hn
            subst hn
            simp only [aopA] at ho
            have hl : (ps.toList.map fun p => (p.1, evO get p.2)).length = ps.toList.length := by simp
            simp only [aop, hop, qnU9 he hz hs hc.2.1, hl, if_pos (show len = ps.toList.length ∧ len * n' ≤ 16777216 from ⟨hc.1, hc.2.2⟩)]
            exact ho
          · cases hn
        · cases hn
    · exact ho
  · rename_i t a hop
    split at ho
    · rename_i ag hag
      simp only [aopA] at ho
      simp only [aop, hop, loadP]
      cases hc : qbH9 h (evO get a) with
      | none => simp [hc] at ho
      | some cs =>
        simp only [hc] at ho
        obtain ⟨z, h1, rfl⟩ := qZ9 ho
        simp [qnp9 hag, h1]
    · exact ho
  · rename_i t a x hop
    split at ho
    · rename_i n hn
      simp only [aopA] at ho
      split at ho
      · rename_i h' hs
        simp only [Option.some.injEq] at ho
        subst ho
        simp only [aop, hop]
        unfold qoo9 at hs
        unfold qlO9
        cases ha : evO get a with
        | ptr id ver idx off =>
          simp only [ha] at hs
          simp only [hn]
          cases hid : h[id]? with
          | none => simp [hid] at hs
          | some ob =>
            cases ob with
            | row fz ver' sz es =>
              simp only [hid] at hs ⊢
              split at hs
              · rename_i cs hcs
                simp only [hcs]
                split at hs
                · rename_i hc; simp only [if_pos hc, Option.map_some, hs]
                · cases hs
              · cases hs
            | map _ => simp [hid] at hs
            | siter _ _ => simp [hid] at hs
        | _ => simp [ha] at hs
      · cases ho
    · exact ho
  · rename_i x hop; simpa only [aop, hop, aopA] using ho
  · rename_i op t x y b hop
    have hb : ∀ {z : Option PV}, z = binA op (evO get x) (evO get y) → same h z = some r → aop C L get h o = some r := by
      intro z hz hs
      obtain ⟨w, h1, rfl⟩ := qZ9 hs
      simp only [aop, hop]
      exact qsb9 (by rw [← hz]; exact h1)
    split at ho
    · simp only [aopA] at ho
      obtain ⟨w, h1, rfl⟩ := qZ9 ho
      simp only [aop, hop]
      exact qqq9 h1
    split at ho
    · simp only [aopA] at ho
      obtain ⟨w, h1, rfl⟩ := qZ9 ho
      simp only [aop, hop]
      exact qsi9 h1
    split at ho
    · exact hb rfl ho
    · exact hb rfl ho
    · rename_i hu
      simp only [aopA] at ho
      obtain ⟨w, h1, rfl⟩ := qZ9 ho
      simp only [aop, hop]
      exact qsS9 hu h1
    · exact ho
  · rename_i t x hop
    simp only [aopA] at ho
    obtain ⟨w, h1, rfl⟩ := qZ9 ho
    simp only [aop, hop]
    unfold notA at h1
    split at h1
    · rename_i b hb
      simp only [Option.some.injEq] at h1
      subst h1
      rw [hb]; exact qze9
    · cases h1
  · rename_i s d x hop
    split at ho
    · rename_i k1 k h1 h2
      simp only [aopA] at ho
      obtain ⟨w, h3, rfl⟩ := qZ9 ho
      simp only [aop, hop]
      unfold wrapA at h3
      split at h3
      · rename_i k0 n hb
        simp only [Option.some.injEq] at h3
        subst h3
        rw [hb]; exact qwx9 h1 h2
      · cases h3
    · rename_i k1 h1 h2
      simp only [aopA] at ho
      obtain ⟨w, h3, rfl⟩ := qZ9 ho
      simp only [aop, hop]
      unfold qpW9 at h3
      split at h3
      · rename_i k0 n hb
        simp only [Option.some.injEq] at h3
        subst h3
        rw [hb]; exact qvJ9 h1 h2
      · cases h3
    · exact ho
  · rename_i t x hop
    split at ho
    · rename_i d hd
      split at ho
      · exact ho
      · rename_i hi
        simp only [aop, hop, qvB9 hd (qlx9 hi)]
        exact ho
    · exact ho
  · rename_i f first caps hop
    split at ho
    · rename_i hf
      have : first.toList = [] := List.length_eq_zero_iff.1 hf
      simp only [aop, hop, qjb9, this, List.map_nil]
      exact ho
    · exact ho
  · rename_i t hop
    split at ho
    · rename_i kt et hu
      simp only [aop, hop, Option.map_none, qhk9, hu]
      exact ho
    · exact ho
  · rename_i t x hop
    split at ho
    · rename_i kt et hu
      simp only [aopA] at ho
      simp only [aop, hop, Option.map_some, qhk9, hu]
      unfold qmN9 at ho
      split at ho
      · rename_i k n hx; simp only [hx]; exact ho
      · cases ho
    · exact ho
  · rename_i t x lo hi hop
    split at ho
    · rename_i hu
      simp only [aopA] at ho
      obtain ⟨w, h3, rfl⟩ := qZ9 ho
      simp only [aop, hop, Option.map_none]
      unfold cutSA at h3
      split at h3
      · rename_i s hs
        rw [hs]
        exact qwN9 hu h3
      · cases h3
    split at ho
    · rename_i n hn
      obtain ⟨e, he, hn⟩ := Option.bind_eq_some_iff.1 hn
      simp only [aopA] at ho
      obtain ⟨w, h3, rfl⟩ := qZ9 ho
      simp only [aop, hop, Option.map_none]
      exact qsU9 he hn h3
    · exact ho
  · rename_i t x hi m hop
    split at ho
    · rename_i n hn
      obtain ⟨e, he, hn⟩ := Option.bind_eq_some_iff.1 hn
      simp only [aopA] at ho
      obtain ⟨w, h3, rfl⟩ := qZ9 ho
      simp only [aop, hop, Option.map_none, Option.map_some, opCut, he, hn, h3]
    · exact ho
  · rename_i t x hop
    split at ho
    · rename_i hu
      simp only [aopA] at ho
      simp only [aop, hop]
      unfold rngA at ho
      split at ho
      · rename_i s hs; rw [hs, qwm9 hu]; exact ho
      · cases ho
    · exact ho
  · rename_i x b hop; simpa only [aop, hop, aopA] using ho
  · rename_i t x i hop
    split at ho
    · rename_i hu
      simp only [aopA] at ho
      obtain ⟨w, h3, rfl⟩ := qZ9 ho
      simp only [aop, hop]
      unfold ixSA at h3
      split at h3
      · rename_i s k n hs hi
        split at h3
        · rename_i h0
          split at h3
          · rename_i b hb
            simp only [Option.some.injEq] at h3
            subst h3
            rw [hs, hi, show n = ((n.toNat : Nat) : Int) by omega]
            exact sindex hu hb
          · cases h3
        · cases h3
      · cases h3
    · exact ho
  · rename_i t l c hop
    split at ho
    · rename_i e he
      split at ho
      · rename_i i z hi hz
        split at ho
        · rename_i h0
          simp only [aopA] at ho
          simp only [aop, hop, qhb9, he]
          unfold mkSlA at ho
          split at ho
          · rename_i l' k' h1 h2
            split at ho
            · rename_i hc
              obtain ⟨hc1, hc2, hc3⟩ := hc
              simp only [h1, h2, hi, hz, if_pos (show l' = k' ∧ 0 ≤ l' ∧ (i.bytes : Int) * l' ≤ 140737488355328 ∧ 0 < i.size ∧ 0 < i.bytes from ⟨hc1, hc2, hc3, h0.1, h0.2⟩)]
              exact ho
            · cases ho
          · cases ho
        · exact ho
      · exact ho
    · exact ho
  · rename_i s x f hop
    split at ho
    · rename_i q hq
      split at ho
      · rename_i n hn
        split at ho
        · exact ho
        · rename_i h0
          simp only [aopA] at ho
          obtain ⟨w, h3, rfl⟩ := qZ9 ho
          obtain ⟨fs, fd, k1, k2, k3, k4⟩ := qnj9 hq
          simp only [aop, hop, qft9, k1, k2, k3, k4, hn, if_neg h0, h3, Option.map_some]
      · exact ho
    · exact ho
  · rename_i t x f hop
    split at ho
    · rename_i q hq
      split at ho
      · rename_i ag hag
        simp only [aopA] at ho
        obtain ⟨w, h3, rfl⟩ := qZ9 ho
        obtain ⟨fs, fd, k1, k2, k3, k4⟩ := qnj9 hq
        unfold fldA at h3
        split at h3
        · rename_i cs hcs
          rw [← qnp9 hag] at h3
          simp only [aop, hop, qjc9, k1, k2, k3, k4, hcs, h3, Option.map_some]
        · cases h3
      · exact ho
    · exact ho
  · rename_i t x i hop
    split at ho
    · rename_i len e hu
      split at ho
      · rename_i n hn
        split at ho
        · rename_i h0
          simp only [aopA] at ho
          obtain ⟨w, h3, rfl⟩ := qZ9 ho
          unfold qpY9 at h3
          split at h3
          · rename_i k hk
            split at h3
            · rename_i hc
              simp only [aop, hop, qfw9, hk, hu, hn, if_pos (show 0 ≤ k ∧ k < (len : Int) ∧ 0 < n from ⟨hc.1, hc.2, h0⟩), h3, Option.map_some]
            · cases h3
          · cases h3
        · exact ho
      · exact ho
    split at ho
    · rename_i n hn
      obtain ⟨e, he, hn⟩ := Option.bind_eq_some_iff.1 hn
      split at ho
      · rename_i h0
        simp only [aopA] at ho
        obtain ⟨w, h3, rfl⟩ := qZ9 ho
        unfold ixA at h3
        split at h3
        · rename_i k n' h1 h2
          split at h3
          · rename_i hc
            split at h3
            · rename_i z hz
              split at h3
              · rename_i hok
                simp only [Option.some.injEq] at h3
                subst h3
                have hu := qbS9 he
                simp only [aop, hop, qfw9, h2, hu, hn, h1, if_pos (show 0 ≤ n' ∧ n' < (k : Int) ∧ 0 < n from ⟨hc.1, hc.2, h0⟩), hz, if_pos hok]
              · cases h3
            · cases h3
          · cases h3
        · cases h3
      · exact ho
    · exact ho
  · rename_i t x k ok hop
    split at ho
    · rename_i kt et hu
      split at ho
      · rename_i kd z hk hz
        simp only [aopA] at ho
        obtain ⟨w, h3, rfl⟩ := qZ9 ho
        have hkey : ∀ v, qfv9 C.P kt v = keyD kd v := by intro v; simp only [qfv9, hk]
        simp only [aop, hop, qjn9, hu]
        unfold lookA at h3
        split at h3
        · rename_i id kv hX hK
          simp only [hX, hK]
          split at h3
          · rename_i es hid
            simp only [hid, hz, hkey]
            split at h3
            · rename_i hkd
              simp only [if_pos hkd]
              split at h3
              · cases h3
              · rename_i hl; simp only [Option.some.injEq] at h3; subst h3; simp only [hl]
              · rename_i i v hl; simp only [Option.some.injEq] at h3; subst h3; simp only [hl]
            · cases h3
          · cases h3
        · cases h3
      · exact ho
    · exact ho
  · rename_i t x k v hop
    split at ho
    · rename_i kt et hu
      split at ho
      · rename_i kd hk
        simp only [aopA] at ho
        split at ho
        · rename_i h' h3
          simp only [Option.some.injEq] at ho
          subst ho
          have hkey : ∀ v, qfv9 C.P kt v = keyD kd v := by intro v; simp only [qfv9, hk]
          simp only [aop, hop, qha9, hu]
          unfold mputA at h3
          split at h3
          · rename_i id kv hX hK
            simp only [hX, hK]
            split at h3
            · rename_i es hid
              simp only [hid, hkey]
              split at h3
              · rename_i hkd
                simp only [if_pos hkd]
                unfold putP at h3
                cases hl : lookP kv es with
                | none => simp [hl] at h3
                | some q =>
                  cases q with
                  | none => simp only [hl, Option.some.injEq] at h3; subst h3; rfl
                  | some q => obtain ⟨i, v⟩ := q; simp only [hl, Option.some.injEq] at h3; subst h3; rfl
              · cases h3
            · cases h3
          · cases h3
        · cases ho
      · exact ho
    · exact ho
  · rename_i x t0 t ok hop
    split at ho
    · rename_i d hd
      split at ho
      · exact ho
      · rename_i hi
        simp only [aopA] at ho
        obtain ⟨w, h3, rfl⟩ := qZ9 ho
        simp only [aop, hop, qtE9 hd (qlx9 hi)]
        unfold asrA at h3
        unfold qfZ9
        split at h3
        · cases h3
        · rename_i hdy
          simp only [hdy]
          split at h3
          · rename_i hok
            simp only [if_pos hok]
            split at h3
            · rename_i zv hz; simp only [Option.some.injEq] at h3; subst h3; simp [hz]
            · cases h3
          · cases h3
        · rename_i t' v hdy
          simp only [hdy]
          split at h3
          · rename_i ht; simp only [Option.some.injEq] at h3; subst h3; simp only [if_pos ht]
          · rename_i ht
            simp only [if_neg ht]
            split at h3
            · rename_i hok
              simp only [if_pos hok]
              split at h3
              · rename_i zv hz; simp only [Option.some.injEq] at h3; subst h3; simp [hz]
              · cases h3
            · cases h3
    · exact ho
  · rename_i x i hop; simpa only [aop, hop, aopA] using ho
  · rename_i c hop
    simp only [aop, hop]
    split at ho
    · rename_i t x hcal hts hargs
      have hts' : c.argTypes = #[t] := by rw [← hts]
      have hab : ∀ z : PV, aopA C L get h (.raw o) = some r → qdk9 C L h c.callee (qdW9 get c.callee) c.argTypes o.type (c.args.toList.map (evO get)) = some r := by
        intro z hr; rw [raw] at hr; simpa only [aop, hop] using hr
      split at ho
      · rename_i e hu
        simp only [aopA] at ho
        obtain ⟨w, h3, rfl⟩ := qZ9 ho
        unfold lenA at h3
        simp only at h3
        split at h3
        · rename_i n hn
          simp only [Option.some.injEq] at h3
          subst h3
          rw [hcal, hargs, hts']
          simp only [List.map_cons, List.map_nil, qyI9, hu, hn]
        · cases h3
      · rename_i hu
        simp only [aopA] at ho
        obtain ⟨w, h3, rfl⟩ := qZ9 ho
        unfold slenA at h3
        split at h3
        · rename_i s hs
          simp only [Option.some.injEq] at h3
          subst h3
          rw [hcal, hargs, hts']
          simp only [List.map_cons, List.map_nil, hs]
          exact qyl9 hu
        · cases h3
      · rename_i kt et hu
        simp only [aopA] at ho
        obtain ⟨w, h3, rfl⟩ := qZ9 ho
        unfold mlenA at h3
        split at h3
        · rename_i id hs
          split at h3
          · rename_i es hes
            simp only [Option.some.injEq] at h3
            subst h3
            rw [hcal, hargs, hts']
            simp only [List.map_cons, List.map_nil, hs]
            have e : (#[t][0]?).bind C.P.underlying = C.P.underlying t := rfl
            simp only [qdk9, qcp9, lenP, hes, e, hu]
          · cases h3
        · cases h3
      · exact hab .junk ho
    · rename_i t t' s x hcal hts hargs
      have hts' : c.argTypes = #[t, t'] := by rw [← hts]
      have hab : aopA C L get h (.raw o) = some r → qdk9 C L h c.callee (qdW9 get c.callee) c.argTypes o.type (c.args.toList.map (evO get)) = some r := by
        intro hr; rw [raw] at hr; simpa only [aop, hop] using hr
      split at ho
      · rename_i e e' he he'
        split at ho
        · rename_i n b hi
          split at ho
          · rename_i h0
            simp only [aopA] at ho
            rw [hcal, hargs, hts']
            simp only [List.map_cons, List.map_nil, qtG9 he', quY9 he hi h0.1 h0.2]
            exact ho
          · exact hab ho
        · exact hab ho
      · exact hab ho
    · rename_i g hcal
      simp only [aopA] at ho
      simp only [hcal, qdk9, qdW9, evO, List.append_nil]
      exact ho
    · rename_i f hne hcal
      simp only [aopA] at ho
      simp only [hcal, qdk9, qdW9]
      exact ho
    · rename_i r name hcal
      simp only [aopA] at ho
      simp only [hcal, qdk9, qdW9]
      exact ho
    · rw [raw] at ho; simpa only [aop, hop] using ho
  · exact ho
end
end Go.Abs

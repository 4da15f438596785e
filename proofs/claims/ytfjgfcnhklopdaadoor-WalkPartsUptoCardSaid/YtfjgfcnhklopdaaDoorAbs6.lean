import Derived.Test.YtfjgfcnhklopdaaDoorAbs5
set_option maxHeartbeats 400000
set_option linter.unusedVariables false
set_option linter.unusedSimpArgs false
namespace Go.Abs
open Go Go.RowKit

section
variable {W0 : World} {E : Nat → Prop} {X : Nat → Prop} {h h' : AHeap} {m : Places} {w : World} {P : Program}

theorem qmh9 {x : PV} {v : Value} {t : TypeId} (hv : VRel E h m w x v) (hn : qiX9 P t x = true) :
    (∃ e, P.underlying t = some (.pointer e) ∧ v = .pointer none) ∨ (∃ ms, P.underlying t = some (.interface ms) ∧ v = .nilIface) := by
  unfold qiX9 at hn
  split at hn
  · rename_i hu; right; exact ⟨_, hu, hv.to_v rfl⟩
  · rename_i hu; left; exact ⟨_, hu, hv.to_v rfl⟩
  · cases hn
theorem qlI9 {x : PV} {v : Value} {t : TypeId} (hv : VRel E h m w x v) (hn : qiR9 P t x = true) :
    (∃ e, P.underlying t = some (.pointer e) ∧ ∃ a, v = .pointer (some a)) ∨ (∃ ms, P.underlying t = some (.interface ms) ∧ ∃ u y, v = .iface u y) := by
  unfold qiR9 at hn
  split at hn
  · rename_i hu; left; cases hv with | bx _ ad => exact ⟨_, hu, ad, rfl⟩
  · rename_i hu; left; cases hv with | ptr _ _ _ _ _ hp => obtain ⟨⟨a, rfl⟩, _⟩ := hp; exact ⟨_, hu, a, rfl⟩
  · rename_i hu; left; cases hv with | d _ _ hd => cases hd with | bx _ ad => exact ⟨_, hu, ad, rfl⟩
  · rename_i hu; right; cases hv with | ifc _ _ _ => exact ⟨_, hu, _, _, rfl⟩
  · rename_i hu; right; cases hv with | d _ _ hd => cases hd with | ifc _ _ _ => exact ⟨_, hu, _, _, rfl⟩
  · cases hn

theorem qlU9 {t : TypeId} {a b : Value} (ha : (∃ e, P.underlying t = some (.pointer e) ∧ a = .pointer none) ∨ (∃ ms, P.underlying t = some (.interface ms) ∧ a = .nilIface))
    (hb : (∃ e, P.underlying t = some (.pointer e) ∧ ∃ ad, b = .pointer (some ad)) ∨ (∃ ms, P.underlying t = some (.interface ms) ∧ ∃ u z, b = .iface u z)) (w : World) :
    (Op.equal t a b).run P w = .ok false w ∧ (Op.equal t b a).run P w = .ok false w := by
  have e1 : ∀ x y, Op.equal t x y = Op.equalIn (9999 + 1) t x y := fun _ _ => rfl
  rcases ha with ⟨e, hu, rfl⟩ | ⟨ms, hu, rfl⟩ <;> rcases hb with ⟨e', hu', ad, rfl⟩ | ⟨ms', hu', u, z, rfl⟩ <;>
    first
    | (rw [hu] at hu'; cases hu'; done)
    | (constructor <;> (rw [e1, Op.equalIn]; simp [run_underlying hu]))
theorem qkF9 {op : BinOp} {t : TypeId} {x y : Operand} {a b : Value} {r : Bool} (hr : (op = .eql ∧ r = false) ∨ (op = .neq ∧ r = true))
    (hab : ((∃ e, P.underlying t = some (.pointer e) ∧ a = .pointer none) ∨ (∃ ms, P.underlying t = some (.interface ms) ∧ a = .nilIface)) ∧ ((∃ e, P.underlying t = some (.pointer e) ∧ ∃ ad, b = .pointer (some ad)) ∨ (∃ ms, P.underlying t = some (.interface ms) ∧ ∃ u z, b = .iface u z)) ∨
      ((∃ e, P.underlying t = some (.pointer e) ∧ b = .pointer none) ∨ (∃ ms, P.underlying t = some (.interface ms) ∧ b = .nilIface)) ∧ ((∃ e, P.underlying t = some (.pointer e) ∧ ∃ ad, a = .pointer (some ad)) ∨ (∃ ms, P.underlying t = some (.interface ms) ∧ ∃ u z, a = .iface u z))) (w : World) :
    (do eqGuard op t x y a b; binOp op t a b : Sem Value).run P w = .ok (.bool r) w := by
  have key : (Op.equal t a b).run P w = .ok false w := by
    rcases hab with ⟨p, q⟩ | ⟨p, q⟩
    · exact (qlU9 p q w).1
    · exact (qlU9 p q w).2
  have h1 : (eqGuard op t x y a b).run P w = .ok () w := by
    rcases hr with ⟨rfl, rfl⟩ | ⟨rfl, rfl⟩ <;> rcases hab with ⟨⟨e, hu, rfl⟩ | ⟨ms, hu, rfl⟩, ⟨e', hu', ad, rfl⟩ | ⟨ms', hu', u, z, rfl⟩⟩ | ⟨⟨e, hu, rfl⟩ | ⟨ms, hu, rfl⟩, ⟨e', hu', ad, rfl⟩ | ⟨ms', hu', u, z, rfl⟩⟩ <;> simp [eqGuard]
  have h2 : ∀ op', (op' = .eql ∨ op' = .neq) → binOp op' t a b = (if op' matches .eql then (do pure (.bool (← Op.equal t a b))) else (do pure (.bool (!(← Op.equal t a b))))) := by
    rintro op' (rfl | rfl) <;> rcases hab with ⟨⟨e, hu, rfl⟩ | ⟨ms, hu, rfl⟩, ⟨e', hu', ad, rfl⟩ | ⟨ms', hu', u, z, rfl⟩⟩ | ⟨⟨e, hu, rfl⟩ | ⟨ms, hu, rfl⟩, ⟨e', hu', ad, rfl⟩ | ⟨ms', hu', u, z, rfl⟩⟩ <;> rfl
  rw [Sem.run_bind, h1]
  rcases hr with ⟨rfl, rfl⟩ | ⟨rfl, rfl⟩
  · rw [Result.andThen_ok, h2 _ (.inl rfl)]; simp [key]
  · rw [Result.andThen_ok, h2 _ (.inr rfl)]; simp [key]

theorem quG9 {op : BinOp} {t : TypeId} {x y : Operand} {a b z : PV} {va vb : Value} {h1 : AHeap} (ha : VRel E h m w a va) (hb : VRel E h m w b vb) (ho : opBin P h op t x y a b = some (z, h1)) :
    h1 = h ∧ ∃ u, (do eqGuard op t x y va vb; binOp op t va vb : Sem Value).run P w = .ok u w ∧ VRel E h m w z u := by
  unfold opBin at ho
  cases hn : qfI9 P op t a b with
  | some r =>
    simp only [hn, Option.some.injEq, Prod.mk.injEq] at ho
    obtain ⟨rfl, rfl⟩ := ho
    refine ⟨rfl, ?_⟩
    unfold qfI9 at hn
    split at hn
    · rename_i hc
      have hab := hc.imp (fun q => And.intro (qmh9 ha q.1) (qlI9 hb q.2)) (fun q => And.intro (qmh9 hb q.1) (qlI9 ha q.2))
      cases op with
      | eql =>
        simp only [Option.some.injEq] at hn
        subst hn
        exact ⟨_, qkF9 (r := false) (.inl ⟨rfl, rfl⟩) hab w, .d _ _ (.v _)⟩
      | neq =>
        simp only [Option.some.injEq] at hn
        subst hn
        exact ⟨_, qkF9 (r := true) (.inr ⟨rfl, rfl⟩) hab w, .d _ _ (.v _)⟩
      | _ => simp at hn
    · cases hn
  | none =>
    simp only [hn] at ho
    cases h2 : toV a with
    | none => simp [h2] at ho
    | some a' =>
      cases h3 : toV b with
      | none => simp [h2, h3] at ho
      | some b' =>
        simp only [h2, h3] at ho
        obtain rfl := ha.to_v h2
        obtain rfl := hb.to_v h3
        cases hp : pev P (do eqGuard op t x y va vb; binOp op t va vb) with
        | none => simp [hp] at ho
        | some u =>
          simp only [hp, Option.map_some, Option.some.injEq, Prod.mk.injEq] at ho
          obtain ⟨rfl, rfl⟩ := ho
          exact ⟨rfl, u, qga9 hp w, .d _ _ (.v u)⟩

theorem qvi9 {op : UnOp} {a z : PV} {va : Value} {h1 : AHeap} (ha : VRel E h m w a va) (ho : opUn P h op a = some (z, h1)) : h1 = h ∧ ∃ u, (Op.unary op va).run P w = .ok u w ∧ VRel E h m w z u := by
  unfold opUn at ho
  cases h2 : toV a with
  | none => simp [h2] at ho
  | some a' =>
    simp only [h2] at ho
    obtain rfl := ha.to_v h2
    cases hp : pev P (Op.unary op va) with
    | none => simp [hp] at ho
    | some u =>
      simp only [hp, Option.map_some, Option.some.injEq, Prod.mk.injEq] at ho
      obtain ⟨rfl, rfl⟩ := ho
      exact ⟨rfl, u, qga9 hp w, .d _ _ (.v u)⟩
theorem qta9 {s d : TypeId} {a z : PV} {va : Value} {h1 : AHeap} (ha : VRel E h m w a va) (ho : qht9 P h s d a = some (z, h1)) : h1 = h ∧ ∃ u, (convert s d va).run P w = .ok u w ∧ VRel E h m w z u := by
  unfold qht9 at ho
  cases h2 : toV a with
  | none => simp [h2] at ho
  | some a' =>
    simp only [h2] at ho
    obtain rfl := ha.to_v h2
    cases hp : pev P (convert s d va) with
    | none => simp [hp] at ho
    | some u =>
      simp only [hp, Option.map_some, Option.some.injEq, Prod.mk.injEq] at ho
      obtain ⟨rfl, rfl⟩ := ho
      exact ⟨rfl, u, qga9 hp w, .d _ _ (.v u)⟩

theorem qqz9 {t : TypeId} {a z : PV} {va : Value} {h1 : AHeap} (ha : VRel E h m w a va) (ho : qhX9 P h t a = some (z, h1)) : h1 = h ∧ ∃ u, (Instr.makeInterface t va).run P w = .ok u w ∧ VRel E h m w z u := by
  unfold qhX9 at ho
  cases hu : P.underlying t with
  | none => simp [hu] at ho
  | some d =>
    cases d <;> simp [hu] at ho <;> obtain ⟨rfl, rfl⟩ := ho <;> exact ⟨rfl, _, by simp [Instr.makeInterface, run_underlying hu], .ifc _ _ _ ha⟩

theorem qqw9 {fn : Fn} {first caps : List PV} {z : PV} {vf vc : Array Value} {h1 : AHeap} (hf : vf.size = first.length) (hl : vc.size = caps.length) (hc : ∀ (j : Nat) (u : PV) (x : Value), caps[j]? = some u → vc[j]? = some x → VRel E h m w u x) (ho : qjb9 h fn first caps = some (z, h1)) :
    h1 = h ∧ ∃ u, (Instr.makeFunc fn vf vc).run P w = .ok u w ∧ VRel E h m w z u := by
  unfold qjb9 at ho
  split at ho
  · simp only [Option.some.injEq, Prod.mk.injEq] at ho
    obtain ⟨rfl, rfl⟩ := ho
    obtain rfl : vf = #[] := Array.eq_empty_of_size_eq_zero hf
    refine ⟨rfl, _, rfl, ?_⟩
    have : vc = vc.toList.toArray := by simp
    rw [this]
    exact .fn _ _ _ (by simpa using hl) (fun j u x h1 h2 => hc j u x h1 (by simpa using h2))
  · cases ho

theorem qnO9 {i : Nat} {a z : PV} {va : Value} {h1 : AHeap} (ha : VRel E h m w a va) (ho : qgj9 h a i = some (z, h1)) : h1 = h ∧ ∃ u, (Instr.extract va i).run P w = .ok u w ∧ VRel E h m w z u := by
  unfold qgj9 at ho
  split at ho
  · rename_i vs
    cases ha with
    | tp cs us hl hr =>
      cases hx : vs[i]? with
      | none => simp [hx] at ho
      | some x =>
        simp only [hx, Option.map_some, Option.some.injEq, Prod.mk.injEq] at ho
        obtain ⟨rfl, rfl⟩ := ho
        have hlt : i < us.length := by rw [hl]; exact (List.getElem?_eq_some_iff.1 hx).1
        refine ⟨rfl, us[i], ?_, hr i _ _ hx (List.getElem?_eq_getElem hlt)⟩
        simp [Instr.extract, hlt]
  · cases ho

theorem qkB9 {ok b : Bool} {z : PV} {v : Value} (hz : VRel E h m w z v) : VRel E h m w (okTup ok z b) (if ok = true then .tuple #[v, .bool b] else v) := by
  unfold okTup
  split
  · refine .tp [z, .d (.v (.bool b))] [v, .bool b] rfl (fun j u x h1 h2 => ?_)
    match j, h1, h2 with
    | 0, h1, h2 => simp at h1 h2; subst h1; subst h2; exact hz
    | 1, h1, h2 => simp at h1 h2; subst h1; subst h2; exact .d _ _ (.v _)
    | j + 2, h1, _ => simp at h1
  · exact hz

theorem qwX9 {x : PV} {v : Value} {o : Option (TypeId × PV)} (hv : VRel E h m w x v) (hd : dynOf x = some o) : match o with | none => v = .nilIface | some (t, y) => ∃ u, v = .iface t u ∧ VRel E h m w y u := by
  unfold dynOf at hd
  split at hd
  · simp only [Option.some.injEq] at hd
    subst hd
    cases hv with | ifc t x u hx => exact ⟨u, rfl, hx⟩
  · simp only [Option.some.injEq] at hd
    subst hd
    cases hv with | d _ _ hd => cases hd with | ifc t x u hx => exact ⟨u, rfl, .d _ _ hx⟩
  · simp only [Option.some.injEq] at hd
    subst hd
    exact hv.to_v rfl
  · cases hd

theorem qpe9 {xt asserted : TypeId} {ok : Bool} {a z : PV} {va : Value} {h1 : AHeap} (ha : VRel E h m w a va) (ho : qeZ9 P h a asserted ok = some (z, h1)) :
    h1 = h ∧ ∃ u, (Instr.typeAssert va xt asserted ok).run P w = .ok u w ∧ VRel E h m w z u := by
  unfold qeZ9 at ho
  cases hu : P.underlying asserted with
  | none => simp [hu] at ho
  | some d =>
    have hno : ∀ ms, d ≠ .interface ms := by intro ms e; subst e; simp [hu] at ho
    have ho' : qfZ9 P h a asserted ok = some (z, h1) := by
      cases d <;> first | (exact absurd rfl (hno _)) | simpa [hu] using ho
    unfold qfZ9 at ho'
    clear ho
    have hfail : ∀ (vz : PV), zeroP P asserted = some vz → ∃ u : Value, (∀ w' : World, (zeroValue asserted).run P w' = .ok u w') ∧ VRel E h m w (.tp [vz, .d (.v (.bool false))]) (.tuple #[u, .bool false]) := by
      intro vz hz
      obtain ⟨u, h2, h3⟩ := qnH9 (E := E) (h := h) (m := m) (w := w) hz
      exact ⟨u, h2, qkB9 (ok := true) (b := false) h3⟩
    cases hd : dynOf a with
    | none => simp [hd] at ho'
    | some o =>
      have hdr := qwX9 ha hd
      cases o with
      | none =>
        simp only [hd] at ho'
        subst hdr
        split at ho'
        · rename_i hok
          subst hok
          cases hz : zeroP P asserted with
          | none => simp [hz] at ho'
          | some vz =>
            simp only [hz, Option.map_some, Option.some.injEq, Prod.mk.injEq] at ho'
            obtain ⟨rfl, rfl⟩ := ho'
            obtain ⟨u, h2, h3⟩ := hfail vz hz
            refine ⟨rfl, _, ?_, h3⟩
            unfold Instr.typeAssert
            simp only [Sem.run_bind, run_underlying hu, Result.andThen_ok]
            cases d <;> first | (exact absurd rfl (hno _)) | simp [h2]
        · cases ho'
      | some p =>
        obtain ⟨t, y⟩ := p
        simp only [hd] at ho'
        obtain ⟨u, rfl, hy⟩ := hdr
        split at ho'
        · rename_i ht
          subst ht
          simp only [Option.some.injEq, Prod.mk.injEq] at ho'
          obtain ⟨rfl, rfl⟩ := ho'
          refine ⟨rfl, _, ?_, qkB9 hy⟩
          unfold Instr.typeAssert
          simp only [Sem.run_bind, run_underlying hu, Result.andThen_ok]
          cases d <;> first | (exact absurd rfl (hno _)) | simp
        · rename_i ht
          split at ho'
          · rename_i hok
            subst hok
            cases hz : zeroP P asserted with
            | none => simp [hz] at ho'
            | some vz =>
              simp only [hz, Option.map_some, Option.some.injEq, Prod.mk.injEq] at ho'
              obtain ⟨rfl, rfl⟩ := ho'
              obtain ⟨u', h2, h3⟩ := hfail vz hz
              refine ⟨rfl, _, ?_, h3⟩
              unfold Instr.typeAssert
              simp only [Sem.run_bind, run_underlying hu, Result.andThen_ok]
              cases d <;> first | (exact absurd rfl (hno _)) | simp [h2, ht]
          · cases ho'

theorem qqO9 {t : TypeId} {x i y : PV} {v vi : Value} {h1 : AHeap} (hv : VRel E h m w x v) (hi : VRel E h m w i vi) (ho : qhY9 P h t x i = some (y, h1)) : h1 = h ∧ ∃ u, (Instr.index t v vi).run P w = .ok u w ∧ VRel E h m w y u := by
  unfold qhY9 at ho
  split at ho
  · rename_i s
    obtain rfl := hv.to_v rfl
    cases h2 : toV i with
    | none => simp [h2] at ho
    | some b =>
      simp only [h2] at ho
      obtain rfl := hi.to_v h2
      cases hp : pev P (Instr.index t (.string s) vi) with
      | none => simp [hp] at ho
      | some u =>
        simp only [hp, Option.map_some, Option.some.injEq, Prod.mk.injEq] at ho
        obtain ⟨rfl, rfl⟩ := ho
        exact ⟨rfl, u, qga9 hp w, .d _ _ (.v u)⟩
  · split at ho
    · rename_i len e n cs hu hn hc
      obtain ⟨k, rfl⟩ := hi.as_int hn
      cases hsz : sizeT P e with
      | none => simp [hsz] at ho
      | some sz =>
        simp only [hsz] at ho
        split at ho
        · rename_i hb
          obtain ⟨b1, b2⟩ := hb
          obtain ⟨ii, hi1, hi2⟩ := qdo9 hsz
          cases hp : partP P e cs (n.toNat * sz) with
          | none => simp [hp] at ho
          | some z =>
            simp only [hp, Option.map_some, Option.some.injEq, Prod.mk.injEq] at ho
            obtain ⟨rfl, rfl⟩ := ho
            obtain ⟨vs, rfl, hl, hr⟩ := qkK9 hv hc
            obtain ⟨u, h2, h3⟩ := qoI9 hl hr hp
            refine ⟨rfl, u, ?_, h3⟩
            simp [Instr.index, asIntOf, run_underlying hu, qbs9 hi1, hi2, b1, b2, h2]
        · cases ho
    · cases ho

theorem qsQ9 {t : TypeId} {s : ByteArray} {lo hi : Option PV} {vlo vhi : Option Value} {y : PV} {h1 : AHeap} (hlo : ∀ x, lo = some x → ∃ v, vlo = some v ∧ VRel E h m w x v) (hlo' : lo = none → vlo = none) (hhi : ∀ x, hi = some x → ∃ v, vhi = some v ∧ VRel E h m w x v) (hhi' : hi = none → vhi = none)
    (ho : qlK9 P h t s lo hi = some (y, h1)) : h1 = h ∧ ∃ u, (Instr.sliceAt t (.string s) vlo vhi none).run P w = .ok u w ∧ VRel E h m w y u := by
  have key : ∀ {o : Option PV} {vo a : Option Value}, (∀ x, o = some x → ∃ v, vo = some v ∧ VRel E h m w x v) → (o = none → vo = none) → optV o = some a → vo = a := by
    intro o vo a k1 k2 k3
    cases o with
    | none => simp only [optV, Option.some.injEq] at k3; rw [k2 rfl, k3]
    | some x =>
      simp only [optV] at k3
      cases hx : toV x with
      | none => simp [hx] at k3
      | some b =>
        simp only [hx, Option.map_some, Option.some.injEq] at k3
        obtain ⟨v, e, r⟩ := k1 x rfl
        rw [e, ← k3, r.to_v hx]
  unfold qlK9 at ho
  cases ha : optV lo with
  | none => simp [ha] at ho
  | some a =>
    cases hb : optV hi with
    | none => simp [ha, hb] at ho
    | some b =>
      simp only [ha, hb] at ho
      obtain rfl := key hlo hlo' ha
      obtain rfl := key hhi hhi' hb
      cases hp : pev P (Instr.sliceAt t (.string s) vlo vhi none) with
      | none => simp [hp] at ho
      | some u =>
        simp only [hp, Option.map_some, Option.some.injEq, Prod.mk.injEq] at ho
        obtain ⟨rfl, rfl⟩ := ho
        exact ⟨rfl, u, qga9 hp w, .d _ _ (.v u)⟩
end
end Go.Abs

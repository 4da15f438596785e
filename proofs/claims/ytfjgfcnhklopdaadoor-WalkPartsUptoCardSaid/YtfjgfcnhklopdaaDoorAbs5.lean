import Derived.Test.YtfjgfcnhklopdaaDoorAbs4
import Derived.ChangeKeysEq
set_option maxHeartbeats 400000
set_option linter.unusedVariables false
set_option linter.unusedSimpArgs false
namespace Go.Abs
open Go Go.RowKit

theorem qgd9 (a : Addr) (i j : Nat) : (a.add i).add j = a.add (i + j) := by
  unfold Addr.add
  by_cases hi : i = 0 <;> by_cases hj : j = 0 <;> simp [hi, hj, Nat.add_assoc]
theorem qfi9 (g o n : Nat) : (⟨g, o, none⟩ : Addr).add n = ⟨g, o + n, none⟩ := by unfold Addr.add; split <;> simp_all
theorem add_zero (a : Addr) : a.add 0 = a := by simp [Addr.add]

section
variable {W0 : World} {E : Nat → Prop} {X : Nat → Prop} {h h' : AHeap} {m : Places} {w : World} {P : Program}

theorem qjp9 (v : Value) : VRel E h m w (qfs9 v) v := by
  unfold qfs9
  split
  · exact .im true [] none 0 0 (fun _ _ => undef) (by simp) (by simp) (by simp) (by simp) (by simp) (by simp)
  · exact .d _ _ (.v v)
theorem qkT9 (v : Value) : VRel E h m w (qfb9 v) v := by
  unfold qfb9
  split
  · rename_i cs
    split
    · rename_i hone
      have : cs = cs.toList.toArray := by simp
      rw [this]
      refine .ag _ _ (by simp) (fun j x hx => ?_) (fun j u x hu hx => ?_)
      · exact List.all_eq_true.1 hone x (by simpa using List.mem_of_getElem? hx)
      · simp only [List.getElem?_map] at hu
        rw [show cs.toList.toArray.toList = cs.toList by simp] at hu
        rw [hx] at hu
        simp only [Option.map_some, Option.some.injEq] at hu
        subst hu
        exact qjp9 x
    · exact .junk _
  · exact qjp9 v
theorem qnH9 {t : TypeId} {x : PV} (hz : zeroP P t = some x) : ∃ v, (∀ w' : World, (zeroValue t).run P w' = .ok v w') ∧ VRel E h m w x v := by
  unfold zeroP at hz
  cases hi : P.info? t with
  | none => simp [hi] at hz
  | some i =>
    simp only [hi] at hz
    cases hzz : i.zero with
    | none => simp [hzz] at hz
    | some z =>
      simp only [hzz, Option.map_some, Option.some.injEq] at hz
      subst hz
      exact ⟨z, fun w' => by simp [zeroValue, typeInfo, hi, hzz], qkT9 z⟩
theorem qev9 {t : TypeId} {cs : List PV} (hz : zeroCells P t = some cs) : ∃ i z, P.info? t = some i ∧ i.zero = some z ∧ z.cells.size = i.size ∧ cs.length = i.size ∧ (∀ x ∈ z.cells.toList, x.oneCell' = true) ∧
    ∀ (j : Nat) (u : PV) (y : Value), cs[j]? = some u → z.cells[j]? = some y → y.oneCell' = true ∧ VRel E h m w u y := by
  unfold zeroCells at hz
  cases hi : P.info? t with
  | none => simp [hi] at hz
  | some i =>
    simp only [hi] at hz
    cases hzz : i.zero with
    | none => simp [hzz] at hz
    | some z =>
      simp only [hzz] at hz
      split at hz
      · rename_i hc
        simp only [Option.some.injEq] at hz
        subst hz
        refine ⟨i, z, rfl, hzz, hc.1, by simp [hc.1], fun x hx => List.all_eq_true.1 hc.2 x hx, fun j u y hu hy => ?_⟩
        rw [List.getElem?_map] at hu
        rw [show z.cells.toList[j]? = z.cells[j]? by simp, hy] at hu
        simp only [Option.map_some, Option.some.injEq] at hu
        subst hu
        exact ⟨List.all_eq_true.1 hc.2 y (List.mem_of_getElem? (by simpa using hy)), qjp9 y⟩
      · cases hz

def At (E : Nat → Prop) (h : AHeap) (m : Places) (w : World) (ad : Addr) (cs : List PV) : Prop :=
  ∃ f : Nat → Value, ∀ (j : Nat) (u : PV), cs[j]? = some u → w.cell? (ad.add j) = some (f j) ∧ (f j).oneCell' = true ∧ VRel E h m w u (f j)

theorem qhG9 {id ver : Nat} {p : Bool × Nat × List (List PV)} (hr : rowAt h id ver = some p) : h[id]? = some (.row p.1 ver p.2.1 p.2.2) := by
  unfold rowAt at hr
  split at hr
  · rename_i fz ver' sz es ho
    split at hr
    · rename_i hv
      simp only [Option.some.injEq] at hr
      subst hr; subst hv
      exact ho
    · cases hr
  · cases hr

theorem HRel.elem (H : HRel W0 X h m w) {id : Nat} {fz : Bool} {ver sz : Nat} {es : List (List PV)} (ho : h[id]? = some (.row fz ver sz es)) {idx : Nat} {cs : List PV} (hc : es[idx]? = some cs) :
    ∃ g bo cur e, m id = some (g, bo) ∧ 0 < sz ∧ w.heap[g]? = some (.cells cur e (0, 0)) ∧ (bo + es.length) * sz ≤ cur.size ∧ cs.length = sz ∧
      ∀ (j : Nat) (u : PV), cs[j]? = some u → ∃ x, cur[(bo + idx) * sz + j]? = some x ∧ x.oneCell' = true ∧ VRel (Ex X h m) h m w u x := by
  have H1 := H.obj id _ ho
  cases hm : m id with
  | none =>
    rw [hm] at H1
    have : es = [] := H1
    subst this
    simp at hc
  | some p =>
    obtain ⟨g, bo⟩ := p
    rw [hm] at H1
    obtain ⟨h0, cur, e, h1, h2, h3, h4⟩ := H1
    exact ⟨g, bo, cur, e, rfl, h0, h1, h2, h3 idx cs hc, fun j u hu => h4 idx j cs u hc hu⟩

theorem At.of_fun {ad : Addr} {cs : List PV} (hx : ∀ (j : Nat) (u : PV), cs[j]? = some u → ∃ x, w.cell? (ad.add j) = some x ∧ x.oneCell' = true ∧ VRel E h m w u x) : At E h m w ad cs := by
  classical
  refine ⟨fun j => if hj : ∃ x, w.cell? (ad.add j) = some x then Classical.choose hj else undef, fun j u hu => ?_⟩
  obtain ⟨x, h1, h2, h3⟩ := hx j u hu
  have hj : ∃ x, w.cell? (ad.add j) = some x := ⟨x, h1⟩
  have he : Classical.choose hj = x := by
    have := Classical.choose_spec hj
    exact Option.some.inj (this.symm.trans h1)
  simp only [dif_pos hj, he]
  exact ⟨h1, h2, h3⟩

theorem qkQ9 (H : HRel W0 X h m w) {a : PV} {va : Value} {cs : List PV} (hv : VRel (Ex X h m) h m w a va) (hc : qbH9 h a = some cs) : ∃ ad, va = .pointer (some ad) ∧ At (Ex X h m) h m w ad cs := by
  cases hv with
  | d x v hd =>
    cases hd with
    | bx cs ad f hE hr =>
      simp only [qbH9, Option.some.injEq] at hc
      subst hc
      refine ⟨ad, rfl, f, fun j u hu => ?_⟩
      rw [List.getElem?_map] at hu
      cases hcc : cs[j]? with
      | none => simp [hcc] at hu
      | some c =>
        simp only [hcc, Option.map_some, Option.some.injEq] at hu
        subst hu
        obtain ⟨a1, a2, a3⟩ := hE j c hcc
        exact ⟨a2, a3, .d _ _ (hr j c hcc)⟩
    | _ => simp [qbH9] at hc
  | bx cs ad f hE hr =>
    simp only [qbH9, Option.some.injEq] at hc
    subst hc
    refine ⟨ad, rfl, f, fun j u hu => ?_⟩
    obtain ⟨a1, a2, a3⟩ := hE j u hu
    exact ⟨a2, a3, hr j u hu⟩
  | ptr id ver idx off v hp =>
    simp only [qbH9] at hc
    cases hr : rowAt h id ver with
    | none => simp [hr] at hc
    | some p =>
      obtain ⟨fz, sz, es⟩ := p
      have ho := qhG9 hr
      simp only [hr] at hc
      cases hcs : es[idx]? with
      | none => simp [hcs] at hc
      | some cs0 =>
        simp only [hcs, Option.bind_some] at hc
        split at hc
        · rename_i hle
          simp only [Option.some.injEq] at hc
          subst hc
          obtain ⟨g, bo, cur, e, hm, h0, h1, h2, h3, h4⟩ := H.elem ho hcs
          obtain ⟨_, fz', ver', sz', es', ho', hle', hcur⟩ := hp
          rw [ho] at ho'
          injection ho' with ho'
          injection ho' with q1 q2 q3 q4
          subst q2; subst q3
          obtain ⟨_, c2⟩ := hcur rfl
          rw [hm] at c2
          subst c2
          refine ⟨_, rfl, At.of_fun fun j u hu => ?_⟩
          rw [List.getElem?_drop] at hu
          obtain ⟨x, k1, k2, k3⟩ := h4 (off + j) u hu
          refine ⟨x, ?_, k2, k3⟩
          rw [qfi9]
          simp only [World.cell?, h1]
          simpa [Nat.add_assoc] using k1
        · cases hc
  | _ => simp [qbH9] at hc

theorem qng9 {t : TypeId} {d : TypeDesc} (hd : P.underlying t = some d) (w : World) : (isAgg t).run P w = .ok (qfJ9 d) w := by
  simp only [isAgg, Sem.run_bind, run_underlying hd, Result.andThen_ok]
  cases d <;> rfl
theorem qbs9 {t : TypeId} {i : TypeInfo} (hi : P.info? t = some i) (w : World) : (sizeOf t).run P w = .ok i.size w := by
  simp [sizeOf, typeInfo, hi]

theorem qud9 {t : TypeId} {cs : List PV} {x : PV} {ad : Addr} (ha : At E h m w ad cs) (hp : partP P t cs 0 = some x) : ∃ v, (loadVar t ad).run P w = .ok v w ∧ VRel E h m w x v := by
  obtain ⟨f, hf⟩ := ha
  unfold partP at hp
  cases hd : P.underlying t with
  | none => simp [hd] at hp
  | some d =>
    cases hi : P.info? t with
    | none => simp [hd, hi] at hp
    | some i =>
      simp only [hd, hi] at hp
      unfold loadVar
      simp only [Sem.run_bind, qng9 hd, Result.andThen_ok]
      by_cases hg : qfJ9 d = true
      · simp only [hg, if_true, Sem.run_bind, qbs9 hi, Result.andThen_ok] at hp ⊢
        split at hp
        · rename_i hle
          simp only [Option.some.injEq] at hp
          subst hp
          have hc : ∀ j, j < i.size → w.cell? (ad.add j) = some (f j) := fun j hj => (hf j (cs[j]'(by omega)) (List.getElem?_eq_getElem _)).1
          rw [run_loadCells w ad i.size f hc]
          refine ⟨_, rfl, .ag _ _ ?_ (fun j x hx => ?_) (fun j u x hu hx => ?_)⟩
          · simp; omega
          · rw [List.getElem?_map] at hx
            cases hrr : (List.range i.size)[j]? with
            | none => simp [hrr] at hx
            | some q =>
              obtain ⟨q1, q2⟩ := List.getElem?_eq_some_iff.1 hrr
              simp at q1 q2
              subst q2
              simp only [hrr, Option.map_some, Option.some.injEq] at hx
              subst hx
              exact (hf _ (cs[j]'(by omega)) (List.getElem?_eq_getElem _)).2.1
          · rw [List.getElem?_map] at hx
            cases hrr : (List.range i.size)[j]? with
            | none => simp [hrr] at hx
            | some q =>
              obtain ⟨q1, q2⟩ := List.getElem?_eq_some_iff.1 hrr
              simp at q1 q2
              subst q2
              simp only [hrr, Option.map_some, Option.some.injEq] at hx
              subst hx
              rw [List.getElem?_take] at hu
              simp only [q1, if_true, List.drop_zero] at hu
              exact (hf _ u hu).2.2
        · cases hp
      · have hg' : qfJ9 d = false := by simpa using hg
        simp only [hg', Bool.false_eq_true, if_false] at hp ⊢
        obtain ⟨k1, k2, k3⟩ := hf 0 x hp
        rw [add_zero] at k1
        rw [run_load, k1]
        exact ⟨f 0, rfl, k3⟩

theorem qlS9 (H : HRel W0 X h m w) {t : TypeId} {a x : PV} {va : Value} (hv : VRel (Ex X h m) h m w a va) (hl : loadP P h t a = some x) : ∃ v, (Instr.loadAt t va).run P w = .ok v w ∧ VRel (Ex X h m) h m w x v := by
  unfold loadP at hl
  cases hc : qbH9 h a with
  | none => simp [hc] at hl
  | some cs =>
    simp only [hc, Option.bind_some] at hl
    obtain ⟨ad, rfl, ha⟩ := qkQ9 H hv hc
    obtain ⟨v, h1, h2⟩ := qud9 ha hl
    exact ⟨v, by simp [Instr.loadAt, Instr.sureAddr, h1], h2⟩

theorem qoI9 {t : TypeId} {cs : List PV} {vs : Array Value} {x : PV} {off : Nat} (hl : vs.size = cs.length) (hr : ∀ (j : Nat) (u : PV) (y : Value), cs[j]? = some u → vs[j]? = some y → y.oneCell' = true ∧ VRel E h m w u y)
    (hp : partP P t cs off = some x) : ∃ v, (part t vs off).run P w = .ok v w ∧ VRel E h m w x v := by
  unfold partP at hp
  cases hd : P.underlying t with
  | none => simp [hd] at hp
  | some d =>
    cases hi : P.info? t with
    | none => simp [hd, hi] at hp
    | some i =>
      simp only [hd, hi] at hp
      unfold part
      simp only [Sem.run_bind, qng9 hd, Result.andThen_ok]
      by_cases hg : qfJ9 d = true
      · simp only [hg, if_true, Sem.run_bind, qbs9 hi, Result.andThen_ok] at hp ⊢
        split at hp
        · rename_i hle
          simp only [Option.some.injEq] at hp
          subst hp
          refine ⟨_, rfl, ?_⟩
          have e : vs.extract off (off + i.size) = ((vs.toList.drop off).take i.size).toArray := by
            apply Array.ext'
            simp [Array.toList_extract, List.extract_eq_take_drop]
          rw [e]
          refine .ag _ _ ?_ (fun j x hx => ?_) (fun j u x hu hx => ?_)
          · simp [hl]
          · rw [List.getElem?_take] at hx
            split at hx
            · rw [List.getElem?_drop] at hx
              have hx' : vs[off + j]? = some x := by simpa using hx
              have hlt : off + j < cs.length := by rw [← hl]; exact (Array.getElem?_eq_some_iff.1 hx').1
              exact (hr _ _ x (List.getElem?_eq_getElem hlt) hx').1
            · cases hx
          · rw [List.getElem?_take] at hx hu
            split at hx
            · rw [List.getElem?_drop] at hx hu
              simp only [*, if_true] at hu
              exact (hr _ u x hu (by simpa using hx)).2
            · cases hx
        · cases hp
      · have hg' : qfJ9 d = false := by simpa using hg
        simp only [hg', Bool.false_eq_true, if_false] at hp ⊢
        have hlt : off < cs.length := (List.getElem?_eq_some_iff.1 hp).1
        have hvx : vs[off]? = some (vs[off]'(by omega)) := Array.getElem?_eq_getElem (by omega)
        rw [hvx]
        exact ⟨_, rfl, (hr off x _ hp hvx).2⟩

theorem qkK9 {x : PV} {v : Value} {cs : List PV} (hv : VRel E h m w x v) (hc : qee9 x = some cs) : ∃ vs : Array Value, v = .agg vs ∧ vs.size = cs.length ∧
    ∀ (j : Nat) (u : PV) (y : Value), cs[j]? = some u → vs[j]? = some y → y.oneCell' = true ∧ VRel E h m w u y := by
  cases hv with
  | d x v hd =>
    cases hd with
    | ag cs vs hl h1 hr =>
      simp only [qee9, Option.some.injEq] at hc
      subst hc
      refine ⟨vs.toArray, rfl, by simpa using hl, fun j u y hu hy => ?_⟩
      have hy' : vs[j]? = some y := by simpa using hy
      exact ⟨h1 j y hy', VRel.of_d_cells hr j u y hu hy'⟩
    | _ => simp [qee9] at hc
  | ag cs vs hl h1 hr =>
    simp only [qee9, Option.some.injEq] at hc
    subst hc
    refine ⟨vs.toArray, rfl, by simpa using hl, fun j u y hu hy => ?_⟩
    have hy' : vs[j]? = some y := by simpa using hy
    exact ⟨h1 j y hy', hr j u y hu hy'⟩
  | _ => simp [qee9] at hc

theorem qjG9 {t : TypeId} {fs : Array Field} (hf : qdG9 P t = some fs) : P.underlying t = some (.struct fs) := by
  unfold qdG9 at hf
  split at hf
  · rename_i fs' hu
    simp only [Option.some.injEq] at hf
    subst hf
    exact hu
  · cases hf
theorem qbS9 {t e : TypeId} (hf : qK9 P t = some e) : P.underlying t = some (.slice e) := by
  unfold qK9 at hf
  split at hf
  · rename_i fs' hu
    simp only [Option.some.injEq] at hf
    subst hf
    exact hu
  · cases hf
theorem qdo9 {t : TypeId} {n : Nat} (hf : sizeT P t = some n) : ∃ i, P.info? t = some i ∧ i.size = n := by
  unfold sizeT at hf
  cases hi : P.info? t with
  | none => simp [hi] at hf
  | some i => simp only [hi, Option.map_some, Option.some.injEq] at hf; exact ⟨i, rfl, hf⟩

theorem qrb9 {t : TypeId} {x y : PV} {v : Value} {f : Nat} {h1 : AHeap} (hv : VRel E h m w x v) (ho : qjc9 P h t x f = some (y, h1)) : h1 = h ∧ ∃ u, (Instr.field t v f).run P w = .ok u w ∧ VRel E h m w y u := by
  unfold qjc9 at ho
  cases hf : qdG9 P t with
  | none => simp [hf] at ho
  | some fs =>
    cases hc : qee9 x with
    | none => simp [hf, hc] at ho
    | some cs =>
      simp only [hf, hc] at ho
      cases hfd : fs[f]? with
      | none => simp [hfd] at ho
      | some fd =>
        simp only [hfd] at ho
        cases hp : partP P fd.type cs fd.offset with
        | none => simp [hp] at ho
        | some z =>
          simp only [hp, Option.map_some, Option.some.injEq, Prod.mk.injEq] at ho
          obtain ⟨rfl, rfl⟩ := ho
          obtain ⟨vs, rfl, hl, hr⟩ := qkK9 hv hc
          obtain ⟨u, h2, h3⟩ := qoI9 hl hr hp
          refine ⟨rfl, u, ?_, h3⟩
          simp [Instr.field, run_underlying (qjG9 hf), hfd, asAgg, h2]

theorem qnt9 {x y : PV} {v : Value} {off : Nat} (hv : VRel E h m w x v) (hs : qdX9 x off = some y) : ∃ ad, v = .pointer (some ad) ∧ VRel E h m w y (.pointer (some (ad.add off))) := by
  cases hv with
  | d x v hd =>
    cases hd with
    | bx cs ad f hE hr =>
      simp only [qdX9, Option.some.injEq] at hs
      subst hs
      refine ⟨ad, rfl, .d _ _ (.bx _ _ (fun j => f (off + j)) (fun j u hu => ?_) (fun j u hu => ?_))⟩
      · rw [List.getElem?_drop] at hu
        obtain ⟨a1, a2, a3⟩ := hE _ u hu
        exact ⟨by rw [qcH9]; exact a1, by rw [qgd9]; exact a2, a3⟩
      · rw [List.getElem?_drop] at hu
        exact hr _ u hu
    | _ => simp [qdX9] at hs
  | bx cs ad f hE hr =>
    simp only [qdX9, Option.some.injEq] at hs
    subst hs
    refine ⟨ad, rfl, .bx _ _ (fun j => f (off + j)) (fun j u hu => ?_) (fun j u hu => ?_)⟩
    · rw [List.getElem?_drop] at hu
      obtain ⟨a1, a2, a3⟩ := hE _ u hu
      exact ⟨by rw [qcH9]; exact a1, by rw [qgd9]; exact a2, a3⟩
    · rw [List.getElem?_drop] at hu
      exact hr _ u hu
  | ptr id ver idx o v hp =>
    simp only [qdX9, Option.some.injEq] at hs
    subst hs
    obtain ⟨⟨a, rfl⟩, fz, ver', sz, es, ho, hle, hcur⟩ := hp
    refine ⟨a, rfl, .ptr _ _ _ _ _ ⟨⟨_, rfl⟩, fz, ver', sz, es, ho, hle, fun e => ?_⟩⟩
    obtain ⟨c1, c2⟩ := hcur e
    refine ⟨c1, ?_⟩
    cases hm : m id with
    | none => rw [hm] at c2; exact c2
    | some p =>
      obtain ⟨g, bo⟩ := p
      rw [hm] at c2
      simp only at c2 ⊢
      injection c2 with c2
      injection c2 with c2
      subst c2
      rw [qfi9, Nat.add_assoc]
  | _ => simp [qdX9] at hs

theorem qmf9 {t : TypeId} {x y : PV} {v : Value} {f : Nat} {h1 : AHeap} (hv : VRel E h m w x v) (ho : qft9 P h t x f = some (y, h1)) : h1 = h ∧ ∃ u, (Instr.fieldAt t v f).run P w = .ok u w ∧ VRel E h m w y u := by
  unfold qft9 at ho
  cases hf : qdG9 P t with
  | none => simp [hf] at ho
  | some fs =>
    simp only [hf] at ho
    cases hfd : fs[f]? with
    | none => simp [hfd] at ho
    | some fd =>
      simp only [hfd] at ho
      cases hn : sizeT P fd.type with
      | none => simp [hn] at ho
      | some n =>
        simp only [hn] at ho
        split at ho
        · cases ho
        · rename_i hn0
          cases hs : qdX9 x fd.offset with
          | none => simp [hs] at ho
          | some z =>
            simp only [hs, Option.map_some, Option.some.injEq, Prod.mk.injEq] at ho
            obtain ⟨rfl, rfl⟩ := ho
            obtain ⟨ad, rfl, hr⟩ := qnt9 hv hs
            obtain ⟨i, hi, rfl⟩ := qdo9 hn
            refine ⟨rfl, _, ?_, hr⟩
            simp [Instr.fieldAt, run_underlying (qjG9 hf), hfd, Instr.sureAddr, fieldPlace, qbs9 hi, hn0]

theorem qvc9 {x y : PV} {v : Value} {h1 : AHeap} (hv : VRel E h m w x v) (ho : opNil x h = some (y, h1)) : h1 = h ∧ y = x ∧ ((∃ a, v = .pointer (some a)) ∨ ∃ t u, v = .iface t u) := by
  cases hv with
  | d x v hd => cases hd <;> simp [opNil] at ho <;> obtain ⟨rfl, rfl⟩ := ho <;> simp
  | bx cs ad f hE hr => simp [opNil] at ho; obtain ⟨rfl, rfl⟩ := ho; simp
  | ptr id ver idx off v hp =>
    simp [opNil] at ho; obtain ⟨rfl, rfl⟩ := ho
    obtain ⟨⟨a, rfl⟩, _⟩ := hp
    simp
  | ifc t x v hx => simp [opNil] at ho; obtain ⟨rfl, rfl⟩ := ho; simp
  | _ => simp [opNil] at ho

theorem qyn9 {x : PV} {v : Value} {n : Nat} (hv : VRel E h m w x v) (hl : lenP x = some n) : ∃ A c, v = .slice A n c := by
  cases hv with
  | d x v hd =>
    cases hd with
    | rd xs A c sz f hc hsz hA hE hr => simp only [lenP, Option.some.injEq] at hl; subst hl; exact ⟨A, c, rfl⟩
    | _ => simp [lenP] at hl
  | im t xs A c sz f hc ht hsz hA hE hr => simp only [lenP, Option.some.injEq] at hl; subst hl; exact ⟨A, c, rfl⟩
  | ref id ver off len v hs => simp only [lenP, Option.some.injEq] at hl; subst hl; obtain ⟨A, c, rfl, _⟩ := hs; exact ⟨A, c, rfl⟩
  | _ => simp [lenP] at hl

theorem qlw9 {t : TypeId} {x i y : PV} {v vi : Value} {h1 : AHeap} (hv : VRel E h m w x v) (hi : VRel E h m w i vi) (ho : qfw9 P h t x i = some (y, h1)) : h1 = h ∧ ∃ u, (Instr.indexAt t v vi).run P w = .ok u w ∧ VRel E h m w y u := by
  unfold qfw9 at ho
  cases hn : qbQ9 i with
  | none => simp [hn] at ho
  | some n =>
    obtain ⟨k, rfl⟩ := hi.as_int hn
    simp only [hn] at ho
    cases hu : P.underlying t with
    | none => simp [hu] at ho
    | some d =>
      cases d with
      | slice e =>
        simp only [hu] at ho
        cases hsz : sizeT P e with
        | none => simp [hsz] at ho
        | some sz =>
          cases hlen : lenP x with
          | none => simp [hsz, hlen] at ho
          | some l =>
            simp only [hsz, hlen] at ho
            split at ho
            · rename_i hb
              obtain ⟨b1, b2, b3⟩ := hb
              obtain ⟨ii, hi1, hi2⟩ := qdo9 hsz
              cases hel : qhu9 x n.toNat with
              | none => simp [hel] at ho
              | some z =>
                simp only [hel] at ho
                split at ho
                · rename_i hok
                  simp only [Option.some.injEq, Prod.mk.injEq] at ho
                  obtain ⟨rfl, rfl⟩ := ho
                  refine ⟨rfl, ?_⟩
                  have hrun : ∀ (ad : Addr) (c : Nat), (Instr.indexAt t (.slice (some ad) l c) (.int k n)).run P w = .ok (.pointer (some (ad.add (n.toNat * sz)))) w := by
                    intro ad c
                    have b2' : n < (l : Int) := b2
                    simp [Instr.indexAt, asIntOf, run_underlying hu, qbs9 hi1, hi2, b1, b2']
                  cases hv with
                  | d x v hd =>
                    cases hd with
                    | rd xs A c sz' f hc hsz' hA hE hr =>
                      simp only [lenP, Option.some.injEq] at hlen
                      subst hlen
                      simp only [qhu9] at hel
                      cases hx : xs[n.toNat]? with
                      | none => simp [hx] at hel
                      | some cs =>
                        simp only [hx, Option.map_some, Option.some.injEq] at hel
                        subst hel
                        have hcs : cs.length = sz := by simpa [qgy9] using hok
                        have hs1 := hsz' _ _ hx
                        obtain ⟨ad, rfl⟩ := hA _ _ hx
                        refine ⟨_, hrun ad c, .d _ _ (.bx cs _ (f n.toNat) (fun j u hu => ?_) (fun j u hu => ?_))⟩
                        · obtain ⟨a1, a2, a3⟩ := hE n.toNat j cs u ad hx hu rfl
                          exact ⟨by rw [qcH9]; exact a1, by rw [qgd9, ← hcs, hs1]; exact a2, a3⟩
                        · exact hr n.toNat j cs u hx hu
                    | _ => simp [lenP] at hlen
                  | im tt xs A c sz' f hc ht hsz' hA hE hr =>
                    simp only [lenP, Option.some.injEq] at hlen
                    subst hlen
                    simp only [qhu9] at hel
                    cases hx : xs[n.toNat]? with
                    | none => simp [hx] at hel
                    | some cs =>
                      simp only [hx, Option.map_some, Option.some.injEq] at hel
                      subst hel
                      have hcs : cs.length = sz := by simpa [qgy9] using hok
                      have hs1 := hsz' _ _ hx
                      obtain ⟨ad, rfl⟩ := hA _ _ hx
                      refine ⟨_, hrun ad c, .bx cs _ (f n.toNat) (fun j u hu => ?_) (fun j u hu => ?_)⟩
                      · obtain ⟨a1, a2, a3⟩ := hE n.toNat j cs u ad hx hu rfl
                        exact ⟨by rw [qcH9]; exact a1, by rw [qgd9, ← hcs, hs1]; exact a2, a3⟩
                      · exact hr n.toNat j cs u hx hu
                  | ref id ver off len v hs =>
                    simp only [lenP, Option.some.injEq] at hlen
                    subst hlen
                    simp only [qhu9] at hel
                    split at hel
                    · simp only [Option.some.injEq] at hel
                      subst hel
                      obtain ⟨A, c, rfl, hlc, hA, fz, ver', sz', es, hob, hle, hcur⟩ := hs
                      have hsz2 : sz' = sz := by simpa [qgy9, hob] using hok
                      subst hsz2
                      have hlt : n.toNat < len := by assumption
                      obtain ⟨ad, rfl⟩ := hA (by omega)
                      refine ⟨_, hrun ad c, .ptr _ _ _ _ _ ⟨⟨_, rfl⟩, fz, ver', sz', es, hob, hle, fun e => ?_⟩⟩
                      obtain ⟨c1, c2⟩ := hcur e
                      refine ⟨by omega, ?_⟩
                      cases hm : m id with
                      | none =>
                        rw [hm] at c2
                        have c2 : c = 0 := c2
                        omega
                      | some p =>
                        obtain ⟨g, bo⟩ := p
                        rw [hm] at c2
                        obtain ⟨cur, e, d1, d2, d3⟩ := c2
                        have d2 := d2 (by omega)
                        injection d2 with d2
                        subst d2
                        simp only
                        rw [qfi9, ← Nat.add_mul, Nat.add_zero, Nat.add_assoc]
                    · cases hel
                  | _ => simp [lenP] at hlen
                · cases ho
            · cases ho
      | array len e =>
        simp only [hu] at ho
        cases hsz : sizeT P e with
        | none => simp [hsz] at ho
        | some sz =>
          simp only [hsz] at ho
          split at ho
          · rename_i hb
            obtain ⟨b1, b2, b3⟩ := hb
            obtain ⟨ii, hi1, hi2⟩ := qdo9 hsz
            cases hs : qdX9 x (n.toNat * sz) with
            | none => simp [hs] at ho
            | some z =>
              simp only [hs, Option.map_some, Option.some.injEq, Prod.mk.injEq] at ho
              obtain ⟨rfl, rfl⟩ := ho
              obtain ⟨ad, rfl, hr⟩ := qnt9 hv hs
              refine ⟨rfl, _, ?_, hr⟩
              simp [Instr.indexAt, asIntOf, run_underlying hu, Instr.sureAddr, qbs9 hi1, hi2, b1, b2]
          · cases ho
      | _ => simp [hu] at ho
end
end Go.Abs

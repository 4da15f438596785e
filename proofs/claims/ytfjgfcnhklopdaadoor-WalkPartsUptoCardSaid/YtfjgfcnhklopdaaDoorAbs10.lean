import Derived.Test.YtfjgfcnhklopdaaDoorAbs9
set_option maxHeartbeats 400000
set_option linter.unusedVariables false
set_option linter.unusedSimpArgs false
namespace Go.Abs
open Go Go.RowKit

section
variable {W0 : World} {E : Nat → Prop} {X : Nat → Prop} {h h' : AHeap} {m : Places} {w w' : World} {P : Program}

theorem HRel.new_not_ex (H : HRel W0 X h m w) : ¬ Ex X h m w.heap.size := by
  rintro (hx | ⟨id, o, bo, ho, _, hm⟩)
  · exact absurd (H.xlt _ hx) (by omega)
  · exact absurd (H.lt id o _ bo ho hm) (by omega)

theorem Out.same (H : HRel W0 X h m w) {y : PV} {v : Value} (hv : VRel (Ex X h m) h m w y v) : Out W0 X h m w y h v w := ⟨m, hv, H, Evo.refl _ _ _ _⟩

theorem qrH9 (H : HRel W0 X h m w) {cs : List PV} {vs : Array Value} {e : TypeId} {n : Nat} (hn : 0 < n) (hcs : cs.length = n) (hc : CRel (Ex X h m) h m w cs vs.toList) :
    Out W0 X h m w (.ptr h.length 0 0 0) (qgl9 h [cs] n) (.pointer (some ⟨w.heap.size, 0, none⟩)) { w with heap := w.heap.push (.cells vs e) } := by
  have hc' : CRel (Ex X h m) h m w [cs].flatten vs.toList := by simpa using hc
  have hh := qku9 (w' := { w with heap := w.heap.push (.cells vs e) }) (rest := []) (e := e) (es := [cs]) (sz := n) H (by simp) rfl rfl (Outs.push rfl (by rintro _ _ _ ⟨⟩; rfl) rfl) hn (fun i c hi => by
    cases i with
    | zero => simp at hi; subst hi; exact hcs
    | succ i => simp at hi) hc'
  refine ⟨_, ?_, hh.2, hh.1⟩
  refine .ptr _ _ _ _ _ ⟨⟨_, rfl⟩, false, 0, n, [cs], by simp [qgl9], Nat.le_refl _, fun _ => ⟨by simp, ?_⟩⟩
  simp

theorem qqR9 (H : HRel W0 X h m w) {e : TypeId} {y : PV} {h1 : AHeap} (ho : qky9 P h e = some (y, h1)) : ∃ v w', (Instr.alloc e true (.tuple #[])).run P w = .ok v w' ∧ Out W0 X h m w y h1 v w' := by
  unfold qky9 at ho
  cases hz : zeroCells P e with
  | none => simp [hz] at ho
  | some cs =>
    obtain ⟨i, z, hi, hzz, hs1, hs2, hs3, hs4⟩ := qev9 (E := Ex X h m) (h := h) (m := m) (w := w) hz
    simp only [hz, sizeT, hi, Option.map_some] at ho
    split at ho
    · rename_i hn
      simp only [Option.some.injEq, Prod.mk.injEq] at ho
      obtain ⟨rfl, rfl⟩ := ho
      refine ⟨_, _, ?_, qrH9 (vs := z.cells) (e := e) H hn hs2 ⟨by simp [hs1, hs2], fun j u y a b => hs4 j u y a (by simpa using b)⟩⟩
      simp [Instr.alloc, zeroValue, typeInfo, hi, hzz, newVar, newRow]
    · cases ho

theorem qtI9 (H : HRel W0 X h m w) {e : TypeId} {x y : PV} {v : Value} {h1 : AHeap} (hv : VRel (Ex X h m) h m w x v) (ho : opBox h x = some (y, h1)) : ∃ u w', (Instr.box e v).run P w = .ok u w' ∧ Out W0 X h m w y h1 u w' := by
  unfold opBox at ho
  split at ho
  · rename_i hn
    simp only [Option.some.injEq, Prod.mk.injEq] at ho
    obtain ⟨rfl, rfl⟩ := ho
    refine ⟨_, _, ?_, qrH9 (vs := v.cells) (e := e) H hn.2 rfl (CRel.of_cells hv hn.1)⟩
    simp [Instr.box, newVar, newRow]
  · cases ho

theorem qnK9 (H : HRel W0 X h m w) {t : TypeId} {r : Option PV} {rv : Option Value} {y : PV} {h1 : AHeap} (hr : r.isSome = rv.isSome) (hv : ∀ x v, r = some x → rv = some v → VRel (Ex X h m) h m w x v) (ho : qhk9 P h t r = some (y, h1)) :
    ∃ u w', (Instr.makeMap t rv).run P w = .ok u w' ∧ Out W0 X h m w y h1 u w' := by
  have key : Out W0 X h m w (.mp h.length) (h ++ [.map []]) (.map (some w.heap.size)) { w with heap := w.heap.push (.map #[] 0) } := by
    have hh := qhV9 (w' := { w with heap := w.heap.push (.map #[] 0) }) H (.map []) (some (w.heap.size, 0)) rfl rfl (Outs.push rfl (by rintro _ _ _ ⟨⟩) rfl) (by simp) (fun b hb => by simp [Array.getElem?_push, hb]; omega) (fun g bo hp => by cases hp; simp) (fun _ => ⟨#[], 0, by simp, rfl, fun i k u x hi => by simp at hi⟩)
    exact ⟨_, .mp _ [] _ 0 (by simp) (by simp), hh.2, hh.1⟩
  unfold qhk9 at ho
  cases hu : P.underlying t with
  | none => simp [hu] at ho
  | some d =>
    cases d with
    | map kt et =>
      simp only [hu] at ho
      cases r with
      | none =>
        simp only [Option.some.injEq, Prod.mk.injEq] at ho
        obtain ⟨rfl, rfl⟩ := ho
        cases rv with
        | some v => simp at hr
        | none => exact ⟨_, _, by simp [Instr.makeMap], key⟩
      | some x =>
        cases rv with
        | none => simp at hr
        | some v =>
          have hxv := hv x v rfl rfl
          split at ho
          · rename_i heq; cases heq
          · rename_i k n heq
            simp only [Option.some.injEq] at heq
            subst heq
            simp only [Option.some.injEq, Prod.mk.injEq] at ho
            obtain ⟨rfl, rfl⟩ := ho
            obtain rfl := hxv.to_v rfl
            exact ⟨_, _, by simp [Instr.makeMap, run_underlying hu, asInt, asIntOf], key⟩
          · cases ho
    | _ => simp [hu] at ho

theorem qqy9 {n : Nat} : ∀ {ps : List (Nat × PV)} {k : Nat} {es : List (List PV)}, qde9 n k ps = some es → es.length = ps.length ∧ (∀ (i : Nat) (cs : List PV), es[i]? = some cs → cs.length = n) ∧
    ∀ (pre post : List PV), pre.length = k * n → post.length = es.length * n → qgo9 n (pre ++ post) ps = some (pre ++ es.flatten) := by
  intro ps
  induction ps with
  | nil =>
    intro k es hb
    simp only [qde9, Option.some.injEq] at hb
    subst hb
    refine ⟨rfl, fun i cs hi => by simp at hi, fun pre post h1 h2 => ?_⟩
    obtain rfl : post = [] := List.eq_nil_of_length_eq_zero (by simpa using h2)
    simp [qgo9]
  | cons p r ih =>
    intro k es hb
    obtain ⟨i, x⟩ := p
    simp only [qde9] at hb
    split at hb
    · rename_i hc
      obtain ⟨rfl, c2, c3⟩ := hc
      cases hr : qde9 n (i + 1) r with
      | none => simp [hr] at hb
      | some es' =>
        simp only [hr, Option.map_some, Option.some.injEq] at hb
        subst hb
        obtain ⟨i1, i2, i3⟩ := ih hr
        refine ⟨by simp [i1], fun j cs hj => ?_, fun pre post h1 h2 => ?_⟩
        · cases j with
          | zero => simp at hj; subst hj; exact c3
          | succ j => exact i2 j cs (by simpa using hj)
        · have hpl : post.length = n + es'.length * n := by rw [h2, List.length_cons, Nat.succ_mul, Nat.add_comm]
          simp only [qgo9]
          rw [if_pos ⟨c2, c3, by rw [List.length_append, h1, hpl]; omega⟩]
          have hs : splice (pre ++ post) (i * n) (qY9 x) = (pre ++ qY9 x) ++ post.drop n := by
            unfold splice
            rw [← h1, c3, List.take_left, List.drop_append]
            simp
          rw [hs, i3 (pre ++ qY9 x) (post.drop n) (by rw [List.length_append, h1, c3, Nat.succ_mul]) (by rw [List.length_drop, hpl]; omega)]
          simp
    · cases hb

theorem qyy9 (H : HRel W0 X h m w) {news : List Value} {e : TypeId} {es : List (List PV)} {sz : Nat} (tight : Bool) (hsz : ∀ (i : Nat) (cs : List PV), es[i]? = some cs → cs.length = sz) (hc : CRel (Ex X h m) h m w es.flatten news) :
    Out W0 X h m w (.im tight es) h (.slice (some ⟨w.heap.size, 0, none⟩) es.length es.length) { w with heap := w.heap.push (.cells news.toArray e) } := by
  have hb : ∀ b, b < w.heap.size → (w.heap.push (.cells news.toArray e))[b]? = w.heap[b]? := fun b hb => by
    rw [Array.getElem?_push_lt hb]; exact (Array.getElem?_eq_getElem hb).symm
  have hev : Evo (Ex X h m) h m w (Ex X h m) h m { w with heap := w.heap.push (.cells news.toArray e) } := Evo.grow H rfl rfl (Outs.push rfl (by rintro _ _ _ ⟨⟩; rfl) rfl) (by simp) hb
  refine ⟨m, ?_, HRel.grow H rfl rfl (Outs.push rfl (by rintro _ _ _ ⟨⟩; rfl) rfl) (by simp) hb, hev⟩
  have key : ∀ (i j : Nat) (cs : List PV) (u : PV), es[i]? = some cs → cs[j]? = some u → ∃ y, news[i * sz + j]? = some y ∧ y.oneCell' = true ∧ VRel (Ex X h m) h m w u y := by
    intro i j cs u hi hj
    have hjl : j < sz := by rw [← hsz i cs hi]; exact (List.getElem?_eq_some_iff.1 hj).1
    have hfl := qfS9 hsz i j hjl
    rw [hi, Option.bind_some, hj] at hfl
    have hlt : i * sz + j < news.length := by rw [hc.1]; exact (List.getElem?_eq_some_iff.1 hfl).1
    have hn := List.getElem?_eq_getElem hlt
    obtain ⟨c1, c2⟩ := hc.2 _ _ _ hfl hn
    exact ⟨_, hn, c1, c2⟩
  refine .im tight es _ _ sz (fun i j => (news[i * sz + j]?).getD (.bool true)) (Nat.le_refl _) (fun _ => rfl) hsz (fun i cs _ => ⟨_, rfl⟩) (fun i j cs u ad hi hj ha => ?_) (fun i j cs u hi hj => ?_)
  · obtain ⟨y, k1, k2, k3⟩ := key i j cs u hi hj
    simp only [Option.some.injEq] at ha
    subst ha
    refine ⟨H.new_not_ex, ?_, ?_⟩
    · rw [qfi9]
      simp [World.cell?, k1]
    · simp [k1, k2]
  · obtain ⟨y, k1, k2, k3⟩ := key i j cs u hi hj
    simp only [k1, Option.getD_some]
    exact k3.evo hev

theorem qlj9 (H : HRel W0 X h m w) {t : TypeId} {len : Nat} {ps : List (Nat × PV)} {qs : Array (Nat × Value)} {y : PV} {h1 : AHeap} (hp : PRelL (Ex X h m) h m w ps qs.toList) (ho : qcX9 P h t len ps = some (y, h1)) :
    ∃ u w', (Instr.buildSlice t len qs).run P w = .ok u w' ∧ Out W0 X h m w y h1 u w' := by
  unfold qcX9 at ho
  cases ht : qK9 P t with
  | none => simp [ht] at ho
  | some e =>
    have hu := qbS9 ht
    cases hz : zeroCells P e with
    | none => simp [ht, hz] at ho
    | some zs =>
      obtain ⟨i, z, hi, hzz, hs1, hs2, hs3, hs4⟩ := qev9 (E := Ex X h m) (h := h) (m := m) (w := w) hz
      simp only [ht, hz, sizeT, hi, Option.map_some] at ho
      split at ho
      · rename_i hc
        obtain ⟨c1, c2, c3⟩ := hc
        cases hb : qde9 i.size 0 ps with
        | none => simp [hb] at ho
        | some es =>
          simp only [hb, Option.map_some, Option.some.injEq, Prod.mk.injEq] at ho
          obtain ⟨rfl, rfl⟩ := ho
          obtain ⟨b1, b2, b3⟩ := qqy9 hb
          have hlen : es.length = len := by omega
          let zz : Array Value := if len * i.size = 0 then #[] else z.cells
          let zeros : Array Value := (Array.range (len * i.size)).map (zz[· % zz.size]!)
          have hzl : zeros.size = len * i.size := by simp [zeros]
          have hz1 : ∀ v ∈ zeros.toList, v.oneCell' = true := by
            intro v hv
            simp only [zeros, Array.toList_map, List.mem_map] at hv
            obtain ⟨k, hk, rfl⟩ := hv
            have hk' : k < len * i.size := by simpa using hk
            have hne : len * i.size ≠ 0 := by omega
            simp only [zz, if_neg hne]
            have hlt : k % z.cells.size < z.cells.size := Nat.mod_lt _ (by omega)
            rw [getElem!_pos z.cells _ hlt]
            exact hs3 _ (by simp)
          have h0 := b3 [] (List.replicate (es.length * i.size) .junk) (by simp) (by simp)
          simp only [List.nil_append] at h0
          obtain ⟨vs', f1, f2⟩ := qlW9 (E := Ex X h m) (h := h) (m := m) (w := w) (vs := zeros) hp ⟨by simp [hzl, hlen], fun j u y a b => by
            have := List.getElem?_eq_some_iff.1 a
            obtain ⟨_, rfl⟩ := this
            exact ⟨hz1 y (List.mem_of_getElem? b), by simp; exact .junk y⟩⟩ h0
          have ho := qyy9 (e := e) H true b2 f2
          refine ⟨_, _, ?_, ho⟩
          have hnl : ¬ (16777216 < len * i.size) := by omega
          have hzv : (zeroValue e).run P w = .ok z w := by simp [zeroValue, typeInfo, hi, hzz]
          simp only [zeros] at f1
          by_cases h0 : len * i.size = 0
          · simp only [zz, if_pos h0] at f1
            simp [Instr.buildSlice, run_underlying hu, qbs9 hi, hnl, h0, newRow, hlen] at f1 ⊢
            simp [f1]
          · simp only [zz, if_neg h0] at f1
            simp only [Instr.buildSlice, Sem.run_bind, run_underlying hu, Result.andThen_ok, qbs9 hi, if_neg h0, if_neg hnl]
            simp [hzv, f1, newRow, hlen, hnl]
      · cases ho
end
end Go.Abs

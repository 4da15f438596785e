import Derived.Test.YtfjgfcnhklopdaaDoorAbs8
set_option maxHeartbeats 400000
set_option linter.unusedVariables false
set_option linter.unusedSimpArgs false
namespace Go.Abs
open Go Go.RowKit

section
variable {W0 : World} {E : Nat → Prop} {X : Nat → Prop} {h h' : AHeap} {m : Places} {w w' : World} {P : Program}

theorem qeo9 {α : Type} {sz : Nat} : ∀ {xs : List (List α)}, (∀ (i : Nat) (cs : List α), xs[i]? = some cs → cs.length = sz) → xs.flatten.length = xs.length * sz := by
  intro xs
  induction xs with
  | nil => intro _; simp
  | cons a r ih =>
    intro hh
    rw [List.flatten_cons, List.length_append, ih (fun i cs hi => hh (i + 1) cs (by simpa using hi)), hh 0 a rfl, List.length_cons, Nat.succ_mul, Nat.add_comm]
theorem qfS9 {α : Type} {sz : Nat} : ∀ {xs : List (List α)}, (∀ (i : Nat) (cs : List α), xs[i]? = some cs → cs.length = sz) → ∀ (i j : Nat), j < sz → xs.flatten[i * sz + j]? = (xs[i]?).bind (·[j]?) := by
  intro xs
  induction xs with
  | nil => intro _ i j _; simp
  | cons a r ih =>
    intro hh i j hj
    have ha := hh 0 a rfl
    cases i with
    | zero => rw [List.flatten_cons, List.getElem?_append_left (by omega)]; simp
    | succ i =>
      rw [List.flatten_cons, List.getElem?_append_right (by rw [ha, Nat.succ_mul]; omega)]
      have e : (i + 1) * sz + j - a.length = i * sz + j := by rw [ha, Nat.succ_mul]; omega
      rw [e, ih (fun i cs hi => hh (i + 1) cs (by simpa using hi)) i j hj]
      simp

theorem qpX9 {ys : List (List PV)} {sz : Nat} {A : Option Addr} (hsz : ∀ (i : Nat) (cs : List PV), ys[i]? = some cs → cs.length = sz) (f : Nat → Nat → Value)
    (hf : ∀ (i j : Nat) (cs : List PV) (u : PV), ys[i]? = some cs → cs[j]? = some u → (∃ a, A = some a ∧ w.cell? (a.add (i * sz + j)) = some (f i j)) ∧ (f i j).oneCell' = true ∧ VRel E h m w u (f i j)) :
    ∃ news, CRel E h m w ys.flatten news ∧ ∀ (j : Nat) (u : Value), news[j]? = some u → ∃ a, A = some a ∧ w.cell? (a.add j) = some u := by
  have key : ∀ (k : Nat) (u : PV), ys.flatten[k]? = some u → (∃ a, A = some a ∧ w.cell? (a.add k) = some (f (k / sz) (k % sz))) ∧ (f (k / sz) (k % sz)).oneCell' = true ∧ VRel E h m w u (f (k / sz) (k % sz)) := by
    intro k u hk
    have hlt : k < ys.length * sz := by rw [← qeo9 hsz]; exact (List.getElem?_eq_some_iff.1 hk).1
    have h0 : 0 < sz := by
      rcases Nat.eq_zero_or_pos sz with e | e
      · rw [e] at hlt; omega
      · exact e
    have hm := Nat.mod_lt k h0
    have hd : k / sz * sz + k % sz = k := by rw [Nat.mul_comm]; exact Nat.div_add_mod k sz
    have hg := qfS9 hsz (k / sz) (k % sz) hm
    rw [hd, hk] at hg
    cases hy : ys[k / sz]? with
    | none => simp [hy] at hg
    | some cs =>
      simp only [hy, Option.bind_some] at hg
      have := hf (k / sz) (k % sz) cs u hy hg.symm
      rw [hd] at this
      exact this
  refine ⟨(List.range ys.flatten.length).map (fun k => f (k / sz) (k % sz)), ⟨by simp, fun j u y h1 h2 => ?_⟩, fun j u h2 => ?_⟩
  · have hlt := (List.getElem?_eq_some_iff.1 h1).1
    rw [List.getElem?_map, List.getElem?_range hlt] at h2
    simp only [Option.map_some, Option.some.injEq] at h2
    subst h2
    exact (key j u h1).2
  · have hlt : j < ys.flatten.length := by have := (List.getElem?_eq_some_iff.1 h2).1; simpa using this
    rw [List.getElem?_map, List.getElem?_range hlt] at h2
    simp only [Option.map_some, Option.some.injEq] at h2
    subst h2
    exact (key j _ (List.getElem?_eq_getElem hlt)).1

def RowAt (E : Nat → Prop) (h : AHeap) (m : Places) (w : World) (ys : List (List PV)) (A : Option Addr) (news : List Value) : Prop :=
  CRel E h m w ys.flatten news ∧ ∀ (j : Nat) (u : Value), news[j]? = some u → ∃ a, A = some a ∧ w.cell? (a.add j) = some u

theorem qix9 (H : HRel W0 X h m w) {x : PV} {v : Value} {ys : List (List PV)} {sz : Nat} (hv : VRel (Ex X h m) h m w x v) (he : elems h x = some ys) (hsz : ∀ (i : Nat) (cs : List PV), ys[i]? = some cs → cs.length = sz) :
    ∃ A c news, v = .slice A ys.length c ∧ ys.length ≤ c ∧ RowAt (Ex X h m) h m w ys A news := by
  cases hv with
  | d x v hd =>
    cases hd with
    | rd xs A c sz' f hc hsz' hA hE hr =>
      simp only [elems, Option.some.injEq] at he
      subst he
      obtain ⟨news, h1, h2⟩ := qpX9 (E := Ex X h m) (h := h) (m := m) (w := w) (A := A) hsz f (fun i j cs u hi hj => by
        rw [List.getElem?_map] at hi
        cases hxi : xs[i]? with
        | none => simp [hxi] at hi
        | some ds =>
          simp only [hxi, Option.map_some, Option.some.injEq] at hi
          subst hi
          rw [List.getElem?_map] at hj
          cases hdj : ds[j]? with
          | none => simp [hdj] at hj
          | some d =>
            simp only [hdj, Option.map_some, Option.some.injEq] at hj
            subst hj
            obtain ⟨a, ha⟩ := hA i ds hxi
            obtain ⟨_, b1, b2⟩ := hE i j ds d a hxi hdj ha
            have e : sz' = sz := by rw [← hsz' i ds hxi, ← hsz i (ds.map PV.d) (by rw [List.getElem?_map, hxi]; rfl)]; simp
            subst e
            exact ⟨⟨a, ha, b1⟩, b2, .d _ _ (hr i j ds d hxi hdj)⟩)
      exact ⟨A, c, news, by simp, by simpa using hc, h1, h2⟩
    | _ => simp [elems] at he
  | im tight es A c sz' f hc ht hsz' hA hE hr =>
    simp only [elems, Option.some.injEq] at he
    subst he
    obtain ⟨news, h1, h2⟩ := qpX9 (E := Ex X h m) (h := h) (m := m) (w := w) (A := A) hsz f (fun i j cs u hi hj => by
      obtain ⟨a, ha⟩ := hA i cs hi
      obtain ⟨_, b1, b2⟩ := hE i j cs u a hi hj ha
      have e : sz' = sz := by rw [← hsz' i cs hi, ← hsz i cs hi]
      subst e
      exact ⟨⟨a, ha, b1⟩, b2, hr i j cs u hi hj⟩)
    exact ⟨A, c, news, rfl, hc, h1, h2⟩
  | ref id ver off len v hs =>
    simp only [elems] at he
    cases hrow : rowAt h id ver with
    | none => simp [hrow] at he
    | some p =>
      simp only [hrow, Option.map_some, Option.some.injEq] at he
      obtain ⟨fz, sz', es⟩ := p
      have ho := qhG9 hrow
      simp only at ho he
      obtain ⟨A, cap, hv0, hv1, hv2, fz1, ver1, sz1, es1, ho1, hle, hcur⟩ := hs
      rw [ho] at ho1
      simp only [Option.some.injEq, AObj.row.injEq] at ho1
      obtain ⟨rfl, rfl, rfl, rfl⟩ := ho1
      obtain ⟨c1, c2⟩ := hcur rfl
      have hlen : ys.length = len := by rw [← he]; simp; omega
      have hor := H.obj id _ ho
      have hyi : ∀ (i : Nat) (cs : List PV), ys[i]? = some cs → i < len ∧ es[off + i]? = some cs := by
        intro i cs hi
        rw [← he, List.getElem?_take] at hi
        split at hi
        · rename_i hlt; exact ⟨hlt, by simpa [List.getElem?_drop] using hi⟩
        · cases hi
      cases hm : m id with
      | none =>
        rw [hm] at hor
        have hes : es = [] := hor
        subst hes
        have : len = 0 := by simp at c1; omega
        subst this
        have hys : ys = [] := List.eq_nil_of_length_eq_zero hlen
        subst hys
        exact ⟨A, cap, [], by simpa using hv0, by simp, ⟨by simp, fun j u y h1 => by simp at h1⟩, fun j u hu => by simp at hu⟩
      | some p =>
        obtain ⟨g, bo⟩ := p
        rw [hm] at hor c2
        obtain ⟨s0, cur, e, r1, r2, r3, r4⟩ := hor
        obtain ⟨cur', e', d1, d2, d3⟩ := c2
        rw [r1] at d1
        simp only [Option.some.injEq, Obj.cells.injEq] at d1
        obtain ⟨rfl, rfl, _⟩ := d1
        have e : ys ≠ [] → sz' = sz := by
          intro hne
          cases hy0 : ys[0]? with
          | none => simp at hy0; exact absurd hy0 hne
          | some cs0 => rw [← r3 _ cs0 (hyi 0 cs0 hy0).2, ← hsz 0 cs0 hy0]
        obtain ⟨news, h1, h2⟩ := qpX9 (E := Ex X h m) (h := h) (m := m) (w := w) (A := A) hsz (fun i j => (cur[(bo + off + i) * sz + j]?).getD (.bool true)) (fun i j cs u hi hj => by
          obtain ⟨i1, i2⟩ := hyi i cs hi
          obtain ⟨y, y1, y2, y3⟩ := r4 (off + i) j cs u i2 hj
          have e0 := e (by intro h0; subst h0; simp at hi)
          subst e0
          have hA := d2 (by omega)
          have e1 : (bo + (off + i)) * sz' + j = (bo + off + i) * sz' + j := by rw [Nat.add_assoc bo off i]
          rw [e1] at y1
          rw [y1]
          refine ⟨⟨_, hA, ?_⟩, y2, y3⟩
          have e2 : (bo + off) * sz' + (i * sz' + j) = (bo + off + i) * sz' + j := by rw [Nat.add_mul (bo + off) i]; omega
          rw [qfi9, e2]
          simp [World.cell?, r1, y1])
        exact ⟨A, cap, news, by rw [hlen]; exact hv0, by omega, h1, h2⟩
  | _ => simp [elems] at he

theorem qku9 (H : HRel W0 X h m w) {news rest : List Value} {e : TypeId} {es : List (List PV)} {sz : Nat} (hheap : w'.heap = w.heap.push (.cells (news ++ rest).toArray e (0, 0))) (hos : w'.os = w.os) (htape : w'.tape = w.tape) (hout : Outs w w')
    (h0 : 0 < sz) (hsz : ∀ (i : Nat) (cs : List PV), es[i]? = some cs → cs.length = sz) (hc : CRel (Ex X h m) h m w es.flatten news) :
    let h' := h ++ [AObj.row false 0 sz es]; let m' := upd m h.length (some (w.heap.size, 0))
    Evo (Ex X h m) h m w (Ex X h' m') h' m' w' ∧ HRel W0 X h' m' w' := by
  intro h' m'
  have hsize : w'.heap.size = w.heap.size + 1 := by rw [hheap]; simp
  have hnew : w'.heap[w.heap.size]? = some (.cells (news ++ rest).toArray e (0, 0)) := by rw [hheap]; simp
  refine qhV9 H _ _ hos htape hout (by omega) (fun b hb => by rw [hheap, Array.getElem?_push_lt hb]; exact (Array.getElem?_eq_getElem hb).symm) (fun g bo hp => by cases hp; omega) (fun hev => ?_)
  have hnl : news.length = es.length * sz := by rw [hc.1, qeo9 hsz]
  refine ⟨h0, _, e, hnew, by simp; omega, hsz, fun i j cs u hi hj => ?_⟩
  have hjl : j < sz := by rw [← hsz i cs hi]; exact (List.getElem?_eq_some_iff.1 hj).1
  have hfl := qfS9 hsz i j hjl
  rw [hi, Option.bind_some, hj] at hfl
  have hlt : i * sz + j < news.length := by rw [hc.1]; exact (List.getElem?_eq_some_iff.1 hfl).1
  have hn := List.getElem?_eq_getElem hlt
  obtain ⟨c1, c2⟩ := hc.2 _ _ _ hfl hn
  refine ⟨news[i * sz + j], ?_, c1, c2.evo hev⟩
  simp only [Nat.zero_add, List.getElem?_toArray]
  rw [List.getElem?_append_left hlt, hn]
end
end Go.Abs

import Derived.Test.YtfjgfcnhklopdaaDoorAbs7
set_option maxHeartbeats 400000
set_option linter.unusedVariables false
set_option linter.unusedSimpArgs false
namespace Go.Abs
open Go Go.RowKit

section
variable {W0 : World} {E : Nat → Prop} {X : Nat → Prop} {h h' : AHeap} {m : Places} {w : World} {P : Program}

def CRel (E : Nat → Prop) (h : AHeap) (m : Places) (w : World) (cs : List PV) (vs : List Value) : Prop :=
  vs.length = cs.length ∧ ∀ (j : Nat) (u : PV) (y : Value), cs[j]? = some u → vs[j]? = some y → y.oneCell' = true ∧ VRel E h m w u y
theorem CRel.of_cells {x : PV} {v : Value} (hv : VRel E h m w x v) (hok : qdA9 x = true) : CRel E h m w (qY9 x) v.cells.toList := by
  obtain ⟨h1, h2⟩ := hv.cells hok
  exact ⟨by simpa using h1, fun j u y a b => h2 j u y a (by simpa using b)⟩
theorem CRel.one {cs : List PV} {vs : List Value} (hc : CRel E h m w cs vs) : ∀ x ∈ vs, x.oneCell' = true := by
  intro x hx
  obtain ⟨j, hj, rfl⟩ := List.getElem_of_mem hx
  have hlt : j < cs.length := by rw [← hc.1]; exact hj
  exact (hc.2 j cs[j] vs[j] (List.getElem?_eq_getElem hlt) (List.getElem?_eq_getElem hj)).1
theorem CRel.splice {cs ys : List PV} {vs zs : List Value} (hc : CRel E h m w cs vs) (hy : CRel E h m w ys zs) (off : Nat) (hle : off + ys.length ≤ cs.length) :
    CRel E h m w (splice cs off ys) (vs.take off ++ zs ++ vs.drop (off + zs.length)) := by
  obtain ⟨c1, c2⟩ := hc
  obtain ⟨y1, y2⟩ := hy
  unfold Go.Abs.splice
  refine ⟨by simp; omega, fun j u y h1 h2 => ?_⟩
  rw [y1] at h2
  rcases Nat.lt_or_ge j off with a | a
  · rw [List.append_assoc, List.getElem?_append_left (by simp; omega), List.getElem?_take, if_pos a] at h1 h2
    exact c2 j u y h1 h2
  · rcases Nat.lt_or_ge j (off + ys.length) with b | b
    · rw [List.append_assoc, List.getElem?_append_right (by simp; omega), List.getElem?_append_left (by simp; omega)] at h1 h2
      have e1 : (cs.take off).length = off := by simp; omega
      have e2 : (vs.take off).length = off := by simp; omega
      rw [e1] at h1; rw [e2] at h2
      exact y2 _ u y h1 h2
    · rw [List.getElem?_append_right (by simp; omega), List.getElem?_drop] at h1 h2
      have e1 : (cs.take off ++ ys).length = off + ys.length := by simp; omega
      have e2 : (vs.take off ++ zs).length = off + ys.length := by simp; omega
      rw [e1] at h1; rw [e2] at h2
      exact c2 _ u y h1 h2

theorem qwy9 (ys : List Value) : ∀ (vs : Array Value) (off k : Nat), off + k + ys.length ≤ vs.size → ((ys.zipIdx k).foldl (fun cs (p : Value × Nat) => cs.setIfInBounds (off + p.2) p.1) vs).toList = vs.toList.take (off + k) ++ ys ++ vs.toList.drop (off + k + ys.length) := by
  induction ys with
  | nil => intro vs off k _; simp
  | cons y r ih =>
    intro vs off k hle
    simp only [List.length_cons] at hle
    simp only [List.zipIdx_cons, List.foldl_cons]
    rw [ih (vs.setIfInBounds (off + k) y) off (k + 1) (by simp; omega)]
    have := list_seg_step vs.toList (off + k) y r (by simp; omega)
    simpa [Array.toList_setIfInBounds, Nat.add_assoc] using this

theorem qnB9 {place : Nat → Option (Nat × Nat)} {cells : Array Value} {i : Nat} {v : Value} {rest : List (Nat × Value)} {off n : Nat} (hp : place i = some (off, n)) (hn : v.cells.size = n) (hle : off + n ≤ cells.size) :
    Instr.fill place cells ((i, v) :: rest) = Instr.fill place (cells.toList.take off ++ v.cells.toList ++ cells.toList.drop (off + n)).toArray rest := by
  have hf := qwy9 v.cells.toList cells off 0 (by simp; omega)
  have e : (v.cells.zipIdx.foldl (fun cs (p : Value × Nat) => cs.setIfInBounds (off + p.2) p.1) cells) = (cells.toList.take off ++ v.cells.toList ++ cells.toList.drop (off + n)).toArray := by
    apply Array.ext'
    rw [← Array.foldl_toList]
    simp only [Array.toList_zipIdx, Nat.add_zero] at hf ⊢
    rw [hf]
    simp [hn]
  simp only [Instr.fill, hp]
  rw [if_neg (by simp; omega)]
  exact congrArg (fun c => Instr.fill place c rest) e

def PRelL (E : Nat → Prop) (h : AHeap) (m : Places) (w : World) (ps : List (Nat × PV)) (qs : List (Nat × Value)) : Prop :=
  qs.length = ps.length ∧ ∀ (j : Nat) (p : Nat × PV) (q : Nat × Value), ps[j]? = some p → qs[j]? = some q → q.1 = p.1 ∧ VRel E h m w p.2 q.2

theorem qtu9 {fs : Array Field} {place : Nat → Option (Nat × Nat)} (hpl : ∀ (i : Nat) (f : Field) (n : Nat), fs[i]? = some f → sizeT P f.type = some n → place i = some (f.offset, n)) :
    ∀ {ps : List (Nat × PV)} {qs : List (Nat × Value)} {cs cs' : List PV} {vs : Array Value}, PRelL E h m w ps qs → CRel E h m w cs vs.toList → qhd9 fs P cs ps = some cs' → ∃ vs', Instr.fill place vs qs = some vs' ∧ CRel E h m w cs' vs'.toList := by
  intro ps
  induction ps with
  | nil =>
    intro qs cs cs' vs hp hc hb
    simp only [qhd9, Option.some.injEq] at hb
    subst hb
    obtain ⟨h1, _⟩ := hp
    obtain rfl : qs = [] := List.eq_nil_of_length_eq_zero (by simpa using h1)
    exact ⟨vs, rfl, hc⟩
  | cons p r ih =>
    intro qs cs cs' vs hp hc hb
    obtain ⟨h1, h2⟩ := hp
    cases qs with
    | nil => simp at h1
    | cons q qs =>
      obtain ⟨i, x⟩ := p
      obtain ⟨i', v⟩ := q
      obtain ⟨e, hxv⟩ := h2 0 _ _ rfl rfl
      simp only at e hxv
      subst e
      simp only [qhd9] at hb
      cases hf : fs[i']? with
      | none => simp [hf] at hb
      | some f =>
        simp only [hf] at hb
        cases hn : sizeT P f.type with
        | none => simp [hn] at hb
        | some n =>
          simp only [hn] at hb
          split at hb
          · rename_i hc0
            obtain ⟨o1, o2, o3⟩ := hc0
            have hcx := CRel.of_cells hxv o1
            have hvn : v.cells.size = n := by have := hcx.1; simp at this; omega
            have hsz : vs.size = cs.length := by have := hc.1; simpa using this
            have hcc := hc.splice hcx f.offset (by omega)
            rw [qnB9 (hpl i' f n hf hn) hvn (by omega)]
            have hcc' : CRel E h m w (splice cs f.offset (qY9 x)) (vs.toList.take f.offset ++ v.cells.toList ++ vs.toList.drop (f.offset + n)).toArray.toList := by
              have : v.cells.toList.length = n := by simpa using hvn
              rw [this] at hcc
              simpa using hcc
            exact ih ⟨by simpa using h1, fun j p q a b => h2 (j + 1) p q (by simpa using a) (by simpa using b)⟩ hcc' hb
          · cases hb
theorem qlW9 {n : Nat} : ∀ {ps : List (Nat × PV)} {qs : List (Nat × Value)} {cs cs' : List PV} {vs : Array Value}, PRelL E h m w ps qs → CRel E h m w cs vs.toList → qgo9 n cs ps = some cs' → ∃ vs', Instr.fill (fun i => some (i * n, n)) vs qs = some vs' ∧ CRel E h m w cs' vs'.toList := by
  intro ps
  induction ps with
  | nil =>
    intro qs cs cs' vs hp hc hb
    simp only [qgo9, Option.some.injEq] at hb
    subst hb
    obtain ⟨h1, _⟩ := hp
    obtain rfl : qs = [] := List.eq_nil_of_length_eq_zero (by simpa using h1)
    exact ⟨vs, rfl, hc⟩
  | cons p r ih =>
    intro qs cs cs' vs hp hc hb
    obtain ⟨h1, h2⟩ := hp
    cases qs with
    | nil => simp at h1
    | cons q qs =>
      obtain ⟨i, x⟩ := p
      obtain ⟨i', v⟩ := q
      obtain ⟨e, hxv⟩ := h2 0 _ _ rfl rfl
      simp only at e hxv
      subst e
      simp only [qgo9] at hb
      split at hb
      · rename_i hc0
        obtain ⟨o1, o2, o3⟩ := hc0
        have hcx := CRel.of_cells hxv o1
        have hvn : v.cells.size = n := by have := hcx.1; simp at this; omega
        have hsz : vs.size = cs.length := by have := hc.1; simpa using this
        have hcc := hc.splice hcx (i' * n) (by omega)
        rw [qnB9 rfl hvn (by omega)]
        have hcc' : CRel E h m w (splice cs (i' * n) (qY9 x)) (vs.toList.take (i' * n) ++ v.cells.toList ++ vs.toList.drop (i' * n + n)).toArray.toList := by
          have : v.cells.toList.length = n := by simpa using hvn
          rw [this] at hcc
          simpa using hcc
        exact ih ⟨by simpa using h1, fun j p q a b => h2 (j + 1) p q (by simpa using a) (by simpa using b)⟩ hcc' hb
      · cases hb

theorem quX9 {α β : Type} {g : α → Sem β} {k : α → β} : ∀ {l : List α}, (∀ f ∈ l, (g f).run P w = .ok (k f) w) → (l.mapM g).run P w = .ok (l.map k) w := by
  intro l
  induction l with
  | nil => intro _; simp
  | cons a r ih =>
    intro hh
    simp only [List.mapM_cons, Sem.run_bind, hh a (by simp), Result.andThen_ok, ih (fun f hf => hh f (by simp [hf]))]
    simp

theorem qrd9 {t : TypeId} {ps : List (Nat × PV)} {qs : Array (Nat × Value)} {y : PV} {h1 : AHeap} (hp : PRelL E h m w ps qs.toList) (ho : qhS9 P h t ps = some (y, h1)) :
    h1 = h ∧ ∃ u, (Instr.build t qs).run P w = .ok u w ∧ VRel E h m w y u := by
  have fin : ∀ {cs' : List PV} {vs' : Array Value}, CRel E h m w cs' vs'.toList → VRel E h m w (.ag cs') (.agg vs') := by
    intro cs' vs' hc
    have : vs' = vs'.toList.toArray := by simp
    rw [this]
    exact .ag _ _ hc.1 (fun j x hx => hc.one x (List.mem_of_getElem? hx)) (fun j u x a b => (hc.2 j u x a b).2)
  unfold qhS9 at ho
  cases hz : zeroCells P t with
  | none => simp [hz] at ho
  | some cs =>
    obtain ⟨i, z, hi, hzz, hs1, hs2, hs3, hs4⟩ := qev9 (E := E) (h := h) (m := m) (w := w) hz
    have hzr : (zeroValue t).run P w = .ok z w := by simp [zeroValue, typeInfo, hi, hzz]
    have hc0 : CRel E h m w cs z.cells.toList := ⟨by simp [hs1, hs2], fun j u y a b => hs4 j u y a (by simpa using b)⟩
    cases hu : P.underlying t with
    | none => simp [hz, hu] at ho
    | some d =>
      cases d with
      | struct fs =>
        simp only [hz, hu] at ho
        split at ho
        · rename_i hall
          cases hb : qhd9 fs P cs ps with
          | none => simp [hb] at ho
          | some cs' =>
            simp only [hb, Option.map_some, Option.some.injEq, Prod.mk.injEq] at ho
            obtain ⟨rfl, rfl⟩ := ho
            let k : Field → Nat × Nat := fun f => (f.offset, ((P.info? f.type).map (·.size)).getD 0)
            have hm : ((fs.mapM (fun f => Prod.mk f.offset <$> sizeOf f.type)) : Sem (Array (Nat × Nat))).run P w = .ok (fs.map k) w := by
              have h2 := quX9 (P := P) (w := w) (g := fun f : Field => (Prod.mk f.offset <$> sizeOf f.type : Sem (Nat × Nat))) (k := k) (l := fs.toList) (fun f hf => by
                have := List.all_eq_true.1 hall f hf
                cases hif : P.info? f.type with
                | none => simp [hif] at this
                | some ii => simp [qbs9 hif, k, hif])
              rw [Array.mapM_eq_mapM_toList]
              rw [show (List.toArray <$> (fs.toList.mapM (fun f : Field => Prod.mk f.offset <$> sizeOf f.type)) : Sem _) = (fs.toList.mapM (fun f : Field => Prod.mk f.offset <$> sizeOf f.type)) >>= fun a => pure a.toArray from (bind_pure_comp _ _).symm]
              rw [Sem.run_bind, h2]
              simp only [Result.andThen_ok, Sem.run_pure]
              congr 1
              apply Array.ext'
              simp
            obtain ⟨vs', f1, f2⟩ := qtu9 (P := P) (fs := fs) (place := ((fs.map k)[·]?)) (fun i f n hf hn => by
              obtain ⟨ii, hii, rfl⟩ := qdo9 hn
              simp [hf, k, hii]) hp hc0 hb
            refine ⟨rfl, _, ?_, fin f2⟩
            have f1' : Instr.fill (fun x => Option.map k fs[x]?) z.cells qs.toList = some vs' := by simpa using f1
            simp [Instr.build, hzr, run_underlying hu, hm, f1']
        · cases ho
      | array len e =>
        simp only [hz, hu] at ho
        cases hn : sizeT P e with
        | none => simp [hn] at ho
        | some n =>
          simp only [hn, Option.bind_some] at ho
          cases hb : qgo9 n cs ps with
          | none => simp [hb] at ho
          | some cs' =>
            simp only [hb, Option.map_some, Option.some.injEq, Prod.mk.injEq] at ho
            obtain ⟨rfl, rfl⟩ := ho
            obtain ⟨ii, hii, rfl⟩ := qdo9 hn
            obtain ⟨vs', f1, f2⟩ := qlW9 hp hc0 hb
            refine ⟨rfl, _, ?_, fin f2⟩
            simp [Instr.build, hzr, run_underlying hu, qbs9 hii, f1]
      | _ => simp [hz, hu] at ho
end
end Go.Abs

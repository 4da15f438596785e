import Derived.Test.YtfjgfcnhklopdaaDoorAbs13
set_option maxHeartbeats 400000
set_option linter.unusedVariables false
set_option linter.unusedSimpArgs false
namespace Go.Abs
open Go Go.RowKit

section
variable {W0 : World} {E E' : Nat → Prop} {X : Nat → Prop} {h h' : AHeap} {m : Places} {w w' : World} {P : Program}

def VRels (E : Nat → Prop) (h : AHeap) (m : Places) (w : World) (xs : List PV) (vs : List Value) : Prop :=
  vs.length = xs.length ∧ ∀ (j : Nat) (u : PV) (y : Value), xs[j]? = some u → vs[j]? = some y → VRel E h m w u y

theorem VRels.nil : VRels E h m w [] [] := ⟨rfl, fun j u y a => by simp at a⟩
theorem VRels.cons {x : PV} {v : Value} {xs : List PV} {vs : List Value} (h0 : VRel E h m w x v) (h1 : VRels E h m w xs vs) : VRels E h m w (x :: xs) (v :: vs) := by
  refine ⟨by simp [h1.1], fun j u y a b => ?_⟩
  cases j with
  | zero => simp at a b; subst a; subst b; exact h0
  | succ j => exact h1.2 j u y (by simpa using a) (by simpa using b)
theorem VRels.append {xs ys : List PV} {vs us : List Value} (h1 : VRels E h m w xs vs) (h2 : VRels E h m w ys us) : VRels E h m w (xs ++ ys) (vs ++ us) := by
  refine ⟨by simp [h1.1, h2.1], fun j u y a b => ?_⟩
  rcases Nat.lt_or_ge j xs.length with c | c
  · rw [List.getElem?_append_left c] at a
    rw [List.getElem?_append_left (by rw [h1.1]; exact c)] at b
    exact h1.2 j u y a b
  · rw [List.getElem?_append_right c] at a
    rw [List.getElem?_append_right (by rw [h1.1]; exact c), h1.1] at b
    exact h2.2 _ u y a b
theorem VRels.map {α : Type} {f : α → PV} {g : α → Value} : ∀ {l : List α}, (∀ x ∈ l, VRel E h m w (f x) (g x)) → VRels E h m w (l.map f) (l.map g) := by
  intro l
  induction l with
  | nil => intro _; exact VRels.nil
  | cons a r ih => intro hh; exact VRels.cons (hh a (by simp)) (ih (fun x hx => hh x (by simp [hx])))
theorem VRels.toVs {xs : List PV} {vs us : List Value} (hh : VRels E h m w xs vs) (hm : mapO toV xs = some us) : vs = us := by
  obtain ⟨h1, h2⟩ := qcS9 hm
  apply List.ext_getElem?
  intro j
  cases hx : xs[j]? with
  | none =>
    have : xs.length ≤ j := by simpa using hx
    rw [List.getElem?_eq_none (by rw [hh.1]; exact this), List.getElem?_eq_none (by omega)]
  | some x =>
    have hlt : j < vs.length := by rw [hh.1]; exact (List.getElem?_eq_some_iff.1 hx).1
    obtain ⟨u, hu, hxu⟩ := h2 j x hx
    rw [hu, List.getElem?_eq_getElem hlt]
    rw [(hh.2 j x _ hx (List.getElem?_eq_getElem hlt)).to_v hxu]

theorem qnY9 (H : HRel W0 X h m w) {t t' ty : TypeId} {ts : Array TypeId} {vs vx : Value} {k : IntKind} {n : Int} {y : PV} {h1 : AHeap} (h0 : ts[0]? = some t) (h1' : ts[1]? = some t') (hs : VRel (Ex X h m) h m w (.im true []) vs) (hx : VRel (Ex X h m) h m w (.d (.v (.int k n))) vx) (ho : qhT9 P h t t' n = some (y, h1)) :
    ∃ u w', (Builtin.append_ ts ty #[vs, vx]).run P w = .ok u w' ∧ Out W0 X h m w y h1 u w' := by
  unfold qhT9 at ho
  split at ho
  · rename_i e k2 ht hu'
    have hu := qbS9 ht
    split at ho
    · rename_i i zs hi hz
      obtain ⟨i', z, hi', hzz, hs1, hs2, hs3, hs4⟩ := qev9 (E := Ex X h m) (h := h) (m := m) (w := w) hz
      rw [hi] at hi'
      cases hi'
      have hs2 : (zs.map setl).length = i.size := by rw [List.length_map]; exact hs2
      have hs4 : ∀ (j : Nat) (u : PV) (y : Value), (zs.map setl)[j]? = some u → z.cells[j]? = some y → y.oneCell' = true ∧ VRel (Ex X h m) h m w u y := by
        intro j u y a b
        rw [List.getElem?_map] at a
        cases hj : zs[j]? with
        | none => simp [hj] at a
        | some u0 =>
          simp only [hj, Option.map_some, Option.some.injEq] at a
          subst a
          have := hs4 j u0 y hj b
          exact ⟨this.1, qlg9 this.2⟩
      clear hz
      generalize zs.map setl = zs at ho hs2 hs4
      split at ho
      · rename_i hc
        obtain ⟨c2, c3, c4, c5⟩ := hc
        simp only [Option.some.injEq, Prod.mk.injEq] at ho
        obtain ⟨rfl, rfl⟩ := ho
        have hv : ∃ A, vs = .slice A 0 0 := by
          cases hs with
          | im tight xs A c sz f hc' ht' _ _ _ _ =>
            have h00 : c = 0 := by simpa using (ht' rfl).symm
            subst h00
            exact ⟨A, rfl⟩
        obtain ⟨A, rfl⟩ := hv
        have hvx : vx = .int k n := by
          cases hx with
          | d _ _ hd => cases hd; rfl
        subst hvx
        have hr := qqj9 (P := P) (w := w) (ty := ty) (A := A) (k' := k) hu hu' hi hzz hs1 c2 c4 c5 c3 h0 h1'
        have hsz : ∀ (j : Nat) (cs : List PV), (List.replicate n.toNat zs)[j]? = some cs → cs.length = i.size := by
          intro j cs hj
          have := List.mem_of_getElem? hj
          rw [List.mem_replicate] at this
          rw [this.2]; exact hs2
        have hcr : CRel (Ex X h m) h m w (List.replicate n.toNat zs).flatten (Builtin.zeroCells z.cells n.toNat).toList := by
          have hfl := qeo9 hsz
          refine ⟨by rw [hfl]; simp [Builtin.zeroCells, hs1], fun j u y a b => ?_⟩
          have hj : j < n.toNat * i.size := by
            have := (List.getElem?_eq_some_iff.1 a).1
            rw [hfl] at this
            simpa using this
          have hm := Nat.mod_lt j c4
          have hd : j / i.size * i.size + j % i.size = j := by rw [Nat.mul_comm]; exact Nat.div_add_mod j i.size
          have hg := qfS9 hsz (j / i.size) (j % i.size) hm
          rw [hd, a, List.getElem?_replicate] at hg
          have hlt : j / i.size < n.toNat := by
            rw [Nat.div_lt_iff_lt_mul c4]; exact hj
          rw [if_pos hlt, Option.bind_some] at hg
          have hb : z.cells[j % i.size]? = some y := by
            have hlt2 : j % z.cells.size < z.cells.size := by rw [hs1]; exact hm
            have hj2 : j < n.toNat * z.cells.size := by rw [hs1]; exact hj
            simp only [Builtin.zeroCells, Array.toList_map, List.getElem?_map, Array.toList_range, List.getElem?_range hj2, Option.map_some, Option.some.injEq] at b
            rw [getElem!_pos z.cells _ hlt2] at b
            rw [← b, ← hs1, Array.getElem?_eq_getElem hlt2]
          exact hs4 _ u y hg.symm hb
        have hh := qku9 (w' := w.drew.alloc (.cells ((Builtin.zeroCells z.cells n.toNat).toList ++ (Builtin.zeroCells z.cells (grownCap w n.toNat 0 e - n.toNat)).toList).toArray e)) (rest := (Builtin.zeroCells z.cells (grownCap w n.toNat 0 e - n.toNat)).toList) (e := e) (es := List.replicate n.toNat zs) (sz := i.size) H (by simp only [World.alloc]; rfl) rfl rfl (Outs.push rfl (by rintro _ _ _ ⟨⟩; rfl) rfl) c4 hsz hcr
        have hge := grownCap_ge w n.toNat 0 e
        refine ⟨_, _, hr, _, ?_, hh.2, hh.1⟩
        refine .ref _ _ _ _ _ ⟨_, _, rfl, hge, fun _ => ⟨_, rfl⟩, false, 0, i.size, List.replicate n.toNat zs, by simp, Nat.le_refl _, fun _ => ⟨by simp, ?_⟩⟩
        rw [upd_same]
        refine ⟨_, e, heap_alloc_new w.drew _, fun _ => by simp, ?_⟩
        simp only [List.size_toArray, List.length_append, Array.length_toList, size_zeroCells, hs1, ← Nat.add_mul]
        congr 1
        omega
      · cases ho
    · cases ho
  · cases ho
theorem qnP9 {C : Cfg} (H : HRel W0 X h m w) {b : Builtin} {ts : Array TypeId} {ty : TypeId} {args : List PV} {vs : List Value} {cs : Array Bool} {r : PV} {h1 : AHeap} (hv : VRels (Ex X h m) h m w args vs) (ho : qcp9 C h b ts ty args = some (r, h1)) :
    ∃ u w', (builtin b ts ty cs vs.toArray).run C.P w = .ok (.value u) w' ∧ Out W0 X h m w r h1 u w' := by
  unfold qcp9 at ho
  split at ho
  · rename_i x
    obtain ⟨l1, l2⟩ := hv
    obtain ⟨vx, rfl⟩ : ∃ v, vs = [v] := by
      cases vs with
      | nil => simp at l1
      | cons v r => cases r with
        | nil => exact ⟨v, rfl⟩
        | cons _ _ => simp at l1
    have hx := l2 0 _ _ rfl rfl
    split at ho
    · rename_i n hl
      obtain ⟨A, c, rfl⟩ := qyn9 hx hl
      split at ho
      · rename_i e hu
        simp only [Option.some.injEq, Prod.mk.injEq] at ho
        obtain ⟨rfl, rfl⟩ := ho
        cases ht : ts[0]? with
        | none => simp [ht] at hu
        | some t =>
          simp only [ht, Option.bind_some] at hu
          exact ⟨_, _, by simp [builtin, Builtin.len_, ht, run_underlying hu]; rfl, Out.same H (.d _ _ (.v _))⟩
      · cases ho
    · rename_i hl
      split at ho
      · rename_i id
        split at ho
        · rename_i es kt et hid hu
          simp only [Option.some.injEq, Prod.mk.injEq] at ho
          obtain ⟨rfl, rfl⟩ := ho
          cases hx with
          | mp _ es' g bo ho' hm =>
            rw [hid] at ho'
            cases ho'
            have H1 := H.obj id _ hid
            rw [hm] at H1
            obtain ⟨ents, clock, a1, a2, a3⟩ := H1
            have hgo := qhR9 (P := C.P) a1 (by simp)
            cases ht : ts[0]? with
            | none => simp [ht] at hu
            | some t =>
              simp only [ht, Option.bind_some] at hu
              exact ⟨_, _, by simp [builtin, Builtin.len_, ht, run_underlying hu, hgo]; rfl, Out.same H (by rw [← a2]; exact .d _ _ (.v _))⟩
        · cases ho
      · cases ha : toV x with
        | none => simp [ha] at ho
        | some a =>
          obtain rfl := hx.to_v ha
          simp only [ha, Option.bind_some] at ho
          cases hp : pev C.P (Builtin.len_ ts ty #[vx]) with
          | none => simp [hp] at ho
          | some u =>
            simp only [hp, Option.map_some, Option.some.injEq, Prod.mk.injEq] at ho
            obtain ⟨rfl, rfl⟩ := ho
            exact ⟨u, w, by simp [builtin, qga9 hp w], Out.same H (.d _ _ (.v _))⟩
  · rename_i s x
    obtain ⟨l1, l2⟩ := hv
    obtain ⟨v1, v2, rfl⟩ : ∃ v u, vs = [v, u] := by
      cases vs with
      | nil => simp at l1
      | cons v r => cases r with
        | nil => simp at l1
        | cons u r => cases r with
          | nil => exact ⟨v, u, rfl⟩
          | cons _ _ => simp at l1
    have hs := l2 0 _ _ rfl rfl
    have hx := l2 1 _ _ rfl rfl
    split at ho
    · rename_i t t' h0 h1'
      split at ho
      · rename_i e' ys he' hel
        obtain ⟨u, w', a1, a2⟩ := qpq9 (ty := ty) H h0 h1' (qbS9 he') hs hx hel ho
        exact ⟨u, w', by simp [builtin, a1], a2⟩
      · split at ho
        · obtain ⟨u, w', a1, a2⟩ := qnY9 (ty := ty) H h0 h1' hs hx ho
          exact ⟨u, w', by simp [builtin, a1], a2⟩
        · cases ho
    · cases ho
  · rename_i es
    obtain ⟨l1, l2⟩ := hv
    obtain ⟨vx, rfl⟩ : ∃ v, vs = [v] := by
      cases vs with
      | nil => simp at l1
      | cons v r => cases r with
        | nil => exact ⟨v, rfl⟩
        | cons _ _ => simp at l1
    have hx := l2 0 _ _ rfl rfl
    split at ho
    · rename_i e hu
      simp only [Option.some.injEq, Prod.mk.injEq] at ho
      obtain ⟨rfl, rfl⟩ := ho
      cases ht : ts[0]? with
      | none => simp [ht] at hu
      | some t =>
        simp only [ht, Option.bind_some] at hu
        cases hx with
        | im tight xs A c sz f hc' ht' _ _ _ _ =>
          have h00 : c = es.length := (ht' rfl).symm
          subst h00
          exact ⟨_, _, by simp [builtin, Builtin.cap_, ht, run_underlying hu]; rfl, Out.same H (.d _ _ (.v _))⟩
    · cases ho
  · cases ha : mapO toV args with
    | none => simp [ha] at ho
    | some us =>
      obtain rfl := hv.toVs ha
      simp only [ha, Option.bind_some] at ho
      cases hp : pev C.P (Builtin.min_ ts ty vs.toArray) with
      | none => simp [hp] at ho
      | some u =>
        simp only [hp, Option.map_some, Option.some.injEq, Prod.mk.injEq] at ho
        obtain ⟨rfl, rfl⟩ := ho
        exact ⟨u, w, by simp [builtin, qga9 hp w], Out.same H (.d _ _ (.v _))⟩
  · cases ha : mapO toV args with
    | none => simp [ha] at ho
    | some us =>
      obtain rfl := hv.toVs ha
      simp only [ha, Option.bind_some] at ho
      cases hp : pev C.P (Builtin.max_ ts ty vs.toArray) with
      | none => simp [hp] at ho
      | some u =>
        simp only [hp, Option.map_some, Option.some.injEq, Prod.mk.injEq] at ho
        obtain ⟨rfl, rfl⟩ := ho
        exact ⟨u, w, by simp [builtin, qga9 hp w], Out.same H (.d _ _ (.v _))⟩
  · cases ho
end

section
variable {W0 : World} {E E' : Nat → Prop} {X : Nat → Prop} {h h' : AHeap} {m : Places} {w w' : World} {P : Program}

theorem qeM9 {α β : Type} {l : List α} {f : α → List β} {x : α} (hx : x ∈ l) {y : β} (hy : y ∈ f x) : y ∈ l.flatMap f := List.mem_flatMap.2 ⟨x, hx, hy⟩

theorem qjx9 (H : HRel W0 X h m w) (hEE : ∀ b, E' b → Ex X h m b) : ∀ (n : Nat) (x : PV) (d : D) (v : Value), rs h n x = some d → (∀ id ∈ reach h n x, ∀ g bo fz ver sz es, m id = some (g, bo) → h[id]? = some (.row fz ver sz es) → ¬ E' g) → VRel (Ex X h m) h m w x v → DRel E' w d v := by
  intro n
  induction n with
  | zero => intro x d v hr; simp [rs] at hr
  | succ n ih =>
    intro x d v hr hre hv
    have cells : ∀ (cs : List PV) (ds : List D) (vs : List Value), mapO (rs h n) cs = some ds → vs.length = cs.length → (∀ id ∈ cs.flatMap (reach h n), ∀ g bo fz ver sz es, m id = some (g, bo) → h[id]? = some (.row fz ver sz es) → ¬ E' g) →
        (∀ (j : Nat) (u : PV) (x : Value), cs[j]? = some u → vs[j]? = some x → VRel (Ex X h m) h m w u x) → ∀ (j : Nat) (u : D) (x : Value), ds[j]? = some u → vs[j]? = some x → DRel E' w u x := by
      intro cs ds vs hm hl hre hvr j u x hj hx
      obtain ⟨m1, m2⟩ := qcS9 hm
      have hlt : j < cs.length := by rw [← m1]; exact (List.getElem?_eq_some_iff.1 hj).1
      obtain ⟨u', hu', hru⟩ := m2 j cs[j] (List.getElem?_eq_getElem hlt)
      rw [hj] at hu'
      cases hu'
      exact ih _ _ _ hru (fun id hid => hre id (qeM9 (List.getElem_mem hlt) hid)) (hvr j _ x (List.getElem?_eq_getElem hlt) hx)
    -- a row of cells at a place
    have rowD : ∀ (es : List (List PV)) (dss : List (List D)) (A : Option Addr) (c sz : Nat) (f : Nat → Nat → Value), mapO (mapO (rs h n)) es = some dss → es.length ≤ c → (∀ (i : Nat) (cs : List PV), es[i]? = some cs → cs.length = sz) →
        (∀ (i : Nat) (cs : List PV), es[i]? = some cs → ∃ ad, A = some ad) → (∀ id ∈ es.flatMap (fun cs => cs.flatMap (reach h n)), ∀ g bo fz ver sz es, m id = some (g, bo) → h[id]? = some (.row fz ver sz es) → ¬ E' g) →
        (∀ (i j : Nat) (cs : List PV) (u : PV) (ad : Addr), es[i]? = some cs → cs[j]? = some u → A = some ad → ¬ E' ad.block ∧ w.cell? (ad.add (i * sz + j)) = some (f i j) ∧ (f i j).oneCell' = true) →
        (∀ (i j : Nat) (cs : List PV) (u : PV), es[i]? = some cs → cs[j]? = some u → VRel (Ex X h m) h m w u (f i j)) → DRel E' w (.rd dss) (.slice A es.length c) := by
      intro es dss A c sz f hm hc hsz hA hre hE hvr
      obtain ⟨m1, m2⟩ := qcS9 hm
      rw [← m1]
      have back : ∀ (i : Nat) (ds : List D), dss[i]? = some ds → ∃ cs, es[i]? = some cs ∧ mapO (rs h n) cs = some ds := by
        intro i ds hi
        have hlt : i < es.length := by rw [← m1]; exact (List.getElem?_eq_some_iff.1 hi).1
        obtain ⟨ds', k1, k2⟩ := m2 i es[i] (List.getElem?_eq_getElem hlt)
        rw [hi] at k1
        cases k1
        exact ⟨_, List.getElem?_eq_getElem hlt, k2⟩
      have back2 : ∀ (i j : Nat) (ds : List D) (u : D), dss[i]? = some ds → ds[j]? = some u → ∃ cs x, es[i]? = some cs ∧ cs[j]? = some x ∧ rs h n x = some u := by
        intro i j ds u hi hj
        obtain ⟨cs, k1, k2⟩ := back i ds hi
        obtain ⟨n1, n2⟩ := qcS9 k2
        have hlt : j < cs.length := by rw [← n1]; exact (List.getElem?_eq_some_iff.1 hj).1
        obtain ⟨u', l1, l2⟩ := n2 j cs[j] (List.getElem?_eq_getElem hlt)
        rw [hj] at l1
        cases l1
        exact ⟨cs, _, k1, List.getElem?_eq_getElem hlt, l2⟩
      refine .rd dss A c sz f (by omega) (fun i ds hi => ?_) (fun i ds hi => ?_) (fun i j ds u ad hi hj ha => ?_) (fun i j ds u hi hj => ?_)
      · obtain ⟨cs, k1, k2⟩ := back i ds hi
        rw [(qcS9 k2).1]; exact hsz i cs k1
      · obtain ⟨cs, k1, k2⟩ := back i ds hi
        exact hA i cs k1
      · obtain ⟨cs, x, k1, k2, k3⟩ := back2 i j ds u hi hj
        exact hE i j cs x ad k1 k2 ha
      · obtain ⟨cs, x, k1, k2, k3⟩ := back2 i j ds u hi hj
        refine ih _ _ _ k3 (fun id hid => hre id ?_) (hvr i j cs x k1 k2)
        exact qeM9 (List.mem_of_getElem? k1) (qeM9 (List.mem_of_getElem? k2) hid)
    have bxD : ∀ (cs : List PV) (ds : List D) (ad : Addr) (f : Nat → Value), mapO (rs h n) cs = some ds → (∀ id ∈ cs.flatMap (reach h n), ∀ g bo fz ver sz es, m id = some (g, bo) → h[id]? = some (.row fz ver sz es) → ¬ E' g) →
        (∀ (j : Nat) (u : PV), cs[j]? = some u → ¬ E' ad.block ∧ w.cell? (ad.add j) = some (f j) ∧ (f j).oneCell' = true) → (∀ (j : Nat) (u : PV), cs[j]? = some u → VRel (Ex X h m) h m w u (f j)) → DRel E' w (.bx ds) (.pointer (some ad)) := by
      intro cs ds ad f hm hre hE hvr
      obtain ⟨m1, m2⟩ := qcS9 hm
      have back : ∀ (j : Nat) (u : D), ds[j]? = some u → ∃ x, cs[j]? = some x ∧ rs h n x = some u := by
        intro j u hj
        have hlt : j < cs.length := by rw [← m1]; exact (List.getElem?_eq_some_iff.1 hj).1
        obtain ⟨u', l1, l2⟩ := m2 j cs[j] (List.getElem?_eq_getElem hlt)
        rw [hj] at l1
        cases l1
        exact ⟨_, List.getElem?_eq_getElem hlt, l2⟩
      refine .bx ds ad f (fun j u hj => ?_) (fun j u hj => ?_)
      · obtain ⟨x, k1, k2⟩ := back j u hj
        exact hE j x k1
      · obtain ⟨x, k1, k2⟩ := back j u hj
        exact ih _ _ _ k2 (fun id hid => hre id (qeM9 (List.mem_of_getElem? k1) hid)) (hvr j x k1)
    cases hv with
    | d x v hd =>
      simp only [rs, Option.some.injEq] at hr
      subst hr
      exact hd.move (fun b _ he => hEE b he) (fun b _ _ => rfl)
    | junk v => simp [rs] at hr
    | im tight es A c sz f hc ht hsz hA hE hvr =>
      simp only [rs, Option.map_eq_some_iff] at hr
      obtain ⟨dss, k1, rfl⟩ := hr
      exact rowD es dss A c sz f k1 hc hsz hA (by simpa only [reach] using hre) (fun i j cs u ad a b e => ⟨fun he => (hE i j cs u ad a b e).1 (hEE _ he), (hE i j cs u ad a b e).2⟩) hvr
    | bx cs ad f hE hvr =>
      simp only [rs, Option.map_eq_some_iff] at hr
      obtain ⟨ds, k1, rfl⟩ := hr
      exact bxD cs ds ad f k1 (by simpa only [reach] using hre) (fun j u a => ⟨fun he => (hE j u a).1 (hEE _ he), (hE j u a).2⟩) hvr
    | ref id ver off len v hs =>
      simp only [rs] at hr
      simp only [reach] at hre
      cases hrow : rowAt h id ver with
      | none => simp [hrow] at hr
      | some p =>
        obtain ⟨fz, sz, es⟩ := p
        have hid := qhG9 hrow
        simp only at hid
        simp only [hrow, Option.map_eq_some_iff] at hr hre
        obtain ⟨dss, k1, rfl⟩ := hr
        obtain ⟨A, cap, rfl, hv1, hv2, fz1, ver1, sz1, es1, ho1, hle, hcur⟩ := hs
        rw [hid] at ho1
        simp only [Option.some.injEq, AObj.row.injEq] at ho1
        obtain ⟨rfl, rfl, rfl, rfl⟩ := ho1
        obtain ⟨c1, c2⟩ := hcur rfl
        have hlen : ((es.drop off).take len).length = len := by simp; omega
        have hor := H.obj id _ hid
        have hyi : ∀ (i : Nat) (cs : List PV), ((es.drop off).take len)[i]? = some cs → i < len ∧ es[off + i]? = some cs := by
          intro i cs hi
          rw [List.getElem?_take] at hi
          split at hi
          · rename_i hlt; exact ⟨hlt, by simpa [List.getElem?_drop] using hi⟩
          · cases hi
        have hre' : ∀ id' ∈ ((es.drop off).take len).flatMap (fun cs => cs.flatMap (reach h n)), ∀ g bo fz ver sz es, m id' = some (g, bo) → h[id']? = some (.row fz ver sz es) → ¬ E' g := by
          intro id' hid'
          obtain ⟨cs, q1, q2⟩ := List.mem_flatMap.1 hid'
          exact hre id' (List.mem_cons_of_mem _ (qeM9 (List.mem_of_mem_drop (List.mem_of_mem_take q1)) q2))
        rw [← hlen]
        cases hm : m id with
        | none =>
          rw [hm] at hor
          have hes : es = [] := hor
          subst hes
          exact rowD _ dss A cap sz (fun _ _ => .bool true) k1 (by omega) (fun i cs hi => by simp at hi) (fun i cs hi => by simp at hi) hre' (fun i j cs u ad hi => by simp at hi) (fun i j cs u hi => by simp at hi)
        | some p =>
          obtain ⟨g, bo⟩ := p
          rw [hm] at hor c2
          obtain ⟨s0, cur, e, r1, r2, r3, r4⟩ := hor
          obtain ⟨cur', e', d1, d2, d3⟩ := c2
          rw [r1] at d1
          simp only [Option.some.injEq, Obj.cells.injEq] at d1
          obtain ⟨rfl, rfl, _⟩ := d1
          have look : ∀ (i j : Nat) (cs : List PV) (u : PV), ((es.drop off).take len)[i]? = some cs → cs[j]? = some u → ∃ y, cur[(bo + off + i) * sz + j]? = some y ∧ y.oneCell' = true ∧ VRel (Ex X h m) h m w u y := by
            intro i j cs u hi hj
            obtain ⟨y, y1, y2, y3⟩ := r4 (off + i) j cs u (hyi i cs hi).2 hj
            rw [← Nat.add_assoc] at y1
            exact ⟨y, y1, y2, y3⟩
          refine rowD _ dss A cap sz (fun i j => (cur[(bo + off + i) * sz + j]?).getD (.bool true)) k1 (by omega) (fun i cs hi => r3 _ cs (hyi i cs hi).2) (fun i cs hi => hv2 (by have := (hyi i cs hi).1; omega)) hre' (fun i j cs u ad hi hj ha => ?_) (fun i j cs u hi hj => ?_)
          · obtain ⟨y, y1, y2, y3⟩ := look i j cs u hi hj
            have := (hyi i cs hi).1
            have hA := d2 (by omega)
            rw [ha] at hA
            cases hA
            refine ⟨hre id (by simp) g bo _ _ _ _ hm hid, ?_, by rw [y1]; exact y2⟩
            have e2 : (bo + off) * sz + (i * sz + j) = (bo + off + i) * sz + j := by rw [Nat.add_mul (bo + off) i]; omega
            rw [qfi9, e2]
            simp [World.cell?, r1, y1]
          · obtain ⟨y, y1, y2, y3⟩ := look i j cs u hi hj
            rw [y1]; exact y3
    | ptr id ver idx off v hp =>
      simp only [rs] at hr
      simp only [reach] at hre
      cases hrow : rowAt h id ver with
      | none => simp [hrow] at hr
      | some p =>
        obtain ⟨fz, sz, es⟩ := p
        have hid := qhG9 hrow
        simp only at hid
        simp only [hrow] at hr hre
        cases hcs : es[idx]? with
        | none => simp [hcs] at hr
        | some cs =>
          simp only [hcs, Option.bind_some, Option.map_eq_some_iff] at hr
          obtain ⟨ds, k1, rfl⟩ := hr
          obtain ⟨⟨ad, rfl⟩, fz1, ver1, sz1, es1, ho1, hle, hcur⟩ := hp
          rw [hid] at ho1
          simp only [Option.some.injEq, AObj.row.injEq] at ho1
          obtain ⟨rfl, rfl, rfl, rfl⟩ := ho1
          obtain ⟨c1, c2⟩ := hcur rfl
          have hor := H.obj id _ hid
          cases hm : m id with
          | none => rw [hm] at c2; exact c2.elim
          | some p =>
            obtain ⟨g, bo⟩ := p
            rw [hm] at hor c2
            simp only [Value.pointer.injEq, Option.some.injEq] at c2
            subst c2
            obtain ⟨s0, cur, e, r1, r2, r3, r4⟩ := hor
            have look : ∀ (j : Nat) (u : PV), (cs.drop off)[j]? = some u → ∃ y, cur[(bo + idx) * sz + off + j]? = some y ∧ y.oneCell' = true ∧ VRel (Ex X h m) h m w u y := by
              intro j u hj
              rw [List.getElem?_drop] at hj
              obtain ⟨y, y1, y2, y3⟩ := r4 idx (off + j) cs u hcs hj
              rw [← Nat.add_assoc] at y1
              exact ⟨y, y1, y2, y3⟩
            refine bxD _ ds _ (fun j => (cur[(bo + idx) * sz + off + j]?).getD (.bool true)) k1 (fun id' hid' => ?_) (fun j u hj => ?_) (fun j u hj => ?_)
            · obtain ⟨x, q1, q2⟩ := List.mem_flatMap.1 hid'
              exact hre id' (List.mem_cons_of_mem _ (qeM9 (List.mem_of_getElem? hcs) (qeM9 (List.mem_of_mem_drop q1) q2)))
            · obtain ⟨y, y1, y2, y3⟩ := look j u hj
              refine ⟨hre id (by simp) g bo _ _ _ _ hm hid, ?_, by rw [y1]; exact y2⟩
              rw [qfi9]
              simp [World.cell?, r1, y1]
            · obtain ⟨y, y1, y2, y3⟩ := look j u hj
              rw [y1]; exact y3
    | mp => simp [rs] at hr
    | it => simp [rs] at hr
    | tp => simp [rs] at hr
    | ag cs vs hl h1 hvr =>
      simp only [rs, Option.map_eq_some_iff] at hr
      obtain ⟨ds, k1, rfl⟩ := hr
      exact .ag ds vs (by rw [hl, (qcS9 k1).1]) h1 (cells cs ds vs k1 hl (by simpa only [reach] using hre) hvr)
    | ifc t x v hv =>
      simp only [rs, Option.map_eq_some_iff] at hr
      obtain ⟨d, k1, rfl⟩ := hr
      exact .ifc t d v (ih _ _ _ k1 (by simpa only [reach] using hre) hv)
    | fn f cs vs hl hvr =>
      simp only [rs, Option.map_eq_some_iff] at hr
      obtain ⟨ds, k1, rfl⟩ := hr
      exact .fn f ds vs (by rw [hl, (qcS9 k1).1]) (cells cs ds vs k1 hl (by simpa only [reach] using hre) hvr)
end
end Go.Abs

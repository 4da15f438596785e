import Derived.Test.YtfjgfcnhklopdaaDoorAbs2
import Derived.Laws.Sem
import Derived.Laws.World
import Derived.Tactics
set_option maxHeartbeats 400000
set_option linter.unusedVariables false
set_option linter.unusedSimpArgs false
namespace Go.Abs
open Go Go.RowKit

def upd (m : Places) (id : Nat) (p : Option (Nat × Nat)) : Places := fun i => if i = id then p else m i
@[simp] theorem upd_same (m : Places) (id : Nat) (p : Option (Nat × Nat)) : upd m id p id = p := by simp [upd]
theorem qkf9 (m : Places) {id i : Nat} (p : Option (Nat × Nat)) (h : i ≠ id) : upd m id p i = m i := by simp [upd, h]

section
variable {W0 : World} {X : Nat → Prop} {h : AHeap} {m : Places} {w w' : World}

theorem ORel.of {E' : Nat → Prop} {h' : AHeap} {m' : Places} {o : AObj} {p : Option (Nat × Nat)} (hv : Evo (Ex X h m) h m w E' h' m' w') (hb : ∀ g bo, p = some (g, bo) → w'.heap[g]? = w.heap[g]?)
    (ho : ORel (Ex X h m) h m w o p) : ORel E' h' m' w' o p := by
  cases o with
  | row fz ver sz es =>
    cases p with
    | none => exact ho
    | some p =>
      obtain ⟨g, bo⟩ := p
      obtain ⟨h0, cur, e, h1, h2, h3, h4⟩ := ho
      refine ⟨h0, cur, e, (hb g bo rfl).trans h1, h2, h3, fun i j cs u a b => ?_⟩
      obtain ⟨x, c1, c2, c3⟩ := h4 i j cs u a b
      exact ⟨x, c1, c2, c3.evo hv⟩
  | map es =>
    cases p with
    | none => exact ho
    | some p =>
      obtain ⟨g, bo⟩ := p
      obtain ⟨ents, clock, h1, h2, h3⟩ := ho
      refine ⟨ents, clock, (hb g bo rfl).trans h1, h2, fun i k u x a b => ?_⟩
      obtain ⟨c1, c2⟩ := h3 i k u x a b
      exact ⟨c1, c2.evo hv⟩
  | siter s pos =>
    cases p with
    | none => exact ho
    | some p => obtain ⟨g, bo⟩ := p; exact (hb g bo rfl).trans ho

theorem Evo.grow (H : HRel W0 X h m w) (hos : w'.os = w.os) (htape : w'.tape = w.tape) (hout : Outs w w') (hs : w.heap.size ≤ w'.heap.size)
    (hb : ∀ b, b < w.heap.size → w'.heap[b]? = w.heap[b]?) : Evo (Ex X h m) h m w (Ex X h m) h m w' :=
  ⟨hos, htape, hout, hs, fun _ _ k => k, fun b hlt _ => hb b hlt, fun _ _ k => k, fun b hlt _ => hb b hlt, fun id o ho => ⟨o, ho, by
    have H1 := H.obj id o ho
    cases o with
    | row fz ver sz es =>
      refine ⟨Nat.le_refl _, fun z => z, rfl, fun _ => ⟨Nat.le_refl _, rfl, fun g bo cur e hm hg => ⟨cur, ?_, rfl⟩⟩⟩
      rw [hb g (H.lt _ _ g bo ho hm)]
      exact hg
    | map es => exact rfl
    | siter s p => exact rfl⟩⟩
theorem HRel.grow (H : HRel W0 X h m w) (hos : w'.os = w.os) (htape : w'.tape = w.tape) (hout : Outs w w') (hs : w.heap.size ≤ w'.heap.size)
    (hb : ∀ b, b < w.heap.size → w'.heap[b]? = w.heap[b]?) : HRel W0 X h m w' where
  obj := fun id o ho => (H.obj id o ho).of (Evo.grow H hos htape hout hs hb) (fun g bo hm => hb g (H.lt id o g bo ho hm))
  lt := fun id o g bo ho hm => Nat.lt_of_lt_of_le (H.lt id o g bo ho hm) hs
  inj := H.inj
  apart := H.apart
  xlt := fun b hx => Nat.lt_of_lt_of_le (H.xlt b hx) hs
  osz := Nat.le_trans H.osz hs
  old := fun b hlt => (hb b (Nat.lt_of_lt_of_le hlt H.osz)).trans (H.old b hlt)
  new := H.new

theorem qhV9 (H : HRel W0 X h m w) (o : AObj) (p : Option (Nat × Nat)) (hos : w'.os = w.os) (htape : w'.tape = w.tape) (hout : Outs w w') (hs : w.heap.size ≤ w'.heap.size)
    (hb : ∀ b, b < w.heap.size → w'.heap[b]? = w.heap[b]?) (hp : ∀ g bo, p = some (g, bo) → w.heap.size ≤ g ∧ g < w'.heap.size)
    (hn : Evo (Ex X h m) h m w (Ex X (h ++ [o]) (upd m h.length p)) (h ++ [o]) (upd m h.length p) w' → ORel (Ex X (h ++ [o]) (upd m h.length p)) (h ++ [o]) (upd m h.length p) w' o p) :
    Evo (Ex X h m) h m w (Ex X (h ++ [o]) (upd m h.length p)) (h ++ [o]) (upd m h.length p) w' ∧ HRel W0 X (h ++ [o]) (upd m h.length p) w' := by
  have hold : ∀ id o1, h[id]? = some o1 → id < h.length ∧ (h ++ [o])[id]? = some o1 ∧ upd m h.length p id = m id := by
    intro id o1 h1
    have hlt : id < h.length := (List.getElem?_eq_some_iff.1 h1).1
    exact ⟨hlt, by rw [List.getElem?_append_left hlt]; exact h1, qkf9 m p (by omega)⟩
  have hcase : ∀ id o1, (h ++ [o])[id]? = some o1 → (id < h.length ∧ h[id]? = some o1 ∧ upd m h.length p id = m id) ∨ (id = h.length ∧ o1 = o) := by
    intro id o1 h1
    rcases Nat.lt_or_ge id h.length with hlt | hge
    · rw [List.getElem?_append_left hlt] at h1
      exact .inl ⟨hlt, h1, qkf9 m p (by omega)⟩
    · right
      have hl := (List.getElem?_eq_some_iff.1 h1).1
      simp at hl
      have : id = h.length := by omega
      subst this
      simp at h1
      exact ⟨rfl, h1.symm⟩
  have hev : Evo (Ex X h m) h m w (Ex X (h ++ [o]) (upd m h.length p)) (h ++ [o]) (upd m h.length p) w' := by
    have hown : ∀ (Y : Nat → Prop) b, b < w.heap.size → Ex Y (h ++ [o]) (upd m h.length p) b → Ex Y h m b := by
      intro Y b hlt hE
      rcases hE with hx | ⟨id, o1, bo, h1, h2, h3⟩
      · exact .inl hx
      · rcases hcase id o1 h1 with ⟨_, k1, k2⟩ | ⟨rfl, rfl⟩
        · exact .inr ⟨id, o1, bo, k1, h2, by rw [← k2]; exact h3⟩
        · rw [upd_same] at h3
          have := (hp _ _ h3).1
          omega
    refine ⟨hos, htape, hout, hs, hown X, fun b hlt _ => hb b hlt, hown _, fun b hlt _ => hb b hlt, fun id o1 ho => ?_⟩
    · obtain ⟨k0, k1, k2⟩ := hold id o1 ho
      refine ⟨o1, k1, ?_⟩
      rw [k2]
      cases o1 with
      | row fz ver sz es =>
        refine ⟨Nat.le_refl _, fun z => z, rfl, fun _ => ⟨Nat.le_refl _, rfl, fun g bo cur e hm hg => ⟨cur, ?_, rfl⟩⟩⟩
        rw [hb g (H.lt _ _ g bo ho hm)]
        exact hg
      | map es => exact rfl
      | siter s q => exact rfl
  refine ⟨hev, ?_, ?_, ?_, ?_, ?_, Nat.le_trans H.osz hs, ?_, ?_⟩
  · intro id o1 h1
    rcases hcase id o1 h1 with ⟨_, k1, k2⟩ | ⟨rfl, rfl⟩
    · rw [k2]
      exact (H.obj id o1 k1).of hev (fun g bo hm => hb g (H.lt id o1 g bo k1 hm))
    · rw [upd_same]; exact hn hev
  · intro id o1 g bo h1 hm
    rcases hcase id o1 h1 with ⟨_, k1, k2⟩ | ⟨rfl, rfl⟩
    · rw [k2] at hm
      exact Nat.lt_of_lt_of_le (H.lt id o1 g bo k1 hm) hs
    · rw [upd_same] at hm
      exact (hp g bo hm).2
  · intro id id' o1 o2 g bo bo' h1 h2 hm hm'
    rcases hcase id o1 h1 with ⟨a0, k1, k2⟩ | ⟨rfl, rfl⟩ <;> rcases hcase id' o2 h2 with ⟨b0, l1, l2⟩ | ⟨rfl, rfl⟩
    · rw [k2] at hm; rw [l2] at hm'
      exact H.inj id id' o1 o2 g bo bo' k1 l1 hm hm'
    · rw [k2] at hm; rw [upd_same] at hm'
      have := H.lt id o1 g bo k1 hm
      have := (hp _ _ hm').1
      omega
    · rw [l2] at hm'; rw [upd_same] at hm
      have := H.lt id' o2 g bo' l1 hm'
      have := (hp _ _ hm).1
      omega
    · rfl
  · intro id o1 g bo h1 hm
    rcases hcase id o1 h1 with ⟨_, k1, k2⟩ | ⟨rfl, rfl⟩
    · rw [k2] at hm; exact H.apart id o1 g bo k1 hm
    · rw [upd_same] at hm
      intro hx
      have := H.xlt g hx
      have := (hp _ _ hm).1
      omega
  · exact fun b hx => Nat.lt_of_lt_of_le (H.xlt b hx) hs
  · exact fun b hlt => (hb b (Nat.lt_of_lt_of_le hlt H.osz)).trans (H.old b hlt)
  · intro id o1 g bo h1 hm
    rcases hcase id o1 h1 with ⟨_, k1, k2⟩ | ⟨rfl, rfl⟩
    · rw [k2] at hm; exact H.new id o1 g bo k1 hm
    · rw [upd_same] at hm
      exact Nat.le_trans H.osz (hp g bo hm).1

theorem qgm9 (H : HRel W0 X h m w) {id : Nat} {o : AObj} (ho : h[id]? = some o) (hact : o.active = true) (o' : AObj) (p : Option (Nat × Nat)) (hos : w'.os = w.os) (htape : w'.tape = w.tape) (hout : Outs w w') (hs : w.heap.size ≤ w'.heap.size)
    (hb : ∀ b, b < w.heap.size → (∀ g bo, m id = some (g, bo) → b ≠ g) → w'.heap[b]? = w.heap[b]?) (hoe : OEvo w w' o o' (m id) p)
    (hp : ∀ g bo, p = some (g, bo) → g < w'.heap.size ∧ ((∃ bo', m id = some (g, bo')) ∨ w.heap.size ≤ g))
    (hn : Evo (Ex X h m) h m w (Ex X (h.set id o') (upd m id p)) (h.set id o') (upd m id p) w' → ORel (Ex X (h.set id o') (upd m id p)) (h.set id o') (upd m id p) w' o' p) :
    Evo (Ex X h m) h m w (Ex X (h.set id o') (upd m id p)) (h.set id o') (upd m id p) w' ∧ HRel W0 X (h.set id o') (upd m id p) w' := by
  have hid : id < h.length := (List.getElem?_eq_some_iff.1 ho).1
  have hself : (h.set id o')[id]? = some o' := by simp [hid]
  have hother : ∀ i, i ≠ id → (h.set id o')[i]? = h[i]? := fun i hne => List.getElem?_set_ne (fun e => hne e.symm)
  have hcase : ∀ i o1, (h.set id o')[i]? = some o1 → (i ≠ id ∧ h[i]? = some o1 ∧ upd m id p i = m i) ∨ (i = id ∧ o1 = o') := by
    intro i o1 h1
    by_cases hne : i = id
    · subst hne; rw [hself] at h1; exact .inr ⟨rfl, (Option.some.inj h1).symm⟩
    · rw [hother i hne] at h1; exact .inl ⟨hne, h1, qkf9 m p hne⟩
  have hne_blk : ∀ i o1 g bo, i ≠ id → h[i]? = some o1 → m i = some (g, bo) → ∀ g' bo', m id = some (g', bo') → g ≠ g' := by
    intro i o1 g bo hne h1 hm g' bo' hm' e
    subst e
    exact hne (H.inj i id o1 o g bo bo' h1 ho hm hm')
  have hev : Evo (Ex X h m) h m w (Ex X (h.set id o') (upd m id p)) (h.set id o') (upd m id p) w' := by
    have hown : ∀ (Y : Nat → Prop) b, b < w.heap.size → Ex Y (h.set id o') (upd m id p) b → Ex Y h m b := by
      intro Y b hlt hE
      rcases hE with hx | ⟨i, o1, bo, h1, h2, h3⟩
      · exact .inl hx
      · rcases hcase i o1 h1 with ⟨hne, k1, k2⟩ | ⟨rfl, rfl⟩
        · exact .inr ⟨i, o1, bo, k1, h2, by rw [← k2]; exact h3⟩
        · rw [upd_same] at h3
          rcases (hp _ _ h3).2 with ⟨bo', hm⟩ | hge
          · exact .inr ⟨i, o, bo', ho, hact, hm⟩
          · omega
    have hblk : ∀ (Y : Nat → Prop) b, b < w.heap.size → ¬ Ex Y h m b → w'.heap[b]? = w.heap[b]? := by
      intro Y b hlt hE
      refine hb b hlt fun g bo hm e => hE ?_
      subst e
      exact .inr ⟨id, o, bo, ho, hact, hm⟩
    refine ⟨hos, htape, hout, hs, hown X, hblk X, hown _, hblk _, fun i o1 h1 => ?_⟩
    · by_cases hne : i = id
      · subst hne
        rw [ho] at h1
        obtain rfl := Option.some.inj h1
        refine ⟨o', hself, ?_⟩
        rw [upd_same]
        exact hoe
      · refine ⟨o1, by rw [hother i hne]; exact h1, ?_⟩
        rw [qkf9 m p hne]
        cases o1 with
        | row fz ver sz es =>
          refine ⟨Nat.le_refl _, fun z => z, rfl, fun _ => ⟨Nat.le_refl _, rfl, fun g bo cur e hm hg => ⟨cur, ?_, rfl⟩⟩⟩
          rw [hb g (H.lt _ _ g bo h1 hm) (hne_blk i _ g bo hne h1 hm)]
          exact hg
        | map es => exact rfl
        | siter s q => exact rfl
  refine ⟨hev, ?_, ?_, ?_, ?_, ?_, Nat.le_trans H.osz hs, ?_, ?_⟩
  · intro i o1 h1
    rcases hcase i o1 h1 with ⟨hne, k1, k2⟩ | ⟨rfl, rfl⟩
    · rw [k2]
      exact (H.obj i o1 k1).of hev (fun g bo hm => hb g (H.lt i o1 g bo k1 hm) (hne_blk i o1 g bo hne k1 hm))
    · rw [upd_same]; exact hn hev
  · intro i o1 g bo h1 hm
    rcases hcase i o1 h1 with ⟨_, k1, k2⟩ | ⟨rfl, rfl⟩
    · rw [k2] at hm
      exact Nat.lt_of_lt_of_le (H.lt i o1 g bo k1 hm) hs
    · rw [upd_same] at hm
      exact (hp g bo hm).1
  · intro i i' o1 o2 g bo bo' h1 h2 hm hm'
    rcases hcase i o1 h1 with ⟨a0, k1, k2⟩ | ⟨rfl, rfl⟩ <;> rcases hcase i' o2 h2 with ⟨b0, l1, l2⟩ | ⟨rfl, rfl⟩
    · rw [k2] at hm; rw [l2] at hm'
      exact H.inj i i' o1 o2 g bo bo' k1 l1 hm hm'
    · rw [k2] at hm; rw [upd_same] at hm'
      rcases (hp _ _ hm').2 with ⟨b1, hm1⟩ | hge
      · exact absurd rfl (hne_blk i o1 g bo a0 k1 hm g b1 hm1)
      · have := H.lt i o1 g bo k1 hm; omega
    · rw [l2] at hm'; rw [upd_same] at hm
      rcases (hp _ _ hm).2 with ⟨b1, hm1⟩ | hge
      · exact absurd rfl (hne_blk i' o2 g bo' b0 l1 hm' g b1 hm1)
      · have := H.lt i' o2 g bo' l1 hm'; omega
    · rfl
  · intro i o1 g bo h1 hm
    rcases hcase i o1 h1 with ⟨_, k1, k2⟩ | ⟨rfl, rfl⟩
    · rw [k2] at hm; exact H.apart i o1 g bo k1 hm
    · rw [upd_same] at hm
      intro hx
      rcases (hp _ _ hm).2 with ⟨b1, hm1⟩ | hge
      · exact H.apart i o g b1 ho hm1 hx
      · have := H.xlt g hx; omega
  · exact fun b hx => Nat.lt_of_lt_of_le (H.xlt b hx) hs
  · intro b hlt
    refine (hb b (Nat.lt_of_lt_of_le hlt H.osz) fun g bo hm e => ?_).trans (H.old b hlt)
    subst e
    have := H.new id o b bo ho hm
    omega
  · intro i o1 g bo h1 hm
    rcases hcase i o1 h1 with ⟨_, k1, k2⟩ | ⟨rfl, rfl⟩
    · rw [k2] at hm; exact H.new i o1 g bo k1 hm
    · rw [upd_same] at hm
      rcases (hp _ _ hm).2 with ⟨b1, hm1⟩ | hge
      · exact H.new i o g b1 ho hm1
      · exact Nat.le_trans H.osz hge

theorem ORel.fz {E : Nat → Prop} {fz : Bool} {ver sz : Nat} {es : List (List PV)} {p : Option (Nat × Nat)} (h1 : ORel E h m w (.row fz ver sz es) p) (fz' : Bool) : ORel E h m w (.row fz' ver sz es) p := by
  cases p <;> exact h1
def Fz : AObj → AObj → Prop
  | .row fz ver sz es, .row fz' ver' sz' es' => (fz = true → fz' = true) ∧ ver' = ver ∧ sz' = sz ∧ es' = es
  | o, o' => o' = o
structure FzH (h h' : AHeap) : Prop where
  len : h'.length = h.length
  obj : ∀ (id : Nat) (o : AObj), h[id]? = some o → ∃ o', h'[id]? = some o' ∧ Fz o o'
theorem Fz.refl (o : AObj) : Fz o o := by cases o <;> simp [Fz]
theorem Fz.trans {a b c : AObj} (h : Fz a b) (k : Fz b c) : Fz a c := by
  cases a <;> cases b <;> cases c <;> simp_all [Fz]
theorem FzH.refl (h : AHeap) : FzH h h := ⟨rfl, fun _ o ho => ⟨o, ho, Fz.refl o⟩⟩
theorem FzH.trans {a b c : AHeap} (h : FzH a b) (k : FzH b c) : FzH a c :=
  ⟨k.len.trans h.len, fun id o ho => by
    obtain ⟨o1, h1, e1⟩ := h.obj id o ho
    obtain ⟨o2, h2, e2⟩ := k.obj id o1 h1
    exact ⟨o2, h2, e1.trans e2⟩⟩
theorem Fz.freeze (o : AObj) : Fz o o.freeze := by cases o <;> simp [Fz, AObj.freeze]
theorem FzH.modify (h : AHeap) (i : Nat) : FzH h (h.modify i AObj.freeze) := by
  refine ⟨by simp, fun id o ho => ?_⟩
  rw [List.getElem?_modify]
  by_cases e : i = id
  · subst e; simp [ho]; exact Fz.freeze o
  · simp [e, ho]; exact Fz.refl o
theorem FzH.freezeAll (ids : List Nat) : ∀ h : AHeap, FzH h (freezeAll ids h) := by
  induction ids with
  | nil => exact FzH.refl
  | cons i r ih => intro h; exact (FzH.modify h i).trans (ih _)
theorem FzH.back {h h' : AHeap} (f : FzH h h') {id : Nat} {o' : AObj} (ho : h'[id]? = some o') : ∃ o, h[id]? = some o ∧ Fz o o' := by
  have hlt : id < h.length := by rw [← f.len]; exact (List.getElem?_eq_some_iff.1 ho).1
  obtain ⟨o2, h2, e⟩ := f.obj id h[id] (List.getElem?_eq_getElem hlt)
  rw [ho] at h2
  obtain rfl := Option.some.inj h2
  exact ⟨_, List.getElem?_eq_getElem hlt, e⟩

theorem qtZ9 {h' : AHeap} (H : HRel W0 X h m w) (f : FzH h h') : Evo (Ex X h m) h m w (Ex X h' m) h' m w ∧ HRel W0 X h' m w := by
  have hev : Evo (Ex X h m) h m w (Ex X h' m) h' m w := by
    have hown : ∀ (Y : Nat → Prop) b, b < w.heap.size → Ex Y h' m b → Ex Y h m b := by
      intro Y b _ hE
      rcases hE with hx | ⟨id, o', bo, h1, h2, h3⟩
      · exact .inl hx
      · obtain ⟨o, k1, k2⟩ := f.back h1
        refine .inr ⟨id, o, bo, k1, ?_, h3⟩
        cases o <;> cases o' <;> simp_all [Fz, AObj.active]
    refine ⟨rfl, rfl, Outs.refl w, Nat.le_refl _, hown X, fun _ _ _ => rfl, hown _, fun _ _ _ => rfl, fun id o ho => ?_⟩
    · obtain ⟨o', k1, k2⟩ := f.obj id o ho
      refine ⟨o', k1, ?_⟩
      cases o <;> cases o' <;> simp_all [Fz, OEvo]
  refine ⟨hev, fun id o' ho' => ?_, fun id o' g bo ho' hm => ?_, fun id id' o1 o2 g bo bo' h1 h2 hm hm' => ?_, fun id o' g bo ho' hm => ?_, H.xlt, H.osz, H.old, fun id o' g bo ho' hm => ?_⟩
  · obtain ⟨o, k1, k2⟩ := f.back ho'
    have := (H.obj id o k1).of hev (fun _ _ _ => rfl)
    cases o <;> cases o' <;> simp_all [Fz] <;> first | exact this.fz _ | exact this
  · obtain ⟨o, k1, _⟩ := f.back ho'
    exact H.lt id o g bo k1 hm
  · obtain ⟨o, k1, _⟩ := f.back h1
    obtain ⟨p, l1, _⟩ := f.back h2
    exact H.inj id id' o p g bo bo' k1 l1 hm hm'
  · obtain ⟨o, k1, _⟩ := f.back ho'
    exact H.apart id o g bo k1 hm
  · obtain ⟨o, k1, _⟩ := f.back ho'
    exact H.new id o g bo k1 hm
end
end Go.Abs

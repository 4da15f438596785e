import Derived.Test.YtfjgfcnhklopdaaDoorSbb2
set_option maxHeartbeats 400000
set_option linter.unusedVariables false
set_option linter.unusedSimpArgs false
namespace Ld.Law
open Go Go.Abs Go.Lib
theorem qtZ9 {V : Type} {k c : Int} {v : V} : ∀ m : List (Int × V), mget (mset m k v) c = if c = k then some v else mget m c := by
  intro m
  induction m with
  | nil => simp only [mset, mget]
  | cons p r ih =>
    simp only [mset]
    by_cases h : k = p.1
    · rw [if_pos h]
      simp only [mget]
      by_cases e : c = k
      · rw [if_pos e, if_pos (by omega)]
      · rw [if_neg e, if_neg (by omega), if_neg (by omega)]
    · rw [if_neg h]
      simp only [mget]
      rw [ih]
      by_cases e : c = k
      · rw [if_neg (by omega), if_pos e, if_pos e]
      · rw [if_neg e, if_neg e]
theorem qqx9 {t : List Int} (ht : Small t) (hlow : ∀ c ∈ t, -1048576 ≤ c) : ∃ l, qga9 t = some l ∧ (∀ v, v ∈ l ↔ ∃ c ∈ t, c < 0 ∧ v = -1 - c) ∧ l.length ≤ 1048576 := by
  unfold Small at ht
  have key : ∀ (n i : Nat) (m : List (Int × Int)) (o : List Int), i + n = t.length → (∀ c, (mget m c).isSome = true ↔ c ∈ t.take i ∧ c < 0) → (∀ v, v ∈ o ↔ ∃ c ∈ t.take i, c < 0 ∧ v = -1 - c) → o.length ≤ i →
      ∃ a m' o', wh (qci9 t [] t (t.length : Int)) ((i : Int), m, o) = some (a, m', o') ∧ (∀ v, v ∈ o' ↔ ∃ c ∈ t, c < 0 ∧ v = -1 - c) ∧ o'.length ≤ 1048576 := by
    intro n
    induction n with
    | zero =>
      intro i m o hi h1 h2 h3
      have e : t.take i = t := List.take_of_length_le (by omega)
      rw [e] at h2
      exact ⟨_, _, _, qo9 (r := ((i : Int), m, o)) (by simp only [qci9]; rw [if_neg (by omega)]), h2, by omega⟩
    | succ n ih =>
      intro i m o hi h1 h2 h3
      have hlt : i < t.length := by omega
      have hx : t[i]? = some t[i] := List.getElem?_eq_getElem hlt
      have htk : t.take (i + 1) = t.take i ++ [t[i]] := by rw [List.take_add_one, hx]; rfl
      have hlo := hlow _ (List.getElem_mem hlt)
      have hw : w64 ((i : Int) + 1) = ((i + 1 : Nat) : Int) := by rw [qu9 (by omega) (by omega)]; omega
      have same : (t[i] < 0 → t[i] ∈ t.take i) → qci9 t [] t (t.length : Int) ((i : Int), m, o) = some (.inl (((i + 1 : Nat) : Int), m, o)) →
          ∃ a m' o', wh (qci9 t [] t (t.length : Int)) ((i : Int), m, o) = some (a, m', o') ∧ (∀ v, v ∈ o' ↔ ∃ c ∈ t, c < 0 ∧ v = -1 - c) ∧ o'.length ≤ 1048576 := by
        intro hin step
        rw [qQ9 step]
        refine ih (i + 1) m o (by omega) (fun c => ?_) (fun v => ?_) (by omega)
        · rw [h1, htk, List.mem_append, List.mem_singleton]
          constructor
          · exact fun h => ⟨.inl h.1, h.2⟩
          · rintro ⟨h | h, hc⟩
            · exact ⟨h, hc⟩
            · subst h; exact ⟨hin hc, hc⟩
        · rw [h2, htk]
          constructor
          · rintro ⟨c, hc, h⟩; exact ⟨c, List.mem_append_left _ hc, h⟩
          · rintro ⟨c, hc, h⟩
            rcases List.mem_append.1 hc with hc | hc
            · exact ⟨c, hc, h⟩
            · rw [List.mem_singleton] at hc; subst hc; exact ⟨_, hin h.1, h⟩
      cases hg : mget m t[i] with
      | some x2 =>
        have hs := (h1 t[i]).1 (by rw [hg]; rfl)
        refine same (fun _ => hs.1) ?_
        simp only [qci9]
        rw [if_pos (by omega), qD9 hx]
        simp only [Option.bind_some, hg, hw]
        rw [if_pos hs.2]
      | none =>
        by_cases hn : t[i] < 0
        · have step : qci9 t [] t (t.length : Int) ((i : Int), m, o) = some (.inl (((i + 1 : Nat) : Int), mset m t[i] (i : Int), o ++ [-1 - t[i]])) := by
            simp only [qci9]
            rw [if_pos (by omega), qD9 hx]
            simp only [Option.bind_some, hg, hw]
            rw [if_pos hn, if_pos (by omega), qu9 (by omega) (by omega)]
          rw [qQ9 step]
          refine ih (i + 1) _ _ (by omega) (fun c => ?_) (fun v => ?_) (by simp; omega)
          · rw [qtZ9, htk, List.mem_append, List.mem_singleton]
            by_cases e : c = t[i]
            · rw [if_pos e]; subst e; exact ⟨fun _ => ⟨.inr rfl, hn⟩, fun _ => rfl⟩
            · rw [if_neg e, h1]; exact ⟨fun h => ⟨.inl h.1, h.2⟩, fun h => ⟨h.1.resolve_right e, h.2⟩⟩
          · rw [List.mem_append, List.mem_singleton, h2, htk]
            constructor
            · rintro (⟨c, hc, h⟩ | h)
              · exact ⟨c, List.mem_append_left _ hc, h⟩
              · exact ⟨t[i], List.mem_append_right _ (List.mem_singleton.2 rfl), hn, h⟩
            · rintro ⟨c, hc, h⟩
              rcases List.mem_append.1 hc with hc | hc
              · exact .inl ⟨c, hc, h⟩
              · rw [List.mem_singleton] at hc; subst hc; exact .inr h.2
        · refine same (fun h => absurd h hn) ?_
          simp only [qci9]
          rw [if_pos (by omega), qD9 hx]
          simp only [Option.bind_some, hg, hw]
          rw [if_neg hn]
  obtain ⟨a, m', o', hh, h1, h2⟩ := key t.length 0 [] [] (by omega) (fun c => by simp [mget]) (fun v => by simp) (by simp)
  rw [Int.natCast_zero] at hh
  exact ⟨o', by simp only [qga9, hh, Option.bind_some], h1, h2⟩
theorem qru9 {l : List Int} {v : Int} (hl : l.length ≤ 1048576) : qbP9 l v = some (decide (v ∈ l)) := by
  have := qgV9 (step := qbn9 l v (l.length : Int)) (l := l) (g := fun i x => if decide (v = x) = true then some (Sum.inl (i : Int) : Int ⊕ Int) else none) (fin := .inr (l.length : Int)) (fun i x hx => ?_) ?_
  · simp only [qbP9, qcP9, this]
    rw [qhS9 (fun x : Int => decide (v = x)) (fun i => (Sum.inl (i : Int) : Int ⊕ Int)) _ (fun i x => rfl)]
    cases hf : l.findIdx? fun x => decide (v = x) with
    | none =>
      have : v ∉ l := fun h => by
        have := List.findIdx?_eq_none_iff.1 hf v h
        simp at this
      simp [this]
    | some k =>
      have : v ∈ l := by
        obtain ⟨hk, h1, _⟩ := List.findIdx?_eq_some_iff_getElem.1 hf
        have : v = l[k] := by simpa using h1
        rw [this]; exact List.getElem_mem hk
      simp [this]
  · have hlt := (List.getElem?_eq_some_iff.1 hx).1
    simp only [qbn9]
    rw [if_pos (by omega), qD9 hx]
    simp only [Option.bind_some]
    by_cases h : v = x
    · simp [h]
    · simp [h, qu9 (n := (i : Int) + 1) (by omega) (by omega)]
  · simp only [qbn9]; rw [if_neg (by omega)]
structure RuleOK (sig : List Symbol) (r : Rule) : Prop where
  tl : TOK sig r.L
  tr : TOK sig r.R
  ll : r.L.length ≤ 512
  rl : r.R.length ≤ 512
  head : ∃ c, r.L[0]? = some c ∧ 0 ≤ c
  vars : ∀ c ∈ r.R, c < 0 → c ∈ r.L
theorem qqS9 {sig : List Symbol} {t : List Int} (hA : qz9 sig = some 0) (ht : Small t) : qfx9 sig t = some (qB9 sig t) := by
  unfold Small at ht
  unfold qfx9
  rw [if_pos]
  refine ⟨by omega, List.all_eq_true.2 fun s hs => decide_eq_true (by have := qeY9 hA s hs; omega)⟩
theorem qxm9 {sig : List Symbol} {r : Rule} (hA : qz9 sig = some 0) (hL : Small r.L) (hR : Small r.R) : ∃ e, qbW9 sig r = some e ∧ (e = 0 ↔ RuleOK sig r) := by
  simp only [qbW9, qqS9 hA hL, qqS9 hA hR, Option.bind_some]
  by_cases h1 : qB9 sig r.L = 0
  rotate_left
  · rw [if_neg h1]; exact ⟨_, rfl, fun h => absurd h h1, fun h => absurd (qev9 h.tl) h1⟩
  rw [if_pos h1]
  by_cases h2 : qB9 sig r.R = 0
  rotate_left
  · rw [if_neg h2]; exact ⟨_, rfl, fun h => absurd h h2, fun h => absurd (qev9 h.tr) h2⟩
  rw [if_pos h2]
  by_cases h3 : 512 < max (r.L.length : Int) (r.R.length : Int)
  · rw [if_pos h3]; exact ⟨_, rfl, fun h => absurd h (by decide), fun h => by have := h.ll; have := h.rl; omega⟩
  rw [if_neg h3]
  have t1 := qht9 h1
  have t2 := qht9 h2
  have hne : r.L ≠ [] := fun e => by rw [e] at t1; simp [rdT] at t1
  obtain ⟨c, q, hcq⟩ := List.exists_cons_of_ne_nil hne
  have h0 : r.L[0]? = some c := by rw [hcq]; rfl
  have hi : idx r.L 0 = some c := qD9 (i := 0) h0
  rw [hi]
  simp only [Option.bind_some]
  by_cases h4 : c < 0
  · rw [if_pos h4]; exact ⟨_, rfl, fun h => absurd h (by decide), fun h => by
      obtain ⟨d, e1, e2⟩ := h.head
      rw [h0] at e1; cases e1; omega⟩
  rw [if_neg h4]
  obtain ⟨u, hu, hu1, hu2⟩ := qqx9 hL (qgC9 h1)
  obtain ⟨v, hv, hv1, hv2⟩ := qqx9 hR (qgC9 h2)
  rw [hu, hv]
  simp only [Option.bind_some]
  have := qgV9 (step := qdz9 sig r (qB9 sig r.L) (qB9 sig r.R) u v (v.length : Int) r.L r.R) (l := v) (g := fun _ x => if x ∈ u then none else some (Sum.inl 72 : Int ⊕ Int)) (fin := .inr (v.length : Int)) (fun i x hx => ?_) ?_
  · rw [h1, h2] at this
    rw [h1, h2, this]
    have hall : (∀ x ∈ v, x ∈ u) ↔ ∀ d ∈ r.R, d < 0 → d ∈ r.L := by
      constructor
      · intro h d hd hneg
        have := h (-1 - d) ((hv1 _).2 ⟨d, hd, hneg, rfl⟩)
        obtain ⟨e, he, _, h3⟩ := (hu1 _).1 this
        have : d = e := by omega
        rwa [this]
      · intro h x hx
        obtain ⟨d, hd, hneg, rfl⟩ := (hv1 _).1 hx
        exact (hu1 _).2 ⟨d, h d hd hneg, hneg, rfl⟩
    cases hf : qbp9 (fun _ x => if x ∈ u then none else some (Sum.inl 72 : Int ⊕ Int)) 0 v with
    | none =>
      refine ⟨0, rfl, fun _ => ⟨t1, t2, by omega, by omega, ⟨c, h0, by omega⟩, hall.1 fun x hx => ?_⟩, fun _ => rfl⟩
      obtain ⟨i, hi⟩ := List.getElem?_of_mem hx
      have := (qhT9 v 0).1 hf i x hi
      by_cases hxu : x ∈ u
      · exact hxu
      · rw [if_neg hxu] at this; cases this
    | some y =>
      have hy : y = .inl 72 := by
        have : ∀ (l : List Int) (k : Nat), qbp9 (fun _ x => if x ∈ u then none else some (Sum.inl 72 : Int ⊕ Int)) k l = some y → y = .inl 72 := by
          intro l
          induction l with
          | nil => intro k h; cases h
          | cons a l ih =>
            intro k h
            simp only [qbp9] at h
            by_cases hau : a ∈ u
            · rw [if_pos hau] at h; exact ih _ h
            · rw [if_neg hau] at h; cases h; rfl
        exact this v 0 hf
      subst hy
      refine ⟨72, rfl, fun h => absurd h (by decide), fun h => ?_⟩
      have hn : qbp9 (fun _ x => if x ∈ u then none else some (Sum.inl 72 : Int ⊕ Int)) 0 v = none := (qhT9 v 0).2 fun i x hx => by rw [if_pos (hall.2 h.vars x (List.mem_of_getElem? hx))]
      rw [hn] at hf; cases hf
  · have hlt := (List.getElem?_eq_some_iff.1 hx).1
    simp only [qdz9]
    rw [if_pos (by omega), qD9 hx]
    simp only [Option.bind_some, qru9 hu2]
    by_cases h : x ∈ u
    · simp [h, qu9 (n := (i : Int) + 1) (by omega) (by omega)]
    · simp [h]
  · simp only [qdz9]; rw [if_neg (by omega)]
end Ld.Law
namespace Ld.Law
open Go Go.Abs Go.Lib
def sufB (s : Symbol) : Bool := decide (1 ≤ s.Name.size) && decide (s.Name.extract (s.Name.size - 1) s.Name.size = ({ data := #[35] } : ByteArray))
theorem qyq9 {s : Symbol} (h : s.Name.size < 4611686018427387904) : qdY9 s = some (sufB s) := by
  have e1 : (({ data := #[35] } : ByteArray).size : Int) = 1 := rfl
  simp only [qdY9, qep9, qbI9, e1]
  by_cases c : (1 : Int) ≤ (s.Name.size : Int)
  · rw [if_pos c, qu9 (by omega) (by omega)]
    unfold cutBA
    rw [if_pos (by omega)]
    simp only [Option.bind_some, sufB]
    have : ((s.Name.size : Int) - 1).toNat = s.Name.size - 1 := by omega
    rw [this, Int.toNat_natCast, decide_eq_true (show 1 ≤ s.Name.size by omega), Bool.true_and]
  · rw [if_neg c]
    simp only [Option.bind_some, sufB]
    rw [decide_eq_false (show ¬ 1 ≤ s.Name.size by omega), Bool.false_and]
theorem quE9 {l : List Symbol} (hS : SigOK l) (hl : l.length < 4611686018427387904) : qq9 l = some (l.any sufB) := by
  have := qgV9 (step := ql9 l (l.length : Int)) (l := l) (g := fun i x => if sufB x = true then some (Sum.inl (i : Int) : Int ⊕ Int) else none) (fin := .inr (l.length : Int)) (fun i x hx => ?_) ?_
  · simp only [qq9, qy9, this]
    rw [qhS9 sufB (fun i => (Sum.inl (i : Int) : Int ⊕ Int)) _ (fun i x => rfl)]
    cases hf : l.findIdx? sufB with
    | none =>
      have : l.any sufB = false := List.any_eq_false.2 fun x hx => by simpa using List.findIdx?_eq_none_iff.1 hf x hx
      rw [this]; rfl
    | some k =>
      have : l.any sufB = true := by
        obtain ⟨hk, h1, _⟩ := List.findIdx?_eq_some_iff_getElem.1 hf
        exact List.any_eq_true.2 ⟨_, List.getElem_mem hk, h1⟩
      rw [this]; simp
  · have hlt := (List.getElem?_eq_some_iff.1 hx).1
    simp only [ql9]
    rw [if_pos (by omega), qD9 hx]
    simp only [Option.bind_some, qyq9 (hS x (List.mem_of_getElem? hx))]
    cases sufB x
    · simp [qu9 (n := (i : Int) + 1) (by omega) (by omega)]
    · simp
  · simp only [ql9]; rw [if_neg (by omega)]
def SysSmall (s : System) : Prop := SigOK s.Sig ∧ s.Rules.length ≤ 1048576 ∧ ∀ r ∈ s.Rules, Small r.L ∧ Small r.R
structure SysR (s : System) : Prop where
  sg : qz9 s.Sig = some 0
  few : s.Sig.length ≤ 64
  suf : s.Sig.any sufB = false
  many : s.Rules.length ≤ 64
  rules : ∀ r ∈ s.Rules, RuleOK s.Sig r
theorem qvV9 {sig : List Symbol} (hS : SigOK sig) : ∃ e, qfk9 sig = some e ∧ (e = 0 ↔ qz9 sig = some 0 ∧ sig.length ≤ 64 ∧ sig.any sufB = false) := by
  obtain ⟨e, he⟩ := qfL9 sig hS
  simp only [qfk9, he, Option.bind_some]
  by_cases h0 : e = 0
  rotate_left
  · rw [if_neg h0]; exact ⟨_, rfl, fun h => absurd h h0, fun h => absurd (oiA h.1) h0⟩
  subst h0
  rw [if_pos rfl]
  by_cases h1 : 64 < (sig.length : Int)
  · rw [if_pos h1]; exact ⟨_, rfl, fun h => absurd h (by decide), fun h => by have := h.2.1; omega⟩
  rw [if_neg h1, quE9 hS (by omega)]
  simp only [Option.bind_some]
  cases h2 : sig.any sufB
  · exact ⟨0, by simp, fun _ => ⟨by first | exact trivial | exact he, by omega, rfl⟩, fun _ => rfl⟩
  · exact ⟨34, by simp, fun h => absurd h (by decide), fun h => by cases h.2.2⟩
theorem qyK9 {s : System} (hS : SysSmall s) : ∃ x, qfp9 s = some x ∧ (x.1 = 0 ↔ SysR s) := by
  obtain ⟨e, he, hz⟩ := qvV9 hS.1
  simp only [qfp9, he, Option.bind_some]
  by_cases h0 : e = 0
  rotate_left
  · rw [if_neg h0]; exact ⟨_, rfl, fun h => absurd h h0, fun h => absurd (hz.2 ⟨h.sg, h.few, h.suf⟩) h0⟩
  rw [if_pos h0]
  obtain ⟨z1, z2, z3⟩ := hz.1 h0
  subst h0
  by_cases h1 : 64 < (s.Rules.length : Int)
  · rw [if_pos h1]; exact ⟨_, rfl, fun h => absurd h (by decide), fun h => by have := h.many; omega⟩
  rw [if_neg h1]
  have ru : ∀ r ∈ s.Rules, ∃ e, qbW9 s.Sig r = some e ∧ (e = 0 ↔ RuleOK s.Sig r) := fun r hr => qxm9 z1 (hS.2.2 r hr).1 (hS.2.2 r hr).2
  have := qgV9 (step := qds9 s 0 s.Rules (s.Rules.length : Int) s.Sig s.Rules) (l := s.Rules) (g := fun i r => if (qbW9 s.Sig r).getD 0 = 0 then none else some (Sum.inl ((qbW9 s.Sig r).getD 0, (i : Int)) : (Int × Int) ⊕ Int)) (fin := .inr (s.Rules.length : Int)) (fun i r hr => ?_) ?_
  · rw [this]
    cases hf : qbp9 (fun i r => if (qbW9 s.Sig r).getD 0 = 0 then none else some (Sum.inl ((qbW9 s.Sig r).getD 0, ((i : Nat) : Int)) : (Int × Int) ⊕ Int)) 0 s.Rules with
    | none =>
      refine ⟨(0, 0), rfl, fun _ => ⟨z1, z2, z3, by omega, fun r hr => ?_⟩, fun _ => rfl⟩
      obtain ⟨i, hi⟩ := List.getElem?_of_mem hr
      have := (qhT9 s.Rules 0).1 hf i r hi
      obtain ⟨e, he, hq⟩ := ru r hr
      rw [he, Option.getD_some] at this
      by_cases h : e = 0
      · exact hq.1 h
      · rw [if_neg h] at this; cases this
    | some y =>
      have : ∀ (l : List Rule) (k : Nat), (∀ r ∈ l, r ∈ s.Rules) → qbp9 (fun i r => if (qbW9 s.Sig r).getD 0 = 0 then none else some (Sum.inl ((qbW9 s.Sig r).getD 0, ((i : Nat) : Int)) : (Int × Int) ⊕ Int)) k l = some y → ∃ c i, y = .inl (c, i) ∧ c ≠ 0 ∧ ∃ r ∈ s.Rules, qbW9 s.Sig r = some c := by
        intro l
        induction l with
        | nil => intro k _ h; cases h
        | cons a l ih =>
          intro k hm h
          simp only [qbp9] at h
          obtain ⟨e, he, hq⟩ := ru a (hm a (List.mem_cons_self ..))
          rw [he, Option.getD_some] at h
          by_cases hau : e = 0
          · rw [if_pos hau] at h; exact ih _ (fun r hr => hm r (List.mem_cons_of_mem _ hr)) h
          · rw [if_neg hau] at h; cases h; exact ⟨e, _, rfl, hau, a, hm a (List.mem_cons_self ..), he⟩
      obtain ⟨c, i, rfl, hc, r, hr, he2⟩ := this s.Rules 0 (fun r h => h) hf
      refine ⟨(c, i), rfl, fun h => absurd h hc, fun h => ?_⟩
      obtain ⟨e, he, hq⟩ := ru r hr
      rw [he2] at he
      cases he
      exact absurd (hq.2 (h.rules r hr)) hc
  · have hlt := (List.getElem?_eq_some_iff.1 hr).1
    obtain ⟨e, he, hq⟩ := ru r (List.mem_of_getElem? hr)
    simp only [qds9]
    rw [if_pos (by omega), qD9 hr]
    simp only [Option.bind_some, he, Option.getD_some]
    by_cases h : e = 0
    · rw [if_pos h, if_pos h, qu9 (n := (i : Int) + 1) (by omega) (by omega)]; rfl
    · rw [if_neg h, if_neg h]
  · simp only [qds9]; rw [if_neg (by omega)]
theorem qhx9 {s : System} {t : List Int} (hS : SysSmall s) (ht : Small t) : ∃ e, qeQ9 s t = some e ∧ (e = 0 ↔ SysR s ∧ TOK s.Sig t) := by
  have htl : t.length < 17179869184 := by unfold Small at ht; omega
  obtain ⟨x, hx, hz⟩ := qyK9 hS
  simp only [qeQ9, hx, Option.bind_some, qkd9 hS.1 htl]
  by_cases h : x.1 = 0
  · rw [if_pos h]
    refine ⟨_, rfl, fun h2 => ⟨hz.1 h, qht9 (qjf9 hS.1 htl h2).2⟩, fun h2 => qkb9 htl h2.1.sg (qev9 h2.2)⟩
  · rw [if_neg h]
    exact ⟨_, rfl, fun h2 => absurd h2 h, fun h2 => absurd (hz.2 h2.1) h⟩
theorem qyx9 {σ ρ : Type} {step step' : σ → Option (σ ⊕ ρ)} (h : ∀ s r, step s = some r → step' s = some r) : ∀ (n : Nat) (s : σ) (r : ρ), itW step n s = some r → itW step' n s = some r := by
  intro n
  induction n with
  | zero => intro s r h; simp [itW] at h
  | succ n ih =>
    intro s r hr
    simp only [itW] at hr ⊢
    cases hs : step s with
    | none => rw [hs] at hr; cases hr
    | some x =>
      rw [hs] at hr
      rw [h _ _ hs]
      cases x with
      | inl s' => exact ih _ _ hr
      | inr q => exact hr
theorem wh_le {σ ρ : Type} {step step' : σ → Option (σ ⊕ ρ)} (h : ∀ s r, step s = some r → step' s = some r) {s : σ} {r : ρ} (hr : wh step s = some r) : wh step' s = some r := by
  obtain ⟨n, hn⟩ := qhI9 hr
  exact Go.Abs.wh_of (qyx9 h n s r hn)
def Mon {α β : Type} (F : (α → Option β) → α → Option β) : Prop := ∀ g g' : α → Option β, (∀ a r, g a = some r → g' a = some r) → ∀ a r, F g a = some r → F g' a = some r
theorem qxy9 {α β : Type} {F : (α → Option β) → α → Option β} (hF : Mon F) : ∀ n a r, fixN F n a = some r → fixN F (n + 1) a = some r := by
  intro n
  induction n with
  | zero => intro a r h; cases h
  | succ n ih => intro a r h; exact hF _ _ ih a r h
theorem qqR9 {α β : Type} {F : (α → Option β) → α → Option β} (hF : Mon F) {n : Nat} {a : α} {r : β} (h : fixN F n a = some r) : ∀ k, fixN F (n + k) a = some r := by
  intro k
  induction k with
  | zero => exact h
  | succ k ih => exact qxy9 hF _ _ _ ih
theorem qqC9 {α β : Type} {F : (α → Option β) → α → Option β} (hF : Mon F) {n : Nat} {a : α} {r : β} (h : fixN F n a = some r) : fixO F a = some r := by
  refine qsp9 ⟨n, r, h⟩ fun m r' h' => ?_
  have h1 := qqR9 hF h m
  have h2 := qqR9 hF h' n
  rw [Nat.add_comm m n, h1] at h2
  exact (oiA h2).symm
end Ld.Law
namespace Ld.Law
open Go Go.Abs Go.Lib
def enR (sig : List Symbol) (t : List Int) (i k : Nat) : Nat := t.length - (rdT sig (t.drop i) k).1.length
theorem qfe9 {sig : List Symbol} {t : List Int} {i k : Nat} (hi : i ≤ t.length) : t.drop (enR sig t i k) = (rdT sig (t.drop i) k).1 ∧ i ≤ enR sig t i k ∧ enR sig t i k ≤ t.length := by
  obtain ⟨f, hf⟩ := qsa9 sig (t.drop i) k
  have hl := congrArg List.length hf
  rw [List.length_drop, List.length_append] at hl
  have e : enR sig t i k = i + f.length := by unfold enR; omega
  refine ⟨?_, by omega, by omega⟩
  rw [e, ← List.drop_drop]
  conv => lhs; rw [hf]
  exact List.drop_left
theorem qoo9 {sig : List Symbol} {t : List Int} {i : Nat} (hi : i ≤ t.length) : enR sig t i 0 = i := by
  unfold enR; rw [qgd9, List.length_drop]; omega
theorem qma9 {sig : List Symbol} {t : List Int} {i m : Nat} (hi : i ≤ t.length) (h : (rdT sig (t.drop i) (m + 1)).2 = 0) : (rdT sig (t.drop i) 1).2 = 0 ∧ i < enR sig t i 1 ∧ (rdT sig (t.drop (enR sig t i 1)) m).2 = 0 ∧ enR sig t (enR sig t i 1) m = enR sig t i (m + 1) := by
  have hadd := qiZ9 sig (t.drop i) 1 m (by rw [Nat.add_comm 1 m]; exact h)
  obtain ⟨d1, d2, d3⟩ := qfe9 (sig := sig) (k := 1) hi
  have hlt : i < enR sig t i 1 := by
    rcases Nat.lt_or_ge i (enR sig t i 1) with c | c
    · exact c
    · exfalso
      have e : enR sig t i 1 = i := by omega
      rw [e] at d1
      have h1 := qji9 hadd.1
      have : first sig (t.drop i) = [] := by
        unfold first rest
        rw [← d1, Nat.sub_self, List.take_zero]
      rw [this] at h1
      simp [TOK, rdT] at h1
  refine ⟨hadd.1, hlt, ?_, ?_⟩
  · rw [d1, hadd.2, Nat.add_comm 1 m]; exact h
  · show t.length - _ = t.length - _
    rw [d1, hadd.2, Nat.add_comm 1 m]
theorem qvS9 : Mon (fun (rec : Int × (List Symbol) × (List Int) × (List Int) → Option (Int × (List Symbol) × (List Int) × (List Int))) (p : Int × (List Symbol) × (List Int) × (List Int)) => qcu9 rec p.1 p.2.1 p.2.2.1 p.2.2.2) := by
  intro g g' hg a r h
  simp only [qcu9] at h ⊢
  obtain ⟨x1, e1, h⟩ := bsome h
  rw [e1]; simp only [Option.bind_some]
  by_cases c : 0 ≤ x1
  · rw [if_pos c] at h ⊢
    obtain ⟨x2, e2, h⟩ := bsome h
    rw [e2]; simp only [Option.bind_some]
    obtain ⟨x5, e5, h⟩ := bsome h
    rw [wh_le (fun s r hs => ?_) e5]
    · exact h
    · obtain ⟨s7, s23, b2, b1, o3⟩ := s
      simp only [qcy9] at hs ⊢
      by_cases c : s23 < x2.Arity
      · rw [if_pos c] at hs ⊢
        obtain ⟨x3, e3, hs⟩ := bsome hs
        rw [hg _ _ e3]; exact hs
      · rw [if_neg c] at hs ⊢; exact hs
  · rw [if_neg c] at h ⊢; exact h
theorem qwh9 {sig : List Symbol} {t : List Int} (hA : Ars sig) (ht : t.length ≤ 1048576) : ∀ (k i : Nat) (out : List Int), t.length - i ≤ k → i < t.length → (rdT sig (t.drop i) 1).2 = 0 → out.length = t.length →
    ∃ out', fixN (fun (rec : Int × (List Symbol) × (List Int) × (List Int) → Option (Int × (List Symbol) × (List Int) × (List Int))) (p : Int × (List Symbol) × (List Int) × (List Int)) => qcu9 rec p.1 p.2.1 p.2.2.1 p.2.2.2) k ((i : Int), sig, t, out) = some (((enR sig t i 1 : Nat) : Int), sig, t, out') ∧ out'.length = t.length ∧
      ∀ j, out'[j]? = if i ≤ j ∧ j < enR sig t i 1 then some ((enR sig t j 1 : Nat) : Int) else out[j]? := by
  intro k
  induction k with
  | zero => intro i out h1 h2; omega
  | succ k IH =>
    intro i out hk hlt hr ho
    have hx : t[i]? = some t[i] := List.getElem?_eq_getElem hlt
    have hcons : t.drop i = t[i] :: t.drop (i + 1) := List.drop_eq_getElem_cons hlt
    have hrc := hr
    rw [hcons] at hrc
    simp only [rdT] at hrc
    have hc : ¬ ((sig.length : Int) ≤ t[i] ∨ t[i] < -1048576) := fun hc => by rw [if_pos hc] at hrc; simp at hrc
    rw [if_neg hc, Nat.zero_add] at hrc
    have hen : enR sig t (i + 1) (arOf sig t[i]) = enR sig t i 1 := by
      show t.length - _ = t.length - _
      rw [hcons]
      simp only [rdT]
      rw [if_neg hc, Nat.zero_add]
    have hen2 : i + 1 ≤ enR sig t i 1 ∧ enR sig t i 1 ≤ t.length := by rw [← hen]; exact (qfe9 (by omega)).2
    have hw : w64 ((i : Int) + 1) = ((i + 1 : Nat) : Int) := by rw [qu9 (by omega) (by omega)]; omega
    have hidx : ∀ o : List Int, o.length = t.length → ∃ v, idx o (i : Int) = some v := fun o h => ⟨o[i]'(by omega), qD9 (List.getElem?_eq_getElem (by omega))⟩
    show ∃ out', qcu9 (fixN (fun (rec : Int × (List Symbol) × (List Int) × (List Int) → Option (Int × (List Symbol) × (List Int) × (List Int))) (p : Int × (List Symbol) × (List Int) × (List Int)) => qcu9 rec p.1 p.2.1 p.2.2.1 p.2.2.2) k) (i : Int) sig t out = _ ∧ _
    generalize hrec : fixN (fun (rec : Int × (List Symbol) × (List Int) × (List Int) → Option (Int × (List Symbol) × (List Int) × (List Int))) (p : Int × (List Symbol) × (List Int) × (List Int)) => qcu9 rec p.1 p.2.1 p.2.2.1 p.2.2.2) k = rec at IH ⊢
    simp only [qcu9, qD9 hx, Option.bind_some]
    by_cases hn : 0 ≤ t[i]
    · rw [if_pos hn]
      obtain ⟨c, hcn⟩ : ∃ c : Nat, t[i] = (c : Int) := ⟨t[i].toNat, by omega⟩
      have hcs : c < sig.length := by rw [hcn] at hc; omega
      have hs : sig[c]? = some sig[c] := List.getElem?_eq_getElem hcs
      have hra := hA _ (List.getElem_mem hcs)
      have hao : arOf sig t[i] = sig[c].Arity.toNat := by unfold arOf; rw [if_pos hn, hcn]; simp [hs]
      have kids : ∀ (m j p : Nat) (o : List Int), j + m = arOf sig t[i] → i < p → p ≤ t.length → (rdT sig (t.drop p) m).2 = 0 → o.length = t.length →
          ∃ o', wh (qcy9 rec (i : Int) sig[c].Arity) ((p : Int), (j : Int), sig, t, o) = some (((enR sig t p m : Nat) : Int), ((arOf sig t[i] : Nat) : Int), sig, t, o') ∧ o'.length = t.length ∧
            ∀ q, o'[q]? = if p ≤ q ∧ q < enR sig t p m then some ((enR sig t q 1 : Nat) : Int) else o[q]? := by
        intro m
        induction m with
        | zero =>
          intro j p o hj hp hpl hm hol
          rw [qoo9 hpl]
          refine ⟨o, qo9 ?_, hol, fun q => by rw [if_neg (by omega)]⟩
          simp only [qcy9]
          rw [if_neg (by omega)]
          congr 4
          omega
        | succ m ihm =>
          intro j p o hj hp hpl hm hol
          obtain ⟨f1, f2, f3, f4⟩ := qma9 hpl hm
          have hplt : p < t.length := by have := (qfe9 (sig := sig) (t := t) (i := p) (k := 1) hpl).2.2; omega
          obtain ⟨o1, r1, r2, r3⟩ := IH p o (by omega) hplt f1 hol
          have hel := (qfe9 (sig := sig) (t := t) (i := p) (k := 1) hpl).2.2
          obtain ⟨o2, s1, s2, s3⟩ := ihm (j + 1) (enR sig t p 1) o1 (by omega) (by omega) hel f3 r2
          have hw2 : w64 ((j : Int) + 1) = ((j + 1 : Nat) : Int) := by have := ar_le hA t[i]; rw [qu9 (by omega) (by omega)]; omega
          have step : qcy9 rec (i : Int) sig[c].Arity ((p : Int), (j : Int), sig, t, o) = some (.inl (((enR sig t p 1 : Nat) : Int), ((j + 1 : Nat) : Int), sig, t, o1)) := by
            simp only [qcy9]
            rw [if_pos (by omega), r1]
            simp only [Option.bind_some, hw2]
          rw [qQ9 step]
          rw [f4] at s1
          refine ⟨o2, s1, s2, fun q => ?_⟩
          have hle : enR sig t p 1 ≤ enR sig t p (m + 1) := by rw [← f4]; exact (qfe9 hel).2.1
          rw [s3, r3, f4]
          by_cases q1 : enR sig t p 1 ≤ q ∧ q < enR sig t p (m + 1)
          · rw [if_pos q1, if_pos (by omega)]
          · rw [if_neg q1]
            by_cases q2 : p ≤ q ∧ q < enR sig t p 1
            · rw [if_pos q2, if_pos (by omega)]
            · rw [if_neg q2, if_neg (by omega)]
      have hcx : idx sig t[i] = some sig[c] := by rw [hcn]; exact qD9 hs
      obtain ⟨o1, k1, k2, k3⟩ := kids (arOf sig t[i]) 0 (i + 1) out (by omega) (by omega) (by omega) hrc ho
      rw [hcx]
      simp only [Option.bind_some, hw]
      rw [Int.natCast_zero] at k1
      rw [k1]
      simp only [Option.bind_some]
      obtain ⟨v, hv⟩ := hidx o1 k2
      rw [hv]
      simp only [Option.bind_some]
      rw [hen] at k3 ⊢
      refine ⟨_, rfl, by rw [List.length_set]; exact k2, fun q => ?_⟩
      rw [Int.toNat_natCast, List.getElem?_set]
      by_cases q1 : i = q
      · subst q1
        rw [if_pos rfl, if_pos (by omega), if_pos (by omega)]
      · rw [if_neg q1, k3]
        by_cases q2 : i + 1 ≤ q ∧ q < enR sig t i 1
        · rw [if_pos q2, if_pos (by omega)]
        · rw [if_neg q2, if_neg (by omega)]
    · rw [if_neg hn]
      have ha : arOf sig t[i] = 0 := by unfold arOf; rw [if_neg hn]
      rw [ha, qoo9 (by omega)] at hen
      obtain ⟨v, hv⟩ := hidx out ho
      rw [hv]
      simp only [Option.bind_some, hw]
      rw [← hen]
      refine ⟨_, rfl, by rw [List.length_set]; exact ho, fun q => ?_⟩
      rw [Int.toNat_natCast, List.getElem?_set]
      by_cases q1 : i = q
      · subst q1
        rw [if_pos rfl, if_pos (by omega), if_pos (by omega), hen]
      · rw [if_neg q1, if_neg (by omega)]
theorem qyP9 {sig : List Symbol} : ∀ (l : List Int) (k i : Nat), rdT sig l k = ([], 0) → ∃ j, rdT sig (l.drop i) j = ([], 0) := by
  intro l
  induction l with
  | nil => intro k i h; exact ⟨0, by rw [List.drop_nil]; rfl⟩
  | cons c r ih =>
    intro k i h
    cases i with
    | zero => exact ⟨k, h⟩
    | succ i =>
      cases k with
      | zero => simp [rdT] at h
      | succ k =>
        simp only [rdT] at h
        by_cases hc : (sig.length : Int) ≤ c ∨ c < -1048576
        · rw [if_pos hc] at h; simp at h
        · rw [if_neg hc] at h; exact ih _ i h
theorem TOK.at {sig : List Symbol} {t : List Int} (h : TOK sig t) {i : Nat} (hi : i < t.length) : (rdT sig (t.drop i) 1).2 = 0 := by
  obtain ⟨j, hj⟩ := qyP9 t 1 i h
  have hne : t.drop i ≠ [] := fun e => by have := congrArg List.length e; rw [List.length_drop] at this; simp at this; omega
  obtain ⟨_, _, h1, _⟩ := qvL9 hj hne
  exact h1
theorem TOK.ne {sig : List Symbol} {t : List Int} (h : TOK sig t) : 0 < t.length := by
  cases t with
  | nil => simp [TOK, rdT] at h
  | cons c r => simp
theorem qnQ9 {sig : List Symbol} {t : List Int} (hA : Ars sig) (ht : Small t) (hT : TOK sig t) : qfr9 sig t = some ((List.range t.length).map fun i => ((enR sig t i 1 : Nat) : Int)) := by
  unfold Small at ht
  have hp := hT.ne
  obtain ⟨o, h1, h2, h3⟩ := qwh9 hA ht t.length 0 (List.replicate t.length 0) (by omega) hp (hT.at hp) (by simp)
  have h1' := qqC9 qvS9 h1
  have e0 : enR sig t 0 1 = t.length := by
    show t.length - _ = _
    rw [List.drop_zero, show rdT sig t 1 = ([], 0) from hT]; rfl
  simp only [qfr9]
  rw [if_pos (by omega), if_pos (by omega)]
  unfold qhh9
  rw [Int.toNat_natCast]
  rw [Int.natCast_zero] at h1'
  rw [h1']
  simp only [Option.bind_some]
  congr 1
  apply List.ext_getElem?
  intro j
  rw [h3, e0, List.getElem?_map]
  by_cases hj : j < t.length
  · rw [if_pos (by omega), List.getElem?_range hj]; rfl
  · rw [if_neg (by omega), List.getElem?_eq_none (by simp; omega), List.getElem?_eq_none (by simp; omega)]; rfl
end Ld.Law
namespace Ld.Law
open Go Go.Abs Go.Lib
def metB (sig : List Symbol) (p u : List Int) : Bool := (mat sig p u []).isSome
def hit (s : System) (u : List Int) (i k : Nat) : Option Redex := match s.Rules[k]? with
  | some r => if metB s.Sig r.L u = true then some ⟨(i : Int), (k : Int)⟩ else none
  | none => none
def hits (s : System) (u : List Int) (i n : Nat) : List Redex := (List.range n).filterMap (hit s u i)
theorem qjv9 (s : System) (u : List Int) (i n : Nat) : hits s u i (n + 1) = hits s u i n ++ (hit s u i n).toList := by
  unfold hits
  rw [List.range_succ, List.filterMap_append]
  congr 1
theorem qqY9 (s : System) (u : List Int) (i n : Nat) : (hits s u i n).length ≤ n := by
  have := List.length_filterMap_le (hit s u i) (List.range n)
  rw [List.length_range] at this
  exact this
theorem qqy9 {s : System} {u : List Int} {i n : Nat} {x : Redex} : x ∈ hits s u i n ↔ ∃ k, k < n ∧ ∃ r, s.Rules[k]? = some r ∧ metB s.Sig r.L u = true ∧ x = ⟨(i : Int), (k : Int)⟩ := by
  unfold hits
  rw [List.mem_filterMap]
  constructor
  · rintro ⟨k, hk, h⟩
    unfold hit at h
    split at h
    · rename_i r hr
      split at h
      · rename_i hm; cases h; exact ⟨k, List.mem_range.1 hk, r, hr, hm, rfl⟩
      · cases h
    · cases h
  · rintro ⟨k, hk, r, hr, hm, rfl⟩
    exact ⟨k, List.mem_range.2 hk, by unfold hit; rw [hr]; simp [hm]⟩
theorem qks9 {sig : List Symbol} {p u : List Int} (h0 : qz9 sig = some 0) (hp : TOK sig p) (hu : TOK sig u) (sp : Small p) (su : Small u) : matR sig p u = match mat sig p u [] with | none => ([], false) | some o => (sortB o, true) := by
  unfold Small at sp su
  unfold matR
  rw [if_pos ⟨qkb9 (by omega) h0 (qev9 hp), qkb9 (by omega) h0 (qev9 hu)⟩]
  cases mat sig p u [] <;> rfl
theorem RuleOK.sl {sig : List Symbol} {r : Rule} (h : RuleOK sig r) : Small r.L := by have := h.ll; unfold Small; omega
theorem qwi9 {s : System} (hS : SigOK s.Sig) (hR : SysR s) {u : List Int} (su : Small u) (hT : TOK s.Sig u) {i : Nat} (hi : i ≤ 1048576) {out : List Redex} (ho : out.length ≤ 536870912) : qbN9 s.Sig s.Rules u out (i : Int) = some (true, out ++ hits s u i s.Rules.length) := by
  have hm := hR.many
  have := qni9 (step := qW9 s.Sig s.Rules u s.Rules (s.Rules.length : Int) (i : Int) s.Sig s.Rules) (fun k => ((k : Int), out ++ hits s u i k)) s.Rules.length (r := .inr ((s.Rules.length : Int), out ++ hits s u i s.Rules.length)) (fun k hk => ?_) ?_
  · have h2 : wh (qW9 s.Sig s.Rules u s.Rules (s.Rules.length : Int) (i : Int) s.Sig s.Rules) (0, out) = some (.inr ((s.Rules.length : Int), out ++ hits s u i s.Rules.length)) := by simpa [hits] using this
    simp only [qbN9, h2, Option.bind_some]
  · have hr : s.Rules[k]? = some s.Rules[k] := List.getElem?_eq_getElem hk
    have ok := hR.rules _ (List.getElem_mem hk)
    obtain ⟨c, hc, hc0⟩ := ok.head
    obtain ⟨d, v, hdv⟩ : ∃ d v, u = d :: v := by
      cases hu : u with
      | nil => rw [hu] at hT; exact absurd hT.ne (by simp)
      | cons d v => exact ⟨d, v, rfl⟩
    have hw : w64 ((k : Int) + 1) = ((k + 1 : Nat) : Int) := by rw [qu9 (by omega) (by omega)]; omega
    have hl := qqY9 s u i k
    have ic : idx s.Rules[k].L 0 = some c := qD9 (i := 0) hc
    have id : idx u 0 = some d := by rw [hdv]; rfl
    simp only [qW9]
    rw [if_pos (by omega), qD9 hr]
    simp only [Option.bind_some, ic, id]
    rw [qjv9]
    have hh : hit s u i k = if metB s.Sig s.Rules[k].L u = true then some ⟨(i : Int), (k : Int)⟩ else none := by unfold hit; rw [hr]
    by_cases e : c = d
    · rw [if_pos e, qkK9 hS ok.sl su, qks9 hR.sg ok.tl hT ok.sl su]
      simp only [Option.bind_some]
      cases hma : mat s.Sig s.Rules[k].L u [] with
      | none =>
        have : metB s.Sig s.Rules[k].L u = false := by unfold metB; rw [hma]; rfl
        rw [hh, this]
        simp [hw]
      | some o =>
        have : metB s.Sig s.Rules[k].L u = true := by unfold metB; rw [hma]; rfl
        rw [hh, this]
        simp only [if_true, qgA9]
        rw [if_pos (by rw [List.length_append]; omega)]
        simp [hw]
    · rw [if_neg e]
      have : metB s.Sig s.Rules[k].L u = false := by
        unfold metB
        obtain ⟨q, hq⟩ : ∃ q, s.Rules[k].L = c :: q := by
          cases hL : s.Rules[k].L with
          | nil => rw [hL] at hc; cases hc
          | cons a q => rw [hL] at hc; simp at hc; subst hc; exact ⟨q, rfl⟩
        rw [hq, hdv]
        simp only [mat]
        rw [if_pos hc0, if_neg (fun h => e h.symm)]
        rfl
      rw [hh, this]
      simp [hw]
  · simp only [qW9]; rw [if_neg (by omega)]
def allR (s : System) (t : List Int) (n : Nat) : List Redex := (List.range n).flatMap fun i => hits s (first s.Sig (t.drop i)) i s.Rules.length
theorem qoz9 (s : System) (t : List Int) (n : Nat) : allR s t (n + 1) = allR s t n ++ hits s (first s.Sig (t.drop n)) n s.Rules.length := by
  unfold allR; rw [List.range_succ, List.flatMap_append]; simp
theorem qmN9 {s : System} {t : List Int} (h : s.Rules.length ≤ 64) : ∀ n, (allR s t n).length ≤ 64 * n := by
  intro n
  induction n with
  | zero => simp [allR]
  | succ n ih =>
    rw [qoz9, List.length_append]
    have := qqY9 s (first s.Sig (t.drop n)) n s.Rules.length
    omega
theorem qkI9 {sig : List Symbol} {t : List Int} {i : Nat} (hi : i ≤ t.length) : (t.drop i).take (enR sig t i 1 - i) = first sig (t.drop i) := by
  obtain ⟨d1, d2, d3⟩ := qfe9 (sig := sig) (t := t) (i := i) (k := 1) hi
  unfold first
  congr 1
  rw [List.length_drop]
  have := congrArg List.length d1
  rw [List.length_drop] at this
  unfold rest
  omega
theorem qlg9 {sig : List Symbol} {t : List Int} {i : Nat} : (first sig (t.drop i)).length ≤ t.length := by
  unfold first; rw [List.length_take, List.length_drop]; omega
theorem qnq9 {s : System} {t : List Int} (hS : SysSmall s) (ht : Small t) (hR : SysR s) (hT : TOK s.Sig t) : qek9 s t = some (allR s t t.length) := by
  obtain ⟨e, he, hz⟩ := qhx9 hS ht
  have h0 := hz.2 ⟨hR, hT⟩
  subst h0
  have hA := qeY9 hR.sg
  have hE := qnQ9 hA ht hT
  have ht' := ht
  unfold Small at ht
  simp only [qek9, he, Option.bind_some, if_true, hE]
  have := qni9 (step := qeu9 s t [] ((List.range t.length).map fun i => ((enR s.Sig t i 1 : Nat) : Int)) (((List.range t.length).map fun i => ((enR s.Sig t i 1 : Nat) : Int)).length : Int) s.Sig s.Rules) (fun k => ((k : Int), allR s t k)) t.length (r := ((t.length : Int), allR s t t.length)) (fun k hk => ?_) ?_
  · have h2 : wh (qeu9 s t [] ((List.range t.length).map fun i => ((enR s.Sig t i 1 : Nat) : Int)) (((List.range t.length).map fun i => ((enR s.Sig t i 1 : Nat) : Int)).length : Int) s.Sig s.Rules) (0, []) = some ((t.length : Int), allR s t t.length) := by simpa [allR] using this
    rw [h2]; rfl
  · have hx : ((List.range t.length).map fun i => ((enR s.Sig t i 1 : Nat) : Int))[k]? = some ((enR s.Sig t k 1 : Nat) : Int) := by
      rw [List.getElem?_map, List.getElem?_range hk]; rfl
    obtain ⟨d1, d2, d3⟩ := qfe9 (sig := s.Sig) (t := t) (i := k) (k := 1) (by omega)
    have hc : cutL t (k : Int) ((enR s.Sig t k 1 : Nat) : Int) = some (first s.Sig (t.drop k)) := by rw [qfV9 d2 d3, qkI9 (by omega)]
    have hw : w64 ((k : Int) + 1) = ((k + 1 : Nat) : Int) := by rw [qu9 (by omega) (by omega)]; omega
    have hl := qmN9 (s := s) (t := t) hR.many k
    have hf := qlg9 (sig := s.Sig) (t := t) (i := k)
    simp only [qeu9]
    rw [if_pos (by rw [List.length_map, List.length_range]; omega), qD9 hx]
    simp only [Option.bind_some, hc]
    rw [qwi9 hS.1 hR (by unfold Small; omega) (qji9 (hT.at hk)) (by omega) (by omega)]
    simp only [Option.bind_some, hw, qoz9]
  · simp only [qeu9]; rw [if_neg (by rw [List.length_map, List.length_range]; omega)]
theorem qug9 {s : System} {t : List Int} (hS : SysSmall s) (ht : Small t) (h : ¬ (SysR s ∧ TOK s.Sig t)) : qek9 s t = some [] := by
  obtain ⟨e, he, hz⟩ := qhx9 hS ht
  simp only [qek9, he, Option.bind_some]
  rw [if_neg (fun h0 => h (hz.1 h0))]
theorem qwa9 {s : System} {t : List Int} {n : Nat} {x : Redex} : x ∈ allR s t n ↔ ∃ i, i < n ∧ x ∈ hits s (first s.Sig (t.drop i)) i s.Rules.length := by
  unfold allR
  rw [List.mem_flatMap]
  exact ⟨fun ⟨i, h1, h2⟩ => ⟨i, List.mem_range.1 h1, h2⟩, fun ⟨i, h1, h2⟩ => ⟨i, List.mem_range.2 h1, h2⟩⟩
theorem qhW9 {sig : List Symbol} {t : List Int} (h : TOK sig t) : first sig (t.drop 0) = t := by
  have := (qlD9 h []).1
  rwa [List.append_nil] at this
theorem qpz9 {s : System} {t : List Int} (hT : TOK s.Sig t) {x : Redex} (h0 : x.At = 0) : x ∈ allR s t t.length ↔ ∃ (k : Nat) (r : Rule), s.Rules[k]? = some r ∧ metB s.Sig r.L t = true ∧ x = ⟨0, (k : Int)⟩ := by
  rw [qwa9]
  constructor
  · rintro ⟨i, hi, h⟩
    obtain ⟨k, hk, r, hr, hm, rfl⟩ := qqy9.1 h
    have : i = 0 := by simpa using h0
    subst this
    rw [qhW9 hT] at hm
    exact ⟨k, r, hr, hm, rfl⟩
  · rintro ⟨k, r, hr, hm, rfl⟩
    refine ⟨0, hT.ne, qqy9.2 ⟨k, (List.getElem?_eq_some_iff.1 hr).1, r, hr, ?_, rfl⟩⟩
    rw [qhW9 hT]; exact hm
end Ld.Law
namespace Ld.Law
open Go Go.Abs Go.Lib
theorem qqz9 {s : List Bind} {c : Int} (hL : s.length ≤ 1048576) (h0 : c < 0) (h1 : -1048576 ≤ c) : qgn9 s c = some (bf s (-1 - c)) := by
  have hv : w64 (-1 - c) = -1 - c := qu9 (by omega) (by omega)
  have := qgV9 (step := qed9 s c [] s (s.length : Int)) (l := s) (g := fun _ b => if b.Var = -1 - c then some (Sum.inl b.T : List Int ⊕ Int) else none) (fin := .inr (s.length : Int)) (fun i b hb => ?_) ?_
  · simp only [qgn9, this, Option.bind_some]
    have e : ∀ (l : List Bind) (k : Nat), qbp9 (fun _ b => if b.Var = -1 - c then some (Sum.inl b.T : List Int ⊕ Int) else none) k l = (bnd? l (-1 - c)).map fun u => Sum.inl u := by
      intro l
      induction l with
      | nil => intro k; rfl
      | cons a r ih =>
        intro k
        simp only [qbp9, bnd?, List.find?_cons]
        by_cases h : a.Var = -1 - c
        · rw [if_pos h, decide_eq_true h]; rfl
        · rw [if_neg h, decide_eq_false h]; exact ih _
    rw [e]
    unfold bf
    cases bnd? s (-1 - c) with
    | none => simp only [Option.map_none, Option.getD_none]; congr 2; omega
    | some u => rfl
  · have hi := (List.getElem?_eq_some_iff.1 hb).1
    simp only [qed9]
    rw [if_pos (by omega), qD9 hb, qu9 (n := (i : Int) + 1) (by omega) (by omega), hv]
    simp only [Option.bind_some]
    by_cases h : b.Var = -1 - c
    · rw [if_pos h, if_pos h]
    · rw [if_neg h, if_neg h]; rfl
  · simp only [qed9]; rw [if_neg (by omega)]
theorem qwR9 {s : System} {t : List Int} {x : Redex} {e1 e3 f1 f2 : Int} {b : List Bind} {tt : Bool} {left : Nat} {R L o : List Int} {sg : List Symbol} {ru : List Rule} (hB : BOK b) (hR : R.length ≤ 512) (hlow : ∀ c ∈ R, -1048576 ≤ c) (ho : o.length ≤ 1048576) (hl : left ≤ 1048576) : ∀ (n j : Nat), j + n = R.length → (0 < j → o.length + (appF (bf b) (R.take j)).length + left ≤ 512) → 0 < R.length →
    ∃ y, wh (qeR9 s t x [] e1 e3 b tt (left : Int) R (R.length : Int) sg ru f1 f2 L R) ((j : Int), o ++ appF (bf b) (R.take j)) = some y ∧ (if o.length + (appF (bf b) R).length + left ≤ 512 then ∃ a, y = .inr (a, o ++ appF (bf b) R) else y = .inl ([], 2)) := by
  intro n
  induction n with
  | zero =>
    intro j hj hc hp
    have e : R.take j = R := List.take_of_length_le (by omega)
    rw [e] at hc ⊢
    exact ⟨_, qo9 (r := .inr ((j : Int), o ++ appF (bf b) R)) (by simp only [qeR9]; rw [if_neg (by omega)]), by rw [if_pos (hc (by omega))]; exact ⟨_, rfl⟩⟩
  | succ n ih =>
    intro j hj hc hp
    have hlt : j < R.length := by omega
    have hx : R[j]? = some R[j] := List.getElem?_eq_getElem hlt
    have htk : R.take (j + 1) = R.take j ++ [R[j]] := by rw [List.take_add_one, hx]; rfl
    have hlo := hlow _ (List.getElem_mem hlt)
    have hw : w64 ((j : Int) + 1) = ((j + 1 : Nat) : Int) := by rw [qu9 (by omega) (by omega)]; omega
    have hsn := qou9 (bf b) (R.take j) R[j]
    rw [← htk] at hsn
    have hbl := qus9 hB (-1 - R[j])
    have hcur : (appF (bf b) (R.take j)).length ≤ 512 := by
      rcases Nat.eq_zero_or_pos j with h | h
      · subst h; simp [appF]
      · have := hc h; omega
    have step : qeR9 s t x [] e1 e3 b tt (left : Int) R (R.length : Int) sg ru f1 f2 L R ((j : Int), o ++ appF (bf b) (R.take j)) = if o.length + (appF (bf b) (R.take (j + 1))).length + left ≤ 512 then some (.inl (((j + 1 : Nat) : Int), o ++ appF (bf b) (R.take (j + 1)))) else some (.inr (.inl ([], 2))) := by
      have fin : ∀ piece : List Int, piece = (if 0 ≤ R[j] then [R[j]] else bf b (-1 - R[j])) → piece.length ≤ 1048576 → (if 512 < w64 (w64 (((o ++ appF (bf b) (R.take j)).length : Int) + (piece.length : Int)) + (left : Int)) then some (Sum.inr (Sum.inl (([] : List Int), (2 : Int))) : (Int × List Int) ⊕ (List Int × Int) ⊕ (Int × List Int)) else if ((o ++ appF (bf b) (R.take j)).length + piece.length) * 8 ≤ 140737488355328 then some (.inl (((j + 1 : Nat) : Int), o ++ appF (bf b) (R.take j) ++ piece)) else none) =
          if o.length + (appF (bf b) (R.take (j + 1))).length + left ≤ 512 then some (.inl (((j + 1 : Nat) : Int), o ++ appF (bf b) (R.take (j + 1)))) else some (.inr (.inl ([], 2))) := by
        intro piece hpc hpl
        rw [hsn, ← hpc, List.length_append, List.length_append]
        rw [qu9 (n := (((o.length + (appF (bf b) (R.take j)).length : Nat) : Int) + (piece.length : Int))) (by omega) (by omega), qu9 (by omega) (by omega)]
        by_cases hcc : o.length + ((appF (bf b) (R.take j)).length + piece.length) + left ≤ 512
        · rw [if_neg (by omega), if_pos (by omega), if_pos hcc, List.append_assoc]
        · rw [if_pos (by omega), if_neg hcc]
      simp only [qeR9]
      rw [if_pos (by omega), qD9 hx]
      simp only [Option.bind_some, hw]
      by_cases h0 : R[j] < 0
      · rw [if_pos h0, qqz9 hB.1 h0 hlo]
        simp only [Option.bind_some]
        exact fin (bf b (-1 - R[j])) (by rw [if_neg (by omega)]) hbl
      · rw [if_neg h0]
        exact fin [R[j]] (by rw [if_pos (by omega)]) (by simp)
    have htot : (appF (bf b) (R.take (j + 1))).length ≤ (appF (bf b) R).length := by
      conv => rhs; rw [← List.take_append_drop (j + 1) R]
      rw [qkE9, List.length_append]; omega
    by_cases hcc : o.length + (appF (bf b) (R.take (j + 1))).length + left ≤ 512
    · rw [if_pos hcc] at step
      rw [qQ9 step]
      exact ih (j + 1) (by omega) (fun _ => hcc) hp
    · rw [if_neg hcc] at step
      exact ⟨_, qo9 step, by rw [if_neg (by omega)]⟩
noncomputable def doR (s : System) (t : List Int) (i : Nat) (r : Rule) : List Int × Int := match mat s.Sig r.L (first s.Sig (t.drop i)) [] with
  | none => ([], 80)
  | some o => if i + (appF (bf (sortB o)) r.R).length + (t.length - enR s.Sig t i 1) ≤ 512 then (t.take i ++ appF (bf (sortB o)) r.R ++ t.drop (enR s.Sig t i 1), 0) else ([], 2)
theorem quZ9 {sig : List Symbol} {p u : List Int} {o : List Bind} (h : MatOK sig p u o) (hp : Small p) (hu : Small u) : BOK (sortB o) := by
  unfold Small at hp hu
  have hperm := qiI9 o
  exact ⟨by rw [hperm.length_eq]; have := h.len; omega, fun b hb => by have := h.tlen (hperm.mem_iff.1 hb); omega⟩
theorem Do_ok {s : System} {t : List Int} (hS : SysSmall s) (ht : Small t) (hR : SysR s) (hT : TOK s.Sig t) {i k : Nat} {r : Rule} (hi : i < t.length) (hr : s.Rules[k]? = some r) : qcm9 s t ⟨(i : Int), (k : Int)⟩ = some (doR s t i r) := by
  obtain ⟨e, he, hz⟩ := qhx9 hS ht
  have h0 := hz.2 ⟨hR, hT⟩
  subst h0
  have hA := qeY9 hR.sg
  have hE := qnQ9 hA ht hT
  have ht' := ht
  unfold Small at ht
  have hk := (List.getElem?_eq_some_iff.1 hr).1
  have ok := hR.rules r (List.mem_of_getElem? hr)
  have hm := hR.many
  obtain ⟨d1, d2, d3⟩ := qfe9 (sig := s.Sig) (t := t) (i := i) (k := 1) (by omega)
  have hx : ((List.range t.length).map fun i => ((enR s.Sig t i 1 : Nat) : Int))[i]? = some ((enR s.Sig t i 1 : Nat) : Int) := by
    rw [List.getElem?_map, List.getElem?_range hi]; rfl
  have hc : cutL t (i : Int) ((enR s.Sig t i 1 : Nat) : Int) = some (first s.Sig (t.drop i)) := by rw [qfV9 d2 d3, qkI9 (by omega)]
  have hf := qlg9 (sig := s.Sig) (t := t) (i := i)
  have su : Small (first s.Sig (t.drop i)) := by unfold Small; omega
  have hu := qji9 (hT.at hi)
  simp only [qcm9, he, Option.bind_some, if_true]
  rw [if_neg (by omega), if_neg (by omega), if_neg (by omega), if_neg (by omega), hE]
  simp only [Option.bind_some, qD9 hx, qD9 hr, hc, qkK9 hS.1 ok.sl su, qks9 hR.sg ok.tl hu ok.sl su]
  unfold doR
  cases hma : mat s.Sig r.L (first s.Sig (t.drop i)) [] with
  | none => simp
  | some o =>
    have hO := matOK ok.tl hu hma
    have hB := quZ9 hO ok.sl su
    have hc0 : cutL t 0 (i : Int) = some (t.take i) := by
      have := qfV9 (l := t) (i := 0) (k := i) (by omega) (by omega)
      simpa using this
    have hleft : w64 ((t.length : Int) - ((enR s.Sig t i 1 : Nat) : Int)) = ((t.length - enR s.Sig t i 1 : Nat) : Int) := by rw [qu9 (by omega) (by omega)]; omega
    have htl : (t.take i).length = i := by rw [List.length_take]; omega
    have hcl : cutL t ((enR s.Sig t i 1 : Nat) : Int) (t.length : Int) = some (t.drop (enR s.Sig t i 1)) := by
      rw [qfV9 d3 (Nat.le_refl _), List.take_of_length_le (by rw [List.length_drop]; omega)]
    simp only [if_true, hc0, Option.bind_some, hleft]
    rw [if_pos (by rw [htl]; omega)]
    obtain ⟨y, hy, h⟩ := qwR9 (s := s) (t := t) (x := ⟨(i : Int), (k : Int)⟩) (e1 := 0) (e3 := ((enR s.Sig t i 1 : Nat) : Int)) (f1 := (i : Int)) (f2 := (k : Int)) (b := sortB o) (tt := true) (left := t.length - enR s.Sig t i 1) (R := r.R) (L := r.L) (o := t.take i) (sg := s.Sig) (ru := s.Rules) hB ok.rl (qgC9 (qev9 ok.tr)) (by omega) (by omega) r.R.length 0 (by omega) (fun h => absurd h (by omega)) ok.tr.ne
    rw [List.take_zero, show appF (bf (sortB o)) [] = [] from rfl, List.append_nil, Int.natCast_zero] at hy
    rw [hy]
    simp only [Option.bind_some]
    rw [htl] at h
    by_cases hcc : i + (appF (bf (sortB o)) r.R).length + (t.length - enR s.Sig t i 1) ≤ 512
    · rw [if_pos hcc] at h ⊢
      obtain ⟨a, rfl⟩ := h
      simp only [hcl, Option.bind_some]
      rw [if_pos (by rw [List.length_append, htl, List.length_drop]; omega)]
    · rw [if_neg hcc] at h ⊢
      subst h; rfl
end Ld.Law
namespace Ld.Law
open Go Go.Abs Go.Lib
theorem quW9 {s : System} (hS : SigOK s.Sig) (hR : SysR s) {u : List Int} (su : Small u) (hT : TOK s.Sig u) {i : Nat} (hi : i ≤ 1048576) (f0 f1 : Int) : qbb9 s.Sig s.Rules u f0 f1 (i : Int) = some (match (hits s u i s.Rules.length).head? with | none => (true, f0, f1) | some x => (false, x.At, x.Rule)) := by
  have hm := hR.many
  have key : ∀ (n k : Nat), k + n = s.Rules.length → hits s u i k = [] → wh (qr9 s.Sig s.Rules u s.Rules (s.Rules.length : Int) (i : Int) s.Sig s.Rules) ((k : Int), f0, f1) = some (match (hits s u i s.Rules.length).head? with | none => .inr ((s.Rules.length : Int), f0, f1) | some x => .inl (false, x.At, x.Rule)) := by
    intro n
    induction n with
    | zero =>
      intro k hk he
      have : k = s.Rules.length := by omega
      subst this
      rw [he]
      exact qo9 (by simp only [qr9]; rw [if_neg (by omega)]; rfl)
    | succ n ih =>
      intro k hk he
      have hk' : k < s.Rules.length := by omega
      have hr : s.Rules[k]? = some s.Rules[k] := List.getElem?_eq_getElem hk'
      have ok := hR.rules _ (List.getElem_mem hk')
      obtain ⟨c, hc, hc0⟩ := ok.head
      obtain ⟨d, v, hdv⟩ : ∃ d v, u = d :: v := by
        cases hu : u with
        | nil => rw [hu] at hT; exact absurd hT.ne (by simp)
        | cons d v => exact ⟨d, v, rfl⟩
      have hw : w64 ((k : Int) + 1) = ((k + 1 : Nat) : Int) := by rw [qu9 (by omega) (by omega)]; omega
      have ic : idx s.Rules[k].L 0 = some c := qD9 (i := 0) hc
      have id : idx u 0 = some d := by rw [hdv]; rfl
      have hh : hit s u i k = if metB s.Sig s.Rules[k].L u = true then some ⟨(i : Int), (k : Int)⟩ else none := by unfold hit; rw [hr]
      have no : metB s.Sig s.Rules[k].L u = false → qr9 s.Sig s.Rules u s.Rules (s.Rules.length : Int) (i : Int) s.Sig s.Rules ((k : Int), f0, f1) = some (.inl (((k + 1 : Nat) : Int), f0, f1)) → wh (qr9 s.Sig s.Rules u s.Rules (s.Rules.length : Int) (i : Int) s.Sig s.Rules) ((k : Int), f0, f1) = some (match (hits s u i s.Rules.length).head? with | none => .inr ((s.Rules.length : Int), f0, f1) | some x => .inl (false, x.At, x.Rule)) := by
        intro hb step
        rw [qQ9 step]
        exact ih (k + 1) (by omega) (by rw [qjv9, he, hh, hb]; rfl)
      by_cases e : c = d
      · cases hma : mat s.Sig s.Rules[k].L u [] with
        | none =>
          refine no (by unfold metB; rw [hma]; rfl) ?_
          simp only [qr9]
          rw [if_pos (by omega), qD9 hr]
          simp only [Option.bind_some, ic, id]
          rw [if_pos e, qkK9 hS ok.sl su, qks9 hR.sg ok.tl hT ok.sl su, hma]
          simp [hw]
        | some o =>
          have hb : metB s.Sig s.Rules[k].L u = true := by unfold metB; rw [hma]; rfl
          have hd : (hits s u i s.Rules.length).head? = some ⟨(i : Int), (k : Int)⟩ := by
            have : ∀ m, k + 1 + m ≤ s.Rules.length → ∃ l, hits s u i (k + 1 + m) = ⟨(i : Int), (k : Int)⟩ :: l := by
              intro m
              induction m with
              | zero => intro _; exact ⟨[], by rw [Nat.add_zero, qjv9, he, hh, hb]; rfl⟩
              | succ m ihm =>
                intro hml
                obtain ⟨l, hl⟩ := ihm (by omega)
                exact ⟨l ++ (hit s u i (k + 1 + m)).toList, by rw [← Nat.add_assoc, qjv9, hl]; rfl⟩
            obtain ⟨l, hl⟩ := this (s.Rules.length - (k + 1)) (by omega)
            rw [show k + 1 + (s.Rules.length - (k + 1)) = s.Rules.length by omega] at hl
            rw [hl]; rfl
          rw [hd]
          refine qo9 ?_
          simp only [qr9]
          rw [if_pos (by omega), qD9 hr]
          simp only [Option.bind_some, ic, id]
          rw [if_pos e, qkK9 hS ok.sl su, qks9 hR.sg ok.tl hT ok.sl su, hma]
          simp [qeH9]
      · have hb : metB s.Sig s.Rules[k].L u = false := by
          unfold metB
          obtain ⟨q, hq⟩ : ∃ q, s.Rules[k].L = c :: q := by
            cases hL : s.Rules[k].L with
            | nil => rw [hL] at hc; cases hc
            | cons a q => rw [hL] at hc; simp at hc; subst hc; exact ⟨q, rfl⟩
          rw [hq, hdv]
          simp only [mat]
          rw [if_pos hc0, if_neg (fun h => e h.symm)]
          rfl
        refine no hb ?_
        simp only [qr9]
        rw [if_pos (by omega), qD9 hr]
        simp only [Option.bind_some, ic, id]
        rw [if_neg e, hw]
  have h2 := key s.Rules.length 0 (by omega) rfl
  rw [Int.natCast_zero] at h2
  simp only [qbb9, h2, Option.bind_some]
  cases (hits s u i s.Rules.length).head? <;> rfl
theorem quu9 : Mon (fun (rec : Int × (List Symbol) × (List Rule) × (List Int) × (List Int) × Int × Int → Option (Bool × (List Symbol) × (List Rule) × (List Int) × (List Int) × Int × Int)) (p : Int × (List Symbol) × (List Rule) × (List Int) × (List Int) × Int × Int) => qcb9 rec p.1 p.2.1 p.2.2.1 p.2.2.2.1 p.2.2.2.2.1 p.2.2.2.2.2.1 p.2.2.2.2.2.2) := by
  intro g g' hg a r h
  simp only [qcb9] at h ⊢
  obtain ⟨x5, e5, h⟩ := bsome h
  rw [wh_le (fun s r hs => ?_) e5]
  · exact h
  · obtain ⟨s8, a1, a2, a3, a4, a5, a6⟩ := s
    simp only [qbK9] at hs ⊢
    obtain ⟨x1, e1, hs⟩ := bsome hs
    rw [e1]; simp only [Option.bind_some]
    by_cases c : s8 < x1
    · rw [if_pos c] at hs ⊢
      obtain ⟨x2, e2, hs⟩ := bsome hs
      rw [hg _ _ e2]; exact hs
    · rw [if_neg c] at hs ⊢; exact hs
def seekR (s : System) (t : List Int) : Nat → Nat → Nat → Option Redex
  | 0, _, _ => none
  | f + 1, p, e => if p < e then (match seekR s t f (p + 1) (enR s.Sig t p 1) with
    | some x => some x
    | none => match (hits s (first s.Sig (t.drop p)) p s.Rules.length).head? with
      | some x => some x
      | none => seekR s t f (enR s.Sig t p 1) e) else none
theorem quh9 {s : System} {t : List Int} (hS : SigOK s.Sig) (hR : SysR s) (ht : Small t) (hT : TOK s.Sig t) : ∀ (k i : Nat) (f0 f1 : Int), i < t.length → enR s.Sig t i 1 - i ≤ k →
    ∀ f, enR s.Sig t i 1 - i ≤ f + 1 → fixN (fun (rec : Int × (List Symbol) × (List Rule) × (List Int) × (List Int) × Int × Int → Option (Bool × (List Symbol) × (List Rule) × (List Int) × (List Int) × Int × Int)) (p : Int × (List Symbol) × (List Rule) × (List Int) × (List Int) × Int × Int) => qcb9 rec p.1 p.2.1 p.2.2.1 p.2.2.2.1 p.2.2.2.2.1 p.2.2.2.2.2.1 p.2.2.2.2.2.2) k ((i : Int), s.Sig, s.Rules, t, (List.range t.length).map (fun i => ((enR s.Sig t i 1 : Nat) : Int)), f0, f1) =
      some (match (match seekR s t f (i + 1) (enR s.Sig t i 1) with | some x => some x | none => (hits s (first s.Sig (t.drop i)) i s.Rules.length).head?) with
        | some x => (true, s.Sig, s.Rules, t, (List.range t.length).map (fun i => ((enR s.Sig t i 1 : Nat) : Int)), x.At, x.Rule)
        | none => (false, s.Sig, s.Rules, t, (List.range t.length).map (fun i => ((enR s.Sig t i 1 : Nat) : Int)), f0, f1)) := by
  have hA := qeY9 hR.sg
  have ht' := ht
  unfold Small at ht
  generalize hE : (List.range t.length).map (fun i => ((enR s.Sig t i 1 : Nat) : Int)) = E
  have hx : ∀ p, p < t.length → idx E (p : Int) = some ((enR s.Sig t p 1 : Nat) : Int) := fun p hp => qD9 (by rw [← hE, List.getElem?_map, List.getElem?_range hp]; rfl)
  intro k
  induction k with
  | zero =>
    intro i f0 f1 hi hk
    have := (qma9 (sig := s.Sig) (t := t) (i := i) (m := 0) (by omega) (hT.at hi)).2.1
    omega
  | succ k IH =>
    intro i f0 f1 hi hk f hf
    show qcb9 (fixN (fun (rec : Int × (List Symbol) × (List Rule) × (List Int) × (List Int) × Int × Int → Option (Bool × (List Symbol) × (List Rule) × (List Int) × (List Int) × Int × Int)) (p : Int × (List Symbol) × (List Rule) × (List Int) × (List Int) × Int × Int) => qcb9 rec p.1 p.2.1 p.2.2.1 p.2.2.2.1 p.2.2.2.2.1 p.2.2.2.2.2.1 p.2.2.2.2.2.2) k) (i : Int) s.Sig s.Rules t E f0 f1 = _
    generalize hrec : fixN (fun (rec : Int × (List Symbol) × (List Rule) × (List Int) × (List Int) × Int × Int → Option (Bool × (List Symbol) × (List Rule) × (List Int) × (List Int) × Int × Int)) (p : Int × (List Symbol) × (List Rule) × (List Int) × (List Int) × Int × Int) => qcb9 rec p.1 p.2.1 p.2.2.1 p.2.2.2.1 p.2.2.2.2.1 p.2.2.2.2.2.1 p.2.2.2.2.2.2) k = rec at IH ⊢
    have hrx := hT.at hi
    have hgt := (qma9 (sig := s.Sig) (t := t) (i := i) (m := 0) (by omega) hrx).2.1
    have hel := (qfe9 (sig := s.Sig) (t := t) (i := i) (k := 1) (by omega)).2.2
    have hw : w64 ((i : Int) + 1) = ((i + 1 : Nat) : Int) := by rw [qu9 (by omega) (by omega)]; omega
    -- the loop over the arguments
    have loop : ∀ (m p j f : Nat), enR s.Sig t i 1 - p ≤ m → enR s.Sig t i 1 - p ≤ f → i < p → p ≤ enR s.Sig t i 1 → (rdT s.Sig (t.drop p) j).2 = 0 → enR s.Sig t p j = enR s.Sig t i 1 →
        wh (qbK9 rec (i : Int) (i : Int)) ((p : Int), s.Sig, s.Rules, t, E, f0, f1) = some (match seekR s t f p (enR s.Sig t i 1) with
          | some x => .inl (true, s.Sig, s.Rules, t, E, x.At, x.Rule)
          | none => .inr (((enR s.Sig t i 1 : Nat) : Int), s.Sig, s.Rules, t, E, f0, f1)) := by
      intro m
      induction m with
      | zero =>
        intro p j f hm hf hip hpe h1 h2
        have : p = enR s.Sig t i 1 := by omega
        have e0 : seekR s t f p (enR s.Sig t i 1) = none := by
          cases f with
          | zero => rfl
          | succ f => simp only [seekR]; rw [if_neg (by omega)]
        rw [e0]
        refine qo9 ?_
        simp only [qbK9, hx i hi, Option.bind_some]
        rw [if_neg (by omega), this]
      | succ m ihm =>
        intro p j f hm hf hip hpe h1 h2
        by_cases hlt : p < enR s.Sig t i 1
        rotate_left
        · have : p = enR s.Sig t i 1 := by omega
          have e0 : seekR s t f p (enR s.Sig t i 1) = none := by
            cases f with
            | zero => rfl
            | succ f => simp only [seekR]; rw [if_neg (by omega)]
          rw [e0]
          refine qo9 ?_
          simp only [qbK9, hx i hi, Option.bind_some]
          rw [if_neg (by omega), this]
        have hpl : p < t.length := by omega
        cases j with
        | zero => rw [qoo9 (by omega)] at h2; omega
        | succ j =>
          obtain ⟨q1, q2, q3, q4⟩ := qma9 (by omega) h1
          have hpe2 : enR s.Sig t p 1 ≤ enR s.Sig t i 1 := by rw [← h2, ← q4]; exact (qfe9 (by have := (qfe9 (sig := s.Sig) (t := t) (i := p) (k := 1) (by omega)).2.2; omega)).2.1
          cases f with
          | zero => omega
          | succ f =>
            have r1 := IH p f0 f1 hpl (by omega) f (by omega)
            have step : qbK9 rec (i : Int) (i : Int) ((p : Int), s.Sig, s.Rules, t, E, f0, f1) = some (match (match seekR s t f (p + 1) (enR s.Sig t p 1) with | some x => some x | none => (hits s (first s.Sig (t.drop p)) p s.Rules.length).head?) with
                | some x => .inr (.inl (true, s.Sig, s.Rules, t, E, x.At, x.Rule))
                | none => .inl (((enR s.Sig t p 1 : Nat) : Int), s.Sig, s.Rules, t, E, f0, f1)) := by
              simp only [qbK9, hx i hi, Option.bind_some]
              rw [if_pos (by omega), r1]
              simp only [Option.bind_some]
              cases (match seekR s t f (p + 1) (enR s.Sig t p 1) with | some x => some x | none => (hits s (first s.Sig (t.drop p)) p s.Rules.length).head?) with
              | some x => simp
              | none => simp [hx p hpl]
            have hs : seekR s t (f + 1) p (enR s.Sig t i 1) = match (match seekR s t f (p + 1) (enR s.Sig t p 1) with | some x => some x | none => (hits s (first s.Sig (t.drop p)) p s.Rules.length).head?) with
                | some x => some x
                | none => seekR s t f (enR s.Sig t p 1) (enR s.Sig t i 1) := by
              simp only [seekR]
              rw [if_pos hlt]
              cases seekR s t f (p + 1) (enR s.Sig t p 1) with
              | some x => rfl
              | none => cases (hits s (first s.Sig (t.drop p)) p s.Rules.length).head? <;> rfl
            rw [hs]
            cases hz : (match seekR s t f (p + 1) (enR s.Sig t p 1) with | some x => some x | none => (hits s (first s.Sig (t.drop p)) p s.Rules.length).head?) with
            | some x =>
              rw [hz] at step
              exact qo9 step
            | none =>
              rw [hz] at step
              rw [qQ9 step]
              exact ihm (enR s.Sig t p 1) j f (by omega) (by omega) (by omega) hpe2 q3 (by rw [q4, h2])
    have hx0 : t[i]? = some t[i] := List.getElem?_eq_getElem hi
    have hcons : t.drop i = t[i] :: t.drop (i + 1) := List.drop_eq_getElem_cons hi
    have hrc := hrx
    rw [hcons] at hrc
    simp only [rdT] at hrc
    have hc : ¬ ((s.Sig.length : Int) ≤ t[i] ∨ t[i] < -1048576) := fun hc => by rw [if_pos hc] at hrc; simp at hrc
    rw [if_neg hc, Nat.zero_add] at hrc
    have hen : enR s.Sig t (i + 1) (arOf s.Sig t[i]) = enR s.Sig t i 1 := by
      show t.length - _ = t.length - _
      rw [hcons]
      simp only [rdT]
      rw [if_neg hc, Nat.zero_add]
    have l1 := loop (enR s.Sig t i 1 - (i + 1)) (i + 1) (arOf s.Sig t[i]) f (by omega) (by omega) (by omega) (by omega) hrc hen
    simp only [qcb9, hw]
    rw [l1]
    simp only [Option.bind_some]
    cases hz : seekR s t f (i + 1) (enR s.Sig t i 1) with
    | some x => rfl
    | none =>
      have hcut : cutL t (i : Int) ((enR s.Sig t i 1 : Nat) : Int) = some (first s.Sig (t.drop i)) := by rw [qfV9 (by omega) hel, qkI9 (by omega)]
      have hfl := qlg9 (sig := s.Sig) (t := t) (i := i)
      simp only [hx i hi, Option.bind_some, hcut]
      rw [quW9 hS hR (by unfold Small; omega) (qji9 hrx) (by omega)]
      simp only [Option.bind_some]
      cases (hits s (first s.Sig (t.drop i)) i s.Rules.length).head? <;> rfl
theorem qqM9 {s : System} {t : List Int} (hS : SysSmall s) (ht : Small t) (hR : SysR s) (hT : TOK s.Sig t) : qer9 s t = some (match seekR s t t.length 0 t.length with | some x => (x, true) | none => (⟨0, 0⟩, false)) := by
  obtain ⟨e, he, hz⟩ := qhx9 hS ht
  have h0 := hz.2 ⟨hR, hT⟩
  subst h0
  have hA := qeY9 hR.sg
  have hE := qnQ9 hA ht hT
  have hp := hT.ne
  have e0 : enR s.Sig t 0 1 = t.length := by
    show t.length - _ = _
    rw [List.drop_zero, show rdT s.Sig t 1 = ([], 0) from hT]; rfl
  obtain ⟨f, hf⟩ : ∃ f, t.length = f + 1 := ⟨t.length - 1, by omega⟩
  have h1 := qqC9 quu9 (quh9 hS.1 hR ht hT t.length 0 0 0 hp (by omega) f (by omega))
  rw [Int.natCast_zero] at h1
  simp only [qer9, he, Option.bind_some, if_true, hE]
  unfold qgH9
  rw [h1]
  have hs : seekR s t t.length 0 t.length = match (match seekR s t f (0 + 1) (enR s.Sig t 0 1) with | some x => some x | none => (hits s (first s.Sig (t.drop 0)) 0 s.Rules.length).head?) with
      | some x => some x
      | none => none := by
    conv => lhs; rw [hf]
    simp only [seekR]
    rw [← hf, if_pos hp, e0]
    have e1 : seekR s t f t.length t.length = none := by
      cases f with
      | zero => rfl
      | succ f => simp only [seekR]; rw [if_neg (by omega)]
    rw [e1]
    cases seekR s t f (0 + 1) t.length with
    | some x => rfl
    | none => cases (hits s (first s.Sig (t.drop 0)) 0 s.Rules.length).head? <;> rfl
  rw [hs]
  simp only [Option.bind_some]
  cases (match seekR s t f (0 + 1) (enR s.Sig t 0 1) with | some x => some x | none => (hits s (first s.Sig (t.drop 0)) 0 s.Rules.length).head?) <;> rfl
end Ld.Law
namespace Ld.Law
open Go Go.Abs Go.Lib
theorem qoC9 (β γ : Int → List Int) (p : List Int) : appF β (appF γ p) = appF (fun v => appF β (γ v)) p := by
  induction p with
  | nil => rfl
  | cons c r ih =>
    rw [qdO9, qdO9, qkE9, ih]
    by_cases h : 0 ≤ c
    · rw [if_pos h, if_pos h]
      simp [appF, h]
    · rw [if_neg h, if_neg h]
theorem qwO9 {sig : List Symbol} {s : List Bind} (hk : SOK sig s) {c : Int} (h1 : c < 0) (h2 : -1048576 ≤ c) : TOK sig (bf s (-1 - c)) := by
  unfold bf
  cases hb : bnd? s (-1 - c) with
  | some u => obtain ⟨b, hbm, _, rfl⟩ := qiY9 hb; exact hk.ok b hbm
  | none =>
    rw [Option.getD_none, show -1 - (-1 - c) = c by omega]
    unfold TOK
    simp only [rdT]
    rw [if_neg (by omega)]
    have : arOf sig c = 0 := by unfold arOf; rw [if_neg (by omega)]
    rw [this]; rfl
theorem qlW9 {sig : List Symbol} {s : List Bind} (hk : SOK sig s) {t : List Int} (ht : TOK sig t) : TOK sig (appF (bf s) t) :=
  qsf9 t 1 ht (fun c hc hneg => qwO9 hk hneg (qgC9 (qev9 ht) c hc))
theorem qsn9 {sig : List Symbol} {b : List Bind} (hk : SOK sig b) {p t : List Int} {o : List Bind} (hp : TOK sig p) (ht : TOK sig t) (hm : mat sig p t [] = some o) :
    ∃ o', mat sig p (appF (bf b) t) [] = some o' ∧ MatOK sig p (appF (bf b) t) o' ∧ ∀ c ∈ p, c < 0 → bf o' (-1 - c) = appF (bf b) (bf o (-1 - c)) := by
  have hO := matOK hp ht hm
  have e : appF (bf b) t = appF (fun v => appF (bf b) (bf o v)) p := by
    conv => lhs; rw [hO.eq]
    exact qoC9 _ _ _
  obtain ⟨o', m1, m2⟩ := qqm9 (sig := sig) (β := fun v => appF (bf b) (bf o v)) p 1 [] hp (fun c hc hneg => qlW9 hk (hO.tok hc hneg)) (fun v u hvu => by simp [bnd?] at hvu)
  rw [← e] at m1
  have hO' := matOK hp (qlW9 hk ht) m1
  refine ⟨o', m1, hO', fun c hc hneg => ?_⟩
  obtain ⟨w, hw⟩ := hO'.has c hc hneg
  have := m2 _ _ hw
  unfold bf at this ⊢
  rw [hw, Option.getD_some]
  exact this.symm
theorem qon9 {sig : List Symbol} {p t : List Int} {o : List Bind} (h : MatOK sig p t o) (v : Int) : bf (sortB o) v = bf o v := (qvE9 (qiI9 o).symm h.nodup v).symm
theorem qwb9 {sig : List Symbol} {b : List Bind} (hk : SOK sig b) {p t : List Int} (hp : TOK sig p) (ht : TOK sig t) (hm : metB sig p t = true) : metB sig p (appF (bf b) t) = true := by
  unfold metB at hm ⊢
  cases h : mat sig p t [] with
  | none => rw [h] at hm; cases hm
  | some o =>
    obtain ⟨o', m, _⟩ := qsn9 hk hp ht h
    rw [m]; rfl
theorem qwL9 {s : System} {b : List Bind} (hS : SigOK s.Sig) (hR : SysR s) (hB : BOK b) (hk : SOK s.Sig b) {t : List Int} (ht : TOK s.Sig t) {r : Rule} (hr : RuleOK s.Sig r) (h1 : (doR s t 0 r).2 = 0) (h2 : (doR s (appF (bf b) t) 0 r).2 = 0) (hmet : metB s.Sig r.L t = true) :
    Small (doR s t 0 r).1 ∧ (doR s (appF (bf b) t) 0 r).1.length ≤ 512 ∧ qeN9 s.Sig b (doR s t 0 r).1 = ((doR s (appF (bf b) t) 0 r).1, 0) := by
  have hu := qlW9 hk ht
  have e1 : enR s.Sig t 0 1 = t.length := by
    show t.length - _ = _
    rw [List.drop_zero, show rdT s.Sig t 1 = ([], 0) from ht]; rfl
  have e2 : enR s.Sig (appF (bf b) t) 0 1 = (appF (bf b) t).length := by
    show (appF (bf b) t).length - _ = _
    rw [List.drop_zero, show rdT s.Sig (appF (bf b) t) 1 = ([], 0) from hu]; rfl
  unfold metB at hmet
  cases hm : mat s.Sig r.L t [] with
  | none => rw [hm] at hmet; cases hmet
  | some o =>
    have hO := matOK hr.tl ht hm
    obtain ⟨o', m, hO', hb⟩ := qsn9 hk hr.tl ht hm
    have d1 : doR s t 0 r = if (appF (bf (sortB o)) r.R).length ≤ 512 then (appF (bf (sortB o)) r.R, 0) else ([], 2) := by
      unfold doR
      rw [qhW9 ht, hm]
      simp only [e1, Nat.zero_add, Nat.sub_self, Nat.add_zero, List.take_zero, List.nil_append, List.drop_length, List.append_nil]
    have d2 : doR s (appF (bf b) t) 0 r = if (appF (bf (sortB o')) r.R).length ≤ 512 then (appF (bf (sortB o')) r.R, 0) else ([], 2) := by
      unfold doR
      rw [qhW9 hu, m]
      simp only [e2, Nat.zero_add, Nat.sub_self, Nat.add_zero, List.take_zero, List.nil_append, List.drop_length, List.append_nil]
    by_cases c1 : (appF (bf (sortB o)) r.R).length ≤ 512
    rotate_left
    · rw [d1, if_neg c1] at h1; exact absurd h1 (by decide)
    by_cases c2 : (appF (bf (sortB o')) r.R).length ≤ 512
    rotate_left
    · rw [d2, if_neg c2] at h2; exact absurd h2 (by decide)
    rw [d1, d2, if_pos c1, if_pos c2]
    have eq : appF (bf b) (appF (bf (sortB o)) r.R) = appF (bf (sortB o')) r.R := by
      rw [qoC9]
      refine qtT9 fun c hc hneg => ?_
      rw [qon9 hO, qon9 hO', hb c (hr.vars c hc hneg) hneg]
    have hX : TOK s.Sig (appF (bf (sortB o)) r.R) := qsf9 r.R 1 hr.tr (fun c hc hneg => by rw [qon9 hO]; exact hO.tok (hr.vars c hc hneg) hneg)
    refine ⟨by unfold Small; simp only; omega, c2, ?_⟩
    unfold qeN9
    simp only
    rw [if_pos ((qlm9 hS hB).2 hk), if_pos (qkb9 (by omega) hR.sg (qev9 hX)), eq, if_pos c2]
theorem quP9 {a b : Redex} : (decide (a.At = b.At) && decide (a.Rule = b.Rule)) = decide (a = b) := by
  cases a; cases b
  simp only [Redex.mk.injEq]
  rw [Bool.decide_and]
theorem qvJ9 {s : System} {t : List Int} {b : List Bind} (hsh : qfY9 = some true) (hS : SysSmall s) (ht : Small t) (hB : BOK b) : qeL9 s t b = some true := by
  have sm : ∀ t : List Int, Small t → t.length < 17179869184 := fun t h => by unfold Small at h; omega
  by_cases hal : SysR s ∧ TOK s.Sig t
  rotate_left
  · -- no redex of the term
    simp only [qeL9, hsh, Option.bind_some, if_true, qug9 hS ht hal, qhz9 hS.1 hB ht]
    by_cases c : (qeN9 s.Sig b t).2 = 0
    rotate_left
    · rw [if_neg c]
    rw [if_pos c]
    have hu : Small (qeN9 s.Sig b t).1 := by
      unfold qeN9
      split
      · split
        · split
          · unfold Small; simp only; omega
          · unfold Small; simp
        · unfold Small; simp
      · unfold Small; simp
    have hm : ∃ m, qek9 s (qeN9 s.Sig b t).1 = some m := by
      by_cases h2 : SysR s ∧ TOK s.Sig (qeN9 s.Sig b t).1
      · exact ⟨_, qnq9 hS hu h2.1 h2.2⟩
      · exact ⟨_, qug9 hS hu h2⟩
    obtain ⟨m, hm⟩ := hm
    rw [hm]
    simp only [Option.bind_some]
    rw [qo9 (r := .inr 0) (by simp only [qbM9]; rw [if_neg (by simp)])]
    rfl
  obtain ⟨hR, hT⟩ := hal
  simp only [qeL9, hsh, Option.bind_some, if_true, qnq9 hS ht hR hT, qhz9 hS.1 hB ht]
  by_cases c : (qeN9 s.Sig b t).2 = 0
  rotate_left
  · rw [if_neg c]
  rw [if_pos c]
  have hct : chk s.Sig t = 0 := qkb9 (sm _ ht) hR.sg (qev9 hT)
  have hsc : sChk s.Sig b = 0 := by
    unfold qeN9 at c
    by_cases h : sChk s.Sig b = 0
    · exact h
    · rw [if_neg h] at c; exact absurd c h
  have hk := (qlm9 hS.1 hB).1 hsc
  have hlen : (appF (bf b) t).length ≤ 512 := by
    unfold qeN9 at c
    rw [if_pos hsc, if_pos hct] at c
    by_cases h : (appF (bf b) t).length ≤ 512
    · exact h
    · rw [if_neg h] at c; exact absurd c (by decide)
  have ha : qeN9 s.Sig b t = (appF (bf b) t, 0) := by unfold qeN9; rw [if_pos hsc, if_pos hct, if_pos hlen]
  rw [ha]
  have hu : Small (appF (bf b) t) := by unfold Small; omega
  have hTu := qlW9 hk hT
  simp only [qnq9 hS hu hR hTu, Option.bind_some]
  have hll := qmN9 (s := s) (t := t) hR.many t.length
  have hml := qmN9 (s := s) (t := appF (bf b) t) hR.many (appF (bf b) t).length
  have htl := ht
  unfold Small at htl
  have hsys : System.mk s.Sig s.Rules = s := by cases s; rfl
  have key : ∀ (n i : Nat), i + n = (allR s t t.length).length → ∃ k, wh (qbM9 s t b true (allR s t t.length) (appF (bf b) t) 0 (allR s (appF (bf b) t) (appF (bf b) t).length) s.Sig s.Rules) (i : Int) = some (.inr k) := by
    intro n
    induction n with
    | zero =>
      intro i hi
      exact ⟨(i : Int), qo9 (by simp only [qbM9]; rw [if_neg (by omega)])⟩
    | succ n ih =>
      intro i hi
      have hlt : i < (allR s t t.length).length := by omega
      have hx : (allR s t t.length)[i]? = some (allR s t t.length)[i] := List.getElem?_eq_getElem hlt
      generalize hxd : (allR s t t.length)[i] = x at hx
      have hmem : x ∈ allR s t t.length := List.mem_of_getElem? hx
      have hw : w64 ((i : Int) + 1) = ((i + 1 : Nat) : Int) := by rw [qu9 (by omega) (by omega)]; omega
      by_cases h0 : x.At = 0
      rotate_left
      · exact ⟨(i : Int), qo9 (by simp only [qbM9]; rw [if_pos (by omega), qD9 hx]; simp only [Option.bind_some]; rw [if_neg h0])⟩
      obtain ⟨k, r, hr, hmet, rfl⟩ := (qpz9 hT h0).1 hmem
      have hin : (⟨0, (k : Int)⟩ : Redex) ∈ allR s (appF (bf b) t) (appF (bf b) t).length := (qpz9 hTu rfl).2 ⟨k, r, hr, qwb9 hk (hR.rules r (List.mem_of_getElem? hr)).tl hT hmet, rfl⟩
      have inner : wh (qcD9 s t b true (allR s t t.length) (appF (bf b) t) 0 (allR s (appF (bf b) t) (appF (bf b) t).length) (i : Int) s.Sig s.Rules) (false, 0) = some true := by
        have := qni9 (step := qcD9 s t b true (allR s t t.length) (appF (bf b) t) 0 (allR s (appF (bf b) t) (appF (bf b) t).length) (i : Int) s.Sig s.Rules) (fun q => (decide ((⟨0, (k : Int)⟩ : Redex) ∈ (allR s (appF (bf b) t) (appF (bf b) t).length).take q), (q : Int))) (allR s (appF (bf b) t) (appF (bf b) t).length).length (r := true) (fun q hq => ?_) ?_
        · simpa using this
        · have hy : (allR s (appF (bf b) t) (appF (bf b) t).length)[q]? = some (allR s (appF (bf b) t) (appF (bf b) t).length)[q] := List.getElem?_eq_getElem hq
          have htk : (allR s (appF (bf b) t) (appF (bf b) t).length).take (q + 1) = (allR s (appF (bf b) t) (appF (bf b) t).length).take q ++ [(allR s (appF (bf b) t) (appF (bf b) t).length)[q]] := by rw [List.take_add_one, hy]; rfl
          have hwq : w64 ((q : Int) + 1) = ((q + 1 : Nat) : Int) := by rw [qu9 (by omega) (by omega)]; omega
          simp only [qcD9]
          rw [if_pos (by omega)]
          by_cases hd : (⟨0, (k : Int)⟩ : Redex) ∈ (allR s (appF (bf b) t) (appF (bf b) t).length).take q
          · rw [if_pos (decide_eq_true hd), decide_eq_true (show (⟨0, (k : Int)⟩ : Redex) ∈ (allR s (appF (bf b) t) (appF (bf b) t).length).take (q + 1) by rw [htk]; exact List.mem_append_left _ hd), hwq]
          · rw [if_neg (by simpa using hd), qD9 hy, qD9 hx]
            simp only [Option.bind_some, quP9, hwq]
            have : ((⟨0, (k : Int)⟩ : Redex) ∈ (allR s (appF (bf b) t) (appF (bf b) t).length).take (q + 1)) ↔ (allR s (appF (bf b) t) (appF (bf b) t).length)[q] = ⟨0, (k : Int)⟩ := by
              rw [htk, List.mem_append, List.mem_singleton]
              exact ⟨fun h => (h.resolve_left hd).symm, fun h => .inr h.symm⟩
            rw [decide_eq_decide.2 this]
        · simp only [qcD9]
          rw [if_neg (by omega), List.take_length, decide_eq_true hin]
      have ok := hR.rules r (List.mem_of_getElem? hr)
      have D1 : qcm9 s t ⟨0, (k : Int)⟩ = some (doR s t 0 r) := Do_ok (i := 0) hS ht hR hT hT.ne hr
      have D2 : qcm9 s (appF (bf b) t) ⟨0, (k : Int)⟩ = some (doR s (appF (bf b) t) 0 r) := Do_ok (i := 0) hS hu hR hTu hTu.ne hr
      have step : qbM9 s t b true (allR s t t.length) (appF (bf b) t) 0 (allR s (appF (bf b) t) (appF (bf b) t).length) s.Sig s.Rules (i : Int) = some (.inl ((i + 1 : Nat) : Int)) := by
        simp only [qbM9]
        rw [if_pos (by omega), qD9 hx]
        simp only [Option.bind_some, if_true, inner, hsys, D1, D2, hw]
        by_cases c1 : (doR s t 0 r).2 = 0
        rotate_left
        · rw [if_neg c1]
        rw [if_pos c1]
        by_cases c2 : (doR s (appF (bf b) t) 0 r).2 = 0
        rotate_left
        · rw [if_neg c2]
        rw [if_pos c2]
        obtain ⟨g1, g2, g3⟩ := qwL9 hS.1 hR hB hk hT ok c1 c2 hmet
        rw [qhz9 hS.1 hB g1, g3]
        simp only [Option.bind_some, if_true]
        rw [qnI9 (by omega)]
        simp
      rw [qQ9 step]
      exact ih (i + 1) (by omega)
  obtain ⟨k, hk2⟩ := key (allR s t t.length).length 0 (by omega)
  rw [Int.natCast_zero] at hk2
  rw [hk2]
  rfl
end Ld.Law
namespace Ld.Law
open Go Go.Abs Go.Lib
def sumsS : System := ⟨three, [⟨[2, 0, -1], [-1]⟩, ⟨[2, 1, -1, -2], [1, 2, -1, -2]⟩]⟩
theorem qxu9 : qjj9 = some sumsS := rfl
theorem qfw9 : SysSmall sumsS := by
  refine ⟨qwz9, by decide, fun r hr => ?_⟩
  simp only [sumsS, List.mem_cons, List.not_mem_nil, or_false] at hr
  rcases hr with rfl | rfl <;> exact ⟨by unfold Small; decide, by unfold Small; decide⟩
theorem qft9 : SysR sumsS := by
  refine ⟨quy9, by decide, by decide +kernel, by decide, fun r hr => ?_⟩
  simp only [sumsS, List.mem_cons, List.not_mem_nil, or_false] at hr
  rcases hr with rfl | rfl
  · exact ⟨by decide +kernel, by decide +kernel, by decide, by decide, ⟨2, rfl, by decide⟩, by decide⟩
  · exact ⟨by decide +kernel, by decide +kernel, by decide, by decide, ⟨2, rfl, by decide⟩, by decide⟩
theorem qvC9 {s : System} {t : List Int} (hS : SysSmall s) (ht : Small t) (hR : SysR s) (hT : TOK s.Sig t) {x : Redex} (h0 : 0 ≤ x.At) (h : (t.length : Int) ≤ x.At) : qcm9 s t x = some ([], 33) := by
  obtain ⟨e, he, hz⟩ := qhx9 hS ht
  have h0 := hz.2 ⟨hR, hT⟩
  subst h0
  simp only [qcm9, he, Option.bind_some, if_true]
  rw [if_neg (by omega), if_pos h]
theorem qxI9 {s : System} {t : List Int} (hS : SysSmall s) (ht : Small t) (hR : SysR s) (hT : TOK s.Sig t) {x : Redex} (h0 : 0 ≤ x.At) (h : x.At < (t.length : Int)) (h1 : 0 ≤ x.Rule) (h2 : (s.Rules.length : Int) ≤ x.Rule) : qcm9 s t x = some ([], 1) := by
  obtain ⟨e, he, hz⟩ := qhx9 hS ht
  have h0 := hz.2 ⟨hR, hT⟩
  subst h0
  simp only [qcm9, he, Option.bind_some, if_true]
  rw [if_neg (by omega), if_neg (by omega), if_neg (by omega), if_pos h2]
theorem shown8 : qfY9 = some true := by
  have sm : ∀ t : List Int, t.length ≤ 7 → Small t := fun t h => by unfold Small; omega
  have a1 : qek9 sumsS [2, 2, 0, 0, 2, 0, 0] = some [⟨1, 0⟩, ⟨4, 0⟩] := by
    rw [qnq9 qfw9 (sm _ (by decide)) qft9 (by decide +kernel)]
    exact congrArg some (by decide +kernel)
  have a2 : qer9 sumsS [2, 0, 2, 1, 0, 0] = some (⟨2, 1⟩, true) := by
    rw [qqM9 qfw9 (sm _ (by decide)) qft9 (by decide +kernel)]
    rw [show seekR sumsS [2, 0, 2, 1, 0, 0] ([2, 0, 2, 1, 0, 0] : List Int).length 0 ([2, 0, 2, 1, 0, 0] : List Int).length = some ⟨2, 1⟩ by decide +kernel]
  have a3 : qer9 sumsS [1, 0] = some (⟨0, 0⟩, false) := by
    rw [qqM9 qfw9 (sm _ (by decide)) qft9 (by decide +kernel)]
    rw [show seekR sumsS [1, 0] ([1, 0] : List Int).length 0 ([1, 0] : List Int).length = none by decide +kernel]
  have d1 : qcm9 sumsS [2, 1, 0, 0] ⟨0, 1⟩ = some ([1, 2, 0, 0], 0) := by
    have := Do_ok (s := sumsS) (t := [2, 1, 0, 0]) (i := 0) (k := 1) (r := ⟨[2, 1, -1, -2], [1, 2, -1, -2]⟩) qfw9 (sm _ (by decide)) qft9 (by decide +kernel) (by decide) rfl
    rw [show doR sumsS [2, 1, 0, 0] 0 ⟨[2, 1, -1, -2], [1, 2, -1, -2]⟩ = ([1, 2, 0, 0], 0) by decide +kernel] at this
    exact this
  have d2 : qcm9 sumsS [2, 1, 0, 0] ⟨0, 0⟩ = some ([], 80) := by
    have := Do_ok (s := sumsS) (t := [2, 1, 0, 0]) (i := 0) (k := 0) (r := ⟨[2, 0, -1], [-1]⟩) qfw9 (sm _ (by decide)) qft9 (by decide +kernel) (by decide) rfl
    rw [show doR sumsS [2, 1, 0, 0] 0 ⟨[2, 0, -1], [-1]⟩ = ([], 80) by decide +kernel] at this
    exact this
  have d3 : qcm9 sumsS [2, 1, 0, 0] ⟨4, 1⟩ = some ([], 33) := qvC9 qfw9 (sm _ (by decide)) qft9 (by decide +kernel) (by decide) (by decide)
  have d4 : qcm9 sumsS [2, 1, 0, 0] ⟨0, 2⟩ = some ([], 1) := qxI9 qfw9 (sm _ (by decide)) qft9 (by decide +kernel) (by decide) (by decide) (by decide) (by decide)
  have s1 : qhv9 [⟨1, 0⟩, ⟨4, 0⟩] [⟨1, 0⟩, ⟨4, 0⟩] = some true := by
    have h : wh (qgs9 [⟨1, 0⟩, ⟨4, 0⟩] [⟨1, 0⟩, ⟨4, 0⟩]) 0 = some (.inr 2) := wh_of 5 (by decide +kernel)
    simp only [qhv9, h, if_true]
    rfl
  simp only [qfY9, qxu9, Option.bind_some, a1, a2, a3, d1, d2, d3, d4, s1, if_true]
  rw [qnI9 (by decide)]
  rfl
theorem quX9 {s : System} {n : Nat} (h : szL (qf9 s) + n ≤ 1048576) : SysSmall s := by
  have hl := qmC9 (xs := s.Rules.map qd9) (fun a ha => by obtain ⟨n, _, rfl⟩ := List.mem_map.1 ha; simp [qd9])
  rw [List.length_map] at hl
  simp only [qf9, szL, szD] at h
  refine ⟨qtP9 (n := 0) (by simp only [lsD, szL, szD]; omega), by omega, fun r hr => ?_⟩
  have h1 := qnS9 (f := qd9) hr
  have h2 := qjz9 r.L
  have h3 := qjz9 r.R
  simp only [qd9, szL, szD] at h1
  unfold Small
  omega
theorem qoV9 {a0 : System} {a1 : List Int} {a2 : List Bind} (_ : qmD9 a0) (_ : okL (okI .i64) a1) (_ : okL qlB9 a2) (hs : szL (qf9 a0) + szL ((lsD intD) a1) + szL ((lsD qb9) a2) ≤ 1048576) : qeL9 a0 a1 a2 = some true :=
  qvJ9 shown8 (quX9 (n := 0) (by omega)) (qtJ9 (n := 0) (by omega)) (qvi9 (n := 0) (by omega))
end Ld.Law

import Derived.Test.YtfjgfcnhklopdaaDoorSyb2
set_option maxHeartbeats 400000
set_option linter.unusedVariables false
set_option linter.unusedSimpArgs false
namespace Ld.Law
open Go Go.Abs Go.Lib
theorem qtU9 {V : Type} {k c : Int} {v : V} : ∀ m : List (Int × V), mget (mset m k v) c = if c = k then some v else mget m c := by
  intro m
  induction m with
  | nil => simp only [mset, mget]
  | cons p r ih =>
    simp only [mset]
    by_cases h : k = p.1
    · rw [if_pos h]
      simp only [mget]
      by_cases e : c = k
      · rw [if_pos e, if_pos (by omega)]
      · rw [if_neg e, if_neg (by omega), if_neg (by omega)]
    · rw [if_neg h]
      simp only [mget]
      rw [ih]
      by_cases e : c = k
      · rw [if_neg (by omega), if_pos e, if_pos e]
      · rw [if_neg e, if_neg e]
theorem qjD9 {t : List Int} (ht : Small t) (hlow : ∀ c ∈ t, -1048576 ≤ c) : ∃ l, qgk9 t = some l ∧ (∀ v, v ∈ l ↔ ∃ c ∈ t, c < 0 ∧ v = -1 - c) ∧ l.length ≤ 1048576 := by
  unfold Small at ht
  have key : ∀ (n i : Nat) (m : List (Int × Int)) (o : List Int), i + n = t.length → (∀ c, (mget m c).isSome = true ↔ c ∈ t.take i ∧ c < 0) → (∀ v, v ∈ o ↔ ∃ c ∈ t.take i, c < 0 ∧ v = -1 - c) → o.length ≤ i →
      ∃ a m' o', wh (qbK9 t [] t (t.length : Int)) ((i : Int), m, o) = some (a, m', o') ∧ (∀ v, v ∈ o' ↔ ∃ c ∈ t, c < 0 ∧ v = -1 - c) ∧ o'.length ≤ 1048576 := by
    intro n
    induction n with
    | zero =>
      intro i m o hi h1 h2 h3
      have e : t.take i = t := List.take_of_length_le (by omega)
      rw [e] at h2
      exact ⟨_, _, _, qg9 (r := ((i : Int), m, o)) (by simp only [qbK9]; rw [if_neg (by omega)]), h2, by omega⟩
    | succ n ih =>
      intro i m o hi h1 h2 h3
      have hlt : i < t.length := by omega
      have hx : t[i]? = some t[i] := List.getElem?_eq_getElem hlt
      have htk : t.take (i + 1) = t.take i ++ [t[i]] := by rw [List.take_add_one, hx]; rfl
      have hlo := hlow _ (List.getElem_mem hlt)
      have hw : w64 ((i : Int) + 1) = ((i + 1 : Nat) : Int) := by rw [qe9 (by omega) (by omega)]; omega
      have same : (t[i] < 0 → t[i] ∈ t.take i) → qbK9 t [] t (t.length : Int) ((i : Int), m, o) = some (.inl (((i + 1 : Nat) : Int), m, o)) →
          ∃ a m' o', wh (qbK9 t [] t (t.length : Int)) ((i : Int), m, o) = some (a, m', o') ∧ (∀ v, v ∈ o' ↔ ∃ c ∈ t, c < 0 ∧ v = -1 - c) ∧ o'.length ≤ 1048576 := by
        intro hin step
        rw [qy9 step]
        refine ih (i + 1) m o (by omega) (fun c => ?_) (fun v => ?_) (by omega)
        · rw [h1, htk, List.mem_append, List.mem_singleton]
          constructor
          · exact fun h => ⟨.inl h.1, h.2⟩
          · rintro ⟨h | h, hc⟩
            · exact ⟨h, hc⟩
            · subst h; exact ⟨hin hc, hc⟩
        · rw [h2, htk]
          constructor
          · rintro ⟨c, hc, h⟩; exact ⟨c, List.mem_append_left _ hc, h⟩
          · rintro ⟨c, hc, h⟩
            rcases List.mem_append.1 hc with hc | hc
            · exact ⟨c, hc, h⟩
            · rw [List.mem_singleton] at hc; subst hc; exact ⟨_, hin h.1, h⟩
      cases hg : mget m t[i] with
      | some x2 =>
        have hs := (h1 t[i]).1 (by rw [hg]; rfl)
        refine same (fun _ => hs.1) ?_
        simp only [qbK9]
        rw [if_pos (by omega), qh9 hx]
        simp only [Option.bind_some, hg, hw]
        rw [if_pos hs.2]
      | none =>
        by_cases hn : t[i] < 0
        · have step : qbK9 t [] t (t.length : Int) ((i : Int), m, o) = some (.inl (((i + 1 : Nat) : Int), mset m t[i] (i : Int), o ++ [-1 - t[i]])) := by
            simp only [qbK9]
            rw [if_pos (by omega), qh9 hx]
            simp only [Option.bind_some, hg, hw]
            rw [if_pos hn, if_pos (by omega), qe9 (by omega) (by omega)]
          rw [qy9 step]
          refine ih (i + 1) _ _ (by omega) (fun c => ?_) (fun v => ?_) (by simp; omega)
          · rw [qtU9, htk, List.mem_append, List.mem_singleton]
            by_cases e : c = t[i]
            · rw [if_pos e]; subst e; exact ⟨fun _ => ⟨.inr rfl, hn⟩, fun _ => rfl⟩
            · rw [if_neg e, h1]; exact ⟨fun h => ⟨.inl h.1, h.2⟩, fun h => ⟨h.1.resolve_right e, h.2⟩⟩
          · rw [List.mem_append, List.mem_singleton, h2, htk]
            constructor
            · rintro (⟨c, hc, h⟩ | h)
              · exact ⟨c, List.mem_append_left _ hc, h⟩
              · exact ⟨t[i], List.mem_append_right _ (List.mem_singleton.2 rfl), hn, h⟩
            · rintro ⟨c, hc, h⟩
              rcases List.mem_append.1 hc with hc | hc
              · exact .inl ⟨c, hc, h⟩
              · rw [List.mem_singleton] at hc; subst hc; exact .inr h.2
        · refine same (fun h => absurd h hn) ?_
          simp only [qbK9]
          rw [if_pos (by omega), qh9 hx]
          simp only [Option.bind_some, hg, hw]
          rw [if_neg hn]
  obtain ⟨a, m', o', hh, h1, h2⟩ := key t.length 0 [] [] (by omega) (fun c => by simp [mget]) (fun v => by simp) (by simp)
  rw [Int.natCast_zero] at hh
  exact ⟨o', by simp only [qgk9, hh, Option.bind_some], h1, h2⟩
theorem qle9 {l : List Int} {v : Int} (hl : l.length ≤ 1048576) : qbD9 l v = some (decide (v ∈ l)) := by
  have := qcG9 (step := qbl9 l v (l.length : Int)) (l := l) (g := fun i x => if decide (v = x) = true then some (Sum.inl (i : Int) : Int ⊕ Int) else none) (fin := .inr (l.length : Int)) (fun i x hx => ?_) ?_
  · simp only [qbD9, qcO9, this]
    rw [qeD9 (fun x : Int => decide (v = x)) (fun i => (Sum.inl (i : Int) : Int ⊕ Int)) _ (fun i x => rfl)]
    cases hf : l.findIdx? fun x => decide (v = x) with
    | none =>
      have : v ∉ l := fun h => by
        have := List.findIdx?_eq_none_iff.1 hf v h
        simp at this
      simp [this]
    | some k =>
      have : v ∈ l := by
        obtain ⟨hk, h1, _⟩ := List.findIdx?_eq_some_iff_getElem.1 hf
        have : v = l[k] := by simpa using h1
        rw [this]; exact List.getElem_mem hk
      simp [this]
  · have hlt := (List.getElem?_eq_some_iff.1 hx).1
    simp only [qbl9]
    rw [if_pos (by omega), qh9 hx]
    simp only [Option.bind_some]
    by_cases h : v = x
    · simp [h]
    · simp [h, qe9 (n := (i : Int) + 1) (by omega) (by omega)]
  · simp only [qbl9]; rw [if_neg (by omega)]
structure RuleOK (sig : List Symbol) (r : Rule) : Prop where
  tl : TOK sig r.L
  tr : TOK sig r.R
  ll : r.L.length ≤ 512
  rl : r.R.length ≤ 512
  head : ∃ c, r.L[0]? = some c ∧ 0 ≤ c
  vars : ∀ c ∈ r.R, c < 0 → c ∈ r.L
theorem qjP9 {sig : List Symbol} {t : List Int} (hA : qw9 sig = some 0) (ht : Small t) : qem9 sig t = some (qo9 sig t) := by
  unfold Small at ht
  unfold qem9
  rw [if_pos]
  refine ⟨by omega, List.all_eq_true.2 fun s hs => decide_eq_true (by have := qca9 hA s hs; omega)⟩
theorem qrO9 {sig : List Symbol} {r : Rule} (hA : qw9 sig = some 0) (hL : Small r.L) (hR : Small r.R) : ∃ e, qP9 sig r = some e ∧ (e = 0 ↔ RuleOK sig r) := by
  simp only [qP9, qjP9 hA hL, qjP9 hA hR, Option.bind_some]
  by_cases h1 : qo9 sig r.L = 0
  rotate_left
  · rw [if_neg h1]; exact ⟨_, rfl, fun h => absurd h h1, fun h => absurd (qeO9 h.tl) h1⟩
  rw [if_pos h1]
  by_cases h2 : qo9 sig r.R = 0
  rotate_left
  · rw [if_neg h2]; exact ⟨_, rfl, fun h => absurd h h2, fun h => absurd (qeO9 h.tr) h2⟩
  rw [if_pos h2]
  by_cases h3 : 512 < max (r.L.length : Int) (r.R.length : Int)
  · rw [if_pos h3]; exact ⟨_, rfl, fun h => absurd h (by decide), fun h => by have := h.ll; have := h.rl; omega⟩
  rw [if_neg h3]
  have t1 := qiD9 h1
  have t2 := qiD9 h2
  have hne : r.L ≠ [] := fun e => by rw [e] at t1; simp [rdT] at t1
  obtain ⟨c, q, hcq⟩ := List.exists_cons_of_ne_nil hne
  have h0 : r.L[0]? = some c := by rw [hcq]; rfl
  have hi : idx r.L 0 = some c := qh9 (i := 0) h0
  rw [hi]
  simp only [Option.bind_some]
  by_cases h4 : c < 0
  · rw [if_pos h4]; exact ⟨_, rfl, fun h => absurd h (by decide), fun h => by
      obtain ⟨d, e1, e2⟩ := h.head
      rw [h0] at e1; cases e1; omega⟩
  rw [if_neg h4]
  obtain ⟨u, hu, hu1, hu2⟩ := qjD9 hL (qdo9 h1)
  obtain ⟨v, hv, hv1, hv2⟩ := qjD9 hR (qdo9 h2)
  rw [hu, hv]
  simp only [Option.bind_some]
  have := qcG9 (step := qbN9 sig r (qo9 sig r.L) (qo9 sig r.R) u v (v.length : Int) r.L r.R) (l := v) (g := fun _ x => if x ∈ u then none else some (Sum.inl 72 : Int ⊕ Int)) (fin := .inr (v.length : Int)) (fun i x hx => ?_) ?_
  · rw [h1, h2] at this
    rw [h1, h2, this]
    have hall : (∀ x ∈ v, x ∈ u) ↔ ∀ d ∈ r.R, d < 0 → d ∈ r.L := by
      constructor
      · intro h d hd hneg
        have := h (-1 - d) ((hv1 _).2 ⟨d, hd, hneg, rfl⟩)
        obtain ⟨e, he, _, h3⟩ := (hu1 _).1 this
        have : d = e := by omega
        rwa [this]
      · intro h x hx
        obtain ⟨d, hd, hneg, rfl⟩ := (hv1 _).1 hx
        exact (hu1 _).2 ⟨d, h d hd hneg, hneg, rfl⟩
    cases hf : qbI9 (fun _ x => if x ∈ u then none else some (Sum.inl 72 : Int ⊕ Int)) 0 v with
    | none =>
      refine ⟨0, rfl, fun _ => ⟨t1, t2, by omega, by omega, ⟨c, h0, by omega⟩, hall.1 fun x hx => ?_⟩, fun _ => rfl⟩
      obtain ⟨i, hi⟩ := List.getElem?_of_mem hx
      have := (qiX9 v 0).1 hf i x hi
      by_cases hxu : x ∈ u
      · exact hxu
      · rw [if_neg hxu] at this; cases this
    | some y =>
      have hy : y = .inl 72 := by
        have : ∀ (l : List Int) (k : Nat), qbI9 (fun _ x => if x ∈ u then none else some (Sum.inl 72 : Int ⊕ Int)) k l = some y → y = .inl 72 := by
          intro l
          induction l with
          | nil => intro k h; cases h
          | cons a l ih =>
            intro k h
            simp only [qbI9] at h
            by_cases hau : a ∈ u
            · rw [if_pos hau] at h; exact ih _ h
            · rw [if_neg hau] at h; cases h; rfl
        exact this v 0 hf
      subst hy
      refine ⟨72, rfl, fun h => absurd h (by decide), fun h => ?_⟩
      have hn : qbI9 (fun _ x => if x ∈ u then none else some (Sum.inl 72 : Int ⊕ Int)) 0 v = none := (qiX9 v 0).2 fun i x hx => by rw [if_pos (hall.2 h.vars x (List.mem_of_getElem? hx))]
      rw [hn] at hf; cases hf
  · have hlt := (List.getElem?_eq_some_iff.1 hx).1
    simp only [qbN9]
    rw [if_pos (by omega), qh9 hx]
    simp only [Option.bind_some, qle9 hu2]
    by_cases h : x ∈ u
    · simp [h, qe9 (n := (i : Int) + 1) (by omega) (by omega)]
    · simp [h]
  · simp only [qbN9]; rw [if_neg (by omega)]
end Ld.Law
namespace Ld.Law
open Go Go.Abs Go.Lib
def sufB (s : Symbol) : Bool := decide (1 ≤ s.Name.size) && decide (s.Name.extract (s.Name.size - 1) s.Name.size = ({ data := #[35] } : ByteArray))
theorem qyP9 {s : Symbol} (h : s.Name.size < 4611686018427387904) : qdG9 s = some (sufB s) := by
  have e1 : (({ data := #[35] } : ByteArray).size : Int) = 1 := rfl
  simp only [qdG9, qdV9, qbG9, e1]
  by_cases c : (1 : Int) ≤ (s.Name.size : Int)
  · rw [if_pos c, qe9 (by omega) (by omega)]
    unfold cutBA
    rw [if_pos (by omega)]
    simp only [Option.bind_some, sufB]
    have : ((s.Name.size : Int) - 1).toNat = s.Name.size - 1 := by omega
    rw [this, Int.toNat_natCast, decide_eq_true (show 1 ≤ s.Name.size by omega), Bool.true_and]
  · rw [if_neg c]
    simp only [Option.bind_some, sufB]
    rw [decide_eq_false (show ¬ 1 ≤ s.Name.size by omega), Bool.false_and]
theorem qns9 {l : List Symbol} (hS : SigOK l) (hl : l.length < 4611686018427387904) : qt9 l = some (l.any sufB) := by
  have := qcG9 (step := qn9 l (l.length : Int)) (l := l) (g := fun i x => if sufB x = true then some (Sum.inl (i : Int) : Int ⊕ Int) else none) (fin := .inr (l.length : Int)) (fun i x hx => ?_) ?_
  · simp only [qt9, qD9, this]
    rw [qeD9 sufB (fun i => (Sum.inl (i : Int) : Int ⊕ Int)) _ (fun i x => rfl)]
    cases hf : l.findIdx? sufB with
    | none =>
      have : l.any sufB = false := List.any_eq_false.2 fun x hx => by simpa using List.findIdx?_eq_none_iff.1 hf x hx
      rw [this]; rfl
    | some k =>
      have : l.any sufB = true := by
        obtain ⟨hk, h1, _⟩ := List.findIdx?_eq_some_iff_getElem.1 hf
        exact List.any_eq_true.2 ⟨_, List.getElem_mem hk, h1⟩
      rw [this]; simp
  · have hlt := (List.getElem?_eq_some_iff.1 hx).1
    simp only [qn9]
    rw [if_pos (by omega), qh9 hx]
    simp only [Option.bind_some, qyP9 (hS x (List.mem_of_getElem? hx))]
    cases sufB x
    · simp [qe9 (n := (i : Int) + 1) (by omega) (by omega)]
    · simp
  · simp only [qn9]; rw [if_neg (by omega)]
def SysSmall (s : System) : Prop := SigOK s.Sig ∧ s.Rules.length ≤ 1048576 ∧ ∀ r ∈ s.Rules, Small r.L ∧ Small r.R
structure SysR (s : System) : Prop where
  sg : qw9 s.Sig = some 0
  few : s.Sig.length ≤ 64
  suf : s.Sig.any sufB = false
  many : s.Rules.length ≤ 64
  rules : ∀ r ∈ s.Rules, RuleOK s.Sig r
theorem qoO9 {sig : List Symbol} (hS : SigOK sig) : ∃ e, qdB9 sig = some e ∧ (e = 0 ↔ qw9 sig = some 0 ∧ sig.length ≤ 64 ∧ sig.any sufB = false) := by
  obtain ⟨e, he⟩ := qgt9 sig hS
  simp only [qdB9, he, Option.bind_some]
  by_cases h0 : e = 0
  rotate_left
  · rw [if_neg h0]; exact ⟨_, rfl, fun h => absurd h h0, fun h => absurd (oiA h.1) h0⟩
  subst h0
  rw [if_pos rfl]
  by_cases h1 : 64 < (sig.length : Int)
  · rw [if_pos h1]; exact ⟨_, rfl, fun h => absurd h (by decide), fun h => by have := h.2.1; omega⟩
  rw [if_neg h1, qns9 hS (by omega)]
  simp only [Option.bind_some]
  cases h2 : sig.any sufB
  · exact ⟨0, by simp, fun _ => ⟨by first | exact trivial | exact he, by omega, rfl⟩, fun _ => rfl⟩
  · exact ⟨34, by simp, fun h => absurd h (by decide), fun h => by cases h.2.2⟩
theorem quE9 {s : System} (hS : SysSmall s) : ∃ x, qdt9 s = some x ∧ (x.1 = 0 ↔ SysR s) := by
  obtain ⟨e, he, hz⟩ := qoO9 hS.1
  simp only [qdt9, he, Option.bind_some]
  by_cases h0 : e = 0
  rotate_left
  · rw [if_neg h0]; exact ⟨_, rfl, fun h => absurd h h0, fun h => absurd (hz.2 ⟨h.sg, h.few, h.suf⟩) h0⟩
  rw [if_pos h0]
  obtain ⟨z1, z2, z3⟩ := hz.1 h0
  subst h0
  by_cases h1 : 64 < (s.Rules.length : Int)
  · rw [if_pos h1]; exact ⟨_, rfl, fun h => absurd h (by decide), fun h => by have := h.many; omega⟩
  rw [if_neg h1]
  have ru : ∀ r ∈ s.Rules, ∃ e, qP9 s.Sig r = some e ∧ (e = 0 ↔ RuleOK s.Sig r) := fun r hr => qrO9 z1 (hS.2.2 r hr).1 (hS.2.2 r hr).2
  have := qcG9 (step := qbC9 s 0 s.Rules (s.Rules.length : Int) s.Sig s.Rules) (l := s.Rules) (g := fun i r => if (qP9 s.Sig r).getD 0 = 0 then none else some (Sum.inl ((qP9 s.Sig r).getD 0, (i : Int)) : (Int × Int) ⊕ Int)) (fin := .inr (s.Rules.length : Int)) (fun i r hr => ?_) ?_
  · rw [this]
    cases hf : qbI9 (fun i r => if (qP9 s.Sig r).getD 0 = 0 then none else some (Sum.inl ((qP9 s.Sig r).getD 0, ((i : Nat) : Int)) : (Int × Int) ⊕ Int)) 0 s.Rules with
    | none =>
      refine ⟨(0, 0), rfl, fun _ => ⟨z1, z2, z3, by omega, fun r hr => ?_⟩, fun _ => rfl⟩
      obtain ⟨i, hi⟩ := List.getElem?_of_mem hr
      have := (qiX9 s.Rules 0).1 hf i r hi
      obtain ⟨e, he, hq⟩ := ru r hr
      rw [he, Option.getD_some] at this
      by_cases h : e = 0
      · exact hq.1 h
      · rw [if_neg h] at this; cases this
    | some y =>
      have : ∀ (l : List Rule) (k : Nat), (∀ r ∈ l, r ∈ s.Rules) → qbI9 (fun i r => if (qP9 s.Sig r).getD 0 = 0 then none else some (Sum.inl ((qP9 s.Sig r).getD 0, ((i : Nat) : Int)) : (Int × Int) ⊕ Int)) k l = some y → ∃ c i, y = .inl (c, i) ∧ c ≠ 0 ∧ ∃ r ∈ s.Rules, qP9 s.Sig r = some c := by
        intro l
        induction l with
        | nil => intro k _ h; cases h
        | cons a l ih =>
          intro k hm h
          simp only [qbI9] at h
          obtain ⟨e, he, hq⟩ := ru a (hm a (List.mem_cons_self ..))
          rw [he, Option.getD_some] at h
          by_cases hau : e = 0
          · rw [if_pos hau] at h; exact ih _ (fun r hr => hm r (List.mem_cons_of_mem _ hr)) h
          · rw [if_neg hau] at h; cases h; exact ⟨e, _, rfl, hau, a, hm a (List.mem_cons_self ..), he⟩
      obtain ⟨c, i, rfl, hc, r, hr, he2⟩ := this s.Rules 0 (fun r h => h) hf
      refine ⟨(c, i), rfl, fun h => absurd h hc, fun h => ?_⟩
      obtain ⟨e, he, hq⟩ := ru r hr
      rw [he2] at he
      cases he
      exact absurd (hq.2 (h.rules r hr)) hc
  · have hlt := (List.getElem?_eq_some_iff.1 hr).1
    obtain ⟨e, he, hq⟩ := ru r (List.mem_of_getElem? hr)
    simp only [qbC9]
    rw [if_pos (by omega), qh9 hr]
    simp only [Option.bind_some, he, Option.getD_some]
    by_cases h : e = 0
    · rw [if_pos h, if_pos h, qe9 (n := (i : Int) + 1) (by omega) (by omega)]; rfl
    · rw [if_neg h, if_neg h]
  · simp only [qbC9]; rw [if_neg (by omega)]
theorem qfY9 {s : System} {t : List Int} (hS : SysSmall s) (ht : Small t) : ∃ e, qdi9 s t = some e ∧ (e = 0 ↔ SysR s ∧ TOK s.Sig t) := by
  have htl : t.length < 17179869184 := by unfold Small at ht; omega
  obtain ⟨x, hx, hz⟩ := quE9 hS
  simp only [qdi9, hx, Option.bind_some, qlK9 hS.1 htl]
  by_cases h : x.1 = 0
  · rw [if_pos h]
    refine ⟨_, rfl, fun h2 => ⟨hz.1 h, qiD9 (qlt9 hS.1 htl h2).2⟩, fun h2 => qqo9 htl h2.1.sg (qeO9 h2.2)⟩
  · rw [if_neg h]
    exact ⟨_, rfl, fun h2 => absurd h2 h, fun h2 => absurd (hz.2 h2.1) h⟩
theorem qyx9 {σ ρ : Type} {step step' : σ → Option (σ ⊕ ρ)} (h : ∀ s r, step s = some r → step' s = some r) : ∀ (n : Nat) (s : σ) (r : ρ), itW step n s = some r → itW step' n s = some r := by
  intro n
  induction n with
  | zero => intro s r h; simp [itW] at h
  | succ n ih =>
    intro s r hr
    simp only [itW] at hr ⊢
    cases hs : step s with
    | none => rw [hs] at hr; cases hr
    | some x =>
      rw [hs] at hr
      rw [h _ _ hs]
      cases x with
      | inl s' => exact ih _ _ hr
      | inr q => exact hr
theorem wh_le {σ ρ : Type} {step step' : σ → Option (σ ⊕ ρ)} (h : ∀ s r, step s = some r → step' s = some r) {s : σ} {r : ρ} (hr : wh step s = some r) : wh step' s = some r := by
  obtain ⟨n, hn⟩ := qgX9 hr
  exact Go.Abs.wh_of (qyx9 h n s r hn)
def Mon {α β : Type} (F : (α → Option β) → α → Option β) : Prop := ∀ g g' : α → Option β, (∀ a r, g a = some r → g' a = some r) → ∀ a r, F g a = some r → F g' a = some r
theorem qxe9 {α β : Type} {F : (α → Option β) → α → Option β} (hF : Mon F) : ∀ n a r, fixN F n a = some r → fixN F (n + 1) a = some r := by
  intro n
  induction n with
  | zero => intro a r h; cases h
  | succ n ih => intro a r h; exact hF _ _ ih a r h
theorem qom9 {α β : Type} {F : (α → Option β) → α → Option β} (hF : Mon F) {n : Nat} {a : α} {r : β} (h : fixN F n a = some r) : ∀ k, fixN F (n + k) a = some r := by
  intro k
  induction k with
  | zero => exact h
  | succ k ih => exact qxe9 hF _ _ _ ih
theorem qph9 {α β : Type} {F : (α → Option β) → α → Option β} (hF : Mon F) {n : Nat} {a : α} {r : β} (h : fixN F n a = some r) : fixO F a = some r := by
  refine qrT9 ⟨n, r, h⟩ fun m r' h' => ?_
  have h1 := qom9 hF h m
  have h2 := qom9 hF h' n
  rw [Nat.add_comm m n, h1] at h2
  exact (oiA h2).symm
end Ld.Law
namespace Ld.Law
open Go Go.Abs Go.Lib
def enR (sig : List Symbol) (t : List Int) (i k : Nat) : Nat := t.length - (rdT sig (t.drop i) k).1.length
theorem qcF9 {sig : List Symbol} {t : List Int} {i k : Nat} (hi : i ≤ t.length) : t.drop (enR sig t i k) = (rdT sig (t.drop i) k).1 ∧ i ≤ enR sig t i k ∧ enR sig t i k ≤ t.length := by
  obtain ⟨f, hf⟩ := qrG9 sig (t.drop i) k
  have hl := congrArg List.length hf
  rw [List.length_drop, List.length_append] at hl
  have e : enR sig t i k = i + f.length := by unfold enR; omega
  refine ⟨?_, by omega, by omega⟩
  rw [e, ← List.drop_drop]
  conv => lhs; rw [hf]
  exact List.drop_left
theorem qms9 {sig : List Symbol} {t : List Int} {i : Nat} (hi : i ≤ t.length) : enR sig t i 0 = i := by
  unfold enR; rw [qdT9, List.length_drop]; omega
theorem qkJ9 {sig : List Symbol} {t : List Int} {i m : Nat} (hi : i ≤ t.length) (h : (rdT sig (t.drop i) (m + 1)).2 = 0) : (rdT sig (t.drop i) 1).2 = 0 ∧ i < enR sig t i 1 ∧ (rdT sig (t.drop (enR sig t i 1)) m).2 = 0 ∧ enR sig t (enR sig t i 1) m = enR sig t i (m + 1) := by
  have hadd := qir9 sig (t.drop i) 1 m (by rw [Nat.add_comm 1 m]; exact h)
  obtain ⟨d1, d2, d3⟩ := qcF9 (sig := sig) (k := 1) hi
  have hlt : i < enR sig t i 1 := by
    rcases Nat.lt_or_ge i (enR sig t i 1) with c | c
    · exact c
    · exfalso
      have e : enR sig t i 1 = i := by omega
      rw [e] at d1
      have h1 := qfZ9 hadd.1
      have : first sig (t.drop i) = [] := by
        unfold first rest
        rw [← d1, Nat.sub_self, List.take_zero]
      rw [this] at h1
      simp [TOK, rdT] at h1
  refine ⟨hadd.1, hlt, ?_, ?_⟩
  · rw [d1, hadd.2, Nat.add_comm 1 m]; exact h
  · show t.length - _ = t.length - _
    rw [d1, hadd.2, Nat.add_comm 1 m]
theorem qwo9 : Mon (fun (rec : Int × (List Symbol) × (List Int) × (List Int) → Option (Int × (List Symbol) × (List Int) × (List Int))) (p : Int × (List Symbol) × (List Int) × (List Int)) => qbB9 rec p.1 p.2.1 p.2.2.1 p.2.2.2) := by
  intro g g' hg a r h
  simp only [qbB9] at h ⊢
  obtain ⟨x1, e1, h⟩ := bsome h
  rw [e1]; simp only [Option.bind_some]
  by_cases c : 0 ≤ x1
  · rw [if_pos c] at h ⊢
    obtain ⟨x2, e2, h⟩ := bsome h
    rw [e2]; simp only [Option.bind_some]
    obtain ⟨x5, e5, h⟩ := bsome h
    rw [wh_le (fun s r hs => ?_) e5]
    · exact h
    · obtain ⟨s7, s23, b2, b1, o3⟩ := s
      simp only [qbU9] at hs ⊢
      by_cases c : s23 < x2.Arity
      · rw [if_pos c] at hs ⊢
        obtain ⟨x3, e3, hs⟩ := bsome hs
        rw [hg _ _ e3]; exact hs
      · rw [if_neg c] at hs ⊢; exact hs
  · rw [if_neg c] at h ⊢; exact h
theorem qvr9 {sig : List Symbol} {t : List Int} (hA : Ars sig) (ht : t.length ≤ 1048576) : ∀ (k i : Nat) (out : List Int), t.length - i ≤ k → i < t.length → (rdT sig (t.drop i) 1).2 = 0 → out.length = t.length →
    ∃ out', fixN (fun (rec : Int × (List Symbol) × (List Int) × (List Int) → Option (Int × (List Symbol) × (List Int) × (List Int))) (p : Int × (List Symbol) × (List Int) × (List Int)) => qbB9 rec p.1 p.2.1 p.2.2.1 p.2.2.2) k ((i : Int), sig, t, out) = some (((enR sig t i 1 : Nat) : Int), sig, t, out') ∧ out'.length = t.length ∧
      ∀ j, out'[j]? = if i ≤ j ∧ j < enR sig t i 1 then some ((enR sig t j 1 : Nat) : Int) else out[j]? := by
  intro k
  induction k with
  | zero => intro i out h1 h2; omega
  | succ k IH =>
    intro i out hk hlt hr ho
    have hx : t[i]? = some t[i] := List.getElem?_eq_getElem hlt
    have hcons : t.drop i = t[i] :: t.drop (i + 1) := List.drop_eq_getElem_cons hlt
    have hrc := hr
    rw [hcons] at hrc
    simp only [rdT] at hrc
    have hc : ¬ ((sig.length : Int) ≤ t[i] ∨ t[i] < -1048576) := fun hc => by rw [if_pos hc] at hrc; simp at hrc
    rw [if_neg hc, Nat.zero_add] at hrc
    have hen : enR sig t (i + 1) (arOf sig t[i]) = enR sig t i 1 := by
      show t.length - _ = t.length - _
      rw [hcons]
      simp only [rdT]
      rw [if_neg hc, Nat.zero_add]
    have hen2 : i + 1 ≤ enR sig t i 1 ∧ enR sig t i 1 ≤ t.length := by rw [← hen]; exact (qcF9 (by omega)).2
    have hw : w64 ((i : Int) + 1) = ((i + 1 : Nat) : Int) := by rw [qe9 (by omega) (by omega)]; omega
    have hidx : ∀ o : List Int, o.length = t.length → ∃ v, idx o (i : Int) = some v := fun o h => ⟨o[i]'(by omega), qh9 (List.getElem?_eq_getElem (by omega))⟩
    show ∃ out', qbB9 (fixN (fun (rec : Int × (List Symbol) × (List Int) × (List Int) → Option (Int × (List Symbol) × (List Int) × (List Int))) (p : Int × (List Symbol) × (List Int) × (List Int)) => qbB9 rec p.1 p.2.1 p.2.2.1 p.2.2.2) k) (i : Int) sig t out = _ ∧ _
    generalize hrec : fixN (fun (rec : Int × (List Symbol) × (List Int) × (List Int) → Option (Int × (List Symbol) × (List Int) × (List Int))) (p : Int × (List Symbol) × (List Int) × (List Int)) => qbB9 rec p.1 p.2.1 p.2.2.1 p.2.2.2) k = rec at IH ⊢
    simp only [qbB9, qh9 hx, Option.bind_some]
    by_cases hn : 0 ≤ t[i]
    · rw [if_pos hn]
      obtain ⟨c, hcn⟩ : ∃ c : Nat, t[i] = (c : Int) := ⟨t[i].toNat, by omega⟩
      have hcs : c < sig.length := by rw [hcn] at hc; omega
      have hs : sig[c]? = some sig[c] := List.getElem?_eq_getElem hcs
      have hra := hA _ (List.getElem_mem hcs)
      have hao : arOf sig t[i] = sig[c].Arity.toNat := by unfold arOf; rw [if_pos hn, hcn]; simp [hs]
      have kids : ∀ (m j p : Nat) (o : List Int), j + m = arOf sig t[i] → i < p → p ≤ t.length → (rdT sig (t.drop p) m).2 = 0 → o.length = t.length →
          ∃ o', wh (qbU9 rec (i : Int) sig[c].Arity) ((p : Int), (j : Int), sig, t, o) = some (((enR sig t p m : Nat) : Int), ((arOf sig t[i] : Nat) : Int), sig, t, o') ∧ o'.length = t.length ∧
            ∀ q, o'[q]? = if p ≤ q ∧ q < enR sig t p m then some ((enR sig t q 1 : Nat) : Int) else o[q]? := by
        intro m
        induction m with
        | zero =>
          intro j p o hj hp hpl hm hol
          rw [qms9 hpl]
          refine ⟨o, qg9 ?_, hol, fun q => by rw [if_neg (by omega)]⟩
          simp only [qbU9]
          rw [if_neg (by omega)]
          congr 4
          omega
        | succ m ihm =>
          intro j p o hj hp hpl hm hol
          obtain ⟨f1, f2, f3, f4⟩ := qkJ9 hpl hm
          have hplt : p < t.length := by have := (qcF9 (sig := sig) (t := t) (i := p) (k := 1) hpl).2.2; omega
          obtain ⟨o1, r1, r2, r3⟩ := IH p o (by omega) hplt f1 hol
          have hel := (qcF9 (sig := sig) (t := t) (i := p) (k := 1) hpl).2.2
          obtain ⟨o2, s1, s2, s3⟩ := ihm (j + 1) (enR sig t p 1) o1 (by omega) (by omega) hel f3 r2
          have hw2 : w64 ((j : Int) + 1) = ((j + 1 : Nat) : Int) := by have := ar_le hA t[i]; rw [qe9 (by omega) (by omega)]; omega
          have step : qbU9 rec (i : Int) sig[c].Arity ((p : Int), (j : Int), sig, t, o) = some (.inl (((enR sig t p 1 : Nat) : Int), ((j + 1 : Nat) : Int), sig, t, o1)) := by
            simp only [qbU9]
            rw [if_pos (by omega), r1]
            simp only [Option.bind_some, hw2]
          rw [qy9 step]
          rw [f4] at s1
          refine ⟨o2, s1, s2, fun q => ?_⟩
          have hle : enR sig t p 1 ≤ enR sig t p (m + 1) := by rw [← f4]; exact (qcF9 hel).2.1
          rw [s3, r3, f4]
          by_cases q1 : enR sig t p 1 ≤ q ∧ q < enR sig t p (m + 1)
          · rw [if_pos q1, if_pos (by omega)]
          · rw [if_neg q1]
            by_cases q2 : p ≤ q ∧ q < enR sig t p 1
            · rw [if_pos q2, if_pos (by omega)]
            · rw [if_neg q2, if_neg (by omega)]
      have hcx : idx sig t[i] = some sig[c] := by rw [hcn]; exact qh9 hs
      obtain ⟨o1, k1, k2, k3⟩ := kids (arOf sig t[i]) 0 (i + 1) out (by omega) (by omega) (by omega) hrc ho
      rw [hcx]
      simp only [Option.bind_some, hw]
      rw [Int.natCast_zero] at k1
      rw [k1]
      simp only [Option.bind_some]
      obtain ⟨v, hv⟩ := hidx o1 k2
      rw [hv]
      simp only [Option.bind_some]
      rw [hen] at k3 ⊢
      refine ⟨_, rfl, by rw [List.length_set]; exact k2, fun q => ?_⟩
      rw [Int.toNat_natCast, List.getElem?_set]
      by_cases q1 : i = q
      · subst q1
        rw [if_pos rfl, if_pos (by omega), if_pos (by omega)]
      · rw [if_neg q1, k3]
        by_cases q2 : i + 1 ≤ q ∧ q < enR sig t i 1
        · rw [if_pos q2, if_pos (by omega)]
        · rw [if_neg q2, if_neg (by omega)]
    · rw [if_neg hn]
      have ha : arOf sig t[i] = 0 := by unfold arOf; rw [if_neg hn]
      rw [ha, qms9 (by omega)] at hen
      obtain ⟨v, hv⟩ := hidx out ho
      rw [hv]
      simp only [Option.bind_some, hw]
      rw [← hen]
      refine ⟨_, rfl, by rw [List.length_set]; exact ho, fun q => ?_⟩
      rw [Int.toNat_natCast, List.getElem?_set]
      by_cases q1 : i = q
      · subst q1
        rw [if_pos rfl, if_pos (by omega), if_pos (by omega), hen]
      · rw [if_neg q1, if_neg (by omega)]
theorem qyi9 {sig : List Symbol} : ∀ (l : List Int) (k i : Nat), rdT sig l k = ([], 0) → ∃ j, rdT sig (l.drop i) j = ([], 0) := by
  intro l
  induction l with
  | nil => intro k i h; exact ⟨0, by rw [List.drop_nil]; rfl⟩
  | cons c r ih =>
    intro k i h
    cases i with
    | zero => exact ⟨k, h⟩
    | succ i =>
      cases k with
      | zero => simp [rdT] at h
      | succ k =>
        simp only [rdT] at h
        by_cases hc : (sig.length : Int) ≤ c ∨ c < -1048576
        · rw [if_pos hc] at h; simp at h
        · rw [if_neg hc] at h; exact ih _ i h
theorem TOK.at {sig : List Symbol} {t : List Int} (h : TOK sig t) {i : Nat} (hi : i < t.length) : (rdT sig (t.drop i) 1).2 = 0 := by
  obtain ⟨j, hj⟩ := qyi9 t 1 i h
  have hne : t.drop i ≠ [] := fun e => by have := congrArg List.length e; rw [List.length_drop] at this; simp at this; omega
  obtain ⟨_, _, h1, _⟩ := qpo9 hj hne
  exact h1
theorem TOK.ne {sig : List Symbol} {t : List Int} (h : TOK sig t) : 0 < t.length := by
  cases t with
  | nil => simp [TOK, rdT] at h
  | cons c r => simp
theorem qmp9 {sig : List Symbol} {t : List Int} (hA : Ars sig) (ht : Small t) (hT : TOK sig t) : qeK9 sig t = some ((List.range t.length).map fun i => ((enR sig t i 1 : Nat) : Int)) := by
  unfold Small at ht
  have hp := hT.ne
  obtain ⟨o, h1, h2, h3⟩ := qvr9 hA ht t.length 0 (List.replicate t.length 0) (by omega) hp (hT.at hp) (by simp)
  have h1' := qph9 qwo9 h1
  have e0 : enR sig t 0 1 = t.length := by
    show t.length - _ = _
    rw [List.drop_zero, show rdT sig t 1 = ([], 0) from hT]; rfl
  simp only [qeK9]
  rw [if_pos (by omega), if_pos (by omega)]
  unfold qiB9
  rw [Int.toNat_natCast]
  rw [Int.natCast_zero] at h1'
  rw [h1']
  simp only [Option.bind_some]
  congr 1
  apply List.ext_getElem?
  intro j
  rw [h3, e0, List.getElem?_map]
  by_cases hj : j < t.length
  · rw [if_pos (by omega), List.getElem?_range hj]; rfl
  · rw [if_neg (by omega), List.getElem?_eq_none (by simp; omega), List.getElem?_eq_none (by simp; omega)]; rfl
end Ld.Law
namespace Ld.Law
open Go Go.Abs Go.Lib
def metB (sig : List Symbol) (p u : List Int) : Bool := (mat sig p u []).isSome
def hit (s : System) (u : List Int) (i k : Nat) : Option Redex := match s.Rules[k]? with
  | some r => if metB s.Sig r.L u = true then some ⟨(i : Int), (k : Int)⟩ else none
  | none => none
def hits (s : System) (u : List Int) (i n : Nat) : List Redex := (List.range n).filterMap (hit s u i)
theorem qiM9 (s : System) (u : List Int) (i n : Nat) : hits s u i (n + 1) = hits s u i n ++ (hit s u i n).toList := by
  unfold hits
  rw [List.range_succ, List.filterMap_append]
  congr 1
theorem qpO9 (s : System) (u : List Int) (i n : Nat) : (hits s u i n).length ≤ n := by
  have := List.length_filterMap_le (hit s u i) (List.range n)
  rw [List.length_range] at this
  exact this
theorem qjN9 {sig : List Symbol} {p u : List Int} (h0 : qw9 sig = some 0) (hp : TOK sig p) (hu : TOK sig u) (sp : Small p) (su : Small u) : matR sig p u = match mat sig p u [] with | none => ([], false) | some o => (sortB o, true) := by
  unfold Small at sp su
  unfold matR
  rw [if_pos ⟨qqo9 (by omega) h0 (qeO9 hp), qqo9 (by omega) h0 (qeO9 hu)⟩]
  cases mat sig p u [] <;> rfl
theorem RuleOK.sl {sig : List Symbol} {r : Rule} (h : RuleOK sig r) : Small r.L := by have := h.ll; unfold Small; omega
theorem RuleOK.sr {sig : List Symbol} {r : Rule} (h : RuleOK sig r) : Small r.R := by have := h.rl; unfold Small; omega
theorem qvy9 {s : System} (hS : SigOK s.Sig) (hR : SysR s) {u : List Int} (su : Small u) (hT : TOK s.Sig u) {i : Nat} (hi : i ≤ 1048576) {out : List Redex} (ho : out.length ≤ 536870912) : qbF9 s.Sig s.Rules u out (i : Int) = some (true, out ++ hits s u i s.Rules.length) := by
  have hm := hR.many
  have := qml9 (step := qR9 s.Sig s.Rules u s.Rules (s.Rules.length : Int) (i : Int) s.Sig s.Rules) (fun k => ((k : Int), out ++ hits s u i k)) s.Rules.length (r := .inr ((s.Rules.length : Int), out ++ hits s u i s.Rules.length)) (fun k hk => ?_) ?_
  · have h2 : wh (qR9 s.Sig s.Rules u s.Rules (s.Rules.length : Int) (i : Int) s.Sig s.Rules) (0, out) = some (.inr ((s.Rules.length : Int), out ++ hits s u i s.Rules.length)) := by simpa [hits] using this
    simp only [qbF9, h2, Option.bind_some]
  · have hr : s.Rules[k]? = some s.Rules[k] := List.getElem?_eq_getElem hk
    have ok := hR.rules _ (List.getElem_mem hk)
    obtain ⟨c, hc, hc0⟩ := ok.head
    obtain ⟨d, v, hdv⟩ : ∃ d v, u = d :: v := by
      cases hu : u with
      | nil => rw [hu] at hT; exact absurd hT.ne (by simp)
      | cons d v => exact ⟨d, v, rfl⟩
    have hw : w64 ((k : Int) + 1) = ((k + 1 : Nat) : Int) := by rw [qe9 (by omega) (by omega)]; omega
    have hl := qpO9 s u i k
    have ic : idx s.Rules[k].L 0 = some c := qh9 (i := 0) hc
    have id : idx u 0 = some d := by rw [hdv]; rfl
    simp only [qR9]
    rw [if_pos (by omega), qh9 hr]
    simp only [Option.bind_some, ic, id]
    rw [qiM9]
    have hh : hit s u i k = if metB s.Sig s.Rules[k].L u = true then some ⟨(i : Int), (k : Int)⟩ else none := by unfold hit; rw [hr]
    by_cases e : c = d
    · rw [if_pos e, qjJ9 hS ok.sl su, qjN9 hR.sg ok.tl hT ok.sl su]
      simp only [Option.bind_some]
      cases hma : mat s.Sig s.Rules[k].L u [] with
      | none =>
        have : metB s.Sig s.Rules[k].L u = false := by unfold metB; rw [hma]; rfl
        rw [hh, this]
        simp [hw]
      | some o =>
        have : metB s.Sig s.Rules[k].L u = true := by unfold metB; rw [hma]; rfl
        rw [hh, this]
        simp only [if_true, qhl9]
        rw [if_pos (by rw [List.length_append]; omega)]
        simp [hw]
    · rw [if_neg e]
      have : metB s.Sig s.Rules[k].L u = false := by
        unfold metB
        obtain ⟨q, hq⟩ : ∃ q, s.Rules[k].L = c :: q := by
          cases hL : s.Rules[k].L with
          | nil => rw [hL] at hc; cases hc
          | cons a q => rw [hL] at hc; simp at hc; subst hc; exact ⟨q, rfl⟩
        rw [hq, hdv]
        simp only [mat]
        rw [if_pos hc0, if_neg (fun h => e h.symm)]
        rfl
      rw [hh, this]
      simp [hw]
  · simp only [qR9]; rw [if_neg (by omega)]
def allR (s : System) (t : List Int) (n : Nat) : List Redex := (List.range n).flatMap fun i => hits s (first s.Sig (t.drop i)) i s.Rules.length
theorem qmW9 (s : System) (t : List Int) (n : Nat) : allR s t (n + 1) = allR s t n ++ hits s (first s.Sig (t.drop n)) n s.Rules.length := by
  unfold allR; rw [List.range_succ, List.flatMap_append]; simp
theorem qvR9 {s : System} {t : List Int} (h : s.Rules.length ≤ 64) : ∀ n, (allR s t n).length ≤ 64 * n := by
  intro n
  induction n with
  | zero => simp [allR]
  | succ n ih =>
    rw [qmW9, List.length_append]
    have := qpO9 s (first s.Sig (t.drop n)) n s.Rules.length
    omega
theorem qgv9 {sig : List Symbol} {t : List Int} {i : Nat} (hi : i ≤ t.length) : (t.drop i).take (enR sig t i 1 - i) = first sig (t.drop i) := by
  obtain ⟨d1, d2, d3⟩ := qcF9 (sig := sig) (t := t) (i := i) (k := 1) hi
  unfold first
  congr 1
  rw [List.length_drop]
  have := congrArg List.length d1
  rw [List.length_drop] at this
  unfold rest
  omega
theorem qhv9 {sig : List Symbol} {t : List Int} {i : Nat} : (first sig (t.drop i)).length ≤ t.length := by
  unfold first; rw [List.length_take, List.length_drop]; omega
theorem qzd9 {s : System} {t : List Int} (hS : SysSmall s) (ht : Small t) (hR : SysR s) (hT : TOK s.Sig t) : qgW9 s t = some (allR s t t.length) := by
  obtain ⟨e, he, hz⟩ := qfY9 hS ht
  have h0 := hz.2 ⟨hR, hT⟩
  subst h0
  have hA := qca9 hR.sg
  have hE := qmp9 hA ht hT
  have ht' := ht
  unfold Small at ht
  simp only [qgW9, he, Option.bind_some, if_true, hE]
  have := qml9 (step := qdS9 s t [] ((List.range t.length).map fun i => ((enR s.Sig t i 1 : Nat) : Int)) (((List.range t.length).map fun i => ((enR s.Sig t i 1 : Nat) : Int)).length : Int) s.Sig s.Rules) (fun k => ((k : Int), allR s t k)) t.length (r := ((t.length : Int), allR s t t.length)) (fun k hk => ?_) ?_
  · have h2 : wh (qdS9 s t [] ((List.range t.length).map fun i => ((enR s.Sig t i 1 : Nat) : Int)) (((List.range t.length).map fun i => ((enR s.Sig t i 1 : Nat) : Int)).length : Int) s.Sig s.Rules) (0, []) = some ((t.length : Int), allR s t t.length) := by simpa [allR] using this
    rw [h2]; rfl
  · have hx : ((List.range t.length).map fun i => ((enR s.Sig t i 1 : Nat) : Int))[k]? = some ((enR s.Sig t k 1 : Nat) : Int) := by
      rw [List.getElem?_map, List.getElem?_range hk]; rfl
    obtain ⟨d1, d2, d3⟩ := qcF9 (sig := s.Sig) (t := t) (i := k) (k := 1) (by omega)
    have hc : cutL t (k : Int) ((enR s.Sig t k 1 : Nat) : Int) = some (first s.Sig (t.drop k)) := by rw [qcA9 d2 d3, qgv9 (by omega)]
    have hw : w64 ((k : Int) + 1) = ((k + 1 : Nat) : Int) := by rw [qe9 (by omega) (by omega)]; omega
    have hl := qvR9 (s := s) (t := t) hR.many k
    have hf := qhv9 (sig := s.Sig) (t := t) (i := k)
    simp only [qdS9]
    rw [if_pos (by rw [List.length_map, List.length_range]; omega), qh9 hx]
    simp only [Option.bind_some, hc]
    rw [qvy9 hS.1 hR (by unfold Small; omega) (qfZ9 (hT.at hk)) (by omega) (by omega)]
    simp only [Option.bind_some, hw, qmW9]
  · simp only [qdS9]; rw [if_neg (by rw [List.length_map, List.length_range]; omega)]
end Ld.Law
namespace Ld.Law
open Go Go.Abs Go.Lib
theorem qpH9 {s : List Bind} {c : Int} (hL : s.length ≤ 1048576) (h0 : c < 0) (h1 : -1048576 ≤ c) : qgG9 s c = some (bf s (-1 - c)) := by
  have hv : w64 (-1 - c) = -1 - c := qe9 (by omega) (by omega)
  have := qcG9 (step := qdD9 s c [] s (s.length : Int)) (l := s) (g := fun _ b => if b.Var = -1 - c then some (Sum.inl b.T : List Int ⊕ Int) else none) (fin := .inr (s.length : Int)) (fun i b hb => ?_) ?_
  · simp only [qgG9, this, Option.bind_some]
    have e : ∀ (l : List Bind) (k : Nat), qbI9 (fun _ b => if b.Var = -1 - c then some (Sum.inl b.T : List Int ⊕ Int) else none) k l = (bnd? l (-1 - c)).map fun u => Sum.inl u := by
      intro l
      induction l with
      | nil => intro k; rfl
      | cons a r ih =>
        intro k
        simp only [qbI9, bnd?, List.find?_cons]
        by_cases h : a.Var = -1 - c
        · rw [if_pos h, decide_eq_true h]; rfl
        · rw [if_neg h, decide_eq_false h]; exact ih _
    rw [e]
    unfold bf
    cases bnd? s (-1 - c) with
    | none => simp only [Option.map_none, Option.getD_none]; congr 2; omega
    | some u => rfl
  · have hi := (List.getElem?_eq_some_iff.1 hb).1
    simp only [qdD9]
    rw [if_pos (by omega), qh9 hb, qe9 (n := (i : Int) + 1) (by omega) (by omega), hv]
    simp only [Option.bind_some]
    by_cases h : b.Var = -1 - c
    · rw [if_pos h, if_pos h]
    · rw [if_neg h, if_neg h]; rfl
  · simp only [qdD9]; rw [if_neg (by omega)]
theorem qyf9 {s : System} {t : List Int} {x : Redex} {e1 e3 f1 f2 : Int} {b : List Bind} {tt : Bool} {left : Nat} {R L o : List Int} {sg : List Symbol} {ru : List Rule} (hB : BOK b) (hR : R.length ≤ 512) (hlow : ∀ c ∈ R, -1048576 ≤ c) (ho : o.length ≤ 1048576) (hl : left ≤ 1048576) : ∀ (n j : Nat), j + n = R.length → (0 < j → o.length + (appF (bf b) (R.take j)).length + left ≤ 512) → 0 < R.length →
    ∃ y, wh (qeq9 s t x e1 e3 b tt (left : Int) R (R.length : Int) sg ru f1 f2 [] L R) ((j : Int), o ++ appF (bf b) (R.take j)) = some y ∧ (if o.length + (appF (bf b) R).length + left ≤ 512 then ∃ a, y = .inr (a, o ++ appF (bf b) R) else y = .inl ([], 2)) := by
  intro n
  induction n with
  | zero =>
    intro j hj hc hp
    have e : R.take j = R := List.take_of_length_le (by omega)
    rw [e] at hc ⊢
    exact ⟨_, qg9 (r := .inr ((j : Int), o ++ appF (bf b) R)) (by simp only [qeq9]; rw [if_neg (by omega)]), by rw [if_pos (hc (by omega))]; exact ⟨_, rfl⟩⟩
  | succ n ih =>
    intro j hj hc hp
    have hlt : j < R.length := by omega
    have hx : R[j]? = some R[j] := List.getElem?_eq_getElem hlt
    have htk : R.take (j + 1) = R.take j ++ [R[j]] := by rw [List.take_add_one, hx]; rfl
    have hlo := hlow _ (List.getElem_mem hlt)
    have hw : w64 ((j : Int) + 1) = ((j + 1 : Nat) : Int) := by rw [qe9 (by omega) (by omega)]; omega
    have hsn := qmT9 (bf b) (R.take j) R[j]
    rw [← htk] at hsn
    have hbl := quO9 hB (-1 - R[j])
    have hcur : (appF (bf b) (R.take j)).length ≤ 512 := by
      rcases Nat.eq_zero_or_pos j with h | h
      · subst h; simp [appF]
      · have := hc h; omega
    have step : qeq9 s t x e1 e3 b tt (left : Int) R (R.length : Int) sg ru f1 f2 [] L R ((j : Int), o ++ appF (bf b) (R.take j)) = if o.length + (appF (bf b) (R.take (j + 1))).length + left ≤ 512 then some (.inl (((j + 1 : Nat) : Int), o ++ appF (bf b) (R.take (j + 1)))) else some (.inr (.inl ([], 2))) := by
      have fin : ∀ piece : List Int, piece = (if 0 ≤ R[j] then [R[j]] else bf b (-1 - R[j])) → piece.length ≤ 1048576 → (if 512 < w64 (w64 (((o ++ appF (bf b) (R.take j)).length : Int) + (piece.length : Int)) + (left : Int)) then some (Sum.inr (Sum.inl (([] : List Int), (2 : Int))) : (Int × List Int) ⊕ (List Int × Int) ⊕ (Int × List Int)) else if ((o ++ appF (bf b) (R.take j)).length + piece.length) * 8 ≤ 140737488355328 then some (.inl (((j + 1 : Nat) : Int), o ++ appF (bf b) (R.take j) ++ piece)) else none) =
          if o.length + (appF (bf b) (R.take (j + 1))).length + left ≤ 512 then some (.inl (((j + 1 : Nat) : Int), o ++ appF (bf b) (R.take (j + 1)))) else some (.inr (.inl ([], 2))) := by
        intro piece hpc hpl
        rw [hsn, ← hpc, List.length_append, List.length_append]
        rw [qe9 (n := (((o.length + (appF (bf b) (R.take j)).length : Nat) : Int) + (piece.length : Int))) (by omega) (by omega), qe9 (by omega) (by omega)]
        by_cases hcc : o.length + ((appF (bf b) (R.take j)).length + piece.length) + left ≤ 512
        · rw [if_neg (by omega), if_pos (by omega), if_pos hcc, List.append_assoc]
        · rw [if_pos (by omega), if_neg hcc]
      simp only [qeq9]
      rw [if_pos (by omega), qh9 hx]
      simp only [Option.bind_some, hw]
      by_cases h0 : R[j] < 0
      · rw [if_pos h0, qpH9 hB.1 h0 hlo]
        simp only [Option.bind_some]
        exact fin (bf b (-1 - R[j])) (by rw [if_neg (by omega)]) hbl
      · rw [if_neg h0]
        exact fin [R[j]] (by rw [if_pos (by omega)]) (by simp)
    have htot : (appF (bf b) (R.take (j + 1))).length ≤ (appF (bf b) R).length := by
      conv => rhs; rw [← List.take_append_drop (j + 1) R]
      rw [qlj9, List.length_append]; omega
    by_cases hcc : o.length + (appF (bf b) (R.take (j + 1))).length + left ≤ 512
    · rw [if_pos hcc] at step
      rw [qy9 step]
      exact ih (j + 1) (by omega) (fun _ => hcc) hp
    · rw [if_neg hcc] at step
      exact ⟨_, qg9 step, by rw [if_neg (by omega)]⟩
noncomputable def doR (s : System) (t : List Int) (i : Nat) (r : Rule) : List Int × Int := match mat s.Sig r.L (first s.Sig (t.drop i)) [] with
  | none => ([], 80)
  | some o => if i + (appF (bf (sortB o)) r.R).length + (t.length - enR s.Sig t i 1) ≤ 512 then (t.take i ++ appF (bf (sortB o)) r.R ++ t.drop (enR s.Sig t i 1), 0) else ([], 2)
theorem qne9 {sig : List Symbol} {p u : List Int} {o : List Bind} (h : MatOK sig p u o) (hp : Small p) (hu : Small u) : BOK (sortB o) := by
  unfold Small at hp hu
  have hperm := qij9 o
  exact ⟨by rw [hperm.length_eq]; have := h.len; omega, fun b hb => by have := h.tlen (hperm.mem_iff.1 hb); omega⟩
theorem Do_ok {s : System} {t : List Int} (hS : SysSmall s) (ht : Small t) (hR : SysR s) (hT : TOK s.Sig t) {i k : Nat} {r : Rule} (hi : i < t.length) (hr : s.Rules[k]? = some r) : qbi9 s t ⟨(i : Int), (k : Int)⟩ = some (doR s t i r) := by
  obtain ⟨e, he, hz⟩ := qfY9 hS ht
  have h0 := hz.2 ⟨hR, hT⟩
  subst h0
  have hA := qca9 hR.sg
  have hE := qmp9 hA ht hT
  have ht' := ht
  unfold Small at ht
  have hk := (List.getElem?_eq_some_iff.1 hr).1
  have ok := hR.rules r (List.mem_of_getElem? hr)
  have hm := hR.many
  obtain ⟨d1, d2, d3⟩ := qcF9 (sig := s.Sig) (t := t) (i := i) (k := 1) (by omega)
  have hx : ((List.range t.length).map fun i => ((enR s.Sig t i 1 : Nat) : Int))[i]? = some ((enR s.Sig t i 1 : Nat) : Int) := by
    rw [List.getElem?_map, List.getElem?_range hi]; rfl
  have hc : cutL t (i : Int) ((enR s.Sig t i 1 : Nat) : Int) = some (first s.Sig (t.drop i)) := by rw [qcA9 d2 d3, qgv9 (by omega)]
  have hf := qhv9 (sig := s.Sig) (t := t) (i := i)
  have su : Small (first s.Sig (t.drop i)) := by unfold Small; omega
  have hu := qfZ9 (hT.at hi)
  simp only [qbi9, he, Option.bind_some, if_true]
  rw [if_neg (by omega), if_neg (by omega), if_neg (by omega), if_neg (by omega), hE]
  simp only [Option.bind_some, qh9 hx, qh9 hr, hc, qjJ9 hS.1 ok.sl su, qjN9 hR.sg ok.tl hu ok.sl su]
  unfold doR
  cases hma : mat s.Sig r.L (first s.Sig (t.drop i)) [] with
  | none => simp
  | some o =>
    have hO := matOK ok.tl hu hma
    have hB := qne9 hO ok.sl su
    have hc0 : cutL t 0 (i : Int) = some (t.take i) := by
      have := qcA9 (l := t) (i := 0) (k := i) (by omega) (by omega)
      simpa using this
    have hleft : w64 ((t.length : Int) - ((enR s.Sig t i 1 : Nat) : Int)) = ((t.length - enR s.Sig t i 1 : Nat) : Int) := by rw [qe9 (by omega) (by omega)]; omega
    have htl : (t.take i).length = i := by rw [List.length_take]; omega
    have hcl : cutL t ((enR s.Sig t i 1 : Nat) : Int) (t.length : Int) = some (t.drop (enR s.Sig t i 1)) := by
      rw [qcA9 d3 (Nat.le_refl _), List.take_of_length_le (by rw [List.length_drop]; omega)]
    simp only [if_true, hc0, Option.bind_some, hleft]
    rw [if_pos (by rw [htl]; omega)]
    obtain ⟨y, hy, h⟩ := qyf9 (s := s) (t := t) (x := ⟨(i : Int), (k : Int)⟩) (e1 := 0) (e3 := ((enR s.Sig t i 1 : Nat) : Int)) (f1 := (i : Int)) (f2 := (k : Int)) (b := sortB o) (tt := true) (left := t.length - enR s.Sig t i 1) (R := r.R) (L := r.L) (o := t.take i) (sg := s.Sig) (ru := s.Rules) hB ok.rl (qdo9 (qeO9 ok.tr)) (by omega) (by omega) r.R.length 0 (by omega) (fun h => absurd h (by omega)) ok.tr.ne
    rw [List.take_zero, show appF (bf (sortB o)) [] = [] from rfl, List.append_nil, Int.natCast_zero] at hy
    rw [hy]
    simp only [Option.bind_some]
    rw [htl] at h
    by_cases hcc : i + (appF (bf (sortB o)) r.R).length + (t.length - enR s.Sig t i 1) ≤ 512
    · rw [if_pos hcc] at h ⊢
      obtain ⟨a, rfl⟩ := h
      simp only [hcl, Option.bind_some]
      rw [if_pos (by rw [List.length_append, htl, List.length_drop]; omega)]
    · rw [if_neg hcc] at h ⊢
      subst h; rfl
end Ld.Law
namespace Ld.Law
open Go Go.Abs Go.Lib
theorem qux9 {s : System} (hS : SigOK s.Sig) (hR : SysR s) {u : List Int} (su : Small u) (hT : TOK s.Sig u) {i : Nat} (hi : i ≤ 1048576) (f0 f1 : Int) : qX9 s.Sig s.Rules u f0 f1 (i : Int) = some (match (hits s u i s.Rules.length).head? with | none => (true, f0, f1) | some x => (false, x.At, x.Rule)) := by
  have hm := hR.many
  have key : ∀ (n k : Nat), k + n = s.Rules.length → hits s u i k = [] → wh (qq9 s.Sig s.Rules u s.Rules (s.Rules.length : Int) (i : Int) s.Sig s.Rules) ((k : Int), f0, f1) = some (match (hits s u i s.Rules.length).head? with | none => .inr ((s.Rules.length : Int), f0, f1) | some x => .inl (false, x.At, x.Rule)) := by
    intro n
    induction n with
    | zero =>
      intro k hk he
      have : k = s.Rules.length := by omega
      subst this
      rw [he]
      exact qg9 (by simp only [qq9]; rw [if_neg (by omega)]; rfl)
    | succ n ih =>
      intro k hk he
      have hk' : k < s.Rules.length := by omega
      have hr : s.Rules[k]? = some s.Rules[k] := List.getElem?_eq_getElem hk'
      have ok := hR.rules _ (List.getElem_mem hk')
      obtain ⟨c, hc, hc0⟩ := ok.head
      obtain ⟨d, v, hdv⟩ : ∃ d v, u = d :: v := by
        cases hu : u with
        | nil => rw [hu] at hT; exact absurd hT.ne (by simp)
        | cons d v => exact ⟨d, v, rfl⟩
      have hw : w64 ((k : Int) + 1) = ((k + 1 : Nat) : Int) := by rw [qe9 (by omega) (by omega)]; omega
      have ic : idx s.Rules[k].L 0 = some c := qh9 (i := 0) hc
      have id : idx u 0 = some d := by rw [hdv]; rfl
      have hh : hit s u i k = if metB s.Sig s.Rules[k].L u = true then some ⟨(i : Int), (k : Int)⟩ else none := by unfold hit; rw [hr]
      have no : metB s.Sig s.Rules[k].L u = false → qq9 s.Sig s.Rules u s.Rules (s.Rules.length : Int) (i : Int) s.Sig s.Rules ((k : Int), f0, f1) = some (.inl (((k + 1 : Nat) : Int), f0, f1)) → wh (qq9 s.Sig s.Rules u s.Rules (s.Rules.length : Int) (i : Int) s.Sig s.Rules) ((k : Int), f0, f1) = some (match (hits s u i s.Rules.length).head? with | none => .inr ((s.Rules.length : Int), f0, f1) | some x => .inl (false, x.At, x.Rule)) := by
        intro hb step
        rw [qy9 step]
        exact ih (k + 1) (by omega) (by rw [qiM9, he, hh, hb]; rfl)
      by_cases e : c = d
      · cases hma : mat s.Sig s.Rules[k].L u [] with
        | none =>
          refine no (by unfold metB; rw [hma]; rfl) ?_
          simp only [qq9]
          rw [if_pos (by omega), qh9 hr]
          simp only [Option.bind_some, ic, id]
          rw [if_pos e, qjJ9 hS ok.sl su, qjN9 hR.sg ok.tl hT ok.sl su, hma]
          simp [hw]
        | some o =>
          have hb : metB s.Sig s.Rules[k].L u = true := by unfold metB; rw [hma]; rfl
          have hd : (hits s u i s.Rules.length).head? = some ⟨(i : Int), (k : Int)⟩ := by
            have : ∀ m, k + 1 + m ≤ s.Rules.length → ∃ l, hits s u i (k + 1 + m) = ⟨(i : Int), (k : Int)⟩ :: l := by
              intro m
              induction m with
              | zero => intro _; exact ⟨[], by rw [Nat.add_zero, qiM9, he, hh, hb]; rfl⟩
              | succ m ihm =>
                intro hml
                obtain ⟨l, hl⟩ := ihm (by omega)
                exact ⟨l ++ (hit s u i (k + 1 + m)).toList, by rw [← Nat.add_assoc, qiM9, hl]; rfl⟩
            obtain ⟨l, hl⟩ := this (s.Rules.length - (k + 1)) (by omega)
            rw [show k + 1 + (s.Rules.length - (k + 1)) = s.Rules.length by omega] at hl
            rw [hl]; rfl
          rw [hd]
          refine qg9 ?_
          simp only [qq9]
          rw [if_pos (by omega), qh9 hr]
          simp only [Option.bind_some, ic, id]
          rw [if_pos e, qjJ9 hS ok.sl su, qjN9 hR.sg ok.tl hT ok.sl su, hma]
          simp [qet9]
      · have hb : metB s.Sig s.Rules[k].L u = false := by
          unfold metB
          obtain ⟨q, hq⟩ : ∃ q, s.Rules[k].L = c :: q := by
            cases hL : s.Rules[k].L with
            | nil => rw [hL] at hc; cases hc
            | cons a q => rw [hL] at hc; simp at hc; subst hc; exact ⟨q, rfl⟩
          rw [hq, hdv]
          simp only [mat]
          rw [if_pos hc0, if_neg (fun h => e h.symm)]
          rfl
        refine no hb ?_
        simp only [qq9]
        rw [if_pos (by omega), qh9 hr]
        simp only [Option.bind_some, ic, id]
        rw [if_neg e, hw]
  have h2 := key s.Rules.length 0 (by omega) rfl
  rw [Int.natCast_zero] at h2
  simp only [qX9, h2, Option.bind_some]
  cases (hits s u i s.Rules.length).head? <;> rfl
theorem quB9 : Mon (fun (rec : Int × (List Symbol) × (List Rule) × (List Int) × (List Int) × Int × Int → Option (Bool × (List Symbol) × (List Rule) × (List Int) × (List Int) × Int × Int)) (p : Int × (List Symbol) × (List Rule) × (List Int) × (List Int) × Int × Int) => qbt9 rec p.1 p.2.1 p.2.2.1 p.2.2.2.1 p.2.2.2.2.1 p.2.2.2.2.2.1 p.2.2.2.2.2.2) := by
  intro g g' hg a r h
  simp only [qbt9] at h ⊢
  obtain ⟨x5, e5, h⟩ := bsome h
  rw [wh_le (fun s r hs => ?_) e5]
  · exact h
  · obtain ⟨s8, a1, a2, a3, a4, a5, a6⟩ := s
    simp only [qbx9] at hs ⊢
    obtain ⟨x1, e1, hs⟩ := bsome hs
    rw [e1]; simp only [Option.bind_some]
    by_cases c : s8 < x1
    · rw [if_pos c] at hs ⊢
      obtain ⟨x2, e2, hs⟩ := bsome hs
      rw [hg _ _ e2]; exact hs
    · rw [if_neg c] at hs ⊢; exact hs
def seekR (s : System) (t : List Int) : Nat → Nat → Nat → Option Redex
  | 0, _, _ => none
  | f + 1, p, e => if p < e then (match seekR s t f (p + 1) (enR s.Sig t p 1) with
    | some x => some x
    | none => match (hits s (first s.Sig (t.drop p)) p s.Rules.length).head? with
      | some x => some x
      | none => seekR s t f (enR s.Sig t p 1) e) else none
theorem quF9 {s : System} {t : List Int} (hS : SigOK s.Sig) (hR : SysR s) (ht : Small t) (hT : TOK s.Sig t) : ∀ (k i : Nat) (f0 f1 : Int), i < t.length → enR s.Sig t i 1 - i ≤ k →
    ∀ f, enR s.Sig t i 1 - i ≤ f + 1 → fixN (fun (rec : Int × (List Symbol) × (List Rule) × (List Int) × (List Int) × Int × Int → Option (Bool × (List Symbol) × (List Rule) × (List Int) × (List Int) × Int × Int)) (p : Int × (List Symbol) × (List Rule) × (List Int) × (List Int) × Int × Int) => qbt9 rec p.1 p.2.1 p.2.2.1 p.2.2.2.1 p.2.2.2.2.1 p.2.2.2.2.2.1 p.2.2.2.2.2.2) k ((i : Int), s.Sig, s.Rules, t, (List.range t.length).map (fun i => ((enR s.Sig t i 1 : Nat) : Int)), f0, f1) =
      some (match (match seekR s t f (i + 1) (enR s.Sig t i 1) with | some x => some x | none => (hits s (first s.Sig (t.drop i)) i s.Rules.length).head?) with
        | some x => (true, s.Sig, s.Rules, t, (List.range t.length).map (fun i => ((enR s.Sig t i 1 : Nat) : Int)), x.At, x.Rule)
        | none => (false, s.Sig, s.Rules, t, (List.range t.length).map (fun i => ((enR s.Sig t i 1 : Nat) : Int)), f0, f1)) := by
  have hA := qca9 hR.sg
  have ht' := ht
  unfold Small at ht
  generalize hE : (List.range t.length).map (fun i => ((enR s.Sig t i 1 : Nat) : Int)) = E
  have hx : ∀ p, p < t.length → idx E (p : Int) = some ((enR s.Sig t p 1 : Nat) : Int) := fun p hp => qh9 (by rw [← hE, List.getElem?_map, List.getElem?_range hp]; rfl)
  intro k
  induction k with
  | zero =>
    intro i f0 f1 hi hk
    have := (qkJ9 (sig := s.Sig) (t := t) (i := i) (m := 0) (by omega) (hT.at hi)).2.1
    omega
  | succ k IH =>
    intro i f0 f1 hi hk f hf
    show qbt9 (fixN (fun (rec : Int × (List Symbol) × (List Rule) × (List Int) × (List Int) × Int × Int → Option (Bool × (List Symbol) × (List Rule) × (List Int) × (List Int) × Int × Int)) (p : Int × (List Symbol) × (List Rule) × (List Int) × (List Int) × Int × Int) => qbt9 rec p.1 p.2.1 p.2.2.1 p.2.2.2.1 p.2.2.2.2.1 p.2.2.2.2.2.1 p.2.2.2.2.2.2) k) (i : Int) s.Sig s.Rules t E f0 f1 = _
    generalize hrec : fixN (fun (rec : Int × (List Symbol) × (List Rule) × (List Int) × (List Int) × Int × Int → Option (Bool × (List Symbol) × (List Rule) × (List Int) × (List Int) × Int × Int)) (p : Int × (List Symbol) × (List Rule) × (List Int) × (List Int) × Int × Int) => qbt9 rec p.1 p.2.1 p.2.2.1 p.2.2.2.1 p.2.2.2.2.1 p.2.2.2.2.2.1 p.2.2.2.2.2.2) k = rec at IH ⊢
    have hrx := hT.at hi
    have hgt := (qkJ9 (sig := s.Sig) (t := t) (i := i) (m := 0) (by omega) hrx).2.1
    have hel := (qcF9 (sig := s.Sig) (t := t) (i := i) (k := 1) (by omega)).2.2
    have hw : w64 ((i : Int) + 1) = ((i + 1 : Nat) : Int) := by rw [qe9 (by omega) (by omega)]; omega
    -- the loop over the arguments
    have loop : ∀ (m p j f : Nat), enR s.Sig t i 1 - p ≤ m → enR s.Sig t i 1 - p ≤ f → i < p → p ≤ enR s.Sig t i 1 → (rdT s.Sig (t.drop p) j).2 = 0 → enR s.Sig t p j = enR s.Sig t i 1 →
        wh (qbx9 rec (i : Int) (i : Int)) ((p : Int), s.Sig, s.Rules, t, E, f0, f1) = some (match seekR s t f p (enR s.Sig t i 1) with
          | some x => .inl (true, s.Sig, s.Rules, t, E, x.At, x.Rule)
          | none => .inr (((enR s.Sig t i 1 : Nat) : Int), s.Sig, s.Rules, t, E, f0, f1)) := by
      intro m
      induction m with
      | zero =>
        intro p j f hm hf hip hpe h1 h2
        have : p = enR s.Sig t i 1 := by omega
        have e0 : seekR s t f p (enR s.Sig t i 1) = none := by
          cases f with
          | zero => rfl
          | succ f => simp only [seekR]; rw [if_neg (by omega)]
        rw [e0]
        refine qg9 ?_
        simp only [qbx9, hx i hi, Option.bind_some]
        rw [if_neg (by omega), this]
      | succ m ihm =>
        intro p j f hm hf hip hpe h1 h2
        by_cases hlt : p < enR s.Sig t i 1
        rotate_left
        · have : p = enR s.Sig t i 1 := by omega
          have e0 : seekR s t f p (enR s.Sig t i 1) = none := by
            cases f with
            | zero => rfl
            | succ f => simp only [seekR]; rw [if_neg (by omega)]
          rw [e0]
          refine qg9 ?_
          simp only [qbx9, hx i hi, Option.bind_some]
          rw [if_neg (by omega), this]
        have hpl : p < t.length := by omega
        cases j with
        | zero => rw [qms9 (by omega)] at h2; omega
        | succ j =>
          obtain ⟨q1, q2, q3, q4⟩ := qkJ9 (by omega) h1
          have hpe2 : enR s.Sig t p 1 ≤ enR s.Sig t i 1 := by rw [← h2, ← q4]; exact (qcF9 (by have := (qcF9 (sig := s.Sig) (t := t) (i := p) (k := 1) (by omega)).2.2; omega)).2.1
          cases f with
          | zero => omega
          | succ f =>
            have r1 := IH p f0 f1 hpl (by omega) f (by omega)
            have step : qbx9 rec (i : Int) (i : Int) ((p : Int), s.Sig, s.Rules, t, E, f0, f1) = some (match (match seekR s t f (p + 1) (enR s.Sig t p 1) with | some x => some x | none => (hits s (first s.Sig (t.drop p)) p s.Rules.length).head?) with
                | some x => .inr (.inl (true, s.Sig, s.Rules, t, E, x.At, x.Rule))
                | none => .inl (((enR s.Sig t p 1 : Nat) : Int), s.Sig, s.Rules, t, E, f0, f1)) := by
              simp only [qbx9, hx i hi, Option.bind_some]
              rw [if_pos (by omega), r1]
              simp only [Option.bind_some]
              cases (match seekR s t f (p + 1) (enR s.Sig t p 1) with | some x => some x | none => (hits s (first s.Sig (t.drop p)) p s.Rules.length).head?) with
              | some x => simp
              | none => simp [hx p hpl]
            have hs : seekR s t (f + 1) p (enR s.Sig t i 1) = match (match seekR s t f (p + 1) (enR s.Sig t p 1) with | some x => some x | none => (hits s (first s.Sig (t.drop p)) p s.Rules.length).head?) with
                | some x => some x
                | none => seekR s t f (enR s.Sig t p 1) (enR s.Sig t i 1) := by
              simp only [seekR]
              rw [if_pos hlt]
              cases seekR s t f (p + 1) (enR s.Sig t p 1) with
              | some x => rfl
              | none => cases (hits s (first s.Sig (t.drop p)) p s.Rules.length).head? <;> rfl
            rw [hs]
            cases hz : (match seekR s t f (p + 1) (enR s.Sig t p 1) with | some x => some x | none => (hits s (first s.Sig (t.drop p)) p s.Rules.length).head?) with
            | some x =>
              rw [hz] at step
              exact qg9 step
            | none =>
              rw [hz] at step
              rw [qy9 step]
              exact ihm (enR s.Sig t p 1) j f (by omega) (by omega) (by omega) hpe2 q3 (by rw [q4, h2])
    have hx0 : t[i]? = some t[i] := List.getElem?_eq_getElem hi
    have hcons : t.drop i = t[i] :: t.drop (i + 1) := List.drop_eq_getElem_cons hi
    have hrc := hrx
    rw [hcons] at hrc
    simp only [rdT] at hrc
    have hc : ¬ ((s.Sig.length : Int) ≤ t[i] ∨ t[i] < -1048576) := fun hc => by rw [if_pos hc] at hrc; simp at hrc
    rw [if_neg hc, Nat.zero_add] at hrc
    have hen : enR s.Sig t (i + 1) (arOf s.Sig t[i]) = enR s.Sig t i 1 := by
      show t.length - _ = t.length - _
      rw [hcons]
      simp only [rdT]
      rw [if_neg hc, Nat.zero_add]
    have l1 := loop (enR s.Sig t i 1 - (i + 1)) (i + 1) (arOf s.Sig t[i]) f (by omega) (by omega) (by omega) (by omega) hrc hen
    simp only [qbt9, hw]
    rw [l1]
    simp only [Option.bind_some]
    cases hz : seekR s t f (i + 1) (enR s.Sig t i 1) with
    | some x => rfl
    | none =>
      have hcut : cutL t (i : Int) ((enR s.Sig t i 1 : Nat) : Int) = some (first s.Sig (t.drop i)) := by rw [qcA9 (by omega) hel, qgv9 (by omega)]
      have hfl := qhv9 (sig := s.Sig) (t := t) (i := i)
      simp only [hx i hi, Option.bind_some, hcut]
      rw [qux9 hS hR (by unfold Small; omega) (qfZ9 hrx) (by omega)]
      simp only [Option.bind_some]
      cases (hits s (first s.Sig (t.drop i)) i s.Rules.length).head? <;> rfl
theorem qos9 {s : System} {t : List Int} (hS : SysSmall s) (ht : Small t) (hR : SysR s) (hT : TOK s.Sig t) : qdH9 s t = some (match seekR s t t.length 0 t.length with | some x => (x, true) | none => (⟨0, 0⟩, false)) := by
  obtain ⟨e, he, hz⟩ := qfY9 hS ht
  have h0 := hz.2 ⟨hR, hT⟩
  subst h0
  have hA := qca9 hR.sg
  have hE := qmp9 hA ht hT
  have hp := hT.ne
  have e0 : enR s.Sig t 0 1 = t.length := by
    show t.length - _ = _
    rw [List.drop_zero, show rdT s.Sig t 1 = ([], 0) from hT]; rfl
  obtain ⟨f, hf⟩ : ∃ f, t.length = f + 1 := ⟨t.length - 1, by omega⟩
  have h1 := qph9 quB9 (quF9 hS.1 hR ht hT t.length 0 0 0 hp (by omega) f (by omega))
  rw [Int.natCast_zero] at h1
  simp only [qdH9, he, Option.bind_some, if_true, hE]
  unfold qhV9
  rw [h1]
  have hs : seekR s t t.length 0 t.length = match (match seekR s t f (0 + 1) (enR s.Sig t 0 1) with | some x => some x | none => (hits s (first s.Sig (t.drop 0)) 0 s.Rules.length).head?) with
      | some x => some x
      | none => none := by
    conv => lhs; rw [hf]
    simp only [seekR]
    rw [← hf, if_pos hp, e0]
    have e1 : seekR s t f t.length t.length = none := by
      cases f with
      | zero => rfl
      | succ f => simp only [seekR]; rw [if_neg (by omega)]
    rw [e1]
    cases seekR s t f (0 + 1) t.length with
    | some x => rfl
    | none => cases (hits s (first s.Sig (t.drop 0)) 0 s.Rules.length).head? <;> rfl
  rw [hs]
  simp only [Option.bind_some]
  cases (match seekR s t f (0 + 1) (enR s.Sig t 0 1) with | some x => some x | none => (hits s (first s.Sig (t.drop 0)) 0 s.Rules.length).head?) <;> rfl
end Ld.Law
namespace Ld.Law
open Go Go.Abs Go.Lib
end Ld.Law
namespace Ld.Law
open Go Go.Abs Go.Lib
def sumsS : System := ⟨three, [⟨[2, 0, -1], [-1]⟩, ⟨[2, 1, -1, -2], [1, 2, -1, -2]⟩]⟩
theorem qxF9 : qjQ9 = some sumsS := rfl
theorem qeu9 : SysSmall sumsS := by
  refine ⟨qvn9, by decide, fun r hr => ?_⟩
  simp only [sumsS, List.mem_cons, List.not_mem_nil, or_false] at hr
  rcases hr with rfl | rfl <;> exact ⟨by unfold Small; decide, by unfold Small; decide⟩
theorem qes9 : SysR sumsS := by
  refine ⟨qub9, by decide, by decide +kernel, by decide, fun r hr => ?_⟩
  simp only [sumsS, List.mem_cons, List.not_mem_nil, or_false] at hr
  rcases hr with rfl | rfl
  · exact ⟨by decide +kernel, by decide +kernel, by decide, by decide, ⟨2, rfl, by decide⟩, by decide⟩
  · exact ⟨by decide +kernel, by decide +kernel, by decide, by decide, ⟨2, rfl, by decide⟩, by decide⟩
theorem qwb9 {s : System} {t : List Int} (hS : SysSmall s) (ht : Small t) (hR : SysR s) (hT : TOK s.Sig t) {x : Redex} (h0 : 0 ≤ x.At) (h : (t.length : Int) ≤ x.At) : qbi9 s t x = some ([], 33) := by
  obtain ⟨e, he, hz⟩ := qfY9 hS ht
  have h0 := hz.2 ⟨hR, hT⟩
  subst h0
  simp only [qbi9, he, Option.bind_some, if_true]
  rw [if_neg (by omega), if_pos h]
theorem qwO9 {s : System} {t : List Int} (hS : SysSmall s) (ht : Small t) (hR : SysR s) (hT : TOK s.Sig t) {x : Redex} (h0 : 0 ≤ x.At) (h : x.At < (t.length : Int)) (h1 : 0 ≤ x.Rule) (h2 : (s.Rules.length : Int) ≤ x.Rule) : qbi9 s t x = some ([], 1) := by
  obtain ⟨e, he, hz⟩ := qfY9 hS ht
  have h0 := hz.2 ⟨hR, hT⟩
  subst h0
  simp only [qbi9, he, Option.bind_some, if_true]
  rw [if_neg (by omega), if_neg (by omega), if_neg (by omega), if_pos h2]
theorem shown8 : qgp9 = some true := by
  have sm : ∀ t : List Int, t.length ≤ 7 → Small t := fun t h => by unfold Small; omega
  have a1 : qgW9 sumsS [2, 2, 0, 0, 2, 0, 0] = some [⟨1, 0⟩, ⟨4, 0⟩] := by
    rw [qzd9 qeu9 (sm _ (by decide)) qes9 (by decide +kernel)]
    exact congrArg some (by decide +kernel)
  have a2 : qdH9 sumsS [2, 0, 2, 1, 0, 0] = some (⟨2, 1⟩, true) := by
    rw [qos9 qeu9 (sm _ (by decide)) qes9 (by decide +kernel)]
    rw [show seekR sumsS [2, 0, 2, 1, 0, 0] ([2, 0, 2, 1, 0, 0] : List Int).length 0 ([2, 0, 2, 1, 0, 0] : List Int).length = some ⟨2, 1⟩ by decide +kernel]
  have a3 : qdH9 sumsS [1, 0] = some (⟨0, 0⟩, false) := by
    rw [qos9 qeu9 (sm _ (by decide)) qes9 (by decide +kernel)]
    rw [show seekR sumsS [1, 0] ([1, 0] : List Int).length 0 ([1, 0] : List Int).length = none by decide +kernel]
  have d1 : qbi9 sumsS [2, 1, 0, 0] ⟨0, 1⟩ = some ([1, 2, 0, 0], 0) := by
    have := Do_ok (s := sumsS) (t := [2, 1, 0, 0]) (i := 0) (k := 1) (r := ⟨[2, 1, -1, -2], [1, 2, -1, -2]⟩) qeu9 (sm _ (by decide)) qes9 (by decide +kernel) (by decide) rfl
    rw [show doR sumsS [2, 1, 0, 0] 0 ⟨[2, 1, -1, -2], [1, 2, -1, -2]⟩ = ([1, 2, 0, 0], 0) by decide +kernel] at this
    exact this
  have d2 : qbi9 sumsS [2, 1, 0, 0] ⟨0, 0⟩ = some ([], 80) := by
    have := Do_ok (s := sumsS) (t := [2, 1, 0, 0]) (i := 0) (k := 0) (r := ⟨[2, 0, -1], [-1]⟩) qeu9 (sm _ (by decide)) qes9 (by decide +kernel) (by decide) rfl
    rw [show doR sumsS [2, 1, 0, 0] 0 ⟨[2, 0, -1], [-1]⟩ = ([], 80) by decide +kernel] at this
    exact this
  have d3 : qbi9 sumsS [2, 1, 0, 0] ⟨4, 1⟩ = some ([], 33) := qwb9 qeu9 (sm _ (by decide)) qes9 (by decide +kernel) (by decide) (by decide)
  have d4 : qbi9 sumsS [2, 1, 0, 0] ⟨0, 2⟩ = some ([], 1) := qwO9 qeu9 (sm _ (by decide)) qes9 (by decide +kernel) (by decide) (by decide) (by decide) (by decide)
  have s1 : qiH9 [⟨1, 0⟩, ⟨4, 0⟩] [⟨1, 0⟩, ⟨4, 0⟩] = some true := by
    have h : wh (qhg9 [⟨1, 0⟩, ⟨4, 0⟩] [⟨1, 0⟩, ⟨4, 0⟩]) 0 = some (.inr 2) := wh_of 5 (by decide +kernel)
    simp only [qiH9, h, if_true]
    rfl
  simp only [qgp9, qxF9, Option.bind_some, a1, a2, a3, d1, d2, d3, d4, s1, if_true]
  rw [qjE9 (by decide)]
  rfl
theorem qtD9 {s : System} {n : Nat} (h : szL (qf9 s) + n ≤ 1048576) : SysSmall s := by
  have hl := qoC9 (xs := s.Rules.map qd9) (fun a ha => by obtain ⟨n, _, rfl⟩ := List.mem_map.1 ha; simp [qd9])
  rw [List.length_map] at hl
  simp only [qf9, szL, szD] at h
  refine ⟨qss9 (n := 0) (by simp only [lsD, szL, szD]; omega), by omega, fun r hr => ?_⟩
  have h1 := qrP9 (f := qd9) hr
  have h2 := qks9 r.L
  have h3 := qks9 r.R
  simp only [qd9, szL, szD] at h1
  unfold Small
  omega
end Ld.Law
namespace Ld.Law
open Go Go.Abs Go.Lib
theorem qrj9 (s : ByteArray) (i : Nat) (hi : i < s.size) : i + (Utf8.decode s i).2 ≤ s.size ∧ 1 ≤ (Utf8.decode s i).2 ∧ (((Utf8.decode s i).2 = 1 ∧ ((Utf8.decode s i).1 = (s.get! i).toNat ∨ 128 ≤ (s.get! i).toNat)) ∨ 128 ≤ (s.get! (i + (Utf8.decode s i).2 - 1)).toNat) := by
  unfold Utf8.decode
  simp only [Bool.and_eq_true, decide_eq_true_eq, beq_iff_eq, Nat.add_zero]
  split
  · exact ⟨by simp only; omega, by simp only; omega, .inl ⟨rfl, .inl rfl⟩⟩
  rename_i h0
  have one : i + 1 ≤ s.size ∧ 1 ≤ 1 ∧ ((1 = 1 ∧ (Utf8.runeError = (s.get! i).toNat ∨ 128 ≤ (s.get! i).toNat)) ∨ 128 ≤ (s.get! (i + 1 - 1)).toNat) := ⟨by omega, by omega, .inl ⟨rfl, .inr (by omega)⟩⟩
  split
  · rename_i h1
    split
    · exact ⟨by simp only; omega, by simp only; omega, .inr (by simp only; rw [show i + 2 - 1 = i + 1 by omega]; omega)⟩
    · exact one
  split
  · rename_i h1
    split
    · exact ⟨by simp only; omega, by simp only; omega, .inr (by simp only; rw [show i + 3 - 1 = i + 2 by omega]; omega)⟩
    · exact one
  split
  · rename_i h1
    split
    · exact ⟨by simp only; omega, by simp only; omega, .inr (by simp only; rw [show i + 4 - 1 = i + 3 by omega]; omega)⟩
    · exact one
  · exact one
theorem qtZ9 (r : Int) (h : r = 35) : qdR9 r = some false := by subst h; rfl
theorem qsC9 {s : ByteArray} (h : qW9 s = some true) : (s.get! (s.size - 1)).toNat ≠ 35 := by
  simp only [qW9] at h
  by_cases h0 : s = { data := #[] }
  · rw [if_pos h0] at h; cases h
  rw [if_neg h0] at h
  by_cases h1 : 32 < (s.size : Int)
  · rw [if_pos h1] at h; cases h
  rw [if_neg h1] at h
  obtain ⟨x1, e1, h⟩ := bsome h
  cases x1 with
  | false => cases h
  | true =>
    simp only [if_true] at h
    obtain ⟨x3, e3, h⟩ := bsome h
    have step : ∀ q, q < s.size → ((Utf8.decode s q).1 : Int) ≠ 35 → (q + (Utf8.decode s q).2 ≤ s.size ∧ (s.get! (q + (Utf8.decode s q).2 - 1)).toNat ≠ 35) := by
      intro q hq hr
      obtain ⟨d1, d2, d3⟩ := qrj9 s q hq
      refine ⟨d1, ?_⟩
      rcases d3 with ⟨w1, d3⟩ | d3
      · rw [w1, show q + 1 - 1 = q by omega]
        rcases d3 with d3 | d3
        · rw [← d3]; omega
        · omega
      · omega
    have hQ := qpw9 (fun q : Nat => q ≤ s.size ∧ (q = 0 ∨ (s.get! (q - 1)).toNat ≠ 35)) (Q := fun r => match r with | .inl b => b = false | .inr q => q = s.size ∧ (q = 0 ∨ (s.get! (q - 1)).toNat ≠ 35)) e3 ⟨Nat.zero_le _, .inl rfl⟩ ?_ ?_
    · cases x3 with
      | inl b => simp only at hQ; subst hQ; cases h
      | inr q =>
        obtain ⟨rfl, hq⟩ := hQ
        rcases hq with hq | hq
        · exfalso
          apply h0
          cases s with
          | mk d => cases d with
            | mk l => cases l with
              | nil => rfl
              | cons a r => simp [ByteArray.size] at hq
        · exact hq
    · intro q q' hI hs
      simp only [qbd9] at hs
      by_cases c : q < s.size
      · rw [if_pos c] at hs
        by_cases hr : ((Utf8.decode s q).1 : Int) = 35
        · rw [qtZ9 _ hr] at hs
          simp only [Option.bind_some, Bool.false_eq_true, if_false, hr] at hs
          split at hs <;> cases hs
        · have : q' = q + (Utf8.decode s q).2 := by
            obtain ⟨x2, _, hs⟩ := bsome hs
            repeat' split at hs
            all_goals first | (cases hs; rfl) | cases hs
          subst this
          have := step q c hr
          exact ⟨this.1, .inr this.2⟩
      · rw [if_neg c] at hs; cases hs
    · intro q r hI hs
      simp only [qbd9] at hs
      by_cases c : q < s.size
      · rw [if_pos c] at hs
        obtain ⟨x2, _, hs⟩ := bsome hs
        repeat' split at hs
        all_goals first | (cases hs; rfl) | cases hs
      · rw [if_neg c] at hs
        cases hs
        exact ⟨by omega, hI.2⟩
def NameP (n : ByteArray) : Prop := qW9 n = some true ∨ ∃ p, cutBA n 0 (w64 ((n.size : Int) - 1)) = some p ∧ qW9 p = some true
theorem qmE9 {sig : List Symbol} (h : qw9 sig = some 0) : ∀ s ∈ sig, NameP s.Name := by
  simp only [qw9] at h
  split at h
  · cases h
  rename_i hlen
  obtain ⟨x, hx, h⟩ := bsome h
  have hI := qpw9 (fun i : Int => 0 ≤ i ∧ i ≤ sig.length ∧ ∀ (k : Nat) (s : Symbol), (k : Int) < i → sig[k]? = some s → NameP s.Name) (Q := fun r => match r with | .inl e => e ≠ 0 | .inr _ => ∀ (k : Nat) (s : Symbol), sig[k]? = some s → NameP s.Name) hx ⟨Int.le_refl _, by omega, fun k s hk => by omega⟩ ?_ ?_
  · cases x with
    | inl e => simp only [Option.some.injEq] at h; exact absurd h hI
    | inr i =>
      intro s hs
      obtain ⟨k, hk⟩ := List.getElem?_of_mem hs
      exact hI k s hk
  · intro i i' hi hs
    simp only [qE9] at hs
    obtain ⟨h0, h1, h2⟩ := hi
    have key : ∀ x1 : Symbol, idx sig i = some x1 → i < sig.length → NameP x1.Name → i' = w64 (i + 1) → 0 ≤ i' ∧ i' ≤ sig.length ∧ ∀ (k : Nat) (s : Symbol), (k : Int) < i' → sig[k]? = some s → NameP s.Name := by
      intro x1 hx1 hlt a1 e
      have hw : w64 (i + 1) = i + 1 := qe9 (by omega) (by omega)
      rw [hw] at e
      subst e
      refine ⟨by omega, by omega, fun k s hk hs => ?_⟩
      by_cases hki : (k : Int) < i
      · exact h2 k s hki hs
      · have : (k : Int) = i := by omega
        have h3 := (qa9 hx1).2.2
        rw [← this] at h3
        simp only [Int.toNat_natCast] at h3
        rw [hs] at h3
        cases h3
        exact a1
    split at hs
    · rename_i hlt
      obtain ⟨x1, e1, hs⟩ := bsome hs
      obtain ⟨x2, e2, hs⟩ := bsome hs
      split at hs
      · rename_i hx2
        have e : i' = w64 (i + 1) := by
          split at hs
          · cases hs
          split at hs
          · cases hs
          obtain ⟨x3, e3, hs⟩ := bsome hs
          obtain ⟨x4, e4, hs⟩ := bsome hs
          split at hs
          · cases hs
          · simp only [Option.some.injEq, Sum.inl.injEq] at hs; exact hs.symm
        exact key x1 e1 hlt (.inl (by rw [e2, hx2])) e
      · split at hs
        · cases hs
        obtain ⟨x5, e5, hs⟩ := bsome hs
        split at hs
        · obtain ⟨x6, e6, hs⟩ := bsome hs
          obtain ⟨x7, e7, hs⟩ := bsome hs
          split at hs
          · rename_i hx7
            have e : i' = w64 (i + 1) := by
              split at hs
              · cases hs
              split at hs
              · cases hs
              obtain ⟨x8, e8, hs⟩ := bsome hs
              obtain ⟨x9, e9, hs⟩ := bsome hs
              split at hs
              · cases hs
              · simp only [Option.some.injEq, Sum.inl.injEq] at hs; exact hs.symm
            exact key x1 e1 hlt (.inr ⟨x6, e6, by rw [e7, hx7]⟩) e
          · cases hs
        · cases hs
    · cases hs
  · intro i q hi hs
    simp only [qE9] at hs
    obtain ⟨h0, h1, h2⟩ := hi
    split at hs
    · obtain ⟨x1, e1, hs⟩ := bsome hs
      obtain ⟨x2, e2, hs⟩ := bsome hs
      split at hs
      · split at hs
        · cases hs; simp
        split at hs
        · cases hs; simp
        obtain ⟨x3, e3, hs⟩ := bsome hs
        obtain ⟨x4, e4, hs⟩ := bsome hs
        split at hs <;> cases hs
        simp
      · split at hs
        · cases hs; simp
        obtain ⟨x5, e5, hs⟩ := bsome hs
        split at hs
        · obtain ⟨x6, e6, hs⟩ := bsome hs
          obtain ⟨x7, e7, hs⟩ := bsome hs
          split at hs
          · split at hs
            · cases hs; simp
            split at hs
            · cases hs; simp
            obtain ⟨x8, e8, hs⟩ := bsome hs
            obtain ⟨x9, e9, hs⟩ := bsome hs
            split at hs <;> cases hs
            simp
          · cases hs; simp
        · cases hs; simp
    · rename_i hnl
      cases hs
      intro k s hk
      have := (List.getElem?_eq_some_iff.1 hk).1
      exact h2 k s (by omega) hk
theorem qpf9 {s : ByteArray} (h : 1 ≤ s.size) : (s.extract (s.size - 1) s.size = ({ data := #[35] } : ByteArray)) ↔ (s.get! (s.size - 1)).toNat = 35 := by
  obtain ⟨d⟩ := s
  have hs : (ByteArray.mk d).size = d.size := rfl
  rw [hs] at h ⊢
  have hlt : d.size - 1 < d.size := by omega
  have e1 : ((ByteArray.mk d).extract (d.size - 1) d.size).data = #[d[d.size - 1]] := by
    rw [ByteArray.data_extract]
    apply Array.ext
    · simp; omega
    · intro i h1 h2
      have : i = 0 := by simp at h2; omega
      subst this
      simp
  have e2 : (ByteArray.mk d).get! (d.size - 1) = d[d.size - 1] := by
    show d[d.size - 1]! = _
    simp [hlt]
  rw [e2]
  constructor
  · intro hh
    have := congrArg ByteArray.data hh
    rw [e1] at this
    have := congrArg (fun a : Array UInt8 => a[0]!) this
    simp at this
    rw [this]; rfl
  · intro hh
    have : d[d.size - 1] = 35 := UInt8.toNat_inj.1 (by rw [hh]; rfl)
    apply ByteArray.ext
    rw [e1, this]
theorem quY9 {s : ByteArray} (h : 1 ≤ s.size) : sidx s ((s.size - 1 : Nat) : Int) = some (((s.get! (s.size - 1)).toNat : Nat) : Int) := by
  unfold sidx
  rw [if_pos (by omega), Int.toNat_natCast]
  obtain ⟨d⟩ := s
  have hs : (ByteArray.mk d).size = d.size := rfl
  rw [hs] at h ⊢
  have hlt : d.size - 1 < d.size := by omega
  have e2 : (ByteArray.mk d).get! (d.size - 1) = d[d.size - 1] := by
    show d[d.size - 1]! = _
    simp [hlt]
  have e3 : (ByteArray.mk d)[d.size - 1]? = some d[d.size - 1] := by
    rw [getElem?_pos (ByteArray.mk d) (d.size - 1) hlt]
    rfl
  rw [e3, e2]
  rfl
theorem qtk9 {x : Symbol} (hN : NameP x.Name) (hsz : x.Name.size < 4611686018427387904) : qdh9 x.Name = some (sufB x) := by
  simp only [qdh9, sufB]
  by_cases h0 : 0 < (x.Name.size : Int)
  rotate_left
  · rw [if_neg h0, decide_eq_false (show ¬ 1 ≤ x.Name.size by omega), Bool.false_and]
  have h1 : 1 ≤ x.Name.size := by omega
  have hw : w64 ((x.Name.size : Int) - 1) = ((x.Name.size - 1 : Nat) : Int) := by rw [qe9 (by omega) (by omega)]; omega
  rw [if_pos h0, decide_eq_true h1, Bool.true_and, hw, quY9 h1]
  simp only [Option.bind_some]
  by_cases h35 : (x.Name.get! (x.Name.size - 1)).toNat = 35
  · rw [if_pos (by omega), decide_eq_true ((qpf9 h1).2 h35)]
    rcases hN with hN | ⟨p, hp, hN⟩
    · exact absurd h35 (qsC9 hN)
    · rw [hw] at hp
      rw [hp]
      simp only [Option.bind_some, qkA9, hN]
  · rw [if_neg (by omega), decide_eq_false (fun h => h35 ((qpf9 h1).1 h))]
end Ld.Law
namespace Ld.Law
open Go Go.Abs Go.Lib
theorem quj9 {sig : List Symbol} (hS : SigOK sig) : qhI9 sig = qdB9 sig := by
  obtain ⟨e, he⟩ := qgt9 sig hS
  simp only [qhI9, qdB9, qkT9, he, Option.bind_some]
  by_cases h0 : e = 0
  rotate_left
  · rw [if_neg h0, if_neg h0]
  subst h0
  rw [if_pos rfl, if_pos rfl]
  by_cases h1 : 64 < (sig.length : Int)
  · rw [if_pos h1, if_pos h1]
  rw [if_neg h1, if_neg h1, qns9 hS (by omega)]
  have hN := qmE9 he
  have := qcG9 (step := qea9 sig 0) (l := sig) (g := fun i x => if sufB x = true then some (Sum.inl 34 : Int ⊕ Int) else none) (fin := .inr (sig.length : Int)) (fun i x hx => ?_) ?_
  · rw [this]
    rw [qeD9 sufB (fun i => (Sum.inl 34 : Int ⊕ Int)) _ (fun i x => rfl)]
    simp only [Option.bind_some]
    cases hf : sig.findIdx? sufB with
    | none =>
      have : sig.any sufB = false := List.any_eq_false.2 fun x hx => by simpa using List.findIdx?_eq_none_iff.1 hf x hx
      rw [this]; rfl
    | some k =>
      have : sig.any sufB = true := by
        obtain ⟨hk, h1, _⟩ := List.findIdx?_eq_some_iff_getElem.1 hf
        exact List.any_eq_true.2 ⟨_, List.getElem_mem hk, h1⟩
      rw [this]; rfl
  · have hlt := (List.getElem?_eq_some_iff.1 hx).1
    have hm := List.mem_of_getElem? hx
    simp only [qea9]
    rw [if_pos (by omega), qh9 hx]
    simp only [Option.bind_some, qtk9 (hN x hm) (hS x hm)]
    cases sufB x
    · simp [qe9 (n := (i : Int) + 1) (by omega) (by omega)]
    · simp
  · simp only [qea9]; rw [if_neg (by omega)]
theorem qyj9 {l : List Int} {v : Int} (hl : l.length ≤ 1048576) : qjC9 l v = some (decide (v ∈ l)) := by
  have := qcG9 (step := qfl9 l v) (l := l) (g := fun i x => if decide (v = x) = true then some (Sum.inl true : Bool ⊕ Int) else none) (fin := .inr (l.length : Int)) (fun i x hx => ?_) ?_
  · simp only [qjC9, this]
    rw [qeD9 (fun x : Int => decide (v = x)) (fun i => (Sum.inl true : Bool ⊕ Int)) _ (fun i x => rfl)]
    cases hf : l.findIdx? fun x => decide (v = x) with
    | none =>
      have : v ∉ l := fun h => by
        have := List.findIdx?_eq_none_iff.1 hf v h
        simp at this
      simp [this]
    | some k =>
      have : v ∈ l := by
        obtain ⟨hk, h1, _⟩ := List.findIdx?_eq_some_iff_getElem.1 hf
        have : v = l[k] := by simpa using h1
        rw [this]; exact List.getElem_mem hk
      simp [this]
  · have hlt := (List.getElem?_eq_some_iff.1 hx).1
    simp only [qfl9]
    rw [if_pos (by omega), qh9 hx]
    simp only [Option.bind_some]
    by_cases h : v = x
    · rw [if_pos h.symm]; simp [h]
    · rw [if_neg (fun e => h e.symm)]; simp [h, qe9 (n := (i : Int) + 1) (by omega) (by omega)]
  · simp only [qfl9]; rw [if_neg (by omega)]
end Ld.Law
namespace Ld.Law
open Go Go.Abs Go.Lib
theorem qnd9 {t : List Int} (ht : Small t) (hlow : ∀ c ∈ t, -1048576 ≤ c) : ∃ l, qgZ9 t = some l ∧ (∀ v, v ∈ l ↔ ∃ c ∈ t, c < 0 ∧ v = -1 - c) ∧ l.length ≤ 1048576 := by
  unfold Small at ht
  have key : ∀ (n i : Nat) (o : List Int), i + n = t.length → (∀ v, v ∈ o ↔ ∃ c ∈ t.take i, c < 0 ∧ v = -1 - c) → o.length ≤ i →
      ∃ a o', wh (qcK9 t []) ((i : Int), o) = some (a, o') ∧ (∀ v, v ∈ o' ↔ ∃ c ∈ t, c < 0 ∧ v = -1 - c) ∧ o'.length ≤ 1048576 := by
    intro n
    induction n with
    | zero =>
      intro i o hi h2 h3
      have e : t.take i = t := List.take_of_length_le (by omega)
      rw [e] at h2
      exact ⟨_, _, qg9 (r := ((i : Int), o)) (by simp only [qcK9]; rw [if_neg (by omega)]), h2, by omega⟩
    | succ n ih =>
      intro i o hi h2 h3
      have hlt : i < t.length := by omega
      have hx : t[i]? = some t[i] := List.getElem?_eq_getElem hlt
      have htk : t.take (i + 1) = t.take i ++ [t[i]] := by rw [List.take_add_one, hx]; rfl
      have hlo := hlow _ (List.getElem_mem hlt)
      have hw : w64 ((i : Int) + 1) = ((i + 1 : Nat) : Int) := by rw [qe9 (by omega) (by omega)]; omega
      have inner : ∀ b0 : Bool, (t[i] < 0 ∨ b0 = true) → wh (qdQ9 t [] (i : Int) o) (b0, 0) = some (b0 || decide ((-1 - t[i]) ∈ o)) := by
        intro b0 hb0
        have := qml9 (step := qdQ9 t [] (i : Int) o) (fun k => (b0 || decide ((-1 - t[i]) ∈ o.take k), (k : Int))) o.length (r := (b0 || decide ((-1 - t[i]) ∈ o))) (fun k hk => ?_) ?_
        · simpa using this
        · have hy : o[k]? = some o[k] := List.getElem?_eq_getElem hk
          have hok : o.take (k + 1) = o.take k ++ [o[k]] := by rw [List.take_add_one, hy]; rfl
          have hwk : w64 ((k : Int) + 1) = ((k + 1 : Nat) : Int) := by rw [qe9 (by omega) (by omega)]; omega
          simp only [qdQ9]
          rw [if_pos (by omega)]
          by_cases hd : (b0 || decide ((-1 - t[i]) ∈ o.take k)) = true
          · rw [if_pos hd, hwk]
            have : (b0 || decide ((-1 - t[i]) ∈ o.take (k + 1))) = true := by
              rw [hok]
              simp only [Bool.or_eq_true, decide_eq_true_eq] at hd ⊢
              exact hd.imp id (fun h => List.mem_append_left _ h)
            rw [this]
          · rw [if_neg hd, qh9 hy, qh9 hx]
            simp only [Option.bind_some, hwk]
            have hneg : t[i] < 0 := hb0.resolve_right (fun h => hd (by rw [h]; rfl))
            rw [qe9 (n := -1 - t[i]) (by omega) (by omega)]
            have : (b0 || decide ((-1 - t[i]) ∈ o.take (k + 1))) = decide (o[k] = -1 - t[i]) := by
              rw [hok]
              simp only [Bool.or_eq_true, decide_eq_true_eq, not_or] at hd
              have hb : b0 = false := by cases b0 with | false => rfl | true => exact absurd rfl hd.1
              rw [hb, Bool.false_or, decide_eq_decide]
              rw [List.mem_append, List.mem_singleton]
              exact ⟨fun h => (h.resolve_left hd.2).symm, fun h => .inr h.symm⟩
            rw [this]
        · simp only [qdQ9]
          rw [if_neg (by omega), List.take_length]
      by_cases hn : t[i] < 0
      · have step : qcK9 t [] ((i : Int), o) = if (-1 - t[i]) ∈ o then some (.inl (((i + 1 : Nat) : Int), o)) else some (.inl (((i + 1 : Nat) : Int), o ++ [-1 - t[i]])) := by
          simp only [qcK9]
          rw [if_pos (by omega), qh9 hx]
          simp only [Option.bind_some]
          rw [inner _ (.inl hn)]
          simp only [Option.bind_some, hw]
          rw [decide_eq_false (show ¬ 0 ≤ t[i] by omega), Bool.false_or]
          by_cases h : (-1 - t[i]) ∈ o
          · rw [if_pos (decide_eq_true h), if_pos h]
          · rw [if_neg (by simpa using h), if_neg h, if_pos (by omega), qe9 (by omega) (by omega)]
        by_cases h : (-1 - t[i]) ∈ o
        · rw [if_pos h] at step
          rw [qy9 step]
          refine ih (i + 1) o (by omega) (fun v => ?_) (by omega)
          rw [h2, htk]
          constructor
          · rintro ⟨c, hc, h⟩; exact ⟨c, List.mem_append_left _ hc, h⟩
          · rintro ⟨c, hc, hh⟩
            rcases List.mem_append.1 hc with hc | hc
            · exact ⟨c, hc, hh⟩
            · rw [List.mem_singleton] at hc; subst hc
              obtain ⟨d, hd, hd2, hd3⟩ := (h2 _).1 h
              exact ⟨d, hd, hd2, by omega⟩
        · rw [if_neg h] at step
          rw [qy9 step]
          refine ih (i + 1) _ (by omega) (fun v => ?_) (by simp; omega)
          rw [List.mem_append, List.mem_singleton, h2, htk]
          constructor
          · rintro (⟨c, hc, h⟩ | h)
            · exact ⟨c, List.mem_append_left _ hc, h⟩
            · exact ⟨t[i], List.mem_append_right _ (List.mem_singleton.2 rfl), hn, h⟩
          · rintro ⟨c, hc, h⟩
            rcases List.mem_append.1 hc with hc | hc
            · exact .inl ⟨c, hc, h⟩
            · rw [List.mem_singleton] at hc; subst hc; exact .inr h.2
      · have step : qcK9 t [] ((i : Int), o) = some (.inl (((i + 1 : Nat) : Int), o)) := by
          simp only [qcK9]
          rw [if_pos (by omega), qh9 hx]
          simp only [Option.bind_some]
          rw [decide_eq_true (show 0 ≤ t[i] by omega), inner true (.inr rfl)]
          simp only [Option.bind_some, hw, Bool.true_or, if_true]
        rw [qy9 step]
        refine ih (i + 1) o (by omega) (fun v => ?_) (by omega)
        rw [h2, htk]
        constructor
        · rintro ⟨c, hc, h⟩; exact ⟨c, List.mem_append_left _ hc, h⟩
        · rintro ⟨c, hc, hh⟩
          rcases List.mem_append.1 hc with hc | hc
          · exact ⟨c, hc, hh⟩
          · rw [List.mem_singleton] at hc; subst hc; exact absurd hh.1 hn
  obtain ⟨a, o', hh, h1, h2⟩ := key t.length 0 [] (by omega) (fun v => by simp) (by simp)
  rw [Int.natCast_zero] at hh
  exact ⟨o', by simp only [qgZ9, hh, Option.bind_some], h1, h2⟩
end Ld.Law
namespace Ld.Law
open Go Go.Abs Go.Lib
theorem qlP9 (u : List Int) : ∀ (l : List Int) (k : Nat), qbI9 (fun _ x => if x ∈ u then none else some (Sum.inl 72 : Int ⊕ Int)) k l = if l.all (fun x => decide (x ∈ u)) = true then none else some (.inl 72) := by
  intro l
  induction l with
  | nil => intro k; rfl
  | cons a r ih =>
    intro k
    simp only [qbI9]
    by_cases h : a ∈ u
    · have e : (a :: r).all (fun x => decide (x ∈ u)) = r.all (fun x => decide (x ∈ u)) := by simp [h]
      rw [if_pos h, e]; exact ih _
    · have e : (a :: r).all (fun x => decide (x ∈ u)) = false := by simp [h]
      rw [if_neg h, e]; rfl
theorem qvZ9 {u v u' v' : List Int} (h1 : ∀ x, x ∈ u ↔ x ∈ u') (h2 : ∀ x, x ∈ v ↔ x ∈ v') : v.all (fun x => decide (x ∈ u)) = v'.all (fun x => decide (x ∈ u')) := by
  rw [Bool.eq_iff_iff, List.all_eq_true, List.all_eq_true]
  simp only [decide_eq_true_eq]
  exact ⟨fun h x hx => (h1 x).1 (h x ((h2 x).2 hx)), fun h x hx => (h1 x).2 (h x ((h2 x).1 hx))⟩
theorem qwn9 {sig : List Symbol} {r : Rule} (h0 : qw9 sig = some 0) (hL : Small r.L) (hR : Small r.R) : qiw9 sig r = qP9 sig r := by
  have hA : Ars sig := qca9 h0
  have lL : r.L.length < 17179869184 := by unfold Small at hL; omega
  have lR : r.R.length < 17179869184 := by unfold Small at hR; omega
  simp only [qiw9, qP9, qmO9 hA lL, qmO9 hA lR, qjP9 h0 hL, qjP9 h0 hR, Option.bind_some]
  by_cases h1 : qo9 sig r.L = 0
  rotate_left
  · rw [if_neg h1, if_neg h1]
  rw [if_pos h1, if_pos h1]
  by_cases h2 : qo9 sig r.R = 0
  rotate_left
  · rw [if_neg h2, if_neg h2]
  rw [if_pos h2, if_pos h2]
  by_cases h3 : 512 < max (r.L.length : Int) (r.R.length : Int)
  · rw [if_pos h3]
    by_cases a : 512 < (r.L.length : Int)
    · rw [if_pos a]
    · rw [if_neg a, if_pos (by omega)]
  rw [if_neg h3, if_neg (by omega), if_neg (by omega)]
  obtain ⟨u, hu, hu1, hu2⟩ := qjD9 hL (qdo9 h1)
  obtain ⟨v, hv, hv1, hv2⟩ := qjD9 hR (qdo9 h2)
  obtain ⟨u', hu', hu1', hu2'⟩ := qnd9 hL (qdo9 h1)
  obtain ⟨v', hv', hv1', hv2'⟩ := qnd9 hR (qdo9 h2)
  rw [hu, hv, hu', hv']
  cases idx r.L 0 with
  | none => rfl
  | some c =>
    simp only [Option.bind_some]
    by_cases h4 : c < 0
    · rw [if_pos h4, if_pos h4]
    rw [if_neg h4, if_neg h4]
    have A := qcG9 (step := qbN9 sig r (qo9 sig r.L) (qo9 sig r.R) u v (v.length : Int) r.L r.R) (l := v) (g := fun _ x => if x ∈ u then none else some (Sum.inl 72 : Int ⊕ Int)) (fin := .inr (v.length : Int)) (fun i x hx => by
      have hlt := (List.getElem?_eq_some_iff.1 hx).1
      simp only [qbN9]
      rw [if_pos (by omega), qh9 hx]
      simp only [Option.bind_some, qle9 hu2]
      by_cases h : x ∈ u
      · simp [h, qe9 (n := (i : Int) + 1) (by omega) (by omega)]
      · simp [h]) (by simp only [qbN9]; rw [if_neg (by omega)])
    have B := qcG9 (step := qeA9 sig r (qo9 sig r.R) u' v' r.L r.R) (l := v') (g := fun _ x => if x ∈ u' then none else some (Sum.inl 72 : Int ⊕ Int)) (fin := .inr (v'.length : Int)) (fun i x hx => by
      have hlt := (List.getElem?_eq_some_iff.1 hx).1
      simp only [qeA9]
      rw [if_pos (by omega), qh9 hx]
      simp only [Option.bind_some, qyj9 hu2']
      by_cases h : x ∈ u'
      · simp [h, qe9 (n := (i : Int) + 1) (by omega) (by omega)]
      · simp [h]) (by simp only [qeA9]; rw [if_neg (by omega)])
    rw [A, B, qlP9, qlP9, qvZ9 (fun x => (hu1 x).trans (hu1' x).symm) (fun x => (hv1 x).trans (hv1' x).symm)]
    cases v'.all fun x => decide (x ∈ u') <;> rfl
end Ld.Law
namespace Ld.Law
open Go Go.Abs Go.Lib
theorem qtE9 {s : System} (hS : SysSmall s) : qhq9 s = qdt9 s := by
  obtain ⟨e, he, hz⟩ := qoO9 hS.1
  simp only [qhq9, qdt9, quj9 hS.1, he, Option.bind_some]
  by_cases h0 : e = 0
  rotate_left
  · rw [if_neg h0, if_neg h0]
  obtain ⟨z1, z2, z3⟩ := hz.1 h0
  subst h0
  rw [if_pos rfl, if_pos rfl]
  by_cases h1 : 64 < (s.Rules.length : Int)
  · rw [if_pos h1, if_pos h1]
  rw [if_neg h1, if_neg h1]
  have ru : ∀ r ∈ s.Rules, ∃ e, qP9 s.Sig r = some e ∧ (e = 0 ↔ RuleOK s.Sig r) := fun r hr => qrO9 z1 (hS.2.2 r hr).1 (hS.2.2 r hr).2
  have A := qcG9 (step := qbC9 s 0 s.Rules (s.Rules.length : Int) s.Sig s.Rules) (l := s.Rules) (g := fun i r => if (qP9 s.Sig r).getD 0 = 0 then none else some (Sum.inl ((qP9 s.Sig r).getD 0, (i : Int)) : (Int × Int) ⊕ Int)) (fin := .inr (s.Rules.length : Int)) (fun i r hr => by
    have hlt := (List.getElem?_eq_some_iff.1 hr).1
    obtain ⟨e, he, hq⟩ := ru r (List.mem_of_getElem? hr)
    simp only [qbC9]
    rw [if_pos (by omega), qh9 hr]
    simp only [Option.bind_some, he, Option.getD_some]
    by_cases h : e = 0
    · rw [if_pos h, if_pos h, qe9 (n := (i : Int) + 1) (by omega) (by omega)]; rfl
    · rw [if_neg h, if_neg h]) (by simp only [qbC9]; rw [if_neg (by omega)])
  have B := qcG9 (step := qec9 s 0 s.Sig s.Rules) (l := s.Rules) (g := fun i r => if (qP9 s.Sig r).getD 0 = 0 then none else some (Sum.inl ((qP9 s.Sig r).getD 0, (i : Int)) : (Int × Int) ⊕ Int)) (fin := .inr (s.Rules.length : Int)) (fun i r hr => by
    have hlt := (List.getElem?_eq_some_iff.1 hr).1
    have hm := List.mem_of_getElem? hr
    obtain ⟨e, he, hq⟩ := ru r hm
    simp only [qec9]
    rw [if_pos (by omega), qh9 hr]
    simp only [Option.bind_some, qwn9 z1 (hS.2.2 r hm).1 (hS.2.2 r hm).2, he, Option.getD_some]
    by_cases h : e = 0
    · rw [if_pos h, if_pos h, qe9 (n := (i : Int) + 1) (by omega) (by omega)]; rfl
    · rw [if_neg h, if_neg h]) (by simp only [qec9]; rw [if_neg (by omega)])
  rw [A, B]
  try rfl
theorem qgq9 {s : System} {t : List Int} (hS : SysSmall s) (ht : Small t) : qhz9 s t = qdi9 s t := by
  have htl : t.length < 17179869184 := by unfold Small at ht; omega
  obtain ⟨x, hx, hz⟩ := quE9 hS
  simp only [qhz9, qdi9, qtE9 hS, hx, Option.bind_some]
  by_cases h : x.1 = 0
  rotate_left
  · rw [if_neg h, if_neg h]
  rw [if_pos h, if_pos h]
  have hR := hz.1 h
  have e : qbM9 s.Sig t = some (qo9 s.Sig t) := by
    unfold qbM9
    rw [hR.sg]
    simp only [Option.bind_some, if_true]
    rw [if_pos (by omega)]
  rw [qmO9 (qca9 hR.sg) htl, e]
end Ld.Law
namespace Ld.Law
open Go Go.Abs Go.Lib
theorem qxR9 {sig : List Symbol} {t : List Int} {i : Nat} (hA : Ars sig) (ht : Small t) (hi : i ≤ t.length) (h : (rdT sig (t.drop i) 1).2 = 0) : qjB9 sig t (i : Int) = some ((enR sig t i 1 : Nat) : Int) := by
  unfold Small at ht
  have e : qjB9 sig t (i : Int) = qim9 sig t (i : Int) := rfl
  obtain ⟨d1, d2, d3⟩ := qcF9 (sig := sig) (t := t) (i := i) (k := 1) hi
  have hl := congrArg List.length (qgv9 (sig := sig) hi)
  rw [List.length_take, List.length_drop] at hl
  rw [e, quH9 hA (by omega) hi h]
  congr 2
  omega
theorem qrf9 {s : System} {t : List Int} (hR : SysR s) (ht : Small t) (hT : TOK s.Sig t) {i k : Nat} {r : Rule} (hi : i < t.length) (hr : s.Rules[k]? = some r) : qfD9 s t (i : Int) ((enR s.Sig t i 1 : Nat) : Int) (k : Int) = some (match mat s.Sig r.L (first s.Sig (t.drop i)) [] with | none => ([], false) | some o => (sortB o, true)) := by
  have hA : Ars s.Sig := qca9 hR.sg
  have ok := hR.rules r (List.mem_of_getElem? hr)
  obtain ⟨d1, d2, d3⟩ := qcF9 (sig := s.Sig) (t := t) (i := i) (k := 1) (by omega)
  have hc : cutL t (i : Int) ((enR s.Sig t i 1 : Nat) : Int) = some (first s.Sig (t.drop i)) := by rw [qcA9 d2 d3, qgv9 (by omega)]
  have hf := qhv9 (sig := s.Sig) (t := t) (i := i)
  have su : Small (first s.Sig (t.drop i)) := by unfold Small at ht ⊢; omega
  simp only [qfD9, qh9 hr, hc, Option.bind_some, qvO9 hA ok.sl su ok.tl (qfZ9 (hT.at hi))]
  cases mat s.Sig r.L (first s.Sig (t.drop i)) [] <;> rfl
end Ld.Law
namespace Ld.Law
open Go Go.Abs Go.Lib
end Ld.Law
namespace Ld.Law
open Go Go.Abs Go.Lib
theorem qyJ9 {s : System} {t : List Int} (hS : SysSmall s) (ht : Small t) (hR : SysR s) (hT : TOK s.Sig t) {i k : Nat} {r : Rule} (hi : i < t.length) (hr : s.Rules[k]? = some r) : qfc9 s t ⟨(i : Int), (k : Int)⟩ = some (doR s t i r) := by
  obtain ⟨e, he, hz⟩ := qfY9 hS ht
  have h0 := hz.2 ⟨hR, hT⟩
  subst h0
  have hA := qca9 hR.sg
  have ht' := ht
  unfold Small at ht
  have hk := (List.getElem?_eq_some_iff.1 hr).1
  have ok := hR.rules r (List.mem_of_getElem? hr)
  obtain ⟨d1, d2, d3⟩ := qcF9 (sig := s.Sig) (t := t) (i := i) (k := 1) (by omega)
  have hf := qhv9 (sig := s.Sig) (t := t) (i := i)
  have su : Small (first s.Sig (t.drop i)) := by unfold Small; omega
  have hu := qfZ9 (hT.at hi)
  simp only [qfc9, qgq9 hS ht', he, Option.bind_some, if_true]
  rw [if_neg (by omega), if_neg (by omega), if_neg (by omega), if_neg (by omega), qxR9 hA ht' (by omega) (hT.at hi)]
  simp only [Option.bind_some, qrf9 hR ht' hT hi hr, qh9 hr]
  unfold doR
  cases hma : mat s.Sig r.L (first s.Sig (t.drop i)) [] with
  | none => simp
  | some o =>
    have hO := matOK ok.tl hu hma
    have hB := qne9 hO ok.sl su
    have hc0 : cutL t 0 (i : Int) = some (t.take i) := by
      have := qcA9 (l := t) (i := 0) (k := i) (by omega) (by omega)
      simpa using this
    have htl : (t.take i).length = i := by rw [List.length_take]; omega
    have hcl : cutL t ((enR s.Sig t i 1 : Nat) : Int) (t.length : Int) = some (t.drop (enR s.Sig t i 1)) := by
      rw [qcA9 d3 (Nat.le_refl _), List.take_of_length_le (by rw [List.length_drop]; omega)]
    have hroom : w64 (w64 (512 - (i : Int)) - w64 ((t.length : Int) - ((enR s.Sig t i 1 : Nat) : Int))) = 512 - (i : Int) - ((t.length - enR s.Sig t i 1 : Nat) : Int) := by
      rw [qe9 (n := 512 - (i : Int)) (by omega) (by omega), qe9 (n := (t.length : Int) - _) (by omega) (by omega), qe9 (by omega) (by omega)]; omega
    have hmax : max (0 : Int) (512 - (i : Int) - ((t.length - enR s.Sig t i 1 : Nat) : Int)) = ((512 - i - (t.length - enR s.Sig t i 1) : Nat) : Int) := by omega
    simp only [if_true, hroom, hmax]
    rw [qrd9 hB ok.sr (by omega) (qdo9 (qeO9 ok.tr))]
    simp only [Option.bind_some]
    by_cases hcc : (appF (bf (sortB o)) r.R).length ≤ 512 - i - (t.length - enR s.Sig t i 1)
    · rw [if_pos hcc]
      simp only [if_true]
      by_cases hneg : 512 - (i : Int) - ((t.length - enR s.Sig t i 1 : Nat) : Int) < ((appF (bf (sortB o)) r.R).length : Int)
      · rw [if_pos hneg, if_neg (by omega)]
      · rw [if_neg hneg, if_pos (by omega), hc0]
        simp only [Option.bind_some]
        rw [if_pos (by rw [htl]; omega), if_pos (by rw [htl]; omega), hcl]
        simp only [Option.bind_some]
        rw [if_pos (by rw [List.length_append, htl, List.length_drop]; omega)]
    · rw [if_neg hcc]
      simp only [Bool.false_eq_true, if_false]
      rw [if_neg (by omega)]
theorem qwC9 {s : System} {t : List Int} {i : Nat} {r : Rule} (hi : i ≤ t.length) : (doR s t i r).1.length ≤ 512 := by
  obtain ⟨d1, d2, d3⟩ := qcF9 (sig := s.Sig) (t := t) (i := i) (k := 1) hi
  unfold doR
  cases mat s.Sig r.L (first s.Sig (t.drop i)) [] with
  | none => simp
  | some o =>
    simp only
    split
    · simp only [List.length_append, List.length_take, List.length_drop]; omega
    · simp
theorem qyF9 {s : System} {t : List Int} (hS : SysSmall s) (ht : Small t) (x : Redex) : ∃ y, qbi9 s t x = some y ∧ qfc9 s t x = some y ∧ y.1.length ≤ 512 := by
  obtain ⟨e, he, hz⟩ := qfY9 hS ht
  by_cases h0 : e = 0
  rotate_left
  · exact ⟨([], e), by simp only [qbi9, he, Option.bind_some]; rw [if_neg h0], by simp only [qfc9, qgq9 hS ht, he, Option.bind_some]; rw [if_neg h0], by simp⟩
  subst h0
  obtain ⟨hR, hT⟩ := hz.1 rfl
  by_cases h1 : x.At < 0
  · exact ⟨([], 33), by simp only [qbi9, he, Option.bind_some, if_true]; rw [if_pos h1], by simp only [qfc9, qgq9 hS ht, he, Option.bind_some, if_true]; rw [if_pos h1], by simp⟩
  by_cases h2 : (t.length : Int) ≤ x.At
  · exact ⟨([], 33), by simp only [qbi9, he, Option.bind_some, if_true]; rw [if_neg h1, if_pos h2], by simp only [qfc9, qgq9 hS ht, he, Option.bind_some, if_true]; rw [if_neg h1, if_pos h2], by simp⟩
  by_cases h3 : x.Rule < 0
  · exact ⟨([], 1), by simp only [qbi9, he, Option.bind_some, if_true]; rw [if_neg h1, if_neg h2, if_pos h3], by simp only [qfc9, qgq9 hS ht, he, Option.bind_some, if_true]; rw [if_neg h1, if_neg h2, if_pos h3], by simp⟩
  by_cases h4 : (s.Rules.length : Int) ≤ x.Rule
  · exact ⟨([], 1), by simp only [qbi9, he, Option.bind_some, if_true]; rw [if_neg h1, if_neg h2, if_neg h3, if_pos h4], by simp only [qfc9, qgq9 hS ht, he, Option.bind_some, if_true]; rw [if_neg h1, if_neg h2, if_neg h3, if_pos h4], by simp⟩
  obtain ⟨a, b⟩ := x
  simp only at h1 h2 h3 h4
  obtain ⟨i, rfl⟩ : ∃ i : Nat, a = (i : Int) := ⟨a.toNat, by omega⟩
  obtain ⟨k, rfl⟩ : ∃ k : Nat, b = (k : Int) := ⟨b.toNat, by omega⟩
  have hr : s.Rules[k]? = some (s.Rules[k]'(by omega)) := List.getElem?_eq_getElem (by omega)
  exact ⟨_, Do_ok hS ht hR hT (by omega) hr, qyJ9 hS ht hR hT (by omega) hr, qwC9 (by omega)⟩
end Ld.Law
namespace Ld.Law
open Go Go.Abs Go.Lib
theorem qwF9 {s : System} {t : List Int} {x : Redex} (hS : SysSmall s) (ht : Small t) (hsh : qgp9 = some true) : qfb9 s t x = some true := by
  have ht' := ht
  unfold Small at ht'
  obtain ⟨y, h1, h2, hl⟩ := qyF9 hS ht x
  have hc : cutL (t ++ [77]) 0 (t.length : Int) = some t := by
    have := qcA9 (l := t ++ [77]) (i := 0) (k := t.length) (by omega) (by simp)
    simpa using this
  have h77 : idx (t ++ [77]) (t.length : Int) = some 77 := qh9 (by simp)
  obtain ⟨M, hM, hML⟩ : ∃ M, wh (qbQ9 s t x true (t ++ [77]) y.2 y.1 y.2 s.Sig s.Rules x.At x.Rule) (0, y.1) = some ((y.1.length : Int), M) ∧ M.length = y.1.length := by
    have key : ∀ (n k : Nat) (M : List Int), k + n = y.1.length → M.length = y.1.length → ∃ M', wh (qbQ9 s t x true (t ++ [77]) y.2 y.1 y.2 s.Sig s.Rules x.At x.Rule) ((k : Int), M) = some ((y.1.length : Int), M') ∧ M'.length = y.1.length := by
      intro n
      induction n with
      | zero =>
        intro k M hk hM
        have : k = y.1.length := by omega
        subst this
        exact ⟨M, qg9 (by simp only [qbQ9]; rw [if_neg (by omega)]), hM⟩
      | succ n ih =>
        intro k M hk hM
        have hx : M[k]? = some (M[k]'(by omega)) := List.getElem?_eq_getElem (by omega)
        have hw : w64 ((k : Int) + 1) = ((k + 1 : Nat) : Int) := by rw [qe9 (by omega) (by omega)]; omega
        have step : qbQ9 s t x true (t ++ [77]) y.2 y.1 y.2 s.Sig s.Rules x.At x.Rule ((k : Int), M) = some (.inl (((k + 1 : Nat) : Int), M.set k 99)) := by
          simp only [qbQ9]
          rw [if_pos (by omega), qh9 hx]
          simp only [Option.bind_some, hw, Int.toNat_natCast]
        rw [qy9 step]
        exact ih (k + 1) _ (by omega) (by rw [List.length_set]; exact hM)
    have := key y.1.length 0 y.1 (by omega) rfl
    rwa [Int.natCast_zero] at this
  have h98 : idx (M ++ [98]) (y.1.length : Int) = some 98 := qh9 (by rw [← hML]; simp)
  simp only [qfb9, hsh, Option.bind_some, if_true]
  rw [if_pos (by omega), if_pos (by omega), hc]
  simp only [Option.bind_some, h1, h2, if_true]
  rw [qjE9 (by omega)]
  simp only [Option.bind_some, decide_true, if_true, hM]
  rw [if_pos (by omega)]
  rw [qjE9 (by omega)]
  simp only [Option.bind_some, decide_true, if_true, h77, h98]
theorem qps9 {a0 : System} {a1 : List Int} {a2 : Redex} (_ : qlk9 a0) (_ : okL (okI .i64) a1) (_ : qmu9 a2) (hs : szL (qf9 a0) + szL ((lsD intD) a1) + szL (qm9 a2) ≤ 1048576) : qfb9 a0 a1 a2 = some true :=
  qwF9 (qtD9 (n := 0) (by omega)) (qta9 (n := 0) (by omega)) shown8
end Ld.Law

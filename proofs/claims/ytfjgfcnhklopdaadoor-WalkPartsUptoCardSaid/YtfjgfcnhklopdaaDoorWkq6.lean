import Derived.Test.YtfjgfcnhklopdaaDoorWkq5
import Derived.Shelf.Unicode.ValidAny
import Derived.Shelf.Small.Bits
import Derived.Ground.NamesProg
import Derived.Test.YtfjgfcnhklopdaaDoorProg
import Derived.Test.YtfjgfcnhklopdaaDoorWKC
import Derived.Test.YtfjgfcnhklopdaaDoorAbs27
import Derived.Lib.LaidU8
import Derived.Test.YtfjgfcnhklopdaaDoorRows
set_option maxHeartbeats 400000
set_option linter.unusedVariables false
set_option linter.unusedSimpArgs false
namespace Ld.Law
open Go Go.Abs Go.Lib
abbrev TOK (sig : List Symbol) (u : List Int) : Prop := rdT sig u 1 = ([], 0)
theorem qmm9 {sig : List Symbol} (r : List Int) : ∀ (u : List Int) (k j : Nat), rdT sig u k = ([], 0) → rdT sig (u ++ r) (k + j) = rdT sig r j := by
  intro u
  induction u with
  | nil =>
    intro k j h
    cases k with
    | zero => rw [Nat.zero_add]; rfl
    | succ k => simp [rdT] at h
  | cons c u ih =>
    intro k j h
    cases k with
    | zero => simp [rdT] at h
    | succ k =>
      simp only [rdT] at h
      by_cases hc : (sig.length : Int) ≤ c ∨ c < -1048576
      · rw [if_pos hc] at h; simp at h
      · rw [if_neg hc] at h
        rw [List.cons_append, show k + 1 + j = (k + j) + 1 by omega]
        simp only [rdT]
        rw [if_neg hc, show k + j + arOf sig c = (k + arOf sig c) + j by omega]
        exact ih _ j h
theorem qwS9 {sig : List Symbol} : ∀ (l : List Int) (k : Nat), (rdT sig l k).2 = 0 → ∃ f, l = f ++ (rdT sig l k).1 ∧ rdT sig f k = ([], 0) := by
  intro l
  induction l with
  | nil =>
    intro k h
    cases k with
    | zero => exact ⟨[], rfl, rfl⟩
    | succ k => simp [rdT] at h
  | cons c r ih =>
    intro k h
    cases k with
    | zero => exact ⟨[], rfl, rfl⟩
    | succ k =>
      simp only [rdT] at h ⊢
      by_cases hc : (sig.length : Int) ≤ c ∨ c < -1048576
      · rw [if_pos hc] at h; simp at h
      · rw [if_neg hc] at h ⊢
        obtain ⟨f, h1, h2⟩ := ih _ h
        refine ⟨c :: f, by rw [List.cons_append, ← h1], ?_⟩
        simp only [rdT]
        rw [if_neg hc]; exact h2
theorem qvg9 {sig : List Symbol} {u : List Int} (h : TOK sig u) (r : List Int) : first sig (u ++ r) = u ∧ rest sig (u ++ r) = r := by
  have h1 : rest sig (u ++ r) = r := by
    unfold rest
    rw [qmm9 r u 1 0 h, qeY9]
  refine ⟨?_, h1⟩
  unfold first
  rw [h1, List.length_append, Nat.add_sub_cancel, List.take_left]
theorem qil9 {sig : List Symbol} {s : List Int} (h : (rdT sig s 1).2 = 0) : TOK sig (first sig s) := by
  obtain ⟨f, h1, h2⟩ := qwS9 s 1 h
  have := (qvg9 (u := f) h2 (rdT sig s 1).1).1
  rw [← h1] at this
  rw [this]; exact h2
theorem qeP9 {sig : List Symbol} {u : List Int} (h : TOK sig u) : qo9 sig u = 0 := by
  have e : qo9 sig u = outc (rdT sig u 1) := rfl
  rw [e, h]; rfl
def appF (β : Int → List Int) (p : List Int) : List Int := p.flatMap fun c => if 0 ≤ c then [c] else β (-1 - c)
theorem qfY9 (β : Int → List Int) (c : Int) (p : List Int) : appF β (c :: p) = (if 0 ≤ c then [c] else β (-1 - c)) ++ appF β p := rfl
theorem qoP9 (β : Int → List Int) (p q : List Int) : appF β (p ++ q) = appF β p ++ appF β q := by simp [appF]
theorem qxF9 {sig : List Symbol} {β : Int → List Int} : ∀ (p : List Int) (k : Nat), rdT sig p k = ([], 0) → (∀ c ∈ p, c < 0 → TOK sig (β (-1 - c))) → rdT sig (appF β p) k = ([], 0) := by
  intro p
  induction p with
  | nil => intro k h _; exact h
  | cons c r ih =>
    intro k h hb
    cases k with
    | zero => simp [rdT] at h
    | succ k =>
      simp only [rdT] at h
      by_cases hc : (sig.length : Int) ≤ c ∨ c < -1048576
      · rw [if_pos hc] at h; simp at h
      · rw [if_neg hc] at h
        have hr := ih _ h (fun d hd => hb d (List.mem_cons_of_mem _ hd))
        rw [qfY9]
        by_cases h0 : 0 ≤ c
        · rw [if_pos h0, List.singleton_append]
          simp only [rdT]
          rw [if_neg hc]; exact hr
        · have ha : arOf sig c = 0 := by unfold arOf; rw [if_neg h0]
          rw [ha, Nat.add_zero] at hr
          rw [if_neg h0, Nat.add_comm k 1, qmm9 _ _ 1 k (hb c (List.mem_cons_self ..) (by omega))]
          exact hr
theorem qrE9 {o e : List Bind} {v : Int} {u : List Int} (h : bnd? o v = some u) : bnd? (o ++ e) v = some u := by
  unfold bnd? at *
  rw [List.find?_append]
  cases hf : o.find? (fun b => decide (b.Var = v)) with
  | none => rw [hf] at h; cases h
  | some x => rw [hf] at h; simpa using h
theorem qkr9 {o : List Bind} {v : Int} {u : List Int} (h : bnd? o v = some u) : ∃ b ∈ o, b.Var = v ∧ b.T = u := by
  unfold bnd? at h
  cases hf : o.find? (fun b => decide (b.Var = v)) with
  | none => rw [hf] at h; cases h
  | some x =>
    rw [hf] at h
    exact ⟨x, List.mem_of_find?_eq_some hf, by have := List.find?_some hf; simpa using this, by simpa using h⟩
theorem qjt9 : ∀ {o : List Bind}, (o.map (·.Var)).Nodup → ∀ {b : Bind}, b ∈ o → bnd? o b.Var = some b.T := by
  intro o
  induction o with
  | nil => intro _ b h; cases h
  | cons a r ih =>
    intro hn b hb
    have hc := List.nodup_cons.1 (show (a.Var :: r.map (·.Var)).Nodup from hn)
    unfold bnd?
    rw [List.find?_cons]
    rcases List.mem_cons.1 hb with rfl | hb
    · rw [decide_eq_true rfl]; rfl
    · have hne : a.Var ≠ b.Var := fun e => hc.1 (e ▸ List.mem_map.2 ⟨b, hb, rfl⟩)
      rw [decide_eq_false hne]
      exact ih hc.2 hb
theorem qwh9 {o m : List Bind} (hp : o.Perm m) (hn : (o.map (·.Var)).Nodup) (v : Int) : bnd? o v = bnd? m v := by
  have hm : (m.map (·.Var)).Nodup := (hp.map (·.Var)).nodup_iff.1 hn
  cases ho : bnd? o v with
  | some u =>
    obtain ⟨b, hb, rfl, rfl⟩ := qkr9 ho
    exact (qjt9 hm (hp.mem_iff.1 hb)).symm
  | none =>
    cases hm' : bnd? m v with
    | none => rfl
    | some u =>
      obtain ⟨b, hb, rfl, rfl⟩ := qkr9 hm'
      rw [qjt9 hn (hp.mem_iff.2 hb)] at ho
      cases ho
def bf (o : List Bind) (v : Int) : List Int := (bnd? o v).getD [-1 - v]
theorem qum9 {sig : List Symbol} : ∀ (p : List Int) (k : Nat) (s : List Int) (o o' : List Bind), mat sig p s o = some o' → rdT sig p k = ([], 0) → rdT sig s k = ([], 0) →
    (∃ e, o' = o ++ e) ∧ s = appF (bf o') p ∧ (∀ c ∈ p, c < 0 → ∃ u, bnd? o' (-1 - c) = some u) ∧ ((∀ b ∈ o, TOK sig b.T) → ∀ b ∈ o', TOK sig b.T) ∧ ((∀ b ∈ o, 0 ≤ b.Var ∧ b.Var < 1048576) → ∀ b ∈ o', 0 ≤ b.Var ∧ b.Var < 1048576) ∧ ((o.map (·.Var)).Nodup → (o'.map (·.Var)).Nodup) ∧ o'.length ≤ o.length + p.length := by
  intro p
  induction p with
  | nil =>
    intro k s o o' hm hp hs
    simp only [mat, Option.some.injEq] at hm
    subst hm
    cases k with
    | zero => rw [qeY9] at hs; exact ⟨⟨[], by simp⟩, (Prod.mk.inj hs).1, (fun c h => by cases h), fun h => h, fun h => h, fun h => h, by simp⟩
    | succ k => simp [rdT] at hp
  | cons c p ih =>
    intro k s o o' hm hp hs
    cases k with
    | zero => simp [rdT] at hp
    | succ k =>
      simp only [rdT] at hp
      by_cases hc : (sig.length : Int) ≤ c ∨ c < -1048576
      · rw [if_pos hc] at hp; simp at hp
      rw [if_neg hc] at hp
      simp only [mat] at hm
      by_cases h0 : 0 ≤ c
      · rw [if_pos h0] at hm
        cases s with
        | nil => cases hm
        | cons a r =>
          simp only at hm
          split at hm
          · rename_i e
            subst e
            simp only [rdT, if_neg hc] at hs
            obtain ⟨h1, h2, h3, h4, h5, h6, h7⟩ := ih _ r o o' hm hp hs
            refine ⟨h1, by rw [qfY9, if_pos h0, List.singleton_append, ← h2], fun d hd hneg => ?_, h4, h5, h6, by simp only [List.length_cons]; omega⟩
            rcases List.mem_cons.1 hd with rfl | hd
            · omega
            · exact h3 d hd hneg
          · cases hm
      · rw [if_neg h0] at hm
        have ha : arOf sig c = 0 := by unfold arOf; rw [if_neg h0]
        rw [ha, Nat.add_zero] at hp
        have hadd := qhU9 sig s 1 k (by rw [Nat.add_comm 1 k, hs])
        rw [Nat.add_comm 1 k, hs] at hadd
        have hfr := qhF9 sig s
        have hfo := qil9 hadd.1
        have hrest : rdT sig (rest sig s) k = ([], 0) := hadd.2
        cases hb : bnd? o (-1 - c) with
        | some u =>
          rw [hb] at hm
          simp only at hm
          split at hm
          · rename_i e
            obtain ⟨⟨ex, h1⟩, h2, h3, h4, h5, h6, h7⟩ := ih _ _ o o' hm hp hrest
            have hb' : bnd? o' (-1 - c) = some u := by rw [h1]; exact qrE9 hb
            refine ⟨⟨ex, h1⟩, ?_, fun d hd hneg => ?_, h4, h5, h6, by simp only [List.length_cons]; omega⟩
            · rw [qfY9, if_neg h0, ← h2]
              unfold bf
              rw [hb', Option.getD_some, e, hfr]
            · rcases List.mem_cons.1 hd with rfl | hd
              · exact ⟨u, hb'⟩
              · exact h3 d hd hneg
          · cases hm
        | none =>
          rw [hb] at hm
          simp only at hm
          obtain ⟨⟨ex, h1⟩, h2, h3, h4, h5, h6, h7⟩ := ih _ _ _ o' hm hp hrest
          have hb' : bnd? o' (-1 - c) = some (first sig s) := by
            rw [h1]
            refine qrE9 ?_
            unfold bnd? at hb ⊢
            rw [List.find?_append]
            cases hf : o.find? (fun b => decide (b.Var = -1 - c)) with
            | some x => rw [hf] at hb; cases hb
            | none => simp
          refine ⟨⟨[Bind.mk (-1 - c) (first sig s)] ++ ex, by rw [h1]; simp⟩, ?_, fun d hd hneg => ?_, fun hok => h4 (fun b hb2 => ?_), fun hok => h5 (fun b hb2 => ?_), fun hn => h6 ?_, by simp only [List.length_append, List.length_cons, List.length_nil] at h7 ⊢; omega⟩
          · rw [qfY9, if_neg h0, ← h2]
            unfold bf
            rw [hb', Option.getD_some, hfr]
          · rcases List.mem_cons.1 hd with rfl | hd
            · exact ⟨_, hb'⟩
            · exact h3 d hd hneg
          · rcases List.mem_append.1 hb2 with h | h
            · exact hok b h
            · rw [List.mem_singleton] at h; subst h; exact hfo
          · rcases List.mem_append.1 hb2 with h | h
            · exact hok b h
            · rw [List.mem_singleton] at h; subst h; exact ⟨by show 0 ≤ -1 - c; omega, by show -1 - c < 1048576; omega⟩
          · rw [List.map_append, List.nodup_append]
            refine ⟨hn, by simp, fun x hx y hy e => ?_⟩
            simp at hy
            subst hy; subst e
            exact qpa9 hb hx
theorem qok9 {sig : List Symbol} {l : List Int} {k : Nat} (h : rdT sig l k = ([], 0)) (hne : l ≠ []) : ∃ j, k = j + 1 ∧ (rdT sig l 1).2 = 0 ∧ rdT sig (rest sig l) j = ([], 0) := by
  cases k with
  | zero => rw [qeY9] at h; exact absurd (Prod.mk.inj h).1 hne
  | succ j =>
    have hadd := qhU9 sig l 1 j (by rw [Nat.add_comm 1 j, h])
    rw [Nat.add_comm 1 j, h] at hadd
    exact ⟨j, rfl, hadd.1, hadd.2⟩
end Ld.Law
namespace Ld.Law
open Go Go.Abs Go.Lib
def later (out : List Bind) (b : Bind) : Prop := ∀ x, out.getLast? = some x → x.Var < b.Var
end Ld.Law
namespace Ld.Law
open Go Go.Abs Go.Lib
noncomputable def badB (sig : List Symbol) (s : List Bind) (i : Nat) (b : Bind) : Option Int :=
  if b.Var < 0 then some 40 else if 1048576 ≤ b.Var then some 40 else if 0 < i ∧ b.Var ≤ (s.getD (i - 1) ⟨0, []⟩).Var then some 41 else if chk sig b.T = 0 then none else some (chk sig b.T)
noncomputable def sChk (sig : List Symbol) (s : List Bind) : Int := if (qr9 sig).getD 1 = 0 then (qbU9 (badB sig s) 0 s).getD 0 else (qr9 sig).getD 1
def BOK (s : List Bind) : Prop := s.length ≤ 1048576 ∧ ∀ b ∈ s, b.T.length ≤ 1048576
theorem qiA9 {α ρ : Type} {g : Nat → α → Option ρ} : ∀ (l : List α) (k : Nat), qbU9 g k l = none ↔ ∀ i x, l[i]? = some x → g (k + i) x = none := by
  intro l
  induction l with
  | nil => intro k; exact ⟨fun _ i x h => by simp at h, fun _ => rfl⟩
  | cons a r ih =>
    intro k
    simp only [qbU9]
    cases hg : g k a with
    | none =>
      simp only
      rw [ih]
      constructor
      · intro h i x hx
        cases i with
        | zero => simp at hx; subst hx; exact hg
        | succ i => rw [show k + (i + 1) = k + 1 + i by omega]; exact h i x (by simpa using hx)
      · intro h i x hx
        have := h (i + 1) x (by simpa using hx)
        rwa [show k + (i + 1) = k + 1 + i by omega] at this
    | some q =>
      simp only
      constructor
      · intro h; cases h
      · intro h; have := h 0 a rfl; rw [Nat.add_zero, hg] at this; cases this
structure SOK (sig : List Symbol) (s : List Bind) : Prop where
  sg : qr9 sig = some 0
  rng : ∀ b ∈ s, 0 ≤ b.Var ∧ b.Var < 1048576
  rise : Rise s
  ok : ∀ b ∈ s, TOK sig b.T
theorem qvd9 (β : Int → List Int) (p : List Int) (c : Int) : appF β (p ++ [c]) = appF β p ++ (if 0 ≤ c then [c] else β (-1 - c)) := by rw [qoP9, qfY9]; simp [appF]
theorem qzf9 {s : List Bind} (hB : BOK s) (v : Int) : (bf s v).length ≤ 1048576 := by
  unfold bf
  cases h : bnd? s v with
  | none => simp
  | some u => obtain ⟨b, hb, _, rfl⟩ := qkr9 h; exact hB.2 b hb
noncomputable def qzR9 (sig : List Symbol) (s : List Bind) (t : List Int) : List Int × Int :=
  if sChk sig s = 0 then (if chk sig t = 0 then (if (appF (bf s) t).length ≤ 512 then (appF (bf s) t, 0) else ([], 2)) else ([], chk sig t)) else ([], sChk sig s)
end Ld.Law
namespace Ld.Law
open Go Go.Abs Go.Lib
theorem qwG9 {sig : List Symbol} : ∀ (p s : List Int) (o o' : List Bind), mat sig p s o = some o' → ∀ b ∈ o', b ∈ o ∨ ∃ c ∈ p, c < 0 ∧ b.Var = -1 - c := by
  intro p
  induction p with
  | nil =>
    intro s o o' hm b hb
    simp only [mat, Option.some.injEq] at hm
    subst hm; exact .inl hb
  | cons c p ih =>
    intro s o o' hm b hb
    have up : (∃ d ∈ p, d < 0 ∧ b.Var = -1 - d) → ∃ d ∈ c :: p, d < 0 ∧ b.Var = -1 - d := fun ⟨d, h1, h2⟩ => ⟨d, List.mem_cons_of_mem _ h1, h2⟩
    simp only [mat] at hm
    by_cases h0 : 0 ≤ c
    · rw [if_pos h0] at hm
      cases s with
      | nil => cases hm
      | cons a r =>
        simp only at hm
        split at hm
        · exact (ih _ _ _ hm b hb).imp id up
        · cases hm
    · rw [if_neg h0] at hm
      cases hv : bnd? o (-1 - c) with
      | some u =>
        rw [hv] at hm
        simp only at hm
        split at hm
        · exact (ih _ _ _ hm b hb).imp id up
        · cases hm
      | none =>
        rw [hv] at hm
        simp only at hm
        rcases ih _ _ _ hm b hb with h | h
        · rcases List.mem_append.1 h with h | h
          · exact .inl h
          · rw [List.mem_singleton] at h; subst h
            exact .inr ⟨c, List.mem_cons_self .., by omega, rfl⟩
        · exact .inr (up h)
theorem qwI9 (β : Int → List Int) : ∀ (p : List Int) (c : Int), c ∈ p → c < 0 → (β (-1 - c)).length ≤ (appF β p).length := by
  intro p
  induction p with
  | nil => intro c h; cases h
  | cons a r ih =>
    intro c h hneg
    rw [qfY9, List.length_append]
    rcases List.mem_cons.1 h with rfl | h
    · rw [if_neg (by omega)]; omega
    · have := ih c h hneg; omega
structure MatOK (sig : List Symbol) (p t : List Int) (o : List Bind) : Prop where
  eq : t = appF (bf o) p
  has : ∀ c ∈ p, c < 0 → ∃ u, bnd? o (-1 - c) = some u
  ok : ∀ b ∈ o, TOK sig b.T
  rng : ∀ b ∈ o, 0 ≤ b.Var ∧ b.Var < 1048576
  nodup : (o.map (·.Var)).Nodup
  keys : ∀ b ∈ o, ∃ c ∈ p, c < 0 ∧ b.Var = -1 - c
  len : o.length ≤ p.length
theorem matOK {sig : List Symbol} {p t : List Int} {o : List Bind} (hp : TOK sig p) (ht : TOK sig t) (hm : mat sig p t [] = some o) : MatOK sig p t o := by
  obtain ⟨_, h2, h3, h4, h5, h6, h7⟩ := qum9 p 1 t [] o hm hp ht
  refine ⟨h2, h3, h4 (fun b h => by cases h), h5 (fun b h => by cases h), h6 (by simp), fun b hb => ?_, by simpa using h7⟩
  rcases qwG9 _ _ _ _ hm b hb with h | h
  · cases h
  · exact h
theorem MatOK.tok {sig : List Symbol} {p t : List Int} {o : List Bind} (h : MatOK sig p t o) {c : Int} (hc : c ∈ p) (hneg : c < 0) : TOK sig (bf o (-1 - c)) := by
  obtain ⟨u, hu⟩ := h.has c hc hneg
  obtain ⟨b, hb, _, rfl⟩ := qkr9 hu
  unfold bf
  rw [hu, Option.getD_some]
  exact h.ok b hb
theorem MatOK.tlen {sig : List Symbol} {p t : List Int} {o : List Bind} (h : MatOK sig p t o) {b : Bind} (hb : b ∈ o) : b.T.length ≤ t.length := by
  obtain ⟨c, hc, hneg, hv⟩ := h.keys b hb
  have := qwI9 (bf o) p c hc hneg
  rw [← h.eq] at this
  have e : bf o (-1 - c) = b.T := by unfold bf; rw [← hv, qjt9 h.nodup hb]; rfl
  rwa [e] at this
theorem qwi9 {o m : List Bind} (hp : o.Perm m) (hn : (o.map (·.Var)).Nodup) (v : Int) : bf o v = bf m v := by unfold bf; rw [qwh9 hp hn]
theorem qkj9 (l : List Int) : l.length ≤ szLL (l.map intD) := by
  have := qpm9 (xs := l.map intD) (fun a ha => by obtain ⟨n, _, rfl⟩ := List.mem_map.1 ha; simp [intD])
  simpa using this
theorem qsj9 {l : List Int} {n : Nat} (h : szL ((lsD intD) l) + n ≤ 1048576) : Small l := by
  have h1 := qkj9 l
  simp only [lsD, szL, szD] at h
  unfold Small
  omega
theorem qsA9 {l : List Symbol} {n : Nat} (h : szL ((lsD qb9) l) + n ≤ 1048576) : SigOK l := by
  intro s hs
  have h1 := qrK9 (f := qb9) hs
  simp only [lsD, qb9, szL, szD] at h h1
  omega
end Ld.Law
namespace Ld.Law
open Go Go.Abs Go.Lib
theorem quB9 {V : Type} {k c : Int} {v : V} : ∀ m : List (Int × V), mget (mset m k v) c = if c = k then some v else mget m c := by
  intro m
  induction m with
  | nil => simp only [mset, mget]
  | cons p r ih =>
    simp only [mset]
    by_cases h : k = p.1
    · rw [if_pos h]
      simp only [mget]
      by_cases e : c = k
      · rw [if_pos e, if_pos (by omega)]
      · rw [if_neg e, if_neg (by omega), if_neg (by omega)]
    · rw [if_neg h]
      simp only [mget]
      rw [ih]
      by_cases e : c = k
      · rw [if_neg (by omega), if_pos e, if_pos e]
      · rw [if_neg e, if_neg e]
theorem qjr9 {t : List Int} (ht : Small t) (hlow : ∀ c ∈ t, -1048576 ≤ c) : ∃ l, qgn9 t = some l ∧ (∀ v, v ∈ l ↔ ∃ c ∈ t, c < 0 ∧ v = -1 - c) ∧ l.length ≤ 1048576 := by
  unfold Small at ht
  have key : ∀ (n i : Nat) (m : List (Int × Int)) (o : List Int), i + n = t.length → (∀ c, (mget m c).isSome = true ↔ c ∈ t.take i ∧ c < 0) → (∀ v, v ∈ o ↔ ∃ c ∈ t.take i, c < 0 ∧ v = -1 - c) → o.length ≤ i →
      ∃ a m' o', wh (qbP9 t [] t (t.length : Int)) ((i : Int), m, o) = some (a, m', o') ∧ (∀ v, v ∈ o' ↔ ∃ c ∈ t, c < 0 ∧ v = -1 - c) ∧ o'.length ≤ 1048576 := by
    intro n
    induction n with
    | zero =>
      intro i m o hi h1 h2 h3
      have e : t.take i = t := List.take_of_length_le (by omega)
      rw [e] at h2
      exact ⟨_, _, _, qe9 (r := ((i : Int), m, o)) (by simp only [qbP9]; rw [if_neg (by omega)]), h2, by omega⟩
    | succ n ih =>
      intro i m o hi h1 h2 h3
      have hlt : i < t.length := by omega
      have hx : t[i]? = some t[i] := List.getElem?_eq_getElem hlt
      have htk : t.take (i + 1) = t.take i ++ [t[i]] := by rw [List.take_add_one, hx]; rfl
      have hlo := hlow _ (List.getElem_mem hlt)
      have hw : w64 ((i : Int) + 1) = ((i + 1 : Nat) : Int) := by rw [qf9 (by omega) (by omega)]; omega
      have same : (t[i] < 0 → t[i] ∈ t.take i) → qbP9 t [] t (t.length : Int) ((i : Int), m, o) = some (.inl (((i + 1 : Nat) : Int), m, o)) →
          ∃ a m' o', wh (qbP9 t [] t (t.length : Int)) ((i : Int), m, o) = some (a, m', o') ∧ (∀ v, v ∈ o' ↔ ∃ c ∈ t, c < 0 ∧ v = -1 - c) ∧ o'.length ≤ 1048576 := by
        intro hin step
        rw [qE9 step]
        refine ih (i + 1) m o (by omega) (fun c => ?_) (fun v => ?_) (by omega)
        · rw [h1, htk, List.mem_append, List.mem_singleton]
          constructor
          · exact fun h => ⟨.inl h.1, h.2⟩
          · rintro ⟨h | h, hc⟩
            · exact ⟨h, hc⟩
            · subst h; exact ⟨hin hc, hc⟩
        · rw [h2, htk]
          constructor
          · rintro ⟨c, hc, h⟩; exact ⟨c, List.mem_append_left _ hc, h⟩
          · rintro ⟨c, hc, h⟩
            rcases List.mem_append.1 hc with hc | hc
            · exact ⟨c, hc, h⟩
            · rw [List.mem_singleton] at hc; subst hc; exact ⟨_, hin h.1, h⟩
      cases hg : mget m t[i] with
      | some x2 =>
        have hs := (h1 t[i]).1 (by rw [hg]; rfl)
        refine same (fun _ => hs.1) ?_
        simp only [qbP9]
        rw [if_pos (by omega), qu9 hx]
        simp only [Option.bind_some, hg, hw]
        rw [if_pos hs.2]
      | none =>
        by_cases hn : t[i] < 0
        · have step : qbP9 t [] t (t.length : Int) ((i : Int), m, o) = some (.inl (((i + 1 : Nat) : Int), mset m t[i] (i : Int), o ++ [-1 - t[i]])) := by
            simp only [qbP9]
            rw [if_pos (by omega), qu9 hx]
            simp only [Option.bind_some, hg, hw]
            rw [if_pos hn, if_pos (by omega), qf9 (by omega) (by omega)]
          rw [qE9 step]
          refine ih (i + 1) _ _ (by omega) (fun c => ?_) (fun v => ?_) (by simp; omega)
          · rw [quB9, htk, List.mem_append, List.mem_singleton]
            by_cases e : c = t[i]
            · rw [if_pos e]; subst e; exact ⟨fun _ => ⟨.inr rfl, hn⟩, fun _ => rfl⟩
            · rw [if_neg e, h1]; exact ⟨fun h => ⟨.inl h.1, h.2⟩, fun h => ⟨h.1.resolve_right e, h.2⟩⟩
          · rw [List.mem_append, List.mem_singleton, h2, htk]
            constructor
            · rintro (⟨c, hc, h⟩ | h)
              · exact ⟨c, List.mem_append_left _ hc, h⟩
              · exact ⟨t[i], List.mem_append_right _ (List.mem_singleton.2 rfl), hn, h⟩
            · rintro ⟨c, hc, h⟩
              rcases List.mem_append.1 hc with hc | hc
              · exact .inl ⟨c, hc, h⟩
              · rw [List.mem_singleton] at hc; subst hc; exact .inr h.2
        · refine same (fun h => absurd h hn) ?_
          simp only [qbP9]
          rw [if_pos (by omega), qu9 hx]
          simp only [Option.bind_some, hg, hw]
          rw [if_neg hn]
  obtain ⟨a, m', o', hh, h1, h2⟩ := key t.length 0 [] [] (by omega) (fun c => by simp [mget]) (fun v => by simp) (by simp)
  rw [Int.natCast_zero] at hh
  exact ⟨o', by simp only [qgn9, hh, Option.bind_some], h1, h2⟩
theorem qkU9 {l : List Int} {v : Int} (hl : l.length ≤ 1048576) : qbL9 l v = some (decide (v ∈ l)) := by
  have := qda9 (step := qbo9 l v (l.length : Int)) (l := l) (g := fun i x => if decide (v = x) = true then some (Sum.inl (i : Int) : Int ⊕ Int) else none) (fin := .inr (l.length : Int)) (fun i x hx => ?_) ?_
  · simp only [qbL9, qcO9, this]
    rw [qeF9 (fun x : Int => decide (v = x)) (fun i => (Sum.inl (i : Int) : Int ⊕ Int)) _ (fun i x => rfl)]
    cases hf : l.findIdx? fun x => decide (v = x) with
    | none =>
      have : v ∉ l := fun h => by
        have := List.findIdx?_eq_none_iff.1 hf v h
        simp at this
      simp [this]
    | some k =>
      have : v ∈ l := by
        obtain ⟨hk, h1, _⟩ := List.findIdx?_eq_some_iff_getElem.1 hf
        have : v = l[k] := by simpa using h1
        rw [this]; exact List.getElem_mem hk
      simp [this]
  · have hlt := (List.getElem?_eq_some_iff.1 hx).1
    simp only [qbo9]
    rw [if_pos (by omega), qu9 hx]
    simp only [Option.bind_some]
    by_cases h : v = x
    · simp [h]
    · simp [h, qf9 (n := (i : Int) + 1) (by omega) (by omega)]
  · simp only [qbo9]; rw [if_neg (by omega)]
structure RuleOK (sig : List Symbol) (r : Rule) : Prop where
  tl : TOK sig r.L
  tr : TOK sig r.R
  ll : r.L.length ≤ 512
  rl : r.R.length ≤ 512
  head : ∃ c, r.L[0]? = some c ∧ 0 ≤ c
  vars : ∀ c ∈ r.R, c < 0 → c ∈ r.L
theorem qjq9 {sig : List Symbol} {t : List Int} (hA : qr9 sig = some 0) (ht : Small t) : qep9 sig t = some (qo9 sig t) := by
  unfold Small at ht
  unfold qep9
  rw [if_pos]
  refine ⟨by omega, List.all_eq_true.2 fun s hs => decide_eq_true (by have := qdv9 hA s hs; omega)⟩
theorem qrM9 {sig : List Symbol} {r : Rule} (hA : qr9 sig = some 0) (hL : Small r.L) (hR : Small r.R) : ∃ e, qR9 sig r = some e ∧ (e = 0 ↔ RuleOK sig r) := by
  simp only [qR9, qjq9 hA hL, qjq9 hA hR, Option.bind_some]
  by_cases h1 : qo9 sig r.L = 0
  rotate_left
  · rw [if_neg h1]; exact ⟨_, rfl, fun h => absurd h h1, fun h => absurd (qeP9 h.tl) h1⟩
  rw [if_pos h1]
  by_cases h2 : qo9 sig r.R = 0
  rotate_left
  · rw [if_neg h2]; exact ⟨_, rfl, fun h => absurd h h2, fun h => absurd (qeP9 h.tr) h2⟩
  rw [if_pos h2]
  by_cases h3 : 512 < max (r.L.length : Int) (r.R.length : Int)
  · rw [if_pos h3]; exact ⟨_, rfl, fun h => absurd h (by decide), fun h => by have := h.ll; have := h.rl; omega⟩
  rw [if_neg h3]
  have t1 := qgN9 h1
  have t2 := qgN9 h2
  have hne : r.L ≠ [] := fun e => by rw [e] at t1; simp [rdT] at t1
  obtain ⟨c, q, hcq⟩ := List.exists_cons_of_ne_nil hne
  have h0 : r.L[0]? = some c := by rw [hcq]; rfl
  have hi : idx r.L 0 = some c := qu9 (i := 0) h0
  rw [hi]
  simp only [Option.bind_some]
  by_cases h4 : c < 0
  · rw [if_pos h4]; exact ⟨_, rfl, fun h => absurd h (by decide), fun h => by
      obtain ⟨d, e1, e2⟩ := h.head
      rw [h0] at e1; cases e1; omega⟩
  rw [if_neg h4]
  obtain ⟨u, hu, hu1, hu2⟩ := qjr9 hL (qdS9 h1)
  obtain ⟨v, hv, hv1, hv2⟩ := qjr9 hR (qdS9 h2)
  rw [hu, hv]
  simp only [Option.bind_some]
  have := qda9 (step := qbT9 sig r (qo9 sig r.L) (qo9 sig r.R) u v (v.length : Int) r.L r.R) (l := v) (g := fun _ x => if x ∈ u then none else some (Sum.inl 72 : Int ⊕ Int)) (fin := .inr (v.length : Int)) (fun i x hx => ?_) ?_
  · rw [h1, h2] at this
    rw [h1, h2, this]
    have hall : (∀ x ∈ v, x ∈ u) ↔ ∀ d ∈ r.R, d < 0 → d ∈ r.L := by
      constructor
      · intro h d hd hneg
        have := h (-1 - d) ((hv1 _).2 ⟨d, hd, hneg, rfl⟩)
        obtain ⟨e, he, _, h3⟩ := (hu1 _).1 this
        have : d = e := by omega
        rwa [this]
      · intro h x hx
        obtain ⟨d, hd, hneg, rfl⟩ := (hv1 _).1 hx
        exact (hu1 _).2 ⟨d, h d hd hneg, hneg, rfl⟩
    cases hf : qbU9 (fun _ x => if x ∈ u then none else some (Sum.inl 72 : Int ⊕ Int)) 0 v with
    | none =>
      refine ⟨0, rfl, fun _ => ⟨t1, t2, by omega, by omega, ⟨c, h0, by omega⟩, hall.1 fun x hx => ?_⟩, fun _ => rfl⟩
      obtain ⟨i, hi⟩ := List.getElem?_of_mem hx
      have := (qiA9 v 0).1 hf i x hi
      by_cases hxu : x ∈ u
      · exact hxu
      · rw [if_neg hxu] at this; cases this
    | some y =>
      have hy : y = .inl 72 := by
        have : ∀ (l : List Int) (k : Nat), qbU9 (fun _ x => if x ∈ u then none else some (Sum.inl 72 : Int ⊕ Int)) k l = some y → y = .inl 72 := by
          intro l
          induction l with
          | nil => intro k h; cases h
          | cons a l ih =>
            intro k h
            simp only [qbU9] at h
            by_cases hau : a ∈ u
            · rw [if_pos hau] at h; exact ih _ h
            · rw [if_neg hau] at h; cases h; rfl
        exact this v 0 hf
      subst hy
      refine ⟨72, rfl, fun h => absurd h (by decide), fun h => ?_⟩
      have hn : qbU9 (fun _ x => if x ∈ u then none else some (Sum.inl 72 : Int ⊕ Int)) 0 v = none := (qiA9 v 0).2 fun i x hx => by rw [if_pos (hall.2 h.vars x (List.mem_of_getElem? hx))]
      rw [hn] at hf; cases hf
  · have hlt := (List.getElem?_eq_some_iff.1 hx).1
    simp only [qbT9]
    rw [if_pos (by omega), qu9 hx]
    simp only [Option.bind_some, qkU9 hu2]
    by_cases h : x ∈ u
    · simp [h, qf9 (n := (i : Int) + 1) (by omega) (by omega)]
    · simp [h]
  · simp only [qbT9]; rw [if_neg (by omega)]
end Ld.Law
namespace Ld.Law
open Go Go.Abs Go.Lib
def sufB (s : Symbol) : Bool := decide (1 ≤ s.Name.size) && decide (s.Name.extract (s.Name.size - 1) s.Name.size = ({ data := #[35] } : ByteArray))
theorem qyC9 {s : Symbol} (h : s.Name.size < 4611686018427387904) : qdN9 s = some (sufB s) := by
  have e1 : (({ data := #[35] } : ByteArray).size : Int) = 1 := rfl
  simp only [qdN9, qdV9, qbN9, e1]
  by_cases c : (1 : Int) ≤ (s.Name.size : Int)
  · rw [if_pos c, qf9 (by omega) (by omega)]
    unfold cutBA
    rw [if_pos (by omega)]
    simp only [Option.bind_some, sufB]
    have : ((s.Name.size : Int) - 1).toNat = s.Name.size - 1 := by omega
    rw [this, Int.toNat_natCast, decide_eq_true (show 1 ≤ s.Name.size by omega), Bool.true_and]
  · rw [if_neg c]
    simp only [Option.bind_some, sufB]
    rw [decide_eq_false (show ¬ 1 ≤ s.Name.size by omega), Bool.false_and]
theorem qni9 {l : List Symbol} (hS : SigOK l) (hl : l.length < 4611686018427387904) : qs9 l = some (l.any sufB) := by
  have := qda9 (step := ql9 l (l.length : Int)) (l := l) (g := fun i x => if sufB x = true then some (Sum.inl (i : Int) : Int ⊕ Int) else none) (fin := .inr (l.length : Int)) (fun i x hx => ?_) ?_
  · simp only [qs9, qC9, this]
    rw [qeF9 sufB (fun i => (Sum.inl (i : Int) : Int ⊕ Int)) _ (fun i x => rfl)]
    cases hf : l.findIdx? sufB with
    | none =>
      have : l.any sufB = false := List.any_eq_false.2 fun x hx => by simpa using List.findIdx?_eq_none_iff.1 hf x hx
      rw [this]; rfl
    | some k =>
      have : l.any sufB = true := by
        obtain ⟨hk, h1, _⟩ := List.findIdx?_eq_some_iff_getElem.1 hf
        exact List.any_eq_true.2 ⟨_, List.getElem_mem hk, h1⟩
      rw [this]; simp
  · have hlt := (List.getElem?_eq_some_iff.1 hx).1
    simp only [ql9]
    rw [if_pos (by omega), qu9 hx]
    simp only [Option.bind_some, qyC9 (hS x (List.mem_of_getElem? hx))]
    cases sufB x
    · simp [qf9 (n := (i : Int) + 1) (by omega) (by omega)]
    · simp
  · simp only [ql9]; rw [if_neg (by omega)]
def SysSmall (s : System) : Prop := SigOK s.Sig ∧ s.Rules.length ≤ 1048576 ∧ ∀ r ∈ s.Rules, Small r.L ∧ Small r.R
structure SysR (s : System) : Prop where
  sg : qr9 s.Sig = some 0
  few : s.Sig.length ≤ 64
  suf : s.Sig.any sufB = false
  many : s.Rules.length ≤ 64
  rules : ∀ r ∈ s.Rules, RuleOK s.Sig r
theorem qps9 {sig : List Symbol} (hS : SigOK sig) : ∃ e, qdF9 sig = some e ∧ (e = 0 ↔ qr9 sig = some 0 ∧ sig.length ≤ 64 ∧ sig.any sufB = false) := by
  obtain ⟨e, he⟩ := qgA9 sig hS
  simp only [qdF9, he, Option.bind_some]
  by_cases h0 : e = 0
  rotate_left
  · rw [if_neg h0]; exact ⟨_, rfl, fun h => absurd h h0, fun h => absurd (oiA h.1) h0⟩
  subst h0
  rw [if_pos rfl]
  by_cases h1 : 64 < (sig.length : Int)
  · rw [if_pos h1]; exact ⟨_, rfl, fun h => absurd h (by decide), fun h => by have := h.2.1; omega⟩
  rw [if_neg h1, qni9 hS (by omega)]
  simp only [Option.bind_some]
  cases h2 : sig.any sufB
  · exact ⟨0, by simp, fun _ => ⟨by first | exact trivial | exact he, by omega, rfl⟩, fun _ => rfl⟩
  · exact ⟨34, by simp, fun h => absurd h (by decide), fun h => by cases h.2.2⟩
theorem qtY9 {s : System} (hS : SysSmall s) : ∃ x, qcW9 s = some x ∧ (x.1 = 0 ↔ SysR s) := by
  obtain ⟨e, he, hz⟩ := qps9 hS.1
  simp only [qcW9, he, Option.bind_some]
  by_cases h0 : e = 0
  rotate_left
  · rw [if_neg h0]; exact ⟨_, rfl, fun h => absurd h h0, fun h => absurd (hz.2 ⟨h.sg, h.few, h.suf⟩) h0⟩
  rw [if_pos h0]
  obtain ⟨z1, z2, z3⟩ := hz.1 h0
  subst h0
  by_cases h1 : 64 < (s.Rules.length : Int)
  · rw [if_pos h1]; exact ⟨_, rfl, fun h => absurd h (by decide), fun h => by have := h.many; omega⟩
  rw [if_neg h1]
  have ru : ∀ r ∈ s.Rules, ∃ e, qR9 s.Sig r = some e ∧ (e = 0 ↔ RuleOK s.Sig r) := fun r hr => qrM9 z1 (hS.2.2 r hr).1 (hS.2.2 r hr).2
  have := qda9 (step := qbM9 s 0 s.Rules (s.Rules.length : Int) s.Sig s.Rules) (l := s.Rules) (g := fun i r => if (qR9 s.Sig r).getD 0 = 0 then none else some (Sum.inl ((qR9 s.Sig r).getD 0, (i : Int)) : (Int × Int) ⊕ Int)) (fin := .inr (s.Rules.length : Int)) (fun i r hr => ?_) ?_
  · rw [this]
    cases hf : qbU9 (fun i r => if (qR9 s.Sig r).getD 0 = 0 then none else some (Sum.inl ((qR9 s.Sig r).getD 0, ((i : Nat) : Int)) : (Int × Int) ⊕ Int)) 0 s.Rules with
    | none =>
      refine ⟨(0, 0), rfl, fun _ => ⟨z1, z2, z3, by omega, fun r hr => ?_⟩, fun _ => rfl⟩
      obtain ⟨i, hi⟩ := List.getElem?_of_mem hr
      have := (qiA9 s.Rules 0).1 hf i r hi
      obtain ⟨e, he, hq⟩ := ru r hr
      rw [he, Option.getD_some] at this
      by_cases h : e = 0
      · exact hq.1 h
      · rw [if_neg h] at this; cases this
    | some y =>
      have : ∀ (l : List Rule) (k : Nat), (∀ r ∈ l, r ∈ s.Rules) → qbU9 (fun i r => if (qR9 s.Sig r).getD 0 = 0 then none else some (Sum.inl ((qR9 s.Sig r).getD 0, ((i : Nat) : Int)) : (Int × Int) ⊕ Int)) k l = some y → ∃ c i, y = .inl (c, i) ∧ c ≠ 0 ∧ ∃ r ∈ s.Rules, qR9 s.Sig r = some c := by
        intro l
        induction l with
        | nil => intro k _ h; cases h
        | cons a l ih =>
          intro k hm h
          simp only [qbU9] at h
          obtain ⟨e, he, hq⟩ := ru a (hm a (List.mem_cons_self ..))
          rw [he, Option.getD_some] at h
          by_cases hau : e = 0
          · rw [if_pos hau] at h; exact ih _ (fun r hr => hm r (List.mem_cons_of_mem _ hr)) h
          · rw [if_neg hau] at h; cases h; exact ⟨e, _, rfl, hau, a, hm a (List.mem_cons_self ..), he⟩
      obtain ⟨c, i, rfl, hc, r, hr, he2⟩ := this s.Rules 0 (fun r h => h) hf
      refine ⟨(c, i), rfl, fun h => absurd h hc, fun h => ?_⟩
      obtain ⟨e, he, hq⟩ := ru r hr
      rw [he2] at he
      cases he
      exact absurd (hq.2 (h.rules r hr)) hc
  · have hlt := (List.getElem?_eq_some_iff.1 hr).1
    obtain ⟨e, he, hq⟩ := ru r (List.mem_of_getElem? hr)
    simp only [qbM9]
    rw [if_pos (by omega), qu9 hr]
    simp only [Option.bind_some, he, Option.getD_some]
    by_cases h : e = 0
    · rw [if_pos h, if_pos h, qf9 (n := (i : Int) + 1) (by omega) (by omega)]; rfl
    · rw [if_neg h, if_neg h]
  · simp only [qbM9]; rw [if_neg (by omega)]
theorem qle9 {s : System} {t : List Int} (hS : SysSmall s) (ht : Small t) : ∃ e, qfc9 s t = some e ∧ (e = 0 ↔ SysR s ∧ TOK s.Sig t) := by
  have htl : t.length < 17179869184 := by unfold Small at ht; omega
  obtain ⟨x, hx, hz⟩ := qtY9 hS
  simp only [qfc9, hx, Option.bind_some, qja9 hS.1 htl]
  by_cases h : x.1 = 0
  · rw [if_pos h]
    refine ⟨_, rfl, fun h2 => ⟨hz.1 h, qgN9 (qju9 hS.1 htl h2).2⟩, fun h2 => qlR9 htl h2.1.sg (qeP9 h2.2)⟩
  · rw [if_neg h]
    exact ⟨_, rfl, fun h2 => absurd h2 h, fun h2 => absurd (hz.2 h2.1) h⟩
theorem qyY9 {σ ρ : Type} {step step' : σ → Option (σ ⊕ ρ)} (h : ∀ s r, step s = some r → step' s = some r) : ∀ (n : Nat) (s : σ) (r : ρ), itW step n s = some r → itW step' n s = some r := by
  intro n
  induction n with
  | zero => intro s r h; simp [itW] at h
  | succ n ih =>
    intro s r hr
    simp only [itW] at hr ⊢
    cases hs : step s with
    | none => rw [hs] at hr; cases hr
    | some x =>
      rw [hs] at hr
      rw [h _ _ hs]
      cases x with
      | inl s' => exact ih _ _ hr
      | inr q => exact hr
theorem wh_le {σ ρ : Type} {step step' : σ → Option (σ ⊕ ρ)} (h : ∀ s r, step s = some r → step' s = some r) {s : σ} {r : ρ} (hr : wh step s = some r) : wh step' s = some r := by
  obtain ⟨n, hn⟩ := qgQ9 hr
  exact Go.Abs.wh_of (qyY9 h n s r hn)
def Mon {α β : Type} (F : (α → Option β) → α → Option β) : Prop := ∀ g g' : α → Option β, (∀ a r, g a = some r → g' a = some r) → ∀ a r, F g a = some r → F g' a = some r
theorem qwV9 {α β : Type} {F : (α → Option β) → α → Option β} (hF : Mon F) : ∀ n a r, fixN F n a = some r → fixN F (n + 1) a = some r := by
  intro n
  induction n with
  | zero => intro a r h; cases h
  | succ n ih => intro a r h; exact hF _ _ ih a r h
theorem qot9 {α β : Type} {F : (α → Option β) → α → Option β} (hF : Mon F) {n : Nat} {a : α} {r : β} (h : fixN F n a = some r) : ∀ k, fixN F (n + k) a = some r := by
  intro k
  induction k with
  | zero => exact h
  | succ k ih => exact qwV9 hF _ _ _ ih
theorem qpb9 {α β : Type} {F : (α → Option β) → α → Option β} (hF : Mon F) {n : Nat} {a : α} {r : β} (h : fixN F n a = some r) : fixO F a = some r := by
  refine qrG9 ⟨n, r, h⟩ fun m r' h' => ?_
  have h1 := qot9 hF h m
  have h2 := qot9 hF h' n
  rw [Nat.add_comm m n, h1] at h2
  exact (oiA h2).symm
end Ld.Law
namespace Ld.Law
open Go Go.Abs Go.Lib
def enR (sig : List Symbol) (t : List Int) (i k : Nat) : Nat := t.length - (rdT sig (t.drop i) k).1.length
theorem qdz9 {sig : List Symbol} {t : List Int} {i k : Nat} (hi : i ≤ t.length) : t.drop (enR sig t i k) = (rdT sig (t.drop i) k).1 ∧ i ≤ enR sig t i k ∧ enR sig t i k ≤ t.length := by
  obtain ⟨f, hf⟩ := qrz9 sig (t.drop i) k
  have hl := congrArg List.length hf
  rw [List.length_drop, List.length_append] at hl
  have e : enR sig t i k = i + f.length := by unfold enR; omega
  refine ⟨?_, by omega, by omega⟩
  rw [e, ← List.drop_drop]
  conv => lhs; rw [hf]
  exact List.drop_left
theorem qmC9 {sig : List Symbol} {t : List Int} {i : Nat} (hi : i ≤ t.length) : enR sig t i 0 = i := by
  unfold enR; rw [qeY9, List.length_drop]; omega
theorem qkm9 {sig : List Symbol} {t : List Int} {i m : Nat} (hi : i ≤ t.length) (h : (rdT sig (t.drop i) (m + 1)).2 = 0) : (rdT sig (t.drop i) 1).2 = 0 ∧ i < enR sig t i 1 ∧ (rdT sig (t.drop (enR sig t i 1)) m).2 = 0 ∧ enR sig t (enR sig t i 1) m = enR sig t i (m + 1) := by
  have hadd := qhU9 sig (t.drop i) 1 m (by rw [Nat.add_comm 1 m]; exact h)
  obtain ⟨d1, d2, d3⟩ := qdz9 (sig := sig) (k := 1) hi
  have hlt : i < enR sig t i 1 := by
    rcases Nat.lt_or_ge i (enR sig t i 1) with c | c
    · exact c
    · exfalso
      have e : enR sig t i 1 = i := by omega
      rw [e] at d1
      have h1 := qil9 hadd.1
      have : first sig (t.drop i) = [] := by
        unfold first rest
        rw [← d1, Nat.sub_self, List.take_zero]
      rw [this] at h1
      simp [TOK, rdT] at h1
  refine ⟨hadd.1, hlt, ?_, ?_⟩
  · rw [d1, hadd.2, Nat.add_comm 1 m]; exact h
  · show t.length - _ = t.length - _
    rw [d1, hadd.2, Nat.add_comm 1 m]
theorem qwr9 : Mon (fun (rec : Int × (List Symbol) × (List Int) × (List Int) → Option (Int × (List Symbol) × (List Int) × (List Int))) (p : Int × (List Symbol) × (List Int) × (List Int)) => qbG9 rec p.1 p.2.1 p.2.2.1 p.2.2.2) := by
  intro g g' hg a r h
  simp only [qbG9] at h ⊢
  obtain ⟨x1, e1, h⟩ := bsome h
  rw [e1]; simp only [Option.bind_some]
  by_cases c : 0 ≤ x1
  · rw [if_pos c] at h ⊢
    obtain ⟨x2, e2, h⟩ := bsome h
    rw [e2]; simp only [Option.bind_some]
    obtain ⟨x5, e5, h⟩ := bsome h
    rw [wh_le (fun s r hs => ?_) e5]
    · exact h
    · obtain ⟨s7, s23, b2, b1, o3⟩ := s
      simp only [qcb9] at hs ⊢
      by_cases c : s23 < x2.Arity
      · rw [if_pos c] at hs ⊢
        obtain ⟨x3, e3, hs⟩ := bsome hs
        rw [hg _ _ e3]; exact hs
      · rw [if_neg c] at hs ⊢; exact hs
  · rw [if_neg c] at h ⊢; exact h
theorem qvP9 {sig : List Symbol} {t : List Int} (hA : Ars sig) (ht : t.length ≤ 1048576) : ∀ (k i : Nat) (out : List Int), t.length - i ≤ k → i < t.length → (rdT sig (t.drop i) 1).2 = 0 → out.length = t.length →
    ∃ out', fixN (fun (rec : Int × (List Symbol) × (List Int) × (List Int) → Option (Int × (List Symbol) × (List Int) × (List Int))) (p : Int × (List Symbol) × (List Int) × (List Int)) => qbG9 rec p.1 p.2.1 p.2.2.1 p.2.2.2) k ((i : Int), sig, t, out) = some (((enR sig t i 1 : Nat) : Int), sig, t, out') ∧ out'.length = t.length ∧
      ∀ j, out'[j]? = if i ≤ j ∧ j < enR sig t i 1 then some ((enR sig t j 1 : Nat) : Int) else out[j]? := by
  intro k
  induction k with
  | zero => intro i out h1 h2; omega
  | succ k IH =>
    intro i out hk hlt hr ho
    have hx : t[i]? = some t[i] := List.getElem?_eq_getElem hlt
    have hcons : t.drop i = t[i] :: t.drop (i + 1) := List.drop_eq_getElem_cons hlt
    have hrc := hr
    rw [hcons] at hrc
    simp only [rdT] at hrc
    have hc : ¬ ((sig.length : Int) ≤ t[i] ∨ t[i] < -1048576) := fun hc => by rw [if_pos hc] at hrc; simp at hrc
    rw [if_neg hc, Nat.zero_add] at hrc
    have hen : enR sig t (i + 1) (arOf sig t[i]) = enR sig t i 1 := by
      show t.length - _ = t.length - _
      rw [hcons]
      simp only [rdT]
      rw [if_neg hc, Nat.zero_add]
    have hen2 : i + 1 ≤ enR sig t i 1 ∧ enR sig t i 1 ≤ t.length := by rw [← hen]; exact (qdz9 (by omega)).2
    have hw : w64 ((i : Int) + 1) = ((i + 1 : Nat) : Int) := by rw [qf9 (by omega) (by omega)]; omega
    have hidx : ∀ o : List Int, o.length = t.length → ∃ v, idx o (i : Int) = some v := fun o h => ⟨o[i]'(by omega), qu9 (List.getElem?_eq_getElem (by omega))⟩
    show ∃ out', qbG9 (fixN (fun (rec : Int × (List Symbol) × (List Int) × (List Int) → Option (Int × (List Symbol) × (List Int) × (List Int))) (p : Int × (List Symbol) × (List Int) × (List Int)) => qbG9 rec p.1 p.2.1 p.2.2.1 p.2.2.2) k) (i : Int) sig t out = _ ∧ _
    generalize hrec : fixN (fun (rec : Int × (List Symbol) × (List Int) × (List Int) → Option (Int × (List Symbol) × (List Int) × (List Int))) (p : Int × (List Symbol) × (List Int) × (List Int)) => qbG9 rec p.1 p.2.1 p.2.2.1 p.2.2.2) k = rec at IH ⊢
    simp only [qbG9, qu9 hx, Option.bind_some]
    by_cases hn : 0 ≤ t[i]
    · rw [if_pos hn]
      obtain ⟨c, hcn⟩ : ∃ c : Nat, t[i] = (c : Int) := ⟨t[i].toNat, by omega⟩
      have hcs : c < sig.length := by rw [hcn] at hc; omega
      have hs : sig[c]? = some sig[c] := List.getElem?_eq_getElem hcs
      have hra := hA _ (List.getElem_mem hcs)
      have hao : arOf sig t[i] = sig[c].Arity.toNat := by unfold arOf; rw [if_pos hn, hcn]; simp [hs]
      have kids : ∀ (m j p : Nat) (o : List Int), j + m = arOf sig t[i] → i < p → p ≤ t.length → (rdT sig (t.drop p) m).2 = 0 → o.length = t.length →
          ∃ o', wh (qcb9 rec (i : Int) sig[c].Arity) ((p : Int), (j : Int), sig, t, o) = some (((enR sig t p m : Nat) : Int), ((arOf sig t[i] : Nat) : Int), sig, t, o') ∧ o'.length = t.length ∧
            ∀ q, o'[q]? = if p ≤ q ∧ q < enR sig t p m then some ((enR sig t q 1 : Nat) : Int) else o[q]? := by
        intro m
        induction m with
        | zero =>
          intro j p o hj hp hpl hm hol
          rw [qmC9 hpl]
          refine ⟨o, qe9 ?_, hol, fun q => by rw [if_neg (by omega)]⟩
          simp only [qcb9]
          rw [if_neg (by omega)]
          congr 4
          omega
        | succ m ihm =>
          intro j p o hj hp hpl hm hol
          obtain ⟨f1, f2, f3, f4⟩ := qkm9 hpl hm
          have hplt : p < t.length := by have := (qdz9 (sig := sig) (t := t) (i := p) (k := 1) hpl).2.2; omega
          obtain ⟨o1, r1, r2, r3⟩ := IH p o (by omega) hplt f1 hol
          have hel := (qdz9 (sig := sig) (t := t) (i := p) (k := 1) hpl).2.2
          obtain ⟨o2, s1, s2, s3⟩ := ihm (j + 1) (enR sig t p 1) o1 (by omega) (by omega) hel f3 r2
          have hw2 : w64 ((j : Int) + 1) = ((j + 1 : Nat) : Int) := by have := ar_le hA t[i]; rw [qf9 (by omega) (by omega)]; omega
          have step : qcb9 rec (i : Int) sig[c].Arity ((p : Int), (j : Int), sig, t, o) = some (.inl (((enR sig t p 1 : Nat) : Int), ((j + 1 : Nat) : Int), sig, t, o1)) := by
            simp only [qcb9]
            rw [if_pos (by omega), r1]
            simp only [Option.bind_some, hw2]
          rw [qE9 step]
          rw [f4] at s1
          refine ⟨o2, s1, s2, fun q => ?_⟩
          have hle : enR sig t p 1 ≤ enR sig t p (m + 1) := by rw [← f4]; exact (qdz9 hel).2.1
          rw [s3, r3, f4]
          by_cases q1 : enR sig t p 1 ≤ q ∧ q < enR sig t p (m + 1)
          · rw [if_pos q1, if_pos (by omega)]
          · rw [if_neg q1]
            by_cases q2 : p ≤ q ∧ q < enR sig t p 1
            · rw [if_pos q2, if_pos (by omega)]
            · rw [if_neg q2, if_neg (by omega)]
      have hcx : idx sig t[i] = some sig[c] := by rw [hcn]; exact qu9 hs
      obtain ⟨o1, k1, k2, k3⟩ := kids (arOf sig t[i]) 0 (i + 1) out (by omega) (by omega) (by omega) hrc ho
      rw [hcx]
      simp only [Option.bind_some, hw]
      rw [Int.natCast_zero] at k1
      rw [k1]
      simp only [Option.bind_some]
      obtain ⟨v, hv⟩ := hidx o1 k2
      rw [hv]
      simp only [Option.bind_some]
      rw [hen] at k3 ⊢
      refine ⟨_, rfl, by rw [List.length_set]; exact k2, fun q => ?_⟩
      rw [Int.toNat_natCast, List.getElem?_set]
      by_cases q1 : i = q
      · subst q1
        rw [if_pos rfl, if_pos (by omega), if_pos (by omega)]
      · rw [if_neg q1, k3]
        by_cases q2 : i + 1 ≤ q ∧ q < enR sig t i 1
        · rw [if_pos q2, if_pos (by omega)]
        · rw [if_neg q2, if_neg (by omega)]
    · rw [if_neg hn]
      have ha : arOf sig t[i] = 0 := by unfold arOf; rw [if_neg hn]
      rw [ha, qmC9 (by omega)] at hen
      obtain ⟨v, hv⟩ := hidx out ho
      rw [hv]
      simp only [Option.bind_some, hw]
      rw [← hen]
      refine ⟨_, rfl, by rw [List.length_set]; exact ho, fun q => ?_⟩
      rw [Int.toNat_natCast, List.getElem?_set]
      by_cases q1 : i = q
      · subst q1
        rw [if_pos rfl, if_pos (by omega), if_pos (by omega), hen]
      · rw [if_neg q1, if_neg (by omega)]
theorem qyF9 {sig : List Symbol} : ∀ (l : List Int) (k i : Nat), rdT sig l k = ([], 0) → ∃ j, rdT sig (l.drop i) j = ([], 0) := by
  intro l
  induction l with
  | nil => intro k i h; exact ⟨0, by rw [List.drop_nil]; rfl⟩
  | cons c r ih =>
    intro k i h
    cases i with
    | zero => exact ⟨k, h⟩
    | succ i =>
      cases k with
      | zero => simp [rdT] at h
      | succ k =>
        simp only [rdT] at h
        by_cases hc : (sig.length : Int) ≤ c ∨ c < -1048576
        · rw [if_pos hc] at h; simp at h
        · rw [if_neg hc] at h; exact ih _ i h
theorem TOK.at {sig : List Symbol} {t : List Int} (h : TOK sig t) {i : Nat} (hi : i < t.length) : (rdT sig (t.drop i) 1).2 = 0 := by
  obtain ⟨j, hj⟩ := qyF9 t 1 i h
  have hne : t.drop i ≠ [] := fun e => by have := congrArg List.length e; rw [List.length_drop] at this; simp at this; omega
  obtain ⟨_, _, h1, _⟩ := qok9 hj hne
  exact h1
theorem TOK.ne {sig : List Symbol} {t : List Int} (h : TOK sig t) : 0 < t.length := by
  cases t with
  | nil => simp [TOK, rdT] at h
  | cons c r => simp
theorem qry9 {sig : List Symbol} {t : List Int} (hA : Ars sig) (ht : Small t) (hT : TOK sig t) : qgi9 sig t = some ((List.range t.length).map fun i => ((enR sig t i 1 : Nat) : Int)) := by
  unfold Small at ht
  have hp := hT.ne
  obtain ⟨o, h1, h2, h3⟩ := qvP9 hA ht t.length 0 (List.replicate t.length 0) (by omega) hp (hT.at hp) (by simp)
  have h1' := qpb9 qwr9 h1
  have e0 : enR sig t 0 1 = t.length := by
    show t.length - _ = _
    rw [List.drop_zero, show rdT sig t 1 = ([], 0) from hT]; rfl
  simp only [qgi9]
  rw [if_pos (by omega), if_pos (by omega)]
  unfold qih9
  rw [Int.toNat_natCast]
  rw [Int.natCast_zero] at h1'
  rw [h1']
  simp only [Option.bind_some]
  congr 1
  apply List.ext_getElem?
  intro j
  rw [h3, e0, List.getElem?_map]
  by_cases hj : j < t.length
  · rw [if_pos (by omega), List.getElem?_range hj]; rfl
  · rw [if_neg (by omega), List.getElem?_eq_none (by simp; omega), List.getElem?_eq_none (by simp; omega)]; rfl
end Ld.Law
namespace Ld.Law
open Go Go.Abs Go.Lib
def metB (sig : List Symbol) (p u : List Int) : Bool := (mat sig p u []).isSome
def hit (s : System) (u : List Int) (i k : Nat) : Option Redex := match s.Rules[k]? with
  | some r => if metB s.Sig r.L u = true then some ⟨(i : Int), (k : Int)⟩ else none
  | none => none
def hits (s : System) (u : List Int) (i n : Nat) : List Redex := (List.range n).filterMap (hit s u i)
theorem qjT9 (s : System) (u : List Int) (i n : Nat) : hits s u i (n + 1) = hits s u i n ++ (hit s u i n).toList := by
  unfold hits
  rw [List.range_succ, List.filterMap_append]
  congr 1
theorem qvS9 {s : System} {u : List Int} {i n : Nat} {x : Redex} : x ∈ hits s u i n ↔ ∃ k, k < n ∧ ∃ r, s.Rules[k]? = some r ∧ metB s.Sig r.L u = true ∧ x = ⟨(i : Int), (k : Int)⟩ := by
  unfold hits
  rw [List.mem_filterMap]
  constructor
  · rintro ⟨k, hk, h⟩
    unfold hit at h
    split at h
    · rename_i r hr
      split at h
      · rename_i hm; cases h; exact ⟨k, List.mem_range.1 hk, r, hr, hm, rfl⟩
      · cases h
    · cases h
  · rintro ⟨k, hk, r, hr, hm, rfl⟩
    exact ⟨k, List.mem_range.2 hk, by unfold hit; rw [hr]; simp [hm]⟩
theorem qla9 {sig : List Symbol} {p u : List Int} (h0 : qr9 sig = some 0) (hp : TOK sig p) (hu : TOK sig u) (sp : Small p) (su : Small u) : matR sig p u = match mat sig p u [] with | none => ([], false) | some o => (sortB o, true) := by
  unfold Small at sp su
  unfold matR
  rw [if_pos ⟨qlR9 (by omega) h0 (qeP9 hp), qlR9 (by omega) h0 (qeP9 hu)⟩]
  cases mat sig p u [] <;> rfl
theorem RuleOK.sl {sig : List Symbol} {r : Rule} (h : RuleOK sig r) : Small r.L := by have := h.ll; unfold Small; omega
def allR (s : System) (t : List Int) (n : Nat) : List Redex := (List.range n).flatMap fun i => hits s (first s.Sig (t.drop i)) i s.Rules.length
theorem qlD9 {sig : List Symbol} {t : List Int} {i : Nat} (hi : i ≤ t.length) : (t.drop i).take (enR sig t i 1 - i) = first sig (t.drop i) := by
  obtain ⟨d1, d2, d3⟩ := qdz9 (sig := sig) (t := t) (i := i) (k := 1) hi
  unfold first
  congr 1
  rw [List.length_drop]
  have := congrArg List.length d1
  rw [List.length_drop] at this
  unfold rest
  omega
theorem qnE9 {sig : List Symbol} {t : List Int} {i : Nat} : (first sig (t.drop i)).length ≤ t.length := by
  unfold first; rw [List.length_take, List.length_drop]; omega
end Ld.Law
namespace Ld.Law
open Go Go.Abs Go.Lib
theorem qom9 {s : List Bind} {c : Int} (hL : s.length ≤ 1048576) (h0 : c < 0) (h1 : -1048576 ≤ c) : qgt9 s c = some (bf s (-1 - c)) := by
  have hv : w64 (-1 - c) = -1 - c := qf9 (by omega) (by omega)
  have := qda9 (step := qdL9 s c [] s (s.length : Int)) (l := s) (g := fun _ b => if b.Var = -1 - c then some (Sum.inl b.T : List Int ⊕ Int) else none) (fin := .inr (s.length : Int)) (fun i b hb => ?_) ?_
  · simp only [qgt9, this, Option.bind_some]
    have e : ∀ (l : List Bind) (k : Nat), qbU9 (fun _ b => if b.Var = -1 - c then some (Sum.inl b.T : List Int ⊕ Int) else none) k l = (bnd? l (-1 - c)).map fun u => Sum.inl u := by
      intro l
      induction l with
      | nil => intro k; rfl
      | cons a r ih =>
        intro k
        simp only [qbU9, bnd?, List.find?_cons]
        by_cases h : a.Var = -1 - c
        · rw [if_pos h, decide_eq_true h]; rfl
        · rw [if_neg h, decide_eq_false h]; exact ih _
    rw [e]
    unfold bf
    cases bnd? s (-1 - c) with
    | none => simp only [Option.map_none, Option.getD_none]; congr 2; omega
    | some u => rfl
  · have hi := (List.getElem?_eq_some_iff.1 hb).1
    simp only [qdL9]
    rw [if_pos (by omega), qu9 hb, qf9 (n := (i : Int) + 1) (by omega) (by omega), hv]
    simp only [Option.bind_some]
    by_cases h : b.Var = -1 - c
    · rw [if_pos h, if_pos h]
    · rw [if_neg h, if_neg h]; rfl
  · simp only [qdL9]; rw [if_neg (by omega)]
theorem qxP9 {s : System} {t : List Int} {x : Redex} {e1 e3 f1 f2 : Int} {b : List Bind} {tt : Bool} {left : Nat} {R L o : List Int} {sg : List Symbol} {ru : List Rule} (hB : BOK b) (hR : R.length ≤ 512) (hlow : ∀ c ∈ R, -1048576 ≤ c) (ho : o.length ≤ 1048576) (hl : left ≤ 1048576) : ∀ (n j : Nat), j + n = R.length → (0 < j → o.length + (appF (bf b) (R.take j)).length + left ≤ 512) → 0 < R.length →
    ∃ y, wh (qes9 s t x [] e1 e3 b tt (left : Int) R (R.length : Int) sg ru f1 f2 L R) ((j : Int), o ++ appF (bf b) (R.take j)) = some y ∧ (if o.length + (appF (bf b) R).length + left ≤ 512 then ∃ a, y = .inr (a, o ++ appF (bf b) R) else y = .inl ([], 2)) := by
  intro n
  induction n with
  | zero =>
    intro j hj hc hp
    have e : R.take j = R := List.take_of_length_le (by omega)
    rw [e] at hc ⊢
    exact ⟨_, qe9 (r := .inr ((j : Int), o ++ appF (bf b) R)) (by simp only [qes9]; rw [if_neg (by omega)]), by rw [if_pos (hc (by omega))]; exact ⟨_, rfl⟩⟩
  | succ n ih =>
    intro j hj hc hp
    have hlt : j < R.length := by omega
    have hx : R[j]? = some R[j] := List.getElem?_eq_getElem hlt
    have htk : R.take (j + 1) = R.take j ++ [R[j]] := by rw [List.take_add_one, hx]; rfl
    have hlo := hlow _ (List.getElem_mem hlt)
    have hw : w64 ((j : Int) + 1) = ((j + 1 : Nat) : Int) := by rw [qf9 (by omega) (by omega)]; omega
    have hsn := qvd9 (bf b) (R.take j) R[j]
    rw [← htk] at hsn
    have hbl := qzf9 hB (-1 - R[j])
    have hcur : (appF (bf b) (R.take j)).length ≤ 512 := by
      rcases Nat.eq_zero_or_pos j with h | h
      · subst h; simp [appF]
      · have := hc h; omega
    have step : qes9 s t x [] e1 e3 b tt (left : Int) R (R.length : Int) sg ru f1 f2 L R ((j : Int), o ++ appF (bf b) (R.take j)) = if o.length + (appF (bf b) (R.take (j + 1))).length + left ≤ 512 then some (.inl (((j + 1 : Nat) : Int), o ++ appF (bf b) (R.take (j + 1)))) else some (.inr (.inl ([], 2))) := by
      have fin : ∀ piece : List Int, piece = (if 0 ≤ R[j] then [R[j]] else bf b (-1 - R[j])) → piece.length ≤ 1048576 → (if 512 < w64 (w64 (((o ++ appF (bf b) (R.take j)).length : Int) + (piece.length : Int)) + (left : Int)) then some (Sum.inr (Sum.inl (([] : List Int), (2 : Int))) : (Int × List Int) ⊕ (List Int × Int) ⊕ (Int × List Int)) else if ((o ++ appF (bf b) (R.take j)).length + piece.length) * 8 ≤ 140737488355328 then some (.inl (((j + 1 : Nat) : Int), o ++ appF (bf b) (R.take j) ++ piece)) else none) =
          if o.length + (appF (bf b) (R.take (j + 1))).length + left ≤ 512 then some (.inl (((j + 1 : Nat) : Int), o ++ appF (bf b) (R.take (j + 1)))) else some (.inr (.inl ([], 2))) := by
        intro piece hpc hpl
        rw [hsn, ← hpc, List.length_append, List.length_append]
        rw [qf9 (n := (((o.length + (appF (bf b) (R.take j)).length : Nat) : Int) + (piece.length : Int))) (by omega) (by omega), qf9 (by omega) (by omega)]
        by_cases hcc : o.length + ((appF (bf b) (R.take j)).length + piece.length) + left ≤ 512
        · rw [if_neg (by omega), if_pos (by omega), if_pos hcc, List.append_assoc]
        · rw [if_pos (by omega), if_neg hcc]
      simp only [qes9]
      rw [if_pos (by omega), qu9 hx]
      simp only [Option.bind_some, hw]
      by_cases h0 : R[j] < 0
      · rw [if_pos h0, qom9 hB.1 h0 hlo]
        simp only [Option.bind_some]
        exact fin (bf b (-1 - R[j])) (by rw [if_neg (by omega)]) hbl
      · rw [if_neg h0]
        exact fin [R[j]] (by rw [if_pos (by omega)]) (by simp)
    have htot : (appF (bf b) (R.take (j + 1))).length ≤ (appF (bf b) R).length := by
      conv => rhs; rw [← List.take_append_drop (j + 1) R]
      rw [qoP9, List.length_append]; omega
    by_cases hcc : o.length + (appF (bf b) (R.take (j + 1))).length + left ≤ 512
    · rw [if_pos hcc] at step
      rw [qE9 step]
      exact ih (j + 1) (by omega) (fun _ => hcc) hp
    · rw [if_neg hcc] at step
      exact ⟨_, qe9 step, by rw [if_neg (by omega)]⟩
noncomputable def doR (s : System) (t : List Int) (i : Nat) (r : Rule) : List Int × Int := match mat s.Sig r.L (first s.Sig (t.drop i)) [] with
  | none => ([], 80)
  | some o => if i + (appF (bf (sortB o)) r.R).length + (t.length - enR s.Sig t i 1) ≤ 512 then (t.take i ++ appF (bf (sortB o)) r.R ++ t.drop (enR s.Sig t i 1), 0) else ([], 2)
theorem qtV9 {sig : List Symbol} {p u : List Int} {o : List Bind} (h : MatOK sig p u o) (hp : Small p) (hu : Small u) : BOK (sortB o) := by
  unfold Small at hp hu
  have hperm := qhK9 o
  exact ⟨by rw [hperm.length_eq]; have := h.len; omega, fun b hb => by have := h.tlen (hperm.mem_iff.1 hb); omega⟩
theorem Do_ok {s : System} {t : List Int} (hS : SysSmall s) (ht : Small t) (hR : SysR s) (hT : TOK s.Sig t) {i k : Nat} {r : Rule} (hi : i < t.length) (hr : s.Rules[k]? = some r) : qgc9 s t ⟨(i : Int), (k : Int)⟩ = some (doR s t i r) := by
  obtain ⟨e, he, hz⟩ := qle9 hS ht
  have h0 := hz.2 ⟨hR, hT⟩
  subst h0
  have hA := qdv9 hR.sg
  have hE := qry9 hA ht hT
  have ht' := ht
  unfold Small at ht
  have hk := (List.getElem?_eq_some_iff.1 hr).1
  have ok := hR.rules r (List.mem_of_getElem? hr)
  have hm := hR.many
  obtain ⟨d1, d2, d3⟩ := qdz9 (sig := s.Sig) (t := t) (i := i) (k := 1) (by omega)
  have hx : ((List.range t.length).map fun i => ((enR s.Sig t i 1 : Nat) : Int))[i]? = some ((enR s.Sig t i 1 : Nat) : Int) := by
    rw [List.getElem?_map, List.getElem?_range hi]; rfl
  have hc : cutL t (i : Int) ((enR s.Sig t i 1 : Nat) : Int) = some (first s.Sig (t.drop i)) := by rw [qfV9 d2 d3, qlD9 (by omega)]
  have hf := qnE9 (sig := s.Sig) (t := t) (i := i)
  have su : Small (first s.Sig (t.drop i)) := by unfold Small; omega
  have hu := qil9 (hT.at hi)
  simp only [qgc9, he, Option.bind_some, if_true]
  rw [if_neg (by omega), if_neg (by omega), if_neg (by omega), if_neg (by omega), hE]
  simp only [Option.bind_some, qu9 hx, qu9 hr, hc, qkZ9 hS.1 ok.sl su, qla9 hR.sg ok.tl hu ok.sl su]
  unfold doR
  cases hma : mat s.Sig r.L (first s.Sig (t.drop i)) [] with
  | none => simp
  | some o =>
    have hO := matOK ok.tl hu hma
    have hB := qtV9 hO ok.sl su
    have hc0 : cutL t 0 (i : Int) = some (t.take i) := by
      have := qfV9 (l := t) (i := 0) (k := i) (by omega) (by omega)
      simpa using this
    have hleft : w64 ((t.length : Int) - ((enR s.Sig t i 1 : Nat) : Int)) = ((t.length - enR s.Sig t i 1 : Nat) : Int) := by rw [qf9 (by omega) (by omega)]; omega
    have htl : (t.take i).length = i := by rw [List.length_take]; omega
    have hcl : cutL t ((enR s.Sig t i 1 : Nat) : Int) (t.length : Int) = some (t.drop (enR s.Sig t i 1)) := by
      rw [qfV9 d3 (Nat.le_refl _), List.take_of_length_le (by rw [List.length_drop]; omega)]
    simp only [if_true, hc0, Option.bind_some, hleft]
    rw [if_pos (by rw [htl]; omega)]
    obtain ⟨y, hy, h⟩ := qxP9 (s := s) (t := t) (x := ⟨(i : Int), (k : Int)⟩) (e1 := 0) (e3 := ((enR s.Sig t i 1 : Nat) : Int)) (f1 := (i : Int)) (f2 := (k : Int)) (b := sortB o) (tt := true) (left := t.length - enR s.Sig t i 1) (R := r.R) (L := r.L) (o := t.take i) (sg := s.Sig) (ru := s.Rules) hB ok.rl (qdS9 (qeP9 ok.tr)) (by omega) (by omega) r.R.length 0 (by omega) (fun h => absurd h (by omega)) ok.tr.ne
    rw [List.take_zero, show appF (bf (sortB o)) [] = [] from rfl, List.append_nil, Int.natCast_zero] at hy
    rw [hy]
    simp only [Option.bind_some]
    rw [htl] at h
    by_cases hcc : i + (appF (bf (sortB o)) r.R).length + (t.length - enR s.Sig t i 1) ≤ 512
    · rw [if_pos hcc] at h ⊢
      obtain ⟨a, rfl⟩ := h
      simp only [hcl, Option.bind_some]
      rw [if_pos (by rw [List.length_append, htl, List.length_drop]; omega)]
    · rw [if_neg hcc] at h ⊢
      subst h; rfl
end Ld.Law
namespace Ld.Law
open Go Go.Abs Go.Lib
theorem qtH9 {s : System} (hS : SigOK s.Sig) (hR : SysR s) {u : List Int} (su : Small u) (hT : TOK s.Sig u) {i : Nat} (hi : i ≤ 1048576) (f0 f1 : Int) : qbl9 s.Sig s.Rules u f0 f1 (i : Int) = some (match (hits s u i s.Rules.length).head? with | none => (true, f0, f1) | some x => (false, x.At, x.Rule)) := by
  have hm := hR.many
  have key : ∀ (n k : Nat), k + n = s.Rules.length → hits s u i k = [] → wh (qw9 s.Sig s.Rules u s.Rules (s.Rules.length : Int) (i : Int) s.Sig s.Rules) ((k : Int), f0, f1) = some (match (hits s u i s.Rules.length).head? with | none => .inr ((s.Rules.length : Int), f0, f1) | some x => .inl (false, x.At, x.Rule)) := by
    intro n
    induction n with
    | zero =>
      intro k hk he
      have : k = s.Rules.length := by omega
      subst this
      rw [he]
      exact qe9 (by simp only [qw9]; rw [if_neg (by omega)]; rfl)
    | succ n ih =>
      intro k hk he
      have hk' : k < s.Rules.length := by omega
      have hr : s.Rules[k]? = some s.Rules[k] := List.getElem?_eq_getElem hk'
      have ok := hR.rules _ (List.getElem_mem hk')
      obtain ⟨c, hc, hc0⟩ := ok.head
      obtain ⟨d, v, hdv⟩ : ∃ d v, u = d :: v := by
        cases hu : u with
        | nil => rw [hu] at hT; exact absurd hT.ne (by simp)
        | cons d v => exact ⟨d, v, rfl⟩
      have hw : w64 ((k : Int) + 1) = ((k + 1 : Nat) : Int) := by rw [qf9 (by omega) (by omega)]; omega
      have ic : idx s.Rules[k].L 0 = some c := qu9 (i := 0) hc
      have id : idx u 0 = some d := by rw [hdv]; rfl
      have hh : hit s u i k = if metB s.Sig s.Rules[k].L u = true then some ⟨(i : Int), (k : Int)⟩ else none := by unfold hit; rw [hr]
      have no : metB s.Sig s.Rules[k].L u = false → qw9 s.Sig s.Rules u s.Rules (s.Rules.length : Int) (i : Int) s.Sig s.Rules ((k : Int), f0, f1) = some (.inl (((k + 1 : Nat) : Int), f0, f1)) → wh (qw9 s.Sig s.Rules u s.Rules (s.Rules.length : Int) (i : Int) s.Sig s.Rules) ((k : Int), f0, f1) = some (match (hits s u i s.Rules.length).head? with | none => .inr ((s.Rules.length : Int), f0, f1) | some x => .inl (false, x.At, x.Rule)) := by
        intro hb step
        rw [qE9 step]
        exact ih (k + 1) (by omega) (by rw [qjT9, he, hh, hb]; rfl)
      by_cases e : c = d
      · cases hma : mat s.Sig s.Rules[k].L u [] with
        | none =>
          refine no (by unfold metB; rw [hma]; rfl) ?_
          simp only [qw9]
          rw [if_pos (by omega), qu9 hr]
          simp only [Option.bind_some, ic, id]
          rw [if_pos e, qkZ9 hS ok.sl su, qla9 hR.sg ok.tl hT ok.sl su, hma]
          simp [hw]
        | some o =>
          have hb : metB s.Sig s.Rules[k].L u = true := by unfold metB; rw [hma]; rfl
          have hd : (hits s u i s.Rules.length).head? = some ⟨(i : Int), (k : Int)⟩ := by
            have : ∀ m, k + 1 + m ≤ s.Rules.length → ∃ l, hits s u i (k + 1 + m) = ⟨(i : Int), (k : Int)⟩ :: l := by
              intro m
              induction m with
              | zero => intro _; exact ⟨[], by rw [Nat.add_zero, qjT9, he, hh, hb]; rfl⟩
              | succ m ihm =>
                intro hml
                obtain ⟨l, hl⟩ := ihm (by omega)
                exact ⟨l ++ (hit s u i (k + 1 + m)).toList, by rw [← Nat.add_assoc, qjT9, hl]; rfl⟩
            obtain ⟨l, hl⟩ := this (s.Rules.length - (k + 1)) (by omega)
            rw [show k + 1 + (s.Rules.length - (k + 1)) = s.Rules.length by omega] at hl
            rw [hl]; rfl
          rw [hd]
          refine qe9 ?_
          simp only [qw9]
          rw [if_pos (by omega), qu9 hr]
          simp only [Option.bind_some, ic, id]
          rw [if_pos e, qkZ9 hS ok.sl su, qla9 hR.sg ok.tl hT ok.sl su, hma]
          simp [qek9]
      · have hb : metB s.Sig s.Rules[k].L u = false := by
          unfold metB
          obtain ⟨q, hq⟩ : ∃ q, s.Rules[k].L = c :: q := by
            cases hL : s.Rules[k].L with
            | nil => rw [hL] at hc; cases hc
            | cons a q => rw [hL] at hc; simp at hc; subst hc; exact ⟨q, rfl⟩
          rw [hq, hdv]
          simp only [mat]
          rw [if_pos hc0, if_neg (fun h => e h.symm)]
          rfl
        refine no hb ?_
        simp only [qw9]
        rw [if_pos (by omega), qu9 hr]
        simp only [Option.bind_some, ic, id]
        rw [if_neg e, hw]
  have h2 := key s.Rules.length 0 (by omega) rfl
  rw [Int.natCast_zero] at h2
  simp only [qbl9, h2, Option.bind_some]
  cases (hits s u i s.Rules.length).head? <;> rfl
theorem quT9 : Mon (fun (rec : Int × (List Symbol) × (List Rule) × (List Int) × (List Int) × Int × Int → Option (Bool × (List Symbol) × (List Rule) × (List Int) × (List Int) × Int × Int)) (p : Int × (List Symbol) × (List Rule) × (List Int) × (List Int) × Int × Int) => qbx9 rec p.1 p.2.1 p.2.2.1 p.2.2.2.1 p.2.2.2.2.1 p.2.2.2.2.2.1 p.2.2.2.2.2.2) := by
  intro g g' hg a r h
  simp only [qbx9] at h ⊢
  obtain ⟨x5, e5, h⟩ := bsome h
  rw [wh_le (fun s r hs => ?_) e5]
  · exact h
  · obtain ⟨s8, a1, a2, a3, a4, a5, a6⟩ := s
    simp only [qbD9] at hs ⊢
    obtain ⟨x1, e1, hs⟩ := bsome hs
    rw [e1]; simp only [Option.bind_some]
    by_cases c : s8 < x1
    · rw [if_pos c] at hs ⊢
      obtain ⟨x2, e2, hs⟩ := bsome hs
      rw [hg _ _ e2]; exact hs
    · rw [if_neg c] at hs ⊢; exact hs
def seekR (s : System) (t : List Int) : Nat → Nat → Nat → Option Redex
  | 0, _, _ => none
  | f + 1, p, e => if p < e then (match seekR s t f (p + 1) (enR s.Sig t p 1) with
    | some x => some x
    | none => match (hits s (first s.Sig (t.drop p)) p s.Rules.length).head? with
      | some x => some x
      | none => seekR s t f (enR s.Sig t p 1) e) else none
theorem qtO9 {s : System} {t : List Int} (hS : SigOK s.Sig) (hR : SysR s) (ht : Small t) (hT : TOK s.Sig t) : ∀ (k i : Nat) (f0 f1 : Int), i < t.length → enR s.Sig t i 1 - i ≤ k →
    ∀ f, enR s.Sig t i 1 - i ≤ f + 1 → fixN (fun (rec : Int × (List Symbol) × (List Rule) × (List Int) × (List Int) × Int × Int → Option (Bool × (List Symbol) × (List Rule) × (List Int) × (List Int) × Int × Int)) (p : Int × (List Symbol) × (List Rule) × (List Int) × (List Int) × Int × Int) => qbx9 rec p.1 p.2.1 p.2.2.1 p.2.2.2.1 p.2.2.2.2.1 p.2.2.2.2.2.1 p.2.2.2.2.2.2) k ((i : Int), s.Sig, s.Rules, t, (List.range t.length).map (fun i => ((enR s.Sig t i 1 : Nat) : Int)), f0, f1) =
      some (match (match seekR s t f (i + 1) (enR s.Sig t i 1) with | some x => some x | none => (hits s (first s.Sig (t.drop i)) i s.Rules.length).head?) with
        | some x => (true, s.Sig, s.Rules, t, (List.range t.length).map (fun i => ((enR s.Sig t i 1 : Nat) : Int)), x.At, x.Rule)
        | none => (false, s.Sig, s.Rules, t, (List.range t.length).map (fun i => ((enR s.Sig t i 1 : Nat) : Int)), f0, f1)) := by
  have hA := qdv9 hR.sg
  have ht' := ht
  unfold Small at ht
  generalize hE : (List.range t.length).map (fun i => ((enR s.Sig t i 1 : Nat) : Int)) = E
  have hx : ∀ p, p < t.length → idx E (p : Int) = some ((enR s.Sig t p 1 : Nat) : Int) := fun p hp => qu9 (by rw [← hE, List.getElem?_map, List.getElem?_range hp]; rfl)
  intro k
  induction k with
  | zero =>
    intro i f0 f1 hi hk
    have := (qkm9 (sig := s.Sig) (t := t) (i := i) (m := 0) (by omega) (hT.at hi)).2.1
    omega
  | succ k IH =>
    intro i f0 f1 hi hk f hf
    show qbx9 (fixN (fun (rec : Int × (List Symbol) × (List Rule) × (List Int) × (List Int) × Int × Int → Option (Bool × (List Symbol) × (List Rule) × (List Int) × (List Int) × Int × Int)) (p : Int × (List Symbol) × (List Rule) × (List Int) × (List Int) × Int × Int) => qbx9 rec p.1 p.2.1 p.2.2.1 p.2.2.2.1 p.2.2.2.2.1 p.2.2.2.2.2.1 p.2.2.2.2.2.2) k) (i : Int) s.Sig s.Rules t E f0 f1 = _
    generalize hrec : fixN (fun (rec : Int × (List Symbol) × (List Rule) × (List Int) × (List Int) × Int × Int → Option (Bool × (List Symbol) × (List Rule) × (List Int) × (List Int) × Int × Int)) (p : Int × (List Symbol) × (List Rule) × (List Int) × (List Int) × Int × Int) => qbx9 rec p.1 p.2.1 p.2.2.1 p.2.2.2.1 p.2.2.2.2.1 p.2.2.2.2.2.1 p.2.2.2.2.2.2) k = rec at IH ⊢
    have hrx := hT.at hi
    have hgt := (qkm9 (sig := s.Sig) (t := t) (i := i) (m := 0) (by omega) hrx).2.1
    have hel := (qdz9 (sig := s.Sig) (t := t) (i := i) (k := 1) (by omega)).2.2
    have hw : w64 ((i : Int) + 1) = ((i + 1 : Nat) : Int) := by rw [qf9 (by omega) (by omega)]; omega
    -- the loop over the arguments
    have loop : ∀ (m p j f : Nat), enR s.Sig t i 1 - p ≤ m → enR s.Sig t i 1 - p ≤ f → i < p → p ≤ enR s.Sig t i 1 → (rdT s.Sig (t.drop p) j).2 = 0 → enR s.Sig t p j = enR s.Sig t i 1 →
        wh (qbD9 rec (i : Int) (i : Int)) ((p : Int), s.Sig, s.Rules, t, E, f0, f1) = some (match seekR s t f p (enR s.Sig t i 1) with
          | some x => .inl (true, s.Sig, s.Rules, t, E, x.At, x.Rule)
          | none => .inr (((enR s.Sig t i 1 : Nat) : Int), s.Sig, s.Rules, t, E, f0, f1)) := by
      intro m
      induction m with
      | zero =>
        intro p j f hm hf hip hpe h1 h2
        have : p = enR s.Sig t i 1 := by omega
        have e0 : seekR s t f p (enR s.Sig t i 1) = none := by
          cases f with
          | zero => rfl
          | succ f => simp only [seekR]; rw [if_neg (by omega)]
        rw [e0]
        refine qe9 ?_
        simp only [qbD9, hx i hi, Option.bind_some]
        rw [if_neg (by omega), this]
      | succ m ihm =>
        intro p j f hm hf hip hpe h1 h2
        by_cases hlt : p < enR s.Sig t i 1
        rotate_left
        · have : p = enR s.Sig t i 1 := by omega
          have e0 : seekR s t f p (enR s.Sig t i 1) = none := by
            cases f with
            | zero => rfl
            | succ f => simp only [seekR]; rw [if_neg (by omega)]
          rw [e0]
          refine qe9 ?_
          simp only [qbD9, hx i hi, Option.bind_some]
          rw [if_neg (by omega), this]
        have hpl : p < t.length := by omega
        cases j with
        | zero => rw [qmC9 (by omega)] at h2; omega
        | succ j =>
          obtain ⟨q1, q2, q3, q4⟩ := qkm9 (by omega) h1
          have hpe2 : enR s.Sig t p 1 ≤ enR s.Sig t i 1 := by rw [← h2, ← q4]; exact (qdz9 (by have := (qdz9 (sig := s.Sig) (t := t) (i := p) (k := 1) (by omega)).2.2; omega)).2.1
          cases f with
          | zero => omega
          | succ f =>
            have r1 := IH p f0 f1 hpl (by omega) f (by omega)
            have step : qbD9 rec (i : Int) (i : Int) ((p : Int), s.Sig, s.Rules, t, E, f0, f1) = some (match (match seekR s t f (p + 1) (enR s.Sig t p 1) with | some x => some x | none => (hits s (first s.Sig (t.drop p)) p s.Rules.length).head?) with
                | some x => .inr (.inl (true, s.Sig, s.Rules, t, E, x.At, x.Rule))
                | none => .inl (((enR s.Sig t p 1 : Nat) : Int), s.Sig, s.Rules, t, E, f0, f1)) := by
              simp only [qbD9, hx i hi, Option.bind_some]
              rw [if_pos (by omega), r1]
              simp only [Option.bind_some]
              cases (match seekR s t f (p + 1) (enR s.Sig t p 1) with | some x => some x | none => (hits s (first s.Sig (t.drop p)) p s.Rules.length).head?) with
              | some x => simp
              | none => simp [hx p hpl]
            have hs : seekR s t (f + 1) p (enR s.Sig t i 1) = match (match seekR s t f (p + 1) (enR s.Sig t p 1) with | some x => some x | none => (hits s (first s.Sig (t.drop p)) p s.Rules.length).head?) with
                | some x => some x
                | none => seekR s t f (enR s.Sig t p 1) (enR s.Sig t i 1) := by
              simp only [seekR]
              rw [if_pos hlt]
              cases seekR s t f (p + 1) (enR s.Sig t p 1) with
              | some x => rfl
              | none => cases (hits s (first s.Sig (t.drop p)) p s.Rules.length).head? <;> rfl
            rw [hs]
            cases hz : (match seekR s t f (p + 1) (enR s.Sig t p 1) with | some x => some x | none => (hits s (first s.Sig (t.drop p)) p s.Rules.length).head?) with
            | some x =>
              rw [hz] at step
              exact qe9 step
            | none =>
              rw [hz] at step
              rw [qE9 step]
              exact ihm (enR s.Sig t p 1) j f (by omega) (by omega) (by omega) hpe2 q3 (by rw [q4, h2])
    have hx0 : t[i]? = some t[i] := List.getElem?_eq_getElem hi
    have hcons : t.drop i = t[i] :: t.drop (i + 1) := List.drop_eq_getElem_cons hi
    have hrc := hrx
    rw [hcons] at hrc
    simp only [rdT] at hrc
    have hc : ¬ ((s.Sig.length : Int) ≤ t[i] ∨ t[i] < -1048576) := fun hc => by rw [if_pos hc] at hrc; simp at hrc
    rw [if_neg hc, Nat.zero_add] at hrc
    have hen : enR s.Sig t (i + 1) (arOf s.Sig t[i]) = enR s.Sig t i 1 := by
      show t.length - _ = t.length - _
      rw [hcons]
      simp only [rdT]
      rw [if_neg hc, Nat.zero_add]
    have l1 := loop (enR s.Sig t i 1 - (i + 1)) (i + 1) (arOf s.Sig t[i]) f (by omega) (by omega) (by omega) (by omega) hrc hen
    simp only [qbx9, hw]
    rw [l1]
    simp only [Option.bind_some]
    cases hz : seekR s t f (i + 1) (enR s.Sig t i 1) with
    | some x => rfl
    | none =>
      have hcut : cutL t (i : Int) ((enR s.Sig t i 1 : Nat) : Int) = some (first s.Sig (t.drop i)) := by rw [qfV9 (by omega) hel, qlD9 (by omega)]
      have hfl := qnE9 (sig := s.Sig) (t := t) (i := i)
      simp only [hx i hi, Option.bind_some, hcut]
      rw [qtH9 hS hR (by unfold Small; omega) (qil9 hrx) (by omega)]
      simp only [Option.bind_some]
      cases (hits s (first s.Sig (t.drop i)) i s.Rules.length).head? <;> rfl
theorem qlc9 {s : System} {t : List Int} (hS : SysSmall s) (ht : Small t) (hR : SysR s) (hT : TOK s.Sig t) : qbE9 s t = some (match seekR s t t.length 0 t.length with | some x => (x, true) | none => (⟨0, 0⟩, false)) := by
  obtain ⟨e, he, hz⟩ := qle9 hS ht
  have h0 := hz.2 ⟨hR, hT⟩
  subst h0
  have hA := qdv9 hR.sg
  have hE := qry9 hA ht hT
  have hp := hT.ne
  have e0 : enR s.Sig t 0 1 = t.length := by
    show t.length - _ = _
    rw [List.drop_zero, show rdT s.Sig t 1 = ([], 0) from hT]; rfl
  obtain ⟨f, hf⟩ : ∃ f, t.length = f + 1 := ⟨t.length - 1, by omega⟩
  have h1 := qpb9 quT9 (qtO9 hS.1 hR ht hT t.length 0 0 0 hp (by omega) f (by omega))
  rw [Int.natCast_zero] at h1
  simp only [qbE9, he, Option.bind_some, if_true, hE]
  unfold qhA9
  rw [h1]
  have hs : seekR s t t.length 0 t.length = match (match seekR s t f (0 + 1) (enR s.Sig t 0 1) with | some x => some x | none => (hits s (first s.Sig (t.drop 0)) 0 s.Rules.length).head?) with
      | some x => some x
      | none => none := by
    conv => lhs; rw [hf]
    simp only [seekR]
    rw [← hf, if_pos hp, e0]
    have e1 : seekR s t f t.length t.length = none := by
      cases f with
      | zero => rfl
      | succ f => simp only [seekR]; rw [if_neg (by omega)]
    rw [e1]
    cases seekR s t f (0 + 1) t.length with
    | some x => rfl
    | none => cases (hits s (first s.Sig (t.drop 0)) 0 s.Rules.length).head? <;> rfl
  rw [hs]
  simp only [Option.bind_some]
  cases (match seekR s t f (0 + 1) (enR s.Sig t 0 1) with | some x => some x | none => (hits s (first s.Sig (t.drop 0)) 0 s.Rules.length).head?) <;> rfl
end Ld.Law
namespace Ld.Law
open Go Go.Abs Go.Lib
theorem qxY9 {sig : List Symbol} {p t : List Int} {o : List Bind} (h : MatOK sig p t o) (v : Int) : bf (sortB o) v = bf o v := (qwi9 (qhK9 o).symm h.nodup v).symm
end Ld.Law
namespace Ld.Law
open Go Go.Abs Go.Lib
def sumsS : System := ⟨three, [⟨[2, 0, -1], [-1]⟩, ⟨[2, 1, -1, -2], [1, 2, -1, -2]⟩]⟩
theorem qtS9 {s : System} {n : Nat} (h : szL (qg9 s) + n ≤ 1048576) : SysSmall s := by
  have hl := qpm9 (xs := s.Rules.map qd9) (fun a ha => by obtain ⟨n, _, rfl⟩ := List.mem_map.1 ha; simp [qd9])
  rw [List.length_map] at hl
  simp only [qg9, szL, szD] at h
  refine ⟨qsA9 (n := 0) (by simp only [lsD, szL, szD]; omega), by omega, fun r hr => ?_⟩
  have h1 := qrK9 (f := qd9) hr
  have h2 := qkj9 r.L
  have h3 := qkj9 r.R
  simp only [qd9, szL, szD] at h1
  unfold Small
  omega
end Ld.Law
namespace Ld.Law
open Go Go.Abs Go.Lib
theorem qqK9 (s : ByteArray) (i : Nat) (hi : i < s.size) : i + (Utf8.decode s i).2 ≤ s.size ∧ 1 ≤ (Utf8.decode s i).2 ∧ (((Utf8.decode s i).2 = 1 ∧ ((Utf8.decode s i).1 = (s.get! i).toNat ∨ 128 ≤ (s.get! i).toNat)) ∨ 128 ≤ (s.get! (i + (Utf8.decode s i).2 - 1)).toNat) := by
  unfold Utf8.decode
  simp only [Bool.and_eq_true, decide_eq_true_eq, beq_iff_eq, Nat.add_zero]
  split
  · exact ⟨by simp only; omega, by simp only; omega, .inl ⟨rfl, .inl rfl⟩⟩
  rename_i h0
  have one : i + 1 ≤ s.size ∧ 1 ≤ 1 ∧ ((1 = 1 ∧ (Utf8.runeError = (s.get! i).toNat ∨ 128 ≤ (s.get! i).toNat)) ∨ 128 ≤ (s.get! (i + 1 - 1)).toNat) := ⟨by omega, by omega, .inl ⟨rfl, .inr (by omega)⟩⟩
  split
  · rename_i h1
    split
    · exact ⟨by simp only; omega, by simp only; omega, .inr (by simp only; rw [show i + 2 - 1 = i + 1 by omega]; omega)⟩
    · exact one
  split
  · rename_i h1
    split
    · exact ⟨by simp only; omega, by simp only; omega, .inr (by simp only; rw [show i + 3 - 1 = i + 2 by omega]; omega)⟩
    · exact one
  split
  · rename_i h1
    split
    · exact ⟨by simp only; omega, by simp only; omega, .inr (by simp only; rw [show i + 4 - 1 = i + 3 by omega]; omega)⟩
    · exact one
  · exact one
theorem quD9 (r : Int) (h : r = 35) : qdT9 r = some false := by subst h; rfl
theorem qsO9 {s : ByteArray} (h : qX9 s = some true) : (s.get! (s.size - 1)).toNat ≠ 35 := by
  simp only [qX9] at h
  by_cases h0 : s = { data := #[] }
  · rw [if_pos h0] at h; cases h
  rw [if_neg h0] at h
  by_cases h1 : 32 < (s.size : Int)
  · rw [if_pos h1] at h; cases h
  rw [if_neg h1] at h
  obtain ⟨x1, e1, h⟩ := bsome h
  cases x1 with
  | false => cases h
  | true =>
    simp only [if_true] at h
    obtain ⟨x3, e3, h⟩ := bsome h
    have step : ∀ q, q < s.size → ((Utf8.decode s q).1 : Int) ≠ 35 → (q + (Utf8.decode s q).2 ≤ s.size ∧ (s.get! (q + (Utf8.decode s q).2 - 1)).toNat ≠ 35) := by
      intro q hq hr
      obtain ⟨d1, d2, d3⟩ := qqK9 s q hq
      refine ⟨d1, ?_⟩
      rcases d3 with ⟨w1, d3⟩ | d3
      · rw [w1, show q + 1 - 1 = q by omega]
        rcases d3 with d3 | d3
        · rw [← d3]; omega
        · omega
      · omega
    have hQ := qoD9 (fun q : Nat => q ≤ s.size ∧ (q = 0 ∨ (s.get! (q - 1)).toNat ≠ 35)) (Q := fun r => match r with | .inl b => b = false | .inr q => q = s.size ∧ (q = 0 ∨ (s.get! (q - 1)).toNat ≠ 35)) e3 ⟨Nat.zero_le _, .inl rfl⟩ ?_ ?_
    · cases x3 with
      | inl b => simp only at hQ; subst hQ; cases h
      | inr q =>
        obtain ⟨rfl, hq⟩ := hQ
        rcases hq with hq | hq
        · exfalso
          apply h0
          cases s with
          | mk d => cases d with
            | mk l => cases l with
              | nil => rfl
              | cons a r => simp [ByteArray.size] at hq
        · exact hq
    · intro q q' hI hs
      simp only [qbe9] at hs
      by_cases c : q < s.size
      · rw [if_pos c] at hs
        by_cases hr : ((Utf8.decode s q).1 : Int) = 35
        · rw [quD9 _ hr] at hs
          simp only [Option.bind_some, Bool.false_eq_true, if_false, hr] at hs
          split at hs <;> cases hs
        · have : q' = q + (Utf8.decode s q).2 := by
            obtain ⟨x2, _, hs⟩ := bsome hs
            repeat' split at hs
            all_goals first | (cases hs; rfl) | cases hs
          subst this
          have := step q c hr
          exact ⟨this.1, .inr this.2⟩
      · rw [if_neg c] at hs; cases hs
    · intro q r hI hs
      simp only [qbe9] at hs
      by_cases c : q < s.size
      · rw [if_pos c] at hs
        obtain ⟨x2, _, hs⟩ := bsome hs
        repeat' split at hs
        all_goals first | (cases hs; rfl) | cases hs
      · rw [if_neg c] at hs
        cases hs
        exact ⟨by omega, hI.2⟩
def NameP (n : ByteArray) : Prop := qX9 n = some true ∨ ∃ p, cutBA n 0 (w64 ((n.size : Int) - 1)) = some p ∧ qX9 p = some true
theorem qmH9 {sig : List Symbol} (h : qr9 sig = some 0) : ∀ s ∈ sig, NameP s.Name := by
  simp only [qr9] at h
  split at h
  · cases h
  rename_i hlen
  obtain ⟨x, hx, h⟩ := bsome h
  have hI := qoD9 (fun i : Int => 0 ≤ i ∧ i ≤ sig.length ∧ ∀ (k : Nat) (s : Symbol), (k : Int) < i → sig[k]? = some s → NameP s.Name) (Q := fun r => match r with | .inl e => e ≠ 0 | .inr _ => ∀ (k : Nat) (s : Symbol), sig[k]? = some s → NameP s.Name) hx ⟨Int.le_refl _, by omega, fun k s hk => by omega⟩ ?_ ?_
  · cases x with
    | inl e => simp only [Option.some.injEq] at h; exact absurd h hI
    | inr i =>
      intro s hs
      obtain ⟨k, hk⟩ := List.getElem?_of_mem hs
      exact hI k s hk
  · intro i i' hi hs
    simp only [qD9] at hs
    obtain ⟨h0, h1, h2⟩ := hi
    have key : ∀ x1 : Symbol, idx sig i = some x1 → i < sig.length → NameP x1.Name → i' = w64 (i + 1) → 0 ≤ i' ∧ i' ≤ sig.length ∧ ∀ (k : Nat) (s : Symbol), (k : Int) < i' → sig[k]? = some s → NameP s.Name := by
      intro x1 hx1 hlt a1 e
      have hw : w64 (i + 1) = i + 1 := qf9 (by omega) (by omega)
      rw [hw] at e
      subst e
      refine ⟨by omega, by omega, fun k s hk hs => ?_⟩
      by_cases hki : (k : Int) < i
      · exact h2 k s hki hs
      · have : (k : Int) = i := by omega
        have h3 := (qa9 hx1).2.2
        rw [← this] at h3
        simp only [Int.toNat_natCast] at h3
        rw [hs] at h3
        cases h3
        exact a1
    split at hs
    · rename_i hlt
      obtain ⟨x1, e1, hs⟩ := bsome hs
      obtain ⟨x2, e2, hs⟩ := bsome hs
      split at hs
      · rename_i hx2
        have e : i' = w64 (i + 1) := by
          split at hs
          · cases hs
          split at hs
          · cases hs
          obtain ⟨x3, e3, hs⟩ := bsome hs
          obtain ⟨x4, e4, hs⟩ := bsome hs
          split at hs
          · cases hs
          · simp only [Option.some.injEq, Sum.inl.injEq] at hs; exact hs.symm
        exact key x1 e1 hlt (.inl (by rw [e2, hx2])) e
      · split at hs
        · cases hs
        obtain ⟨x5, e5, hs⟩ := bsome hs
        split at hs
        · obtain ⟨x6, e6, hs⟩ := bsome hs
          obtain ⟨x7, e7, hs⟩ := bsome hs
          split at hs
          · rename_i hx7
            have e : i' = w64 (i + 1) := by
              split at hs
              · cases hs
              split at hs
              · cases hs
              obtain ⟨x8, e8, hs⟩ := bsome hs
              obtain ⟨x9, e9, hs⟩ := bsome hs
              split at hs
              · cases hs
              · simp only [Option.some.injEq, Sum.inl.injEq] at hs; exact hs.symm
            exact key x1 e1 hlt (.inr ⟨x6, e6, by rw [e7, hx7]⟩) e
          · cases hs
        · cases hs
    · cases hs
  · intro i q hi hs
    simp only [qD9] at hs
    obtain ⟨h0, h1, h2⟩ := hi
    split at hs
    · obtain ⟨x1, e1, hs⟩ := bsome hs
      obtain ⟨x2, e2, hs⟩ := bsome hs
      split at hs
      · split at hs
        · cases hs; simp
        split at hs
        · cases hs; simp
        obtain ⟨x3, e3, hs⟩ := bsome hs
        obtain ⟨x4, e4, hs⟩ := bsome hs
        split at hs <;> cases hs
        simp
      · split at hs
        · cases hs; simp
        obtain ⟨x5, e5, hs⟩ := bsome hs
        split at hs
        · obtain ⟨x6, e6, hs⟩ := bsome hs
          obtain ⟨x7, e7, hs⟩ := bsome hs
          split at hs
          · split at hs
            · cases hs; simp
            split at hs
            · cases hs; simp
            obtain ⟨x8, e8, hs⟩ := bsome hs
            obtain ⟨x9, e9, hs⟩ := bsome hs
            split at hs <;> cases hs
            simp
          · cases hs; simp
        · cases hs; simp
    · rename_i hnl
      cases hs
      intro k s hk
      have := (List.getElem?_eq_some_iff.1 hk).1
      exact h2 k s (by omega) hk
theorem qpZ9 {s : ByteArray} (h : 1 ≤ s.size) : (s.extract (s.size - 1) s.size = ({ data := #[35] } : ByteArray)) ↔ (s.get! (s.size - 1)).toNat = 35 := by
  obtain ⟨d⟩ := s
  have hs : (ByteArray.mk d).size = d.size := rfl
  rw [hs] at h ⊢
  have hlt : d.size - 1 < d.size := by omega
  have e1 : ((ByteArray.mk d).extract (d.size - 1) d.size).data = #[d[d.size - 1]] := by
    rw [ByteArray.data_extract]
    apply Array.ext
    · simp; omega
    · intro i h1 h2
      have : i = 0 := by simp at h2; omega
      subst this
      simp
  have e2 : (ByteArray.mk d).get! (d.size - 1) = d[d.size - 1] := by
    show d[d.size - 1]! = _
    simp [hlt]
  rw [e2]
  constructor
  · intro hh
    have := congrArg ByteArray.data hh
    rw [e1] at this
    have := congrArg (fun a : Array UInt8 => a[0]!) this
    simp at this
    rw [this]; rfl
  · intro hh
    have : d[d.size - 1] = 35 := UInt8.toNat_inj.1 (by rw [hh]; rfl)
    apply ByteArray.ext
    rw [e1, this]
theorem quL9 {s : ByteArray} (h : 1 ≤ s.size) : sidx s ((s.size - 1 : Nat) : Int) = some (((s.get! (s.size - 1)).toNat : Nat) : Int) := by
  unfold sidx
  rw [if_pos (by omega), Int.toNat_natCast]
  obtain ⟨d⟩ := s
  have hs : (ByteArray.mk d).size = d.size := rfl
  rw [hs] at h ⊢
  have hlt : d.size - 1 < d.size := by omega
  have e2 : (ByteArray.mk d).get! (d.size - 1) = d[d.size - 1] := by
    show d[d.size - 1]! = _
    simp [hlt]
  have e3 : (ByteArray.mk d)[d.size - 1]? = some d[d.size - 1] := by
    rw [getElem?_pos (ByteArray.mk d) (d.size - 1) hlt]
    rfl
  rw [e3, e2]
  rfl
theorem qsa9 {x : Symbol} (hN : NameP x.Name) (hsz : x.Name.size < 4611686018427387904) : qdm9 x.Name = some (sufB x) := by
  simp only [qdm9, sufB]
  by_cases h0 : 0 < (x.Name.size : Int)
  rotate_left
  · rw [if_neg h0, decide_eq_false (show ¬ 1 ≤ x.Name.size by omega), Bool.false_and]
  have h1 : 1 ≤ x.Name.size := by omega
  have hw : w64 ((x.Name.size : Int) - 1) = ((x.Name.size - 1 : Nat) : Int) := by rw [qf9 (by omega) (by omega)]; omega
  rw [if_pos h0, decide_eq_true h1, Bool.true_and, hw, quL9 h1]
  simp only [Option.bind_some]
  by_cases h35 : (x.Name.get! (x.Name.size - 1)).toNat = 35
  · rw [if_pos (by omega), decide_eq_true ((qpZ9 h1).2 h35)]
    rcases hN with hN | ⟨p, hp, hN⟩
    · exact absurd h35 (qsO9 hN)
    · rw [hw] at hp
      rw [hp]
      simp only [Option.bind_some, qkA9, hN]
  · rw [if_neg (by omega), decide_eq_false (fun h => h35 ((qpZ9 h1).1 h))]
end Ld.Law
namespace Ld.Law
open Go Go.Abs Go.Lib
theorem quw9 {sig : List Symbol} (hS : SigOK sig) : qhg9 sig = qdF9 sig := by
  obtain ⟨e, he⟩ := qgA9 sig hS
  simp only [qhg9, qdF9, qiz9, he, Option.bind_some]
  by_cases h0 : e = 0
  rotate_left
  · rw [if_neg h0, if_neg h0]
  subst h0
  rw [if_pos rfl, if_pos rfl]
  by_cases h1 : 64 < (sig.length : Int)
  · rw [if_pos h1, if_pos h1]
  rw [if_neg h1, if_neg h1, qni9 hS (by omega)]
  have hN := qmH9 he
  have := qda9 (step := qea9 sig 0) (l := sig) (g := fun i x => if sufB x = true then some (Sum.inl 34 : Int ⊕ Int) else none) (fin := .inr (sig.length : Int)) (fun i x hx => ?_) ?_
  · rw [this]
    rw [qeF9 sufB (fun i => (Sum.inl 34 : Int ⊕ Int)) _ (fun i x => rfl)]
    simp only [Option.bind_some]
    cases hf : sig.findIdx? sufB with
    | none =>
      have : sig.any sufB = false := List.any_eq_false.2 fun x hx => by simpa using List.findIdx?_eq_none_iff.1 hf x hx
      rw [this]; rfl
    | some k =>
      have : sig.any sufB = true := by
        obtain ⟨hk, h1, _⟩ := List.findIdx?_eq_some_iff_getElem.1 hf
        exact List.any_eq_true.2 ⟨_, List.getElem_mem hk, h1⟩
      rw [this]; rfl
  · have hlt := (List.getElem?_eq_some_iff.1 hx).1
    have hm := List.mem_of_getElem? hx
    simp only [qea9]
    rw [if_pos (by omega), qu9 hx]
    simp only [Option.bind_some, qsa9 (hN x hm) (hS x hm)]
    cases sufB x
    · simp [qf9 (n := (i : Int) + 1) (by omega) (by omega)]
    · simp
  · simp only [qea9]; rw [if_neg (by omega)]
theorem qyS9 {l : List Int} {v : Int} (hl : l.length ≤ 1048576) : qjj9 l v = some (decide (v ∈ l)) := by
  have := qda9 (step := qff9 l v) (l := l) (g := fun i x => if decide (v = x) = true then some (Sum.inl true : Bool ⊕ Int) else none) (fin := .inr (l.length : Int)) (fun i x hx => ?_) ?_
  · simp only [qjj9, this]
    rw [qeF9 (fun x : Int => decide (v = x)) (fun i => (Sum.inl true : Bool ⊕ Int)) _ (fun i x => rfl)]
    cases hf : l.findIdx? fun x => decide (v = x) with
    | none =>
      have : v ∉ l := fun h => by
        have := List.findIdx?_eq_none_iff.1 hf v h
        simp at this
      simp [this]
    | some k =>
      have : v ∈ l := by
        obtain ⟨hk, h1, _⟩ := List.findIdx?_eq_some_iff_getElem.1 hf
        have : v = l[k] := by simpa using h1
        rw [this]; exact List.getElem_mem hk
      simp [this]
  · have hlt := (List.getElem?_eq_some_iff.1 hx).1
    simp only [qff9]
    rw [if_pos (by omega), qu9 hx]
    simp only [Option.bind_some]
    by_cases h : v = x
    · rw [if_pos h.symm]; simp [h]
    · rw [if_neg (fun e => h e.symm)]; simp [h, qf9 (n := (i : Int) + 1) (by omega) (by omega)]
  · simp only [qff9]; rw [if_neg (by omega)]
end Ld.Law
namespace Ld.Law
open Go Go.Abs Go.Lib
theorem qnD9 {t : List Int} (ht : Small t) (hlow : ∀ c ∈ t, -1048576 ≤ c) : ∃ l, qgS9 t = some l ∧ (∀ v, v ∈ l ↔ ∃ c ∈ t, c < 0 ∧ v = -1 - c) ∧ l.length ≤ 1048576 := by
  unfold Small at ht
  have key : ∀ (n i : Nat) (o : List Int), i + n = t.length → (∀ v, v ∈ o ↔ ∃ c ∈ t.take i, c < 0 ∧ v = -1 - c) → o.length ≤ i →
      ∃ a o', wh (qcM9 t []) ((i : Int), o) = some (a, o') ∧ (∀ v, v ∈ o' ↔ ∃ c ∈ t, c < 0 ∧ v = -1 - c) ∧ o'.length ≤ 1048576 := by
    intro n
    induction n with
    | zero =>
      intro i o hi h2 h3
      have e : t.take i = t := List.take_of_length_le (by omega)
      rw [e] at h2
      exact ⟨_, _, qe9 (r := ((i : Int), o)) (by simp only [qcM9]; rw [if_neg (by omega)]), h2, by omega⟩
    | succ n ih =>
      intro i o hi h2 h3
      have hlt : i < t.length := by omega
      have hx : t[i]? = some t[i] := List.getElem?_eq_getElem hlt
      have htk : t.take (i + 1) = t.take i ++ [t[i]] := by rw [List.take_add_one, hx]; rfl
      have hlo := hlow _ (List.getElem_mem hlt)
      have hw : w64 ((i : Int) + 1) = ((i + 1 : Nat) : Int) := by rw [qf9 (by omega) (by omega)]; omega
      have inner : ∀ b0 : Bool, (t[i] < 0 ∨ b0 = true) → wh (qdR9 t [] (i : Int) o) (b0, 0) = some (b0 || decide ((-1 - t[i]) ∈ o)) := by
        intro b0 hb0
        have := qpo9 (step := qdR9 t [] (i : Int) o) (fun k => (b0 || decide ((-1 - t[i]) ∈ o.take k), (k : Int))) o.length (r := (b0 || decide ((-1 - t[i]) ∈ o))) (fun k hk => ?_) ?_
        · simpa using this
        · have hy : o[k]? = some o[k] := List.getElem?_eq_getElem hk
          have hok : o.take (k + 1) = o.take k ++ [o[k]] := by rw [List.take_add_one, hy]; rfl
          have hwk : w64 ((k : Int) + 1) = ((k + 1 : Nat) : Int) := by rw [qf9 (by omega) (by omega)]; omega
          simp only [qdR9]
          rw [if_pos (by omega)]
          by_cases hd : (b0 || decide ((-1 - t[i]) ∈ o.take k)) = true
          · rw [if_pos hd, hwk]
            have : (b0 || decide ((-1 - t[i]) ∈ o.take (k + 1))) = true := by
              rw [hok]
              simp only [Bool.or_eq_true, decide_eq_true_eq] at hd ⊢
              exact hd.imp id (fun h => List.mem_append_left _ h)
            rw [this]
          · rw [if_neg hd, qu9 hy, qu9 hx]
            simp only [Option.bind_some, hwk]
            have hneg : t[i] < 0 := hb0.resolve_right (fun h => hd (by rw [h]; rfl))
            rw [qf9 (n := -1 - t[i]) (by omega) (by omega)]
            have : (b0 || decide ((-1 - t[i]) ∈ o.take (k + 1))) = decide (o[k] = -1 - t[i]) := by
              rw [hok]
              simp only [Bool.or_eq_true, decide_eq_true_eq, not_or] at hd
              have hb : b0 = false := by cases b0 with | false => rfl | true => exact absurd rfl hd.1
              rw [hb, Bool.false_or, decide_eq_decide]
              rw [List.mem_append, List.mem_singleton]
              exact ⟨fun h => (h.resolve_left hd.2).symm, fun h => .inr h.symm⟩
            rw [this]
        · simp only [qdR9]
          rw [if_neg (by omega), List.take_length]
      by_cases hn : t[i] < 0
      · have step : qcM9 t [] ((i : Int), o) = if (-1 - t[i]) ∈ o then some (.inl (((i + 1 : Nat) : Int), o)) else some (.inl (((i + 1 : Nat) : Int), o ++ [-1 - t[i]])) := by
          simp only [qcM9]
          rw [if_pos (by omega), qu9 hx]
          simp only [Option.bind_some]
          rw [inner _ (.inl hn)]
          simp only [Option.bind_some, hw]
          rw [decide_eq_false (show ¬ 0 ≤ t[i] by omega), Bool.false_or]
          by_cases h : (-1 - t[i]) ∈ o
          · rw [if_pos (decide_eq_true h), if_pos h]
          · rw [if_neg (by simpa using h), if_neg h, if_pos (by omega), qf9 (by omega) (by omega)]
        by_cases h : (-1 - t[i]) ∈ o
        · rw [if_pos h] at step
          rw [qE9 step]
          refine ih (i + 1) o (by omega) (fun v => ?_) (by omega)
          rw [h2, htk]
          constructor
          · rintro ⟨c, hc, h⟩; exact ⟨c, List.mem_append_left _ hc, h⟩
          · rintro ⟨c, hc, hh⟩
            rcases List.mem_append.1 hc with hc | hc
            · exact ⟨c, hc, hh⟩
            · rw [List.mem_singleton] at hc; subst hc
              obtain ⟨d, hd, hd2, hd3⟩ := (h2 _).1 h
              exact ⟨d, hd, hd2, by omega⟩
        · rw [if_neg h] at step
          rw [qE9 step]
          refine ih (i + 1) _ (by omega) (fun v => ?_) (by simp; omega)
          rw [List.mem_append, List.mem_singleton, h2, htk]
          constructor
          · rintro (⟨c, hc, h⟩ | h)
            · exact ⟨c, List.mem_append_left _ hc, h⟩
            · exact ⟨t[i], List.mem_append_right _ (List.mem_singleton.2 rfl), hn, h⟩
          · rintro ⟨c, hc, h⟩
            rcases List.mem_append.1 hc with hc | hc
            · exact .inl ⟨c, hc, h⟩
            · rw [List.mem_singleton] at hc; subst hc; exact .inr h.2
      · have step : qcM9 t [] ((i : Int), o) = some (.inl (((i + 1 : Nat) : Int), o)) := by
          simp only [qcM9]
          rw [if_pos (by omega), qu9 hx]
          simp only [Option.bind_some]
          rw [decide_eq_true (show 0 ≤ t[i] by omega), inner true (.inr rfl)]
          simp only [Option.bind_some, hw, Bool.true_or, if_true]
        rw [qE9 step]
        refine ih (i + 1) o (by omega) (fun v => ?_) (by omega)
        rw [h2, htk]
        constructor
        · rintro ⟨c, hc, h⟩; exact ⟨c, List.mem_append_left _ hc, h⟩
        · rintro ⟨c, hc, hh⟩
          rcases List.mem_append.1 hc with hc | hc
          · exact ⟨c, hc, hh⟩
          · rw [List.mem_singleton] at hc; subst hc; exact absurd hh.1 hn
  obtain ⟨a, o', hh, h1, h2⟩ := key t.length 0 [] (by omega) (fun v => by simp) (by simp)
  rw [Int.natCast_zero] at hh
  exact ⟨o', by simp only [qgS9, hh, Option.bind_some], h1, h2⟩
end Ld.Law
namespace Ld.Law
open Go Go.Abs Go.Lib
theorem qlA9 (u : List Int) : ∀ (l : List Int) (k : Nat), qbU9 (fun _ x => if x ∈ u then none else some (Sum.inl 72 : Int ⊕ Int)) k l = if l.all (fun x => decide (x ∈ u)) = true then none else some (.inl 72) := by
  intro l
  induction l with
  | nil => intro k; rfl
  | cons a r ih =>
    intro k
    simp only [qbU9]
    by_cases h : a ∈ u
    · have e : (a :: r).all (fun x => decide (x ∈ u)) = r.all (fun x => decide (x ∈ u)) := by simp [h]
      rw [if_pos h, e]; exact ih _
    · have e : (a :: r).all (fun x => decide (x ∈ u)) = false := by simp [h]
      rw [if_neg h, e]; rfl
theorem qww9 {u v u' v' : List Int} (h1 : ∀ x, x ∈ u ↔ x ∈ u') (h2 : ∀ x, x ∈ v ↔ x ∈ v') : v.all (fun x => decide (x ∈ u)) = v'.all (fun x => decide (x ∈ u')) := by
  rw [Bool.eq_iff_iff, List.all_eq_true, List.all_eq_true]
  simp only [decide_eq_true_eq]
  exact ⟨fun h x hx => (h1 x).1 (h x ((h2 x).2 hx)), fun h x hx => (h1 x).2 (h x ((h2 x).1 hx))⟩
theorem qws9 {sig : List Symbol} {r : Rule} (h0 : qr9 sig = some 0) (hL : Small r.L) (hR : Small r.R) : qig9 sig r = qR9 sig r := by
  have hA : Ars sig := qdv9 h0
  have lL : r.L.length < 17179869184 := by unfold Small at hL; omega
  have lR : r.R.length < 17179869184 := by unfold Small at hR; omega
  simp only [qig9, qR9, qmj9 hA lL, qmj9 hA lR, qjq9 h0 hL, qjq9 h0 hR, Option.bind_some]
  by_cases h1 : qo9 sig r.L = 0
  rotate_left
  · rw [if_neg h1, if_neg h1]
  rw [if_pos h1, if_pos h1]
  by_cases h2 : qo9 sig r.R = 0
  rotate_left
  · rw [if_neg h2, if_neg h2]
  rw [if_pos h2, if_pos h2]
  by_cases h3 : 512 < max (r.L.length : Int) (r.R.length : Int)
  · rw [if_pos h3]
    by_cases a : 512 < (r.L.length : Int)
    · rw [if_pos a]
    · rw [if_neg a, if_pos (by omega)]
  rw [if_neg h3, if_neg (by omega), if_neg (by omega)]
  obtain ⟨u, hu, hu1, hu2⟩ := qjr9 hL (qdS9 h1)
  obtain ⟨v, hv, hv1, hv2⟩ := qjr9 hR (qdS9 h2)
  obtain ⟨u', hu', hu1', hu2'⟩ := qnD9 hL (qdS9 h1)
  obtain ⟨v', hv', hv1', hv2'⟩ := qnD9 hR (qdS9 h2)
  rw [hu, hv, hu', hv']
  cases idx r.L 0 with
  | none => rfl
  | some c =>
    simp only [Option.bind_some]
    by_cases h4 : c < 0
    · rw [if_pos h4, if_pos h4]
    rw [if_neg h4, if_neg h4]
    have A := qda9 (step := qbT9 sig r (qo9 sig r.L) (qo9 sig r.R) u v (v.length : Int) r.L r.R) (l := v) (g := fun _ x => if x ∈ u then none else some (Sum.inl 72 : Int ⊕ Int)) (fin := .inr (v.length : Int)) (fun i x hx => by
      have hlt := (List.getElem?_eq_some_iff.1 hx).1
      simp only [qbT9]
      rw [if_pos (by omega), qu9 hx]
      simp only [Option.bind_some, qkU9 hu2]
      by_cases h : x ∈ u
      · simp [h, qf9 (n := (i : Int) + 1) (by omega) (by omega)]
      · simp [h]) (by simp only [qbT9]; rw [if_neg (by omega)])
    have B := qda9 (step := qeD9 sig r (qo9 sig r.R) u' v' r.L r.R) (l := v') (g := fun _ x => if x ∈ u' then none else some (Sum.inl 72 : Int ⊕ Int)) (fin := .inr (v'.length : Int)) (fun i x hx => by
      have hlt := (List.getElem?_eq_some_iff.1 hx).1
      simp only [qeD9]
      rw [if_pos (by omega), qu9 hx]
      simp only [Option.bind_some, qyS9 hu2']
      by_cases h : x ∈ u'
      · simp [h, qf9 (n := (i : Int) + 1) (by omega) (by omega)]
      · simp [h]) (by simp only [qeD9]; rw [if_neg (by omega)])
    rw [A, B, qlA9, qlA9, qww9 (fun x => (hu1 x).trans (hu1' x).symm) (fun x => (hv1 x).trans (hv1' x).symm)]
    cases v'.all fun x => decide (x ∈ u') <;> rfl
end Ld.Law
namespace Ld.Law
open Go Go.Abs Go.Lib
theorem qtL9 {s : System} (hS : SysSmall s) : qhi9 s = qcW9 s := by
  obtain ⟨e, he, hz⟩ := qps9 hS.1
  simp only [qhi9, qcW9, quw9 hS.1, he, Option.bind_some]
  by_cases h0 : e = 0
  rotate_left
  · rw [if_neg h0, if_neg h0]
  obtain ⟨z1, z2, z3⟩ := hz.1 h0
  subst h0
  rw [if_pos rfl, if_pos rfl]
  by_cases h1 : 64 < (s.Rules.length : Int)
  · rw [if_pos h1, if_pos h1]
  rw [if_neg h1, if_neg h1]
  have ru : ∀ r ∈ s.Rules, ∃ e, qR9 s.Sig r = some e ∧ (e = 0 ↔ RuleOK s.Sig r) := fun r hr => qrM9 z1 (hS.2.2 r hr).1 (hS.2.2 r hr).2
  have A := qda9 (step := qbM9 s 0 s.Rules (s.Rules.length : Int) s.Sig s.Rules) (l := s.Rules) (g := fun i r => if (qR9 s.Sig r).getD 0 = 0 then none else some (Sum.inl ((qR9 s.Sig r).getD 0, (i : Int)) : (Int × Int) ⊕ Int)) (fin := .inr (s.Rules.length : Int)) (fun i r hr => by
    have hlt := (List.getElem?_eq_some_iff.1 hr).1
    obtain ⟨e, he, hq⟩ := ru r (List.mem_of_getElem? hr)
    simp only [qbM9]
    rw [if_pos (by omega), qu9 hr]
    simp only [Option.bind_some, he, Option.getD_some]
    by_cases h : e = 0
    · rw [if_pos h, if_pos h, qf9 (n := (i : Int) + 1) (by omega) (by omega)]; rfl
    · rw [if_neg h, if_neg h]) (by simp only [qbM9]; rw [if_neg (by omega)])
  have B := qda9 (step := qed9 s 0 s.Sig s.Rules) (l := s.Rules) (g := fun i r => if (qR9 s.Sig r).getD 0 = 0 then none else some (Sum.inl ((qR9 s.Sig r).getD 0, (i : Int)) : (Int × Int) ⊕ Int)) (fin := .inr (s.Rules.length : Int)) (fun i r hr => by
    have hlt := (List.getElem?_eq_some_iff.1 hr).1
    have hm := List.mem_of_getElem? hr
    obtain ⟨e, he, hq⟩ := ru r hm
    simp only [qed9]
    rw [if_pos (by omega), qu9 hr]
    simp only [Option.bind_some, qws9 z1 (hS.2.2 r hm).1 (hS.2.2 r hm).2, he, Option.getD_some]
    by_cases h : e = 0
    · rw [if_pos h, if_pos h, qf9 (n := (i : Int) + 1) (by omega) (by omega)]; rfl
    · rw [if_neg h, if_neg h]) (by simp only [qed9]; rw [if_neg (by omega)])
  rw [A, B]
  try rfl
end Ld.Law
namespace Ld.Law
open Go Go.Abs Go.Lib
end Ld.Law
namespace Ld.Law
open Go Go.Abs Go.Lib
end Ld.Law
namespace Ld.Law
open Go Go.Abs Go.Lib
end Ld.Law
namespace Ld.Law
open Go Go.Abs Go.Lib
theorem qyh9 {sig : List Symbol} : ∀ (p : List Int) (k : Nat) (q : List Int), rdT sig (p ++ q) k = ([], 0) → q ≠ [] → ∃ j, rdT sig q j = ([], 0) ∧ ∀ q', rdT sig (p ++ q') k = rdT sig q' j := by
  intro p
  induction p with
  | nil => intro k q h hq; exact ⟨k, h, fun _ => rfl⟩
  | cons c p ih =>
    intro k q h hq
    cases k with
    | zero => simp [rdT] at h
    | succ k =>
      simp only [List.cons_append, rdT] at h ⊢
      by_cases hc : (sig.length : Int) ≤ c ∨ c < -1048576
      · rw [if_pos hc] at h; simp at h
      · rw [if_neg hc] at h
        obtain ⟨j, h1, h2⟩ := ih _ _ h hq
        exact ⟨j, h1, fun q' => by rw [if_neg hc]; exact h2 q'⟩
theorem qyz9 {sig : List Symbol} {t u : List Int} {i : Nat} (hT : TOK sig t) (hi : i < t.length) (hu : TOK sig u) : TOK sig (t.take i ++ u ++ t.drop (enR sig t i 1)) := by
  have h : rdT sig (t.take i ++ t.drop i) 1 = ([], 0) := by rw [List.take_append_drop]; exact hT
  have hne : t.drop i ≠ [] := by
    intro e
    have := congrArg List.length e
    rw [List.length_drop, List.length_nil] at this
    omega
  obtain ⟨j, h1, h2⟩ := qyh9 _ _ _ h hne
  obtain ⟨j', rfl, h3, h4⟩ := qok9 h1 hne
  obtain ⟨d1, d2, d3⟩ := qdz9 (sig := sig) (t := t) (i := i) (k := 1) (by omega)
  unfold TOK
  rw [List.append_assoc, h2, Nat.add_comm, qmm9 _ _ 1 j' hu, d1]
  exact h4
theorem qtU9 {s : System} {t : List Int} {i : Nat} {r : Rule} (hT : TOK s.Sig t) (hi : i < t.length) (hr : RuleOK s.Sig r) (hm : metB s.Sig r.L (first s.Sig (t.drop i)) = true) :
    ∃ o, mat s.Sig r.L (first s.Sig (t.drop i)) [] = some o ∧ MatOK s.Sig r.L (first s.Sig (t.drop i)) o ∧ (doR s t i r = ([], 2) ∨ doR s t i r = (t.take i ++ appF (bf (sortB o)) r.R ++ t.drop (enR s.Sig t i 1), 0) ∧ i + (appF (bf (sortB o)) r.R).length + (t.length - enR s.Sig t i 1) ≤ 512) := by
  unfold metB at hm
  cases h : mat s.Sig r.L (first s.Sig (t.drop i)) [] with
  | none => rw [h] at hm; cases hm
  | some o =>
    refine ⟨o, rfl, matOK hr.tl (qil9 (hT.at hi)) h, ?_⟩
    unfold doR
    rw [h]
    simp only
    by_cases c : i + (appF (bf (sortB o)) r.R).length + (t.length - enR s.Sig t i 1) ≤ 512
    · rw [if_pos c]; exact .inr ⟨rfl, c⟩
    · rw [if_neg c]; exact .inl rfl
theorem qvA9 {s : System} {t : List Int} : ∀ (f p e : Nat) (x : Redex), e ≤ t.length → seekR s t f p e = some x → ∃ i, i < t.length ∧ x ∈ hits s (first s.Sig (t.drop i)) i s.Rules.length := by
  intro f
  induction f with
  | zero => intro p e x he h; cases h
  | succ f ih =>
    intro p e x he h
    simp only [seekR] at h
    split at h
    · rename_i hp
      obtain ⟨d1, d2, d3⟩ := qdz9 (sig := s.Sig) (t := t) (i := p) (k := 1) (by omega)
      split at h
      · rename_i y hy
        cases h
        exact ih _ _ _ d3 hy
      · split at h
        · rename_i y hy
          cases h
          exact ⟨p, by omega, List.mem_of_head? hy⟩
        · exact ih _ _ _ he h
    · cases h
noncomputable def nxt (s : System) (t : List Int) : Option Redex := seekR s t t.length 0 t.length
noncomputable def dx (s : System) (t : List Int) (x : Redex) : List Int × Int := match s.Rules[x.Rule.toNat]? with
  | some r => doR s t x.At.toNat r
  | none => ([], 0)
theorem qwU9 {s : System} {t : List Int} {x : Redex} (h : nxt s t = some x) : ∃ (i k : Nat) (r : Rule), x = ⟨(i : Int), (k : Int)⟩ ∧ i < t.length ∧ s.Rules[k]? = some r ∧ metB s.Sig r.L (first s.Sig (t.drop i)) = true := by
  obtain ⟨i, hi, hx⟩ := qvA9 _ _ _ _ (Nat.le_refl _) h
  obtain ⟨k, hk, r, hr, hm, rfl⟩ := qvS9.1 hx
  exact ⟨i, k, r, rfl, hi, hr, hm⟩
theorem dx_ok {s : System} {t : List Int} (hS : SysSmall s) (ht : Small t) (hR : SysR s) (hT : TOK s.Sig t) {x : Redex} (h : nxt s t = some x) : qgc9 s t x = some (dx s t x) ∧ (dx s t x = ([], 2) ∨ (dx s t x).2 = 0 ∧ TOK s.Sig (dx s t x).1 ∧ (dx s t x).1.length ≤ 512) := by
  obtain ⟨i, k, r, rfl, hi, hr, hm⟩ := qwU9 h
  have e : dx s t ⟨(i : Int), (k : Int)⟩ = doR s t i r := by simp only [dx, Int.toNat_natCast, hr]
  have ok := hR.rules r (List.mem_of_getElem? hr)
  rw [e]
  refine ⟨Do_ok hS ht hR hT hi hr, ?_⟩
  obtain ⟨o, ho, hO, h1 | ⟨h1, h2⟩⟩ := qtU9 hT hi ok hm
  · exact .inl h1
  · rw [h1]
    refine .inr ⟨rfl, qyz9 hT hi (qxF9 r.R 1 ok.tr (fun c hc hneg => by rw [qxY9 hO]; exact hO.tok (ok.vars c hc hneg) hneg)), ?_⟩
    obtain ⟨d1, d2, d3⟩ := qdz9 (sig := s.Sig) (t := t) (i := i) (k := 1) (by omega)
    simp only [List.length_append, List.length_take, List.length_drop]
    omega
noncomputable def pW (s : System) : Nat → List Int → Option (List Redex × List Int × Bool)
  | 0, t => if 512 < t.length then none else some ([], t, (nxt s t).isNone)
  | n + 1, t => if 512 < t.length then none else match nxt s t with
    | none => some ([], t, true)
    | some x => if (dx s t x).2 = 0 then (pW s n (dx s t x).1).map fun p => (x :: p.1, p.2.1, p.2.2) else none
noncomputable def ansW (acc : List Redex) : Option (List Redex × List Int × Bool) → Walk × Int
  | none => (⟨[], [], false⟩, 2)
  | some p => (⟨acc ++ p.1, p.2.1, p.2.2⟩, 0)
theorem qhW9 (s : System) : System.mk s.Sig s.Rules = s := by cases s; rfl
theorem small512 {t : List Int} (h : t.length ≤ 512) : Small t := by unfold Small; omega
theorem qvf9 {s : System} (hS : SysSmall s) (hR : SysR s) {t0 : List Int} {e1 : Int} {m : Nat} (hm : m ≤ 4096) : ∀ (n : Nat) (t : List Int) (acc : List Redex), TOK s.Sig t → Small t → acc.length + n = m →
    wh (qck9 s t0 (m : Int) e1 s.Sig s.Rules [] [] false false) (t, acc) = some (ansW acc (pW s n t)) := by
  intro n
  induction n with
  | zero =>
    intro t acc hT ht hn
    refine qe9 ?_
    simp only [qck9, pW]
    by_cases c : 512 < t.length
    · rw [if_pos (by omega), if_pos c]; rfl
    rw [if_neg (by omega), if_neg c, qhW9, qlc9 hS ht hR hT]
    simp only [Option.bind_some]
    show _ = some (Sum.inr (ansW acc (some ([], t, (nxt s t).isNone))))
    unfold nxt
    cases seekR s t t.length 0 t.length with
    | none => simp [ansW]
    | some x =>
      simp only [if_true]
      rw [if_pos (by omega)]
      simp [ansW]
  | succ n ih =>
    intro t acc hT ht hn
    simp only [pW]
    by_cases c : 512 < t.length
    · rw [if_pos c]
      exact qe9 (by simp only [qck9]; rw [if_pos (by omega)]; rfl)
    rw [if_neg c]
    have hF := qlc9 hS ht hR hT
    cases hx : nxt s t with
    | none =>
      unfold nxt at hx
      rw [hx] at hF
      refine qe9 ?_
      simp only [qck9]
      rw [if_neg (by omega), qhW9, hF]
      simp [ansW]
    | some x =>
      obtain ⟨hD, hd⟩ := dx_ok hS ht hR hT hx
      unfold nxt at hx
      rw [hx] at hF
      dsimp only
      by_cases c2 : (dx s t x).2 = 0
      · rw [if_pos c2]
        have hd' := hd.resolve_left (fun e => by rw [e] at c2; exact absurd c2 (by decide))
        have st : qck9 s t0 (m : Int) e1 s.Sig s.Rules [] [] false false (t, acc) = some (.inl ((dx s t x).1, acc ++ [x])) := by
          simp only [qck9]
          rw [if_neg (by omega), qhW9, hF]
          simp only [Option.bind_some, if_true]
          rw [if_neg (by omega), hD]
          simp only [Option.bind_some]
          rw [if_pos c2, if_pos (by omega)]
        rw [qE9 st, ih _ _ hd'.2.1 (small512 hd'.2.2) (by simp; omega)]
        cases pW s n (dx s t x).1 with
        | none => rfl
        | some p => simp [ansW]
      · rw [if_neg c2]
        have e2 : (dx s t x).2 = 2 := by
          rcases hd with h | h
          · rw [h]
          · exact absurd h.1 c2
        refine qe9 ?_
        simp only [qck9]
        rw [if_neg (by omega), qhW9, hF]
        simp only [Option.bind_some, if_true]
        rw [if_neg (by omega), hD]
        simp only [Option.bind_some]
        rw [if_neg c2, e2]
        rfl
theorem qqg9 {s : System} {t : List Int} (hS : SysSmall s) (ht : Small t) (hR : SysR s) (hT : TOK s.Sig t) : qib9 s t = some 0 := by
  obtain ⟨e, he, hz⟩ := qle9 hS ht
  have h0 := hz.2 ⟨hR, hT⟩
  subst h0
  exact he
theorem qiU9 {s : System} {t : List Int} (hS : SysSmall s) (ht : Small t) (hR : SysR s) (hT : TOK s.Sig t) {m : Nat} (hm : m ≤ 4096) : qbr9 s t (m : Int) = some (ansW [] (pW s m t)) := by
  have hl := qvf9 hS hR (t0 := t) (e1 := 0) hm m t [] hT ht (by simp)
  unfold Small at ht
  simp only [qbr9, qqg9 hS (by unfold Small; exact ht) hR hT, Option.bind_some, if_true]
  rw [if_neg (by omega), if_neg (by omega), if_pos (by omega), hl]
  rfl
theorem quA9 {s : System} (hS : SysSmall s) (hR : SysR s) : ∀ (n : Nat) (t : List Int) (p : List Redex × List Int × Bool), TOK s.Sig t → pW s n t = some p → p.1.length ≤ n ∧ (p.2.2 = false → p.1.length = n) ∧ p.2.2 = (nxt s p.2.1).isNone ∧ TOK s.Sig p.2.1 ∧ p.2.1.length ≤ 512 := by
  intro n
  induction n with
  | zero =>
    intro t p hT h
    simp only [pW] at h
    split at h
    · cases h
    · cases h
      exact ⟨by simp, fun _ => rfl, rfl, hT, by simp only; omega⟩
  | succ n ih =>
    intro t p hT h
    simp only [pW] at h
    split at h
    · cases h
    · rename_i c
      split at h
      · rename_i hx
        cases h
        exact ⟨by simp, (fun h => by cases h), by simp [hx], hT, by simp only; omega⟩
      · rename_i x hx
        split at h
        · rename_i c2
          obtain ⟨q, hq, rfl⟩ := Option.map_eq_some_iff.1 h
          obtain ⟨hD, hd⟩ := dx_ok hS (small512 (by omega)) hR hT hx
          have hd' := hd.resolve_left (fun e => by rw [e] at c2; exact absurd c2 (by decide))
          obtain ⟨a1, a2, a3, a4, a5⟩ := ih _ q hd'.2.1 hq
          exact ⟨by simp; omega, fun hb => by simp; exact a2 hb, a3, a4, a5⟩
        · cases h
theorem qwf9 {s : System} (hS : SysSmall s) (hR : SysR s) : ∀ (k n : Nat) (t : List Int) (p : List Redex × List Int × Bool), k ≤ n → TOK s.Sig t → pW s n t = some p →
    ∃ e b, pW s k t = some (p.1.take k, e, b) ∧ pW s (n - (p.1.take k).length) e = some (p.1.drop k, p.2) ∧ TOK s.Sig e ∧ e.length ≤ 512 := by
  intro k
  induction k with
  | zero =>
    intro n t p hk hT h
    have c : t.length ≤ 512 := by
      cases n with
      | zero => simp only [pW] at h; split at h; cases h; omega
      | succ n => simp only [pW] at h; split at h; cases h; omega
    refine ⟨t, (nxt s t).isNone, ?_, by simpa using h, hT, c⟩
    simp only [pW]
    rw [if_neg (by omega)]
    rfl
  | succ k ih =>
    intro n t p hk hT h
    obtain ⟨n, rfl⟩ : ∃ m, n = m + 1 := ⟨n - 1, by omega⟩
    have h0 := h
    simp only [pW] at h
    split at h
    · cases h
    rename_i c
    split at h
    · rename_i hx
      cases h
      refine ⟨t, true, ?_, by simpa using h0, hT, by omega⟩
      simp only [pW]
      rw [if_neg c, hx]
      rfl
    · rename_i x hx
      split at h
      · rename_i c2
        obtain ⟨q, hq, rfl⟩ := Option.map_eq_some_iff.1 h
        obtain ⟨hD, hd⟩ := dx_ok hS (small512 (by omega)) hR hT hx
        have hd' := hd.resolve_left (fun e => by rw [e] at c2; exact absurd c2 (by decide))
        obtain ⟨e, b, a1, a2, a3, a4⟩ := ih n _ q (by omega) hd'.2.1 hq
        refine ⟨e, b, ?_, ?_, a3, a4⟩
        · simp only [pW]
          rw [if_neg c, hx]
          simp only
          rw [if_pos c2, a1]
          rfl
        · simp only [List.take_succ_cons, List.drop_succ_cons, List.length_cons]
          rw [show n + 1 - ((q.1.take k).length + 1) = n - (q.1.take k).length by omega]
          exact a2
      · cases h
theorem qsr9 {s : System} (hS : SysSmall s) (hR : SysR s) {L : List Redex} {e1 : Int} (hL : L.length ≤ 4096) : ∀ (n : Nat) (t : List Int) (p : List Redex × List Int × Bool) (pre : List Redex), TOK s.Sig t → pW s n t = some p → L = pre ++ p.1 →
    wh (qcl9 s L [] e1 L (L.length : Int) s.Sig s.Rules) (t, (pre.length : Int)) = some (.inr (p.2.1, (L.length : Int))) := by
  intro n
  induction n with
  | zero =>
    intro t p pre hT h hl
    simp only [pW] at h
    split at h
    · cases h
    · cases h
      rw [List.append_nil] at hl
      subst hl
      exact qe9 (by simp only [qcl9]; rw [if_neg (by omega)])
  | succ n ih =>
    intro t p pre hT h hl
    simp only [pW] at h
    split at h
    · cases h
    rename_i c
    split at h
    · cases h
      rw [List.append_nil] at hl
      subst hl
      exact qe9 (by simp only [qcl9]; rw [if_neg (by omega)])
    · rename_i x hx
      split at h
      · rename_i c2
        obtain ⟨q, hq, rfl⟩ := Option.map_eq_some_iff.1 h
        obtain ⟨hD, hd⟩ := dx_ok hS (small512 (by omega)) hR hT hx
        have hd' := hd.resolve_left (fun e => by rw [e] at c2; exact absurd c2 (by decide))
        simp only at hl
        have hlen := congrArg List.length hl
        simp at hlen
        have hi : L[pre.length]? = some x := by rw [hl]; simp
        have st : qcl9 s L [] e1 L (L.length : Int) s.Sig s.Rules (t, (pre.length : Int)) = some (.inl ((dx s t x).1, ((pre ++ [x]).length : Int))) := by
          simp only [qcl9]
          rw [if_pos (by omega), qu9 hi]
          simp only [Option.bind_some, qhW9, hD]
          rw [if_pos c2, qf9 (n := (pre.length : Int) + 1) (by omega) (by omega)]
          simp
        rw [qE9 st]
        exact ih _ q (pre ++ [x]) hd'.2.1 hq (by simpa using hl)
      · cases h
theorem qpA9 {s : System} (hS : SysSmall s) (hR : SysR s) {t : List Int} (ht : t.length ≤ 512) (hT : TOK s.Sig t) {n : Nat} {p : List Redex × List Int × Bool} (hn : n ≤ 4096) (h : pW s n t = some p) : qdp9 s t p.1 = some (p.2.1, 0, 0) := by
  have hl := (quA9 hS hR n t p hT h).1
  have := qsr9 hS hR (L := p.1) (e1 := 0) (by omega) n t p [] hT h rfl
  simp only [qdp9, qqg9 hS (small512 ht) hR hT, Option.bind_some, if_true]
  rw [if_neg (by omega), if_pos (by omega)]
  rw [List.length_nil, Int.natCast_zero] at this
  rw [this]
  rfl
theorem qyG9 {s : System} {n : Nat} {t : List Int} {p : List Redex × List Int × Bool} (h : pW s n t = some p) : t.length ≤ 512 := by
  cases n with
  | zero => simp only [pW] at h; split at h; cases h; omega
  | succ n => simp only [pW] at h; split at h; cases h; omega
def addsS : System := ⟨three, [⟨[2, 0, -2], [-2]⟩, ⟨[2, 1, -1, -2], [1, 2, -1, -2]⟩]⟩
theorem qwZ9 : qjA9 = some addsS := rfl
theorem qgx9 : SysSmall addsS := by
  refine ⟨qwv9, by decide, fun r hr => ?_⟩
  simp only [addsS, List.mem_cons, List.not_mem_nil, or_false] at hr
  rcases hr with rfl | rfl <;> exact ⟨by unfold Small; decide, by unfold Small; decide⟩
theorem qgB9 : SysR addsS := by
  refine ⟨quP9, by decide, by decide +kernel, by decide, fun r hr => ?_⟩
  simp only [addsS, List.mem_cons, List.not_mem_nil, or_false] at hr
  rcases hr with rfl | rfl
  · exact ⟨by decide +kernel, by decide +kernel, by decide, by decide, ⟨2, rfl, by decide⟩, by decide⟩
  · exact ⟨by decide +kernel, by decide +kernel, by decide, by decide, ⟨2, rfl, by decide⟩, by decide⟩
theorem shown9 : qhn9 = some true := by
  have hT : TOK addsS.Sig [2, 1, 0, 1, 0] := by decide +kernel
  have sm : Small [2, 1, 0, 1, 0] := by unfold Small; decide
  have p9 : pW addsS 9 [2, 1, 0, 1, 0] = some ([⟨0, 1⟩, ⟨1, 0⟩], [1, 1, 0], true) := by decide +kernel
  have p1 : pW addsS 1 [2, 1, 0, 1, 0] = some ([⟨0, 1⟩], [1, 2, 0, 1, 0], false) := by decide +kernel
  have w9 := qiU9 qgx9 sm qgB9 hT (m := 9) (by decide)
  have w1 := qiU9 qgx9 sm qgB9 hT (m := 1) (by decide)
  rw [p9] at w9
  rw [p1] at w1
  have al := qpA9 qgx9 qgB9 (by decide) hT (n := 9) (by decide) p9
  have d0 : qgc9 addsS [2, 1, 0, 1, 0] ⟨0, 0⟩ = some ([], 80) := by
    have := Do_ok (s := addsS) (t := [2, 1, 0, 1, 0]) (i := 0) (k := 0) (r := ⟨[2, 0, -2], [-2]⟩) qgx9 sm qgB9 hT (by decide) rfl
    rw [show doR addsS [2, 1, 0, 1, 0] 0 ⟨[2, 0, -2], [-2]⟩ = ([], 80) by decide +kernel] at this
    exact this
  have al2 : qdp9 addsS [2, 1, 0, 1, 0] [⟨0, 0⟩] = some ([], 80, 0) := by
    simp only [qdp9, qqg9 qgx9 sm qgB9 hT, Option.bind_some, if_true]
    rw [if_neg (by decide), if_pos (by decide), qe9 (r := .inl ([], 80, 0))]
    · rfl
    · simp only [qcl9]
      rw [if_pos (by decide), show idx ([⟨0, 0⟩] : List Redex) 0 = some ⟨0, 0⟩ from rfl]
      simp only [Option.bind_some, qhW9, d0]
      rfl
  have s1 : qeT9 ⟨[⟨0, 1⟩, ⟨1, 0⟩], [1, 1, 0], true⟩ ⟨[⟨0, 1⟩, ⟨1, 0⟩], [1, 1, 0], true⟩ = some true := by
    have h : wh (qfG9 ⟨[⟨0, 1⟩, ⟨1, 0⟩], [1, 1, 0], true⟩ ⟨[⟨0, 1⟩, ⟨1, 0⟩], [1, 1, 0], true⟩ true [⟨0, 1⟩, ⟨1, 0⟩] [1, 1, 0] true [⟨0, 1⟩, ⟨1, 0⟩] [1, 1, 0] true) 0 = some (.inr 2) := wh_of 5 (by decide +kernel)
    simp only [qeT9]
    rw [qgC9 (by decide)]
    simp only [decide_true, Option.bind_some, if_true, h]
    rfl
  have s2 : qeT9 ⟨[⟨0, 1⟩], [1, 2, 0, 1, 0], false⟩ ⟨[⟨0, 1⟩], [1, 2, 0, 1, 0], false⟩ = some true := by
    have h : wh (qfG9 ⟨[⟨0, 1⟩], [1, 2, 0, 1, 0], false⟩ ⟨[⟨0, 1⟩], [1, 2, 0, 1, 0], false⟩ true [⟨0, 1⟩] [1, 2, 0, 1, 0] false [⟨0, 1⟩] [1, 2, 0, 1, 0] false) 0 = some (.inr 1) := wh_of 5 (by decide +kernel)
    simp only [qeT9]
    rw [qgC9 (by decide)]
    simp only [decide_true, Option.bind_some, if_true, h]
    rfl
  have w9' : qbr9 addsS [2, 1, 0, 1, 0] 9 = some (⟨[⟨0, 1⟩, ⟨1, 0⟩], [1, 1, 0], true⟩, 0) := w9
  have w1' : qbr9 addsS [2, 1, 0, 1, 0] 1 = some (⟨[⟨0, 1⟩], [1, 2, 0, 1, 0], false⟩, 0) := w1
  simp only [qhn9, qwZ9, Option.bind_some, w9', w1', al, al2, s1, s2, if_true]
  rw [qgC9 (by decide)]
  rfl
theorem quU9 {s : System} (hS : SysSmall s) : ∃ b, qhs9 s = some b ∧ (b = true ↔ SysR s) := by
  obtain ⟨x, hx, hz⟩ := qtY9 hS
  refine ⟨decide (x.1 = 0), by simp only [qhs9, qtL9 hS, hx, Option.bind_some], ?_⟩
  rw [decide_eq_true_eq]
  exact hz
theorem quj9 {sig : List Symbol} {t : List Int} (hS : SigOK sig) (h0 : qr9 sig = some 0) (ht : Small t) : ∃ e, qeO9 sig t = some e ∧ (e = 0 ↔ TOK sig t) := by
  have htl : t.length < 17179869184 := by unfold Small at ht; omega
  refine ⟨chk sig t, by rw [qqb9 htl, qja9 hS htl], fun h => ?_, fun h => qlR9 htl h0 (qeP9 h)⟩
  exact qgN9 (qju9 hS htl h).2
end Ld.Law
namespace Ld.Law
open Go Go.Abs Go.Lib
theorem qod9 {c : Int} {n : Nat} (hc : -9223372036854775808 ≤ c ∧ c ≤ 9223372036854775807) (hn : 0 < n) (hn2 : n ≤ 4096) : ∃ k : Nat, qgk9 c (n : Int) = some (k : Int) ∧ k < n := by
  have key : ∀ d : Int, 0 ≤ d → d ≤ 9223372036854775807 → ∃ k : Nat, remV d (n : Int) = some (k : Int) ∧ k < n := by
    intro d h0 h1
    refine ⟨d.toNat % n, ?_, Nat.mod_lt _ hn⟩
    unfold remV
    have e : d.tmod (n : Int) = ((d.toNat % n : Nat) : Int) := by
      rw [Int.tmod_eq_emod_of_nonneg h0]
      obtain ⟨q, rfl⟩ : ∃ q : Nat, d = (q : Int) := ⟨d.toNat, by omega⟩
      rw [Int.toNat_natCast]
      exact (Int.natCast_emod _ _).symm
    rw [if_neg (by omega), e]
  simp only [qgk9]
  by_cases h : c < 0
  · rw [if_pos h]
    have e : w64 (0 - w64 (c + 1)) = -c - 1 := by
      unfold w64; rw [IntKind.wrap_i64, IntKind.wrap_i64]; omega
    rw [e]
    obtain ⟨k, hk, hl⟩ := key (-c - 1) (by omega) (by omega)
    exact ⟨k, by rw [hk]; rfl, hl⟩
  · rw [if_neg h]
    obtain ⟨k, hk, hl⟩ := key c (by omega) (by omega)
    exact ⟨k, by rw [hk]; rfl, hl⟩
theorem qwD9 {s : System} {t : List Int} {m : Int × Int} (hS : SysSmall s) (ht : Small t) (h1 : -9223372036854775808 ≤ m.1 ∧ m.1 ≤ 9223372036854775807) (h2 : -9223372036854775808 ≤ m.2 ∧ m.2 ≤ 9223372036854775807) : qey9 s t m = some true := by
  obtain ⟨b, hb, hz⟩ := quU9 hS
  simp only [qey9, shown9, Option.bind_some, hb, if_true]
  have hchk : ∃ e, qeO9 s.Sig t = some e := ⟨_, by rw [qqb9 (by unfold Small at ht; omega), qja9 hS.1 (by unfold Small at ht; omega)]⟩
  obtain ⟨e, he⟩ := hchk
  rw [he]
  simp only [Option.bind_some]
  by_cases hbt : b = true
  rotate_left
  · rw [if_neg hbt]
  rw [if_pos hbt]
  by_cases he0 : e = 0
  rotate_left
  · rw [if_neg he0]
  rw [if_pos he0]
  have hR := hz.1 hbt
  have hT : TOK s.Sig t := by
    obtain ⟨e', he', hz'⟩ := quj9 hS.1 hR.sg ht
    rw [he] at he'
    cases he'
    exact hz'.1 he0
  obtain ⟨n, hn, hnl⟩ := qod9 (n := 300) h1 (by decide) (by decide)
  obtain ⟨k, hk, hkl⟩ := qod9 (n := n + 1) h2 (by omega) (by omega)
  have hw1 : w64 ((n : Int) + 1) = ((n + 1 : Nat) : Int) := by rw [qf9 (by omega) (by omega)]; omega
  rw [show ((300 : Nat) : Int) = 300 from rfl] at hn
  simp only [hn, Option.bind_some, hw1, hk, qiU9 hS ht hR hT (m := n) (by omega), qiU9 hS ht hR hT (m := k) (by omega)]
  cases hp : pW s n t with
  | none =>
    cases pW s k t <;> simp [ansW]
  | some p =>
    have htl := qyG9 hp
    obtain ⟨z1, z2, z3, z4, z5⟩ := quA9 hS hR n t p hT hp
    obtain ⟨e1, b1, a1, a2, a3, a4⟩ := qwf9 hS hR k n t p (by omega) hT hp
    obtain ⟨l, e2, b2⟩ := p
    simp only at z1 z2 z3 z4 z5 a1 a2
    have hal := qpA9 hS hR htl hT (by omega) hp
    simp only at hal
    simp only [a1, ansW, List.nil_append, hal, Option.bind_some, if_true]
    rw [qgC9 (by omega)]
    simp only [decide_true, Option.bind_some, if_true]
    have htk : (l.take k).length ≤ l.length := by rw [List.length_take]; omega
    rw [if_neg (by omega), if_neg (by omega)]
    -- both loops go through, and the rest
    have L0 : ∀ {x : Int} {r : Int}, wh (qV9 s t m true b e (n : Int) (k : Int) x 0 e2 0 true s.Sig s.Rules m.1 m.2 l e2 b2 (l.take k) e1 b1) 0 = some (.inr ((l.take k).length : Int)) := by
      intro x r
      have := qpo9 (step := qV9 s t m true b e (n : Int) (k : Int) x 0 e2 0 true s.Sig s.Rules m.1 m.2 l e2 b2 (l.take k) e1 b1) (fun i => (i : Int)) (l.take k).length (r := .inr ((l.take k).length : Int)) (fun i hi => ?_) ?_
      · rwa [Int.natCast_zero] at this
      · have hx : l[i]? = some l[i] := List.getElem?_eq_getElem (by omega)
        have hy : (l.take k)[i]? = some l[i] := by rw [List.getElem?_take_of_lt (by rw [List.length_take] at hi; omega)]; exact hx
        simp only [qV9]
        rw [if_pos (by omega), qu9 hx, qu9 hy]
        simp only [Option.bind_some]
        rw [if_pos (by decide), qf9 (n := (i : Int) + 1) (by omega) (by omega)]
        rfl
      · simp only [qV9]; rw [if_neg (by omega)]
    have wk : qbr9 s e1 (w64 ((n : Int) - ((l.take k).length : Int))) = some (⟨l.drop k, e2, b2⟩, 0) := by
      have e : w64 ((n : Int) - ((l.take k).length : Int)) = ((n - (l.take k).length : Nat) : Int) := by rw [qf9 (by omega) (by omega)]; omega
      rw [e, qiU9 hS (small512 a4) hR a3 (by omega), a2]
      rfl
    have L1 : ∀ {x y : Int}, wh (qT9 s t m true b e (n : Int) (k : Int) 0 0 e2 0 true x s.Sig s.Rules m.1 m.2 l e2 b2 (l.take k) e1 b1 (l.drop k) e2 b2) 0 = some (.inr ((l.drop k).length : Int)) := by
      intro x y
      have hdl : (l.drop k).length = l.length - k := List.length_drop
      have := qpo9 (step := qT9 s t m true b e (n : Int) (k : Int) 0 0 e2 0 true x s.Sig s.Rules m.1 m.2 l e2 b2 (l.take k) e1 b1 (l.drop k) e2 b2) (fun i => (i : Int)) (l.drop k).length (r := .inr ((l.drop k).length : Int)) (fun i hi => ?_) ?_
      · rwa [Int.natCast_zero] at this
      · have hkl : (l.take k).length = k := by rw [List.length_take]; omega
        have hx : l[k + i]? = some (l[k + i]'(by omega)) := List.getElem?_eq_getElem (by omega)
        have hy : (l.drop k)[i]? = some (l[k + i]'(by omega)) := by rw [List.getElem?_drop]; exact hx
        have hw : w64 (((l.take k).length : Int) + (i : Int)) = ((k + i : Nat) : Int) := by rw [qf9 (by omega) (by omega)]; omega
        simp only [qT9]
        rw [if_pos (by omega), qu9 hy, hw, qu9 hx]
        simp only [Option.bind_some]
        rw [if_pos (by decide), qf9 (n := (i : Int) + 1) (by omega) (by omega)]
        rfl
      · simp only [qT9]; rw [if_neg (by omega)]
    have F : qbE9 s e2 = some (match nxt s e2 with | some x => (x, true) | none => (⟨0, 0⟩, false)) := qlc9 hS (small512 z5) hR z4
    have hFl : ∀ z : Redex × Bool, qbE9 s e2 = some z → (z.2 == !b2) = true := by
      intro z hz
      rw [F] at hz
      cases hz
      rw [z3]
      cases nxt s e2 <;> rfl
    have hxl : ((l.drop k).length : Int) = w64 ((l.length : Int) - ((l.take k).length : Int)) := by
      rw [qf9 (by omega) (by omega), List.length_drop, List.length_take]; omega
    have hlt : (l.take k).length < l.length → (l.take k).length = k := by intro h; rw [List.length_take] at h ⊢; omega
    have hnn : b2 = false → (l.length : Int) = (n : Int) := fun h => by have := z2 h; omega
    subst hbt
    subst he0
    have tail : ∀ {q : Int}, (qbr9 s e1 (w64 ((n : Int) - ((l.take k).length : Int)))).bind (fun x15 => (qbw9 x15.1.End e2).bind fun x16 =>
        if x15.2 = 0 then (if x16 = true then (if (x15.1.Steps.length : Int) = w64 ((l.length : Int) - ((l.take k).length : Int)) then (if (x15.1.Normal != b2) = true then some false else (wh (qT9 s t m true true 0 (n : Int) (k : Int) x15.2 0 e2 0 x16 q s.Sig s.Rules m.1 m.2 l e2 b2 (l.take k) e1 b1 x15.1.Steps x15.1.End x15.1.Normal) 0).bind fun x19 => match x19 with | .inl x20 => some x20 | .inr x21 => (qbE9 s e2).bind fun x22 => some (x22.2 == !b2)) else some false) else some false) else some false) = some true := by
      intro q
      rw [wk]
      simp only [Option.bind_some]
      rw [qgC9 (by omega)]
      simp only [decide_true, Option.bind_some, if_true]
      rw [if_pos hxl, if_neg (by simp), L1 (y := 0)]
      simp only [Option.bind_some]
      cases hf : qbE9 s e2 with
      | none => rw [F] at hf; cases hf
      | some z => simp only [Option.bind_some]; rw [hFl z hf]
    have both : (if b2 = true then (wh (qV9 s t m true true 0 (n : Int) (k : Int) 0 0 e2 0 true s.Sig s.Rules m.1 m.2 l e2 b2 (l.take k) e1 b1) 0).bind (fun x12 => match x12 with
          | .inl x13 => some x13
          | .inr x14 => (qbr9 s e1 (w64 ((n : Int) - ((l.take k).length : Int)))).bind (fun x15 => (qbw9 x15.1.End e2).bind fun x16 =>
        if x15.2 = 0 then (if x16 = true then (if (x15.1.Steps.length : Int) = w64 ((l.length : Int) - ((l.take k).length : Int)) then (if (x15.1.Normal != b2) = true then some false else (wh (qT9 s t m true true 0 (n : Int) (k : Int) x15.2 0 e2 0 x16 x14 s.Sig s.Rules m.1 m.2 l e2 b2 (l.take k) e1 b1 x15.1.Steps x15.1.End x15.1.Normal) 0).bind fun x19 => match x19 with | .inl x20 => some x20 | .inr x21 => (qbE9 s e2).bind fun x22 => some (x22.2 == !b2)) else some false) else some false) else some false))
        else if (l.length : Int) = (n : Int) then (wh (qV9 s t m true true 0 (n : Int) (k : Int) 0 0 e2 0 true s.Sig s.Rules m.1 m.2 l e2 b2 (l.take k) e1 b1) 0).bind (fun x12 => match x12 with
          | .inl x13 => some x13
          | .inr x14 => (qbr9 s e1 (w64 ((n : Int) - ((l.take k).length : Int)))).bind (fun x15 => (qbw9 x15.1.End e2).bind fun x16 =>
        if x15.2 = 0 then (if x16 = true then (if (x15.1.Steps.length : Int) = w64 ((l.length : Int) - ((l.take k).length : Int)) then (if (x15.1.Normal != b2) = true then some false else (wh (qT9 s t m true true 0 (n : Int) (k : Int) x15.2 0 e2 0 x16 x14 s.Sig s.Rules m.1 m.2 l e2 b2 (l.take k) e1 b1 x15.1.Steps x15.1.End x15.1.Normal) 0).bind fun x19 => match x19 with | .inl x20 => some x20 | .inr x21 => (qbE9 s e2).bind fun x22 => some (x22.2 == !b2)) else some false) else some false) else some false)) else some false) = some true := by
      rw [L0 (r := 0)]
      simp only [Option.bind_some]
      have h := tail (q := ((l.take k).length : Int))
      by_cases hb2 : b2 = true
      · rw [if_pos hb2]; exact h
      · rw [if_neg hb2, if_pos (hnn (by simpa using hb2))]; exact h
    by_cases hc : ((l.take k).length : Int) < (l.length : Int)
    · rw [if_pos hc, if_pos (by have := hlt (by omega); omega)]
      exact both
    · rw [if_neg hc]
      exact both
theorem qnJ9 {a0 : System} {a1 : List Int} {a2 : Int × Int} (_ : qli9 a0) (_ : okL (okI .i64) a1) (h2 : (fun p => (okI .i64) p.1 ∧ (okI .i64) p.2) a2) (hs : szL (qg9 a0) + szL ((lsD intD) a1) + szL ((ar2D intD) a2) ≤ 1048576) : qey9 a0 a1 a2 = some true :=
  qwD9 (qtS9 (n := 0) (by omega)) (qsj9 (n := 0) (by omega)) (okI64 h2.1) (okI64 h2.2)
end Ld.Law
namespace Go.Proofs
open Go.Shelf
def Tryd.lays196_ren : Go.Shelf.Ren := ⟨fun | 196 => 114 | 259 => 133 | n => n, fun | 9 => 9 | 4 => 4 | 3 => 3 | 5 => 5 | 12 => 12 | 119 => 171 | 0 => 0 | 46 => 149 | 139 => 174 | 138 => 173 | 53 => 165 | n => n, fun | 3 => 0 | 4 => 1 | n => n⟩
theorem Tryd.lays196 : Go.Proofs.Lays.n196 Tryd.prog Tryd.lays196_ren := {
  mixed := by kernel_rfl
  f196 := Tryd.func114.trans (congrArg some (by kernel_rfl))
  f259 := Tryd.func133.trans (congrArg some (by kernel_rfl))
  t0 := Tryd.underlying0
  a0 := Tryd.isAgg0
  z0 := Tryd.sizeOf0
  v0 := Tryd.zeroValue0
  t3 := Tryd.underlying3
  a3 := Tryd.isAgg3
  z3 := Tryd.sizeOf3
  v3 := Tryd.zeroValue3
  t4 := Tryd.underlying4
  a4 := Tryd.isAgg4
  z4 := Tryd.sizeOf4
  v4 := Tryd.zeroValue4
  t5 := Tryd.underlying5
  a5 := Tryd.isAgg5
  z5 := Tryd.sizeOf5
  v5 := Tryd.zeroValue5
  t9 := Tryd.underlying9
  a9 := Tryd.isAgg9
  z9 := Tryd.sizeOf9
  v9 := Tryd.zeroValue9
  t12 := Tryd.underlying12
  a12 := Tryd.isAgg12
  z12 := Tryd.sizeOf12
  v12 := Tryd.zeroValue12
  t46 := Tryd.underlying149
  a46 := Tryd.isAgg149
  z46 := Tryd.sizeOf149
  v46 := Tryd.zeroValue149
  t53 := Tryd.underlying165
  a53 := Tryd.isAgg165
  z53 := Tryd.sizeOf165
  v53 := Tryd.zeroValue165
  t119 := Tryd.underlying171
  a119 := Tryd.isAgg171
  z119 := Tryd.sizeOf171
  t138 := Tryd.underlying173
  a138 := Tryd.isAgg173
  z138 := Tryd.sizeOf173
  v138 := Tryd.zeroValue173
  t139 := Tryd.underlying174
  a139 := Tryd.isAgg174
  z139 := Tryd.sizeOf174
  v139 := Tryd.zeroValue174
  g3 := by kernel_rfl
  g4 := by kernel_rfl }
def Tryd.lays125_ren : Go.Shelf.Ren := ⟨fun | 125 => 106 | 128 => 130 | 129 => 131 | n => n, fun | 46 => 149 | 3 => 3 | 51 => 163 | 53 => 165 | 4 => 4 | 5 => 5 | 9 => 9 | n => n, fun | n => n⟩
theorem Tryd.lays125 : Go.Proofs.Lays.n125 Tryd.prog Tryd.lays125_ren := {
  mixed := by kernel_rfl
  f125 := Tryd.func106.trans (congrArg some (by kernel_rfl))
  f128 := Tryd.func130.trans (congrArg some (by kernel_rfl))
  f129 := Tryd.func131.trans (congrArg some (by kernel_rfl))
  t3 := Tryd.underlying3
  a3 := Tryd.isAgg3
  z3 := Tryd.sizeOf3
  v3 := Tryd.zeroValue3
  t4 := Tryd.underlying4
  a4 := Tryd.isAgg4
  z4 := Tryd.sizeOf4
  v4 := Tryd.zeroValue4
  t5 := Tryd.underlying5
  a5 := Tryd.isAgg5
  z5 := Tryd.sizeOf5
  v5 := Tryd.zeroValue5
  t9 := Tryd.underlying9
  a9 := Tryd.isAgg9
  z9 := Tryd.sizeOf9
  v9 := Tryd.zeroValue9
  t46 := Tryd.underlying149
  a46 := Tryd.isAgg149
  z46 := Tryd.sizeOf149
  v46 := Tryd.zeroValue149
  t51 := Tryd.underlying163
  a51 := Tryd.isAgg163
  z51 := Tryd.sizeOf163
  v51 := Tryd.zeroValue163
  t53 := Tryd.underlying165
  a53 := Tryd.isAgg165
  z53 := Tryd.sizeOf165
  v53 := Tryd.zeroValue165 }
end Go.Proofs
namespace Ld
open Go Go.Proofs Go.Abs Go.Lib Go.Shelf Go.RowKit
theorem qpI9 {W0 : World} {X : Nat → Prop} {h : AHeap} {m : Places} {w w' : World} (H : HRel W0 X h m w) (hb : Below w.heap.size w w') {d : D} {v : Value} (hv : VRel (Ex X h m) h m w' (.d d) v) : Out W0 X h m w (.d d) h v w' :=
  ⟨m, hv, H.grow hb.os hb.tape hb.output hb.size hb.block, Evo.grow H hb.os hb.tape hb.output hb.size hb.block⟩
theorem qvZ9 {W0 : World} {X : Nat → Prop} {h : AHeap} {m : Places} {w : World} (H : HRel W0 X h m w) {a b : Nat} (hT : Lib.Utf8Tabs a b W0) : Lib.Utf8Tabs a b w := by
  have key : ∀ (g c : Nat) (v : Value), W0.cell? ⟨g, c, none⟩ = some v → w.cell? ⟨g, c, none⟩ = some v := by
    intro g c v hc
    have hlt : (⟨g, c, none⟩ : Addr).block < W0.heap.size := World.block_lt_of_cell? W0 _ hc
    rw [qew9 (a := ⟨g, c, none⟩) (H.old g hlt)]
    exact hc
  exact ⟨fun c hc => key _ _ _ (hT.1 c hc), fun i hi => ⟨key _ _ _ (hT.2 i hi).1, key _ _ _ (hT.2 i hi).2⟩⟩
theorem qxr9 {W : World} (r1 : VarReads Tryd.prog W "unicode/utf8.first" firstData) (r2 : VarReads Tryd.prog W "unicode/utf8.acceptRanges" acceptData) : Lib.Utf8Tabs (Tryd.lays196_ren.g 3) (Tryd.lays196_ren.g 4) W := by
  have k5 : Tryd.prog.cellsOf 5 = 1 := by kernel_rfl
  have k171 : Tryd.prog.cellsOf 171 = 256 := by kernel_rfl
  have k173 : Tryd.prog.cellsOf 173 = 2 := by kernel_rfl
  have one : ∀ c, c < 256 → W.cell? ⟨0, c, none⟩ = some (.int .u8 (firstT c)) := by
    obtain ⟨b, ty, cells, n, pl, a1, a2, a3, a4⟩ := r1
    have eb : b = 0 := oiA (a1.symm.trans (show Tryd.prog.globalNamed "unicode/utf8.first" = some 0 by kernel_rfl))
    subst eb
    have et : ty = 171 := oiA (a2.symm.trans (show (Tryd.prog.globals[0]?).map (·.type) = some 171 by kernel_rfl))
    subst et
    have all := cells_of_tab Tryd.underlying171 Tryd.underlying5 k5 k171 a4
    intro c hc
    have := World.var?_cell a1 a3 c
    rw [← Array.getElem?_toList, all] at this
    rw [this]
    simp [firstTab, hc]
  have two : ∀ i, i < 16 → W.cell? ⟨1, 2 * i, none⟩ = some (.int .u8 (accLo i)) ∧ W.cell? ⟨1, 2 * i + 1, none⟩ = some (.int .u8 (accHi i)) := by
    obtain ⟨b, ty, cells, n, pl, a1, a2, a3, a4⟩ := r2
    have eb : b = 1 := oiA (a1.symm.trans (show Tryd.prog.globalNamed "unicode/utf8.acceptRanges" = some 1 by kernel_rfl))
    subst eb
    have et : ty = 174 := oiA (a2.symm.trans (show (Tryd.prog.globals[1]?).map (·.type) = some 174 by kernel_rfl))
    subst et
    intro i hi
    obtain ⟨n1, x, pl1, b1, b2⟩ := array_elem Tryd.underlying174 a4 i hi
    rw [k173] at b2
    have ex : x = .agg ([(accLo i : Int), (accHi i : Int)].map fun z => .lit (.int .u8 z)) := by
      have : ((List.range 16).map fun i => (DataW.agg ([(accLo i : Int), (accHi i : Int)].map fun z => DataW.lit (.int .u8 z)) : DataW Unit))[i]? = some (.agg ([(accLo i : Int), (accHi i : Int)].map fun z => .lit (.int .u8 z))) := by simp [hi]
      exact (oiA (this.symm.trans b1)).symm
    subst ex
    have row := ints_of_struct Tryd.underlying173 (fun j f hj => by
      match j, hj with
      | 0, hj => cases hj; exact ⟨Tryd.underlying5, rfl, k5⟩
      | 1, hj => cases hj; exact ⟨Tryd.underlying5, rfl, k5⟩
      | j + 2, hj => cases hj) (by rw [k173]; rfl) b2
    have q0 := congrArg (fun l => l[0]?) row
    have q1 := congrArg (fun l => l[1]?) row
    simp only [List.getElem?_take, List.getElem?_drop] at q0 q1
    have c0 := World.var?_cell a1 a3 (2 * i)
    have c1 := World.var?_cell a1 a3 (2 * i + 1)
    rw [← Array.getElem?_toList] at c0 c1
    exact ⟨by rw [c0]; simpa [Nat.mul_comm] using q0, by rw [c1]; simpa [Nat.mul_comm] using q1⟩
  exact ⟨one, two⟩
theorem qrt9 {W0 : World} (hT : Lib.Utf8Tabs (Tryd.lays196_ren.g 3) (Tryd.lays196_ren.g 4) W0) : FSound W0 Tryd.prog 114 qbp9 := by
  intro args h r h' ho X m w vs H hv
  unfold qbp9 at ho
  split at ho
  · rename_i s
    obtain ⟨v, rfl⟩ : ∃ v, vs = [v] := by
      have h1 := hv.1
      match vs, h1 with
      | [v], _ => exact ⟨v, rfl⟩
    have hx : VRel (Ex X h m) h m w (.d (.v (.string s))) v := hv.2 0 _ v rfl rfl
    cases hx with
    | d x v hd =>
      cases hd
      split at ho
      · rename_i b hb
        simp only [Option.some.injEq, Prod.mk.injEq] at ho
        obtain ⟨rfl, rfl⟩ := ho
        unfold qbg9 at hb
        obtain ⟨hsz, hb⟩ := gsome hb
        have hc : Calls Tryd.prog 114 #[.string s] w _ := Any.utf8_ValidString Tryd.lays196 s w (of_eq_true hsz) (qvZ9 H hT)
        refine hc.mono fun e w' ⟨he, hbel⟩ => ?_
        cases hb
        subst he
        exact qpI9 H hbel (.d _ _ (.v _))
      · cases ho
  · cases ho
theorem qur9 {W0 : World} : FSound W0 Tryd.prog 106 qcU9 := by
  intro args h r h' ho X m w vs H hv
  unfold qcU9 at ho
  split at ho
  · rename_i n
    obtain ⟨v, rfl⟩ : ∃ v, vs = [v] := by
      have h1 := hv.1
      match vs, h1 with
      | [v], _ => exact ⟨v, rfl⟩
    have hx : VRel (Ex X h m) h m w (.d (.v (.int .u64 n))) v := hv.2 0 _ v rfl rfl
    cases hx with
    | d x v hd =>
      cases hd
      obtain ⟨hsz, ho⟩ := gsome ho
      have hb := of_eq_true hsz
      have hc : Calls Tryd.prog 106 #[.int .u64 n] w _ := Any.bits_Len Tryd.lays125 n w hb.1 hb.2
      refine hc.mono fun e w' ⟨he, hw⟩ => ?_
      cases ho
      subst he
      subst hw
      exact qpI9 H (Below.refl _ _) (.d _ _ (.v _))
  · cases ho
theorem callable {g : FuncId} {fn : Func} (h : Tryd.prog.funcs[g]? = some fn) (h1 : decide (fn.name ≠ "runtime.NumGoroutine") = true) (h2 : fn.body.isSome = true) : Callable Tryd.prog g := ⟨fn, h, of_decide_eq_true h1, h2⟩
noncomputable def okAll (P : Program) (t : FuncId → Hint) (l : List FuncId) : Bool := l.all fun g => match P.funcs[g]? with
  | some fn => decide (fn.name ≠ "runtime.NumGoroutine") && (match fn.body with | some c => okT (t g) c | none => false)
  | none => false
theorem qtx9 : okAll Tryd.prog hint uses = true := by kernel_rfl
theorem cOk {W : World} (hT : Lib.Utf8Tabs (Tryd.lays196_ren.g 3) (Tryd.lays196_ren.g 4) W) : COk W C := by
  have all : ∀ g, C.use g = true → ∃ fn c, Tryd.prog.funcs[g]? = some fn ∧ fn.name ≠ "runtime.NumGoroutine" ∧ fn.body = some c ∧ okT (hint g) c = true := by
    intro g hg
    have hm : g ∈ uses := by simpa [C] using hg
    have h1 := List.all_eq_true.1 qtx9 g hm
    cases hf : Tryd.prog.funcs[g]? with
    | none => rw [hf] at h1; cases h1
    | some fn =>
      rw [hf] at h1
      simp only [Bool.and_eq_true, decide_eq_true_eq] at h1
      cases hb : fn.body with
      | none => rw [hb] at h1; cases h1.2
      | some c => rw [hb] at h1; exact ⟨fn, c, rfl, h1.1, hb, h1.2⟩
  refine { use := fun g hg => ?_, prim := fun g p hg => ?_, orders := ?_, hints := fun g fn c hg hf hc => ?_ }
  · obtain ⟨fn, c, h1, h2, h3, _⟩ := all g hg
    exact ⟨fn, h1, h2, by rw [h3]; rfl⟩
  · have hg' : prim g = some p := hg
    unfold prim at hg'
    split at hg'
    · cases hg'; exact ⟨callable Tryd.func58 (by kernel_rfl) (by kernel_rfl), qzu9 W⟩
    · cases hg'; exact ⟨callable Tryd.func106 (by kernel_rfl) (by kernel_rfl), qur9⟩
    · cases hg'; exact ⟨callable Tryd.func114 (by kernel_rfl) (by kernel_rfl), qrt9 hT⟩
    · cases hg'
  · show Tryd.prog.follows .mixedOrders = true
    kernel_rfl
  · obtain ⟨fn', c', h1, _, h3, h4⟩ := all g hg
    have e : fn' = fn := oiA (h1.symm.trans hf)
    subst e
    have e2 : c' = c := oiA (h3.symm.trans hc)
    subst e2
    exact h4
end Ld

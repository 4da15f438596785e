import Derived.Test.YtfjgfcnhklopdaaDoorSbq5
set_option maxHeartbeats 400000
set_option linter.unusedVariables false
set_option linter.unusedSimpArgs false
namespace Ld.Law
open Go Go.Abs Go.Lib
abbrev TOK (sig : List Symbol) (u : List Int) : Prop := rdT sig u 1 = ([], 0)
theorem qsg9 {sig : List Symbol} (r : List Int) : ∀ (u : List Int) (k j : Nat), rdT sig u k = ([], 0) → rdT sig (u ++ r) (k + j) = rdT sig r j := by
  intro u
  induction u with
  | nil =>
    intro k j h
    cases k with
    | zero => rw [Nat.zero_add]; rfl
    | succ k => simp [rdT] at h
  | cons c u ih =>
    intro k j h
    cases k with
    | zero => simp [rdT] at h
    | succ k =>
      simp only [rdT] at h
      by_cases hc : (sig.length : Int) ≤ c ∨ c < -1048576
      · rw [if_pos hc] at h; simp at h
      · rw [if_neg hc] at h
        rw [List.cons_append, show k + 1 + j = (k + j) + 1 by omega]
        simp only [rdT]
        rw [if_neg hc, show k + j + arOf sig c = (k + arOf sig c) + j by omega]
        exact ih _ j h
theorem qxg9 {sig : List Symbol} : ∀ (l : List Int) (k : Nat), (rdT sig l k).2 = 0 → ∃ f, l = f ++ (rdT sig l k).1 ∧ rdT sig f k = ([], 0) := by
  intro l
  induction l with
  | nil =>
    intro k h
    cases k with
    | zero => exact ⟨[], rfl, rfl⟩
    | succ k => simp [rdT] at h
  | cons c r ih =>
    intro k h
    cases k with
    | zero => exact ⟨[], rfl, rfl⟩
    | succ k =>
      simp only [rdT] at h ⊢
      by_cases hc : (sig.length : Int) ≤ c ∨ c < -1048576
      · rw [if_pos hc] at h; simp at h
      · rw [if_neg hc] at h ⊢
        obtain ⟨f, h1, h2⟩ := ih _ h
        refine ⟨c :: f, by rw [List.cons_append, ← h1], ?_⟩
        simp only [rdT]
        rw [if_neg hc]; exact h2
theorem qlD9 {sig : List Symbol} {u : List Int} (h : TOK sig u) (r : List Int) : first sig (u ++ r) = u ∧ rest sig (u ++ r) = r := by
  have h1 : rest sig (u ++ r) = r := by
    unfold rest
    rw [qsg9 r u 1 0 h, qgd9]
  refine ⟨?_, h1⟩
  unfold first
  rw [h1, List.length_append, Nat.add_sub_cancel, List.take_left]
theorem qji9 {sig : List Symbol} {s : List Int} (h : (rdT sig s 1).2 = 0) : TOK sig (first sig s) := by
  obtain ⟨f, h1, h2⟩ := qxg9 s 1 h
  have := (qlD9 (u := f) h2 (rdT sig s 1).1).1
  rw [← h1] at this
  rw [this]; exact h2
theorem qev9 {sig : List Symbol} {u : List Int} (h : TOK sig u) : qB9 sig u = 0 := by
  have e : qB9 sig u = outc (rdT sig u 1) := rfl
  rw [e, h]; rfl
def appF (β : Int → List Int) (p : List Int) : List Int := p.flatMap fun c => if 0 ≤ c then [c] else β (-1 - c)
theorem qdO9 (β : Int → List Int) (c : Int) (p : List Int) : appF β (c :: p) = (if 0 ≤ c then [c] else β (-1 - c)) ++ appF β p := rfl
theorem qkE9 (β : Int → List Int) (p q : List Int) : appF β (p ++ q) = appF β p ++ appF β q := by simp [appF]
theorem qtT9 {β γ : Int → List Int} {p : List Int} (h : ∀ c ∈ p, c < 0 → β (-1 - c) = γ (-1 - c)) : appF β p = appF γ p := by
  induction p with
  | nil => rfl
  | cons c r ih =>
    rw [qdO9, qdO9, ih (fun d hd => h d (List.mem_cons_of_mem _ hd))]
    by_cases h0 : 0 ≤ c
    · rw [if_pos h0, if_pos h0]
    · rw [if_neg h0, if_neg h0, h c (List.mem_cons_self ..) (by omega)]
theorem qsf9 {sig : List Symbol} {β : Int → List Int} : ∀ (p : List Int) (k : Nat), rdT sig p k = ([], 0) → (∀ c ∈ p, c < 0 → TOK sig (β (-1 - c))) → rdT sig (appF β p) k = ([], 0) := by
  intro p
  induction p with
  | nil => intro k h _; exact h
  | cons c r ih =>
    intro k h hb
    cases k with
    | zero => simp [rdT] at h
    | succ k =>
      simp only [rdT] at h
      by_cases hc : (sig.length : Int) ≤ c ∨ c < -1048576
      · rw [if_pos hc] at h; simp at h
      · rw [if_neg hc] at h
        have hr := ih _ h (fun d hd => hb d (List.mem_cons_of_mem _ hd))
        rw [qdO9]
        by_cases h0 : 0 ≤ c
        · rw [if_pos h0, List.singleton_append]
          simp only [rdT]
          rw [if_neg hc]; exact hr
        · have ha : arOf sig c = 0 := by unfold arOf; rw [if_neg h0]
          rw [ha, Nat.add_zero] at hr
          rw [if_neg h0, Nat.add_comm k 1, qsg9 _ _ 1 k (hb c (List.mem_cons_self ..) (by omega))]
          exact hr
theorem qnL9 {o e : List Bind} {v : Int} {u : List Int} (h : bnd? o v = some u) : bnd? (o ++ e) v = some u := by
  unfold bnd? at *
  rw [List.find?_append]
  cases hf : o.find? (fun b => decide (b.Var = v)) with
  | none => rw [hf] at h; cases h
  | some x => rw [hf] at h; simpa using h
theorem qiY9 {o : List Bind} {v : Int} {u : List Int} (h : bnd? o v = some u) : ∃ b ∈ o, b.Var = v ∧ b.T = u := by
  unfold bnd? at h
  cases hf : o.find? (fun b => decide (b.Var = v)) with
  | none => rw [hf] at h; cases h
  | some x =>
    rw [hf] at h
    exact ⟨x, List.mem_of_find?_eq_some hf, by have := List.find?_some hf; simpa using this, by simpa using h⟩
theorem qkr9 : ∀ {o : List Bind}, (o.map (·.Var)).Nodup → ∀ {b : Bind}, b ∈ o → bnd? o b.Var = some b.T := by
  intro o
  induction o with
  | nil => intro _ b h; cases h
  | cons a r ih =>
    intro hn b hb
    have hc := List.nodup_cons.1 (show (a.Var :: r.map (·.Var)).Nodup from hn)
    unfold bnd?
    rw [List.find?_cons]
    rcases List.mem_cons.1 hb with rfl | hb
    · rw [decide_eq_true rfl]; rfl
    · have hne : a.Var ≠ b.Var := fun e => hc.1 (e ▸ List.mem_map.2 ⟨b, hb, rfl⟩)
      rw [decide_eq_false hne]
      exact ih hc.2 hb
theorem qwp9 {o m : List Bind} (hp : o.Perm m) (hn : (o.map (·.Var)).Nodup) (v : Int) : bnd? o v = bnd? m v := by
  have hm : (m.map (·.Var)).Nodup := (hp.map (·.Var)).nodup_iff.1 hn
  cases ho : bnd? o v with
  | some u =>
    obtain ⟨b, hb, rfl, rfl⟩ := qiY9 ho
    exact (qkr9 hm (hp.mem_iff.1 hb)).symm
  | none =>
    cases hm' : bnd? m v with
    | none => rfl
    | some u =>
      obtain ⟨b, hb, rfl, rfl⟩ := qiY9 hm'
      rw [qkr9 hn (hp.mem_iff.2 hb)] at ho
      cases ho
def bf (o : List Bind) (v : Int) : List Int := (bnd? o v).getD [-1 - v]
theorem quG9 {sig : List Symbol} : ∀ (p : List Int) (k : Nat) (s : List Int) (o o' : List Bind), mat sig p s o = some o' → rdT sig p k = ([], 0) → rdT sig s k = ([], 0) →
    (∃ e, o' = o ++ e) ∧ s = appF (bf o') p ∧ (∀ c ∈ p, c < 0 → ∃ u, bnd? o' (-1 - c) = some u) ∧ ((∀ b ∈ o, TOK sig b.T) → ∀ b ∈ o', TOK sig b.T) ∧ ((∀ b ∈ o, 0 ≤ b.Var ∧ b.Var < 1048576) → ∀ b ∈ o', 0 ≤ b.Var ∧ b.Var < 1048576) ∧ ((o.map (·.Var)).Nodup → (o'.map (·.Var)).Nodup) ∧ o'.length ≤ o.length + p.length := by
  intro p
  induction p with
  | nil =>
    intro k s o o' hm hp hs
    simp only [mat, Option.some.injEq] at hm
    subst hm
    cases k with
    | zero => rw [qgd9] at hs; exact ⟨⟨[], by simp⟩, (Prod.mk.inj hs).1, (fun c h => by cases h), fun h => h, fun h => h, fun h => h, by simp⟩
    | succ k => simp [rdT] at hp
  | cons c p ih =>
    intro k s o o' hm hp hs
    cases k with
    | zero => simp [rdT] at hp
    | succ k =>
      simp only [rdT] at hp
      by_cases hc : (sig.length : Int) ≤ c ∨ c < -1048576
      · rw [if_pos hc] at hp; simp at hp
      rw [if_neg hc] at hp
      simp only [mat] at hm
      by_cases h0 : 0 ≤ c
      · rw [if_pos h0] at hm
        cases s with
        | nil => cases hm
        | cons a r =>
          simp only at hm
          split at hm
          · rename_i e
            subst e
            simp only [rdT, if_neg hc] at hs
            obtain ⟨h1, h2, h3, h4, h5, h6, h7⟩ := ih _ r o o' hm hp hs
            refine ⟨h1, by rw [qdO9, if_pos h0, List.singleton_append, ← h2], fun d hd hneg => ?_, h4, h5, h6, by simp only [List.length_cons]; omega⟩
            rcases List.mem_cons.1 hd with rfl | hd
            · omega
            · exact h3 d hd hneg
          · cases hm
      · rw [if_neg h0] at hm
        have ha : arOf sig c = 0 := by unfold arOf; rw [if_neg h0]
        rw [ha, Nat.add_zero] at hp
        have hadd := qiZ9 sig s 1 k (by rw [Nat.add_comm 1 k, hs])
        rw [Nat.add_comm 1 k, hs] at hadd
        have hfr := qiP9 sig s
        have hfo := qji9 hadd.1
        have hrest : rdT sig (rest sig s) k = ([], 0) := hadd.2
        cases hb : bnd? o (-1 - c) with
        | some u =>
          rw [hb] at hm
          simp only at hm
          split at hm
          · rename_i e
            obtain ⟨⟨ex, h1⟩, h2, h3, h4, h5, h6, h7⟩ := ih _ _ o o' hm hp hrest
            have hb' : bnd? o' (-1 - c) = some u := by rw [h1]; exact qnL9 hb
            refine ⟨⟨ex, h1⟩, ?_, fun d hd hneg => ?_, h4, h5, h6, by simp only [List.length_cons]; omega⟩
            · rw [qdO9, if_neg h0, ← h2]
              unfold bf
              rw [hb', Option.getD_some, e, hfr]
            · rcases List.mem_cons.1 hd with rfl | hd
              · exact ⟨u, hb'⟩
              · exact h3 d hd hneg
          · cases hm
        | none =>
          rw [hb] at hm
          simp only at hm
          obtain ⟨⟨ex, h1⟩, h2, h3, h4, h5, h6, h7⟩ := ih _ _ _ o' hm hp hrest
          have hb' : bnd? o' (-1 - c) = some (first sig s) := by
            rw [h1]
            refine qnL9 ?_
            unfold bnd? at hb ⊢
            rw [List.find?_append]
            cases hf : o.find? (fun b => decide (b.Var = -1 - c)) with
            | some x => rw [hf] at hb; cases hb
            | none => simp
          refine ⟨⟨[Bind.mk (-1 - c) (first sig s)] ++ ex, by rw [h1]; simp⟩, ?_, fun d hd hneg => ?_, fun hok => h4 (fun b hb2 => ?_), fun hok => h5 (fun b hb2 => ?_), fun hn => h6 ?_, by simp only [List.length_append, List.length_cons, List.length_nil] at h7 ⊢; omega⟩
          · rw [qdO9, if_neg h0, ← h2]
            unfold bf
            rw [hb', Option.getD_some, hfr]
          · rcases List.mem_cons.1 hd with rfl | hd
            · exact ⟨_, hb'⟩
            · exact h3 d hd hneg
          · rcases List.mem_append.1 hb2 with h | h
            · exact hok b h
            · rw [List.mem_singleton] at h; subst h; exact hfo
          · rcases List.mem_append.1 hb2 with h | h
            · exact hok b h
            · rw [List.mem_singleton] at h; subst h; exact ⟨by show 0 ≤ -1 - c; omega, by show -1 - c < 1048576; omega⟩
          · rw [List.map_append, List.nodup_append]
            refine ⟨hn, by simp, fun x hx y hy e => ?_⟩
            simp at hy
            subst hy; subst e
            exact qmB9 hb hx
theorem qqm9 {sig : List Symbol} {β : Int → List Int} : ∀ (p : List Int) (k : Nat) (o : List Bind), rdT sig p k = ([], 0) → (∀ c ∈ p, c < 0 → TOK sig (β (-1 - c))) → (∀ v u, bnd? o v = some u → β v = u) →
    ∃ o', mat sig p (appF β p) o = some o' ∧ ∀ v u, bnd? o' v = some u → β v = u := by
  intro p
  induction p with
  | nil => intro k o _ _ h; exact ⟨o, rfl, h⟩
  | cons c p ih =>
    intro k o hp hb ho
    cases k with
    | zero => simp [rdT] at hp
    | succ k =>
      simp only [rdT] at hp
      by_cases hc : (sig.length : Int) ≤ c ∨ c < -1048576
      · rw [if_pos hc] at hp; simp at hp
      rw [if_neg hc] at hp
      have hb' : ∀ d ∈ p, d < 0 → TOK sig (β (-1 - d)) := fun d hd => hb d (List.mem_cons_of_mem _ hd)
      simp only [mat]
      rw [qdO9]
      by_cases h0 : 0 ≤ c
      · rw [if_pos h0, if_pos h0, List.singleton_append]
        simp only [if_true]
        exact ih _ o hp hb' ho
      · rw [if_neg h0, if_neg h0]
        obtain ⟨f1, f2⟩ := qlD9 (hb c (List.mem_cons_self ..) (by omega)) (appF β p)
        rw [f1, f2]
        cases hv : bnd? o (-1 - c) with
        | some u =>
          have := ho _ _ hv
          simp only
          rw [if_pos this.symm]
          exact ih _ o hp hb' ho
        | none =>
          simp only
          refine ih _ _ hp hb' (fun v u h => ?_)
          obtain ⟨b, hbm, rfl, rfl⟩ := qiY9 h
          rcases List.mem_append.1 hbm with hbm | hbm
          · cases hx : bnd? o b.Var with
            | some u =>
              have h2 := qnL9 (e := [Bind.mk (-1 - c) (β (-1 - c))]) hx
              rw [h] at h2
              rw [ho _ _ hx]; exact (oiA h2).symm
            | none => exact absurd (List.mem_map.2 ⟨b, hbm, rfl⟩) (qmB9 hx)
          · rw [List.mem_singleton] at hbm; subst hbm; rfl
theorem qvL9 {sig : List Symbol} {l : List Int} {k : Nat} (h : rdT sig l k = ([], 0)) (hne : l ≠ []) : ∃ j, k = j + 1 ∧ (rdT sig l 1).2 = 0 ∧ rdT sig (rest sig l) j = ([], 0) := by
  cases k with
  | zero => rw [qgd9] at h; exact absurd (Prod.mk.inj h).1 hne
  | succ j =>
    have hadd := qiZ9 sig l 1 j (by rw [Nat.add_comm 1 j, h])
    rw [Nat.add_comm 1 j, h] at hadd
    exact ⟨j, rfl, hadd.1, hadd.2⟩
end Ld.Law
namespace Ld.Law
open Go Go.Abs Go.Lib
def later (out : List Bind) (b : Bind) : Prop := ∀ x, out.getLast? = some x → x.Var < b.Var
end Ld.Law
namespace Ld.Law
open Go Go.Abs Go.Lib
theorem qxX9 {α σ ρ : Type} {step : σ → Option (σ ⊕ ρ)} {S : Nat → σ} {l : List α} {g : Nat → α → Option ρ} {fin : ρ} (hs : ∀ (i : Nat) (x : α), l[i]? = some x → step (S i) = some (match g i x with | none => .inl (S (i + 1)) | some r => .inr r)) (he : step (S l.length) = some (.inr fin)) :
    ∀ (k i : Nat), i + k = l.length → wh step (S i) = some ((qbp9 g i (l.drop i)).getD fin) := by
  intro k
  induction k with
  | zero =>
    intro i hi
    have : i = l.length := by omega
    subst this
    rw [List.drop_eq_nil_of_le (Nat.le_refl _), qo9 he]; rfl
  | succ k ih =>
    intro i hi
    have hlt : i < l.length := by omega
    rw [List.drop_eq_getElem_cons hlt]
    have h1 := hs i l[i] (List.getElem?_eq_getElem hlt)
    simp only [qbp9]
    cases hg : g i l[i] with
    | none =>
      rw [hg] at h1
      rw [qQ9 h1]
      exact ih (i + 1) (by omega)
    | some q =>
      rw [hg] at h1
      rw [qo9 h1]; rfl
noncomputable def badB (sig : List Symbol) (s : List Bind) (i : Nat) (b : Bind) : Option Int :=
  if b.Var < 0 then some 40 else if 1048576 ≤ b.Var then some 40 else if 0 < i ∧ b.Var ≤ (s.getD (i - 1) ⟨0, []⟩).Var then some 41 else if chk sig b.T = 0 then none else some (chk sig b.T)
noncomputable def sChk (sig : List Symbol) (s : List Bind) : Int := if (qz9 sig).getD 1 = 0 then (qbp9 (badB sig s) 0 s).getD 0 else (qz9 sig).getD 1
theorem qtK9 {α ρ κ : Type} {g : Nat → α → Option ρ} (f : ρ → κ) : ∀ (l : List α) (k : Nat), qbp9 (fun i x => (g i x).map f) k l = (qbp9 g k l).map f := by
  intro l
  induction l with
  | nil => intro k; rfl
  | cons a r ih =>
    intro k
    simp only [qbp9]
    cases g k a with
    | none => exact ih _
    | some q => rfl
def BOK (s : List Bind) : Prop := s.length ≤ 1048576 ∧ ∀ b ∈ s, b.T.length ≤ 1048576
theorem qwW9 {s : List Bind} {i : Nat} (hi : i < s.length) : s[i - 1]? = some (s.getD (i - 1) ⟨0, []⟩) := by
  rw [List.getD_eq_getElem?_getD, List.getElem?_eq_getElem (by omega)]; rfl
theorem qnM9 {sig : List Symbol} {s : List Bind} (hS : SigOK sig) (hB : BOK s) : qfE9 sig s = some (sChk sig s) := by
  obtain ⟨e, he⟩ := qfL9 sig hS
  simp only [qfE9, he, Option.bind_some, sChk, Option.getD_some]
  by_cases h0 : e = 0
  rotate_left
  · rw [if_neg h0, if_neg h0]
  subst h0
  rw [if_pos rfl, if_pos rfl]
  have := qxX9 (step := qdE9 sig s 0 s (s.length : Int)) (S := fun i => (i : Int)) (l := s) (g := fun i x => (badB sig s i x).map (Sum.inl : Int → Int ⊕ Int)) (fin := .inr (s.length : Int)) (fun i b hb => ?_) ?_ s.length 0 (by omega)
  · simp only [Int.natCast_zero, List.drop_zero] at this
    rw [this, qtK9]
    cases qbp9 (badB sig s) 0 s <;> rfl
  · have hi := (List.getElem?_eq_some_iff.1 hb).1
    have hl := hB.2 b (List.mem_of_getElem? hb)
    have hsl := hB.1
    have hw : w64 ((i : Int) + 1) = ((i + 1 : Nat) : Int) := by rw [qu9 (by omega) (by omega)]; omega
    have hc : qcg9 sig b.T = some (chk sig b.T) := qkd9 hS (by omega)
    simp only [qdE9, badB]
    rw [if_pos (by omega), qD9 hb]
    simp only [Option.bind_some, hc, hw]
    by_cases c1 : b.Var < 0
    · rw [if_pos c1, if_pos c1]; rfl
    rw [if_neg c1, if_neg c1]
    by_cases c2 : 1048576 ≤ b.Var
    · rw [if_pos c2, if_pos c2]; rfl
    rw [if_neg c2, if_neg c2]
    by_cases c3 : 0 < i
    · have hw1 : w64 ((i : Int) - 1) = ((i - 1 : Nat) : Int) := by rw [qu9 (by omega) (by omega)]; omega
      rw [if_pos (by omega), hw1, qD9 (qwW9 hi)]
      simp only [Option.bind_some]
      by_cases c4 : b.Var ≤ (s.getD (i - 1) ⟨0, []⟩).Var
      · rw [if_pos c4, if_pos ⟨c3, c4⟩]; rfl
      · rw [if_neg c4, if_neg (fun h : 0 < i ∧ b.Var ≤ (s.getD (i - 1) ⟨0, []⟩).Var => c4 h.2)]
        by_cases c5 : chk sig b.T = 0
        · rw [if_pos c5, if_pos c5]; rfl
        · rw [if_neg c5, if_neg c5]; rfl
    · rw [if_neg (by omega), if_neg (fun h : 0 < i ∧ b.Var ≤ (s.getD (i - 1) ⟨0, []⟩).Var => c3 h.1)]
      by_cases c5 : chk sig b.T = 0
      · rw [if_pos c5, if_pos c5]; rfl
      · rw [if_neg c5, if_neg c5]; rfl
  · simp only [qdE9]; rw [if_neg (by omega)]
theorem qhT9 {α ρ : Type} {g : Nat → α → Option ρ} : ∀ (l : List α) (k : Nat), qbp9 g k l = none ↔ ∀ i x, l[i]? = some x → g (k + i) x = none := by
  intro l
  induction l with
  | nil => intro k; exact ⟨fun _ i x h => by simp at h, fun _ => rfl⟩
  | cons a r ih =>
    intro k
    simp only [qbp9]
    cases hg : g k a with
    | none =>
      simp only
      rw [ih]
      constructor
      · intro h i x hx
        cases i with
        | zero => simp at hx; subst hx; exact hg
        | succ i => rw [show k + (i + 1) = k + 1 + i by omega]; exact h i x (by simpa using hx)
      · intro h i x hx
        have := h (i + 1) x (by simpa using hx)
        rwa [show k + (i + 1) = k + 1 + i by omega] at this
    | some q =>
      simp only
      constructor
      · intro h; cases h
      · intro h; have := h 0 a rfl; rw [Nat.add_zero, hg] at this; cases this
structure SOK (sig : List Symbol) (s : List Bind) : Prop where
  sg : qz9 sig = some 0
  rng : ∀ b ∈ s, 0 ≤ b.Var ∧ b.Var < 1048576
  rise : Rise s
  ok : ∀ b ∈ s, TOK sig b.T
theorem qov9 {sig : List Symbol} {s : List Bind} {i : Nat} {b : Bind} : badB sig s i b = none ↔ (0 ≤ b.Var ∧ b.Var < 1048576) ∧ (0 < i → (s.getD (i - 1) ⟨0, []⟩).Var < b.Var) ∧ chk sig b.T = 0 := by
  unfold badB
  by_cases c1 : b.Var < 0
  · rw [if_pos c1]; exact ⟨fun h => (by cases h), fun h => by omega⟩
  rw [if_neg c1]
  by_cases c2 : 1048576 ≤ b.Var
  · rw [if_pos c2]; exact ⟨fun h => (by cases h), fun h => by omega⟩
  rw [if_neg c2]
  by_cases c3 : 0 < i ∧ b.Var ≤ (s.getD (i - 1) ⟨0, []⟩).Var
  · rw [if_pos c3]; exact ⟨fun h => (by cases h), fun h => by have := h.2.1 c3.1; omega⟩
  rw [if_neg c3]
  by_cases c5 : chk sig b.T = 0
  · rw [if_pos c5]; exact ⟨fun _ => ⟨⟨by omega, by omega⟩, fun h0 => by
      rcases Int.lt_or_le (s.getD (i - 1) ⟨0, []⟩).Var b.Var with h | h
      · exact h
      · exact absurd ⟨h0, h⟩ c3, c5⟩, fun _ => rfl⟩
  · rw [if_neg c5]; exact ⟨fun h => (by cases h), fun h => absurd h.2.2 c5⟩
theorem qlm9 {sig : List Symbol} {s : List Bind} (hS : SigOK sig) (hB : BOK s) : sChk sig s = 0 ↔ SOK sig s := by
  obtain ⟨e, he⟩ := qfL9 sig hS
  unfold sChk
  rw [he, Option.getD_some]
  by_cases h0 : e = 0
  rotate_left
  · rw [if_neg h0]
    exact ⟨fun h => absurd h h0, fun h => by have := h.sg; rw [he] at this; exact absurd (oiA this) h0⟩
  subst h0
  rw [if_pos rfl]
  have val : ∀ c, qbp9 (badB sig s) 0 s = some c → c ≠ 0 := by
    have : ∀ (l : List Bind) (k : Nat) (c : Int), qbp9 (badB sig s) k l = some c → c ≠ 0 := by
      intro l
      induction l with
      | nil => intro k c h; cases h
      | cons a r ih =>
        intro k c h
        simp only [qbp9] at h
        cases hg : badB sig s k a with
        | none => rw [hg] at h; exact ih _ _ h
        | some q =>
          rw [hg] at h
          simp only [Option.some.injEq] at h
          subst h
          unfold badB at hg
          split at hg
          · cases hg; decide
          split at hg
          · cases hg; decide
          split at hg
          · cases hg; decide
          split at hg
          · cases hg
          · rename_i hne; cases hg; exact hne
    exact this s 0
  have hz : (qbp9 (badB sig s) 0 s).getD 0 = 0 ↔ qbp9 (badB sig s) 0 s = none := by
    cases hf : qbp9 (badB sig s) 0 s with
    | none => simp
    | some c => have := val c hf; simp [this]
  rw [hz, qhT9]
  constructor
  · intro h
    have h' : ∀ i x, s[i]? = some x → _ := fun i x hx => qov9.1 (by have := h i x hx; rwa [Nat.zero_add] at this)
    refine ⟨he, fun b hb => ?_, ?_, fun b hb => ?_⟩
    · obtain ⟨i, hi⟩ := List.getElem?_of_mem hb
      exact (h' i b hi).1
    · have adj : ∀ i (hi : i + 1 < s.length), s[i].Var < s[i + 1].Var := by
        intro i hi
        have := (h' (i + 1) s[i + 1] (List.getElem?_eq_getElem hi)).2.1 (by omega)
        rw [Nat.add_sub_cancel, List.getD_eq_getElem?_getD, List.getElem?_eq_getElem (show i < s.length by omega)] at this
        exact this
      refine List.pairwise_iff_getElem.2 fun i j hi hj hij => ?_
      have : ∀ (n : Nat) (hn : i + n + 1 < s.length), s[i].Var < s[i + n + 1].Var := by
        intro n
        induction n with
        | zero => intro hn; exact adj i hn
        | succ n ih =>
          intro hn
          have h1 := ih (by omega)
          have h2 := adj (i + n + 1) (by omega)
          have e : i + (n + 1) + 1 = i + n + 1 + 1 := by omega
          simp only [e]
          omega
      obtain ⟨n, rfl⟩ : ∃ n, j = i + n + 1 := ⟨j - i - 1, by omega⟩
      exact this n hj
    · obtain ⟨i, hi⟩ := List.getElem?_of_mem hb
      have hl := hB.2 b hb
      exact qht9 (qjf9 hS (by omega) (h' i b hi).2.2).2
  · intro h i b hb
    rw [Nat.zero_add]
    have hm := List.mem_of_getElem? hb
    have hi := (List.getElem?_eq_some_iff.1 hb).1
    have hl := hB.2 b hm
    refine qov9.2 ⟨h.rng b hm, fun h0 => ?_, qkb9 (by omega) he (qev9 (h.ok b hm))⟩
    have := List.pairwise_iff_getElem.1 h.rise (i - 1) i (by omega) hi (by omega)
    rw [List.getD_eq_getElem?_getD, List.getElem?_eq_getElem (show i - 1 < s.length by omega)]
    have e : b = s[i] := by rw [List.getElem?_eq_getElem hi] at hb; exact (oiA hb).symm
    rw [e]; exact this
theorem qsI9 {s : List Bind} (h : Rise s) : (s.map (·.Var)).Nodup := by
  unfold Rise at h
  rw [List.Nodup, List.pairwise_map]
  exact h.imp (fun h e => by omega)
theorem qou9 (β : Int → List Int) (p : List Int) (c : Int) : appF β (p ++ [c]) = appF β p ++ (if 0 ≤ c then [c] else β (-1 - c)) := by rw [qkE9, qdO9]; simp [appF]
theorem qus9 {s : List Bind} (hB : BOK s) (v : Int) : (bf s v).length ≤ 1048576 := by
  unfold bf
  cases h : bnd? s v with
  | none => simp
  | some u => obtain ⟨b, hb, _, rfl⟩ := qiY9 h; exact hB.2 b hb
noncomputable def qeN9 (sig : List Symbol) (s : List Bind) (t : List Int) : List Int × Int :=
  if sChk sig s = 0 then (if chk sig t = 0 then (if (appF (bf s) t).length ≤ 512 then (appF (bf s) t, 0) else ([], 2)) else ([], chk sig t)) else ([], sChk sig s)
theorem qnk9 (c : Int) : ∀ (l : List Bind), mget (l.map fun b => (-1 - b.Var, b)) c = l.find? fun b => decide (b.Var = -1 - c) := by
  intro l
  induction l with
  | nil => rfl
  | cons a r ih =>
    simp only [List.map_cons, mget, List.find?_cons]
    by_cases h : c = -1 - a.Var
    · rw [if_pos h, decide_eq_true (by omega)]
    · rw [if_neg h, decide_eq_false (by omega), ih]
theorem qsE9 {c : Int} {b : Bind} : ∀ (m : List (Int × Bind)), mget m c = none → mset m c b = m ++ [(c, b)] := by
  intro m
  induction m with
  | nil => intro _; rfl
  | cons p r ih =>
    intro h
    simp only [mget] at h
    simp only [mset]
    by_cases e : c = p.1
    · rw [if_pos e] at h; cases h
    · rw [if_neg e] at h ⊢; rw [ih h]; rfl
theorem qtq9 {sig : List Symbol} {s : List Bind} {t : List Int} {e1 e2 : Int} (hB : BOK s) (hr : ∀ b ∈ s, 0 ≤ b.Var ∧ b.Var < 1048576) (hn : (s.map (·.Var)).Nodup) : ∃ a, wh (qdg9 sig s t [] e1 e2 s (s.length : Int)) (0, []) = some (a, s.map fun b => (-1 - b.Var, b)) := by
  have hl := hB.1
  have := qni9 (step := qdg9 sig s t [] e1 e2 s (s.length : Int)) (fun i => ((i : Int), (s.take i).map fun b => (-1 - b.Var, b))) s.length (r := ((s.length : Int), s.map fun b => (-1 - b.Var, b))) (fun i hi => ?_) ?_
  · exact ⟨_, by simpa using this⟩
  · have hx : s[i]? = some s[i] := List.getElem?_eq_getElem hi
    have htk : s.take (i + 1) = s.take i ++ [s[i]] := by rw [List.take_add_one, hx]; rfl
    have hb := hr _ (List.getElem_mem hi)
    simp only [qdg9]
    rw [if_pos (by omega), qD9 hx, qu9 (n := (i : Int) + 1) (by omega) (by omega)]
    simp only [Option.bind_some]
    rw [qu9 (n := -1 - s[i].Var) (by omega) (by omega), qsE9]
    · rw [htk, List.map_append]; rfl
    · rw [qnk9]
      refine List.find?_eq_none.2 fun b hb2 => ?_
      simp only [decide_eq_true_eq]
      intro e
      obtain ⟨j, hj, hjb⟩ := List.mem_iff_getElem.1 hb2
      rw [List.length_take] at hj
      rw [List.getElem_take] at hjb
      have := (List.pairwise_iff_getElem.1 hn) j i (by simp; omega) (by simp; omega) (by omega)
      apply this
      rw [List.getElem_map, List.getElem_map, hjb]
      omega
  · simp only [qdg9]
    rw [if_neg (by omega), List.take_length]
theorem qph9 {s : List Bind} {t : List Int} (hB : BOK s) (ht : Small t) (hlow : ∀ c ∈ t, -1048576 ≤ c) : qbr9 t (s.map fun b => (-1 - b.Var, b)) = some (if (appF (bf s) t).length ≤ 512 then (appF (bf s) t, 0) else ([], 2)) := by
  unfold Small at ht
  have one : ∀ c : Int, qeC9 c (s.map fun b => (-1 - b.Var, b)) = some (bf s (-1 - c)) := by
    intro c
    simp only [qeC9, qnk9, bf, bnd?]
    cases s.find? (fun b => decide (b.Var = -1 - c)) with
    | none => simp only [Option.map_none, Option.getD_none]; congr 2; omega
    | some b => rfl
  have key : ∀ (n i : Nat), i + n = t.length → (appF (bf s) (t.take i)).length ≤ 512 → ∃ x, wh (qM9 t [] t (t.length : Int) (s.map fun b => (-1 - b.Var, b))) ((i : Int), appF (bf s) (t.take i)) = some x ∧ (if (appF (bf s) t).length ≤ 512 then ∃ a, x = .inr (a, appF (bf s) t) else x = .inl ([], 2)) := by
    intro n
    induction n with
    | zero =>
      intro i hi hle
      have e : t.take i = t := List.take_of_length_le (by omega)
      rw [e] at hle ⊢
      exact ⟨_, qo9 (r := .inr ((i : Int), appF (bf s) t)) (by simp only [qM9]; rw [if_neg (by omega)]), by rw [if_pos hle]; exact ⟨_, rfl⟩⟩
    | succ n ih =>
      intro i hi hle
      have hlt : i < t.length := by omega
      have hx : t[i]? = some t[i] := List.getElem?_eq_getElem hlt
      have htk : t.take (i + 1) = t.take i ++ [t[i]] := by rw [List.take_add_one, hx]; rfl
      have hlo := hlow _ (List.getElem_mem hlt)
      have hw : w64 ((i : Int) + 1) = ((i + 1 : Nat) : Int) := by rw [qu9 (by omega) (by omega)]; omega
      have hwm : w64 (512 - ((appF (bf s) (t.take i)).length : Int)) = ((512 - (appF (bf s) (t.take i)).length : Nat) : Int) := by rw [qu9 (by omega) (by omega)]; omega
      have hsn := qou9 (bf s) (t.take i) t[i]
      rw [← htk] at hsn
      have hbl := qus9 hB (-1 - t[i])
      have step : qM9 t [] t (t.length : Int) (s.map fun b => (-1 - b.Var, b)) ((i : Int), appF (bf s) (t.take i)) = if (appF (bf s) (t.take (i + 1))).length ≤ 512 then some (.inl (((i + 1 : Nat) : Int), appF (bf s) (t.take (i + 1)))) else some (.inr (.inl ([], 2))) := by
        have fin : ∀ piece : List Int, piece = (if 0 ≤ t[i] then [t[i]] else bf s (-1 - t[i])) → piece.length ≤ 1048576 → (if ((512 - (appF (bf s) (t.take i)).length : Nat) : Int) < (piece.length : Int) then some (Sum.inr (Sum.inl (([] : List Int), 2)) : (Int × List Int) ⊕ (List Int × Int) ⊕ (Int × List Int)) else if ((appF (bf s) (t.take i)).length + piece.length) * 8 ≤ 140737488355328 then some (.inl (((i + 1 : Nat) : Int), appF (bf s) (t.take i) ++ piece)) else none) =
            if (appF (bf s) (t.take (i + 1))).length ≤ 512 then some (.inl (((i + 1 : Nat) : Int), appF (bf s) (t.take (i + 1)))) else some (.inr (.inl ([], 2))) := by
          intro piece hp hpl
          rw [hsn, ← hp, List.length_append]
          by_cases hc : (appF (bf s) (t.take i)).length + piece.length ≤ 512
          · rw [if_neg (by omega), if_pos (by omega), if_pos hc]
          · rw [if_pos (by omega), if_neg hc]
        simp only [qM9]
        rw [if_pos (by omega), hw, qD9 hx, hwm]
        simp only [Option.bind_some]
        by_cases h0 : t[i] < 0
        · rw [if_pos h0, one]
          simp only [Option.bind_some]
          exact fin _ (by rw [if_neg (by omega)]) hbl
        · rw [if_neg h0]
          exact fin [t[i]] (by rw [if_pos (by omega)]) (by simp)
      have htot : (appF (bf s) (t.take (i + 1))).length ≤ (appF (bf s) t).length := by
        conv => rhs; rw [← List.take_append_drop (i + 1) t]
        rw [qkE9, List.length_append]; omega
      by_cases hc : (appF (bf s) (t.take (i + 1))).length ≤ 512
      · rw [if_pos hc] at step
        rw [qQ9 step]
        exact ih (i + 1) (by omega) hc
      · rw [if_neg hc] at step
        exact ⟨_, qo9 step, by rw [if_neg (by omega)]⟩
  obtain ⟨x, hx, h⟩ := key t.length 0 (by omega) (by simp [appF])
  rw [Int.natCast_zero, List.take_zero, show appF (bf s) [] = [] from rfl] at hx
  simp only [qbr9, hx, Option.bind_some]
  by_cases hc : (appF (bf s) t).length ≤ 512
  · rw [if_pos hc] at h ⊢
    obtain ⟨a, rfl⟩ := h; rfl
  · rw [if_neg hc] at h ⊢
    subst h; rfl
theorem qhz9 {sig : List Symbol} {s : List Bind} {t : List Int} (hS : SigOK sig) (hB : BOK s) (ht : Small t) : qeX9 sig s t = some (qeN9 sig s t) := by
  have htl : t.length < 17179869184 := by unfold Small at ht; omega
  simp only [qeX9, qnM9 hS hB, Option.bind_some, qkd9 hS htl, qeN9]
  by_cases h1 : sChk sig s = 0
  rotate_left
  · rw [if_neg h1, if_neg h1]
  rw [if_pos h1, if_pos h1]
  by_cases h2 : chk sig t = 0
  rotate_left
  · rw [if_neg h2, if_neg h2]
  rw [if_pos h2, if_pos h2]
  have hok := (qlm9 hS hB).1 h1
  obtain ⟨a, ha⟩ := qtq9 (sig := sig) (t := t) (e1 := sChk sig s) (e2 := chk sig t) hB hok.rng (qsI9 hok.rise)
  rw [ha]
  simp only [Option.bind_some]
  rw [qph9 hB ht (qgC9 (qjf9 hS htl h2).2)]
  simp only [Option.bind_some]
end Ld.Law
namespace Ld.Law
open Go Go.Abs Go.Lib
theorem qvH9 {sig : List Symbol} : ∀ (p s : List Int) (o o' : List Bind), mat sig p s o = some o' → ∀ b ∈ o', b ∈ o ∨ ∃ c ∈ p, c < 0 ∧ b.Var = -1 - c := by
  intro p
  induction p with
  | nil =>
    intro s o o' hm b hb
    simp only [mat, Option.some.injEq] at hm
    subst hm; exact .inl hb
  | cons c p ih =>
    intro s o o' hm b hb
    have up : (∃ d ∈ p, d < 0 ∧ b.Var = -1 - d) → ∃ d ∈ c :: p, d < 0 ∧ b.Var = -1 - d := fun ⟨d, h1, h2⟩ => ⟨d, List.mem_cons_of_mem _ h1, h2⟩
    simp only [mat] at hm
    by_cases h0 : 0 ≤ c
    · rw [if_pos h0] at hm
      cases s with
      | nil => cases hm
      | cons a r =>
        simp only at hm
        split at hm
        · exact (ih _ _ _ hm b hb).imp id up
        · cases hm
    · rw [if_neg h0] at hm
      cases hv : bnd? o (-1 - c) with
      | some u =>
        rw [hv] at hm
        simp only at hm
        split at hm
        · exact (ih _ _ _ hm b hb).imp id up
        · cases hm
      | none =>
        rw [hv] at hm
        simp only at hm
        rcases ih _ _ _ hm b hb with h | h
        · rcases List.mem_append.1 h with h | h
          · exact .inl h
          · rw [List.mem_singleton] at h; subst h
            exact .inr ⟨c, List.mem_cons_self .., by omega, rfl⟩
        · exact .inr (up h)
theorem qvO9 (β : Int → List Int) : ∀ (p : List Int) (c : Int), c ∈ p → c < 0 → (β (-1 - c)).length ≤ (appF β p).length := by
  intro p
  induction p with
  | nil => intro c h; cases h
  | cons a r ih =>
    intro c h hneg
    rw [qdO9, List.length_append]
    rcases List.mem_cons.1 h with rfl | h
    · rw [if_neg (by omega)]; omega
    · have := ih c h hneg; omega
structure MatOK (sig : List Symbol) (p t : List Int) (o : List Bind) : Prop where
  eq : t = appF (bf o) p
  has : ∀ c ∈ p, c < 0 → ∃ u, bnd? o (-1 - c) = some u
  ok : ∀ b ∈ o, TOK sig b.T
  rng : ∀ b ∈ o, 0 ≤ b.Var ∧ b.Var < 1048576
  nodup : (o.map (·.Var)).Nodup
  keys : ∀ b ∈ o, ∃ c ∈ p, c < 0 ∧ b.Var = -1 - c
  len : o.length ≤ p.length
theorem matOK {sig : List Symbol} {p t : List Int} {o : List Bind} (hp : TOK sig p) (ht : TOK sig t) (hm : mat sig p t [] = some o) : MatOK sig p t o := by
  obtain ⟨_, h2, h3, h4, h5, h6, h7⟩ := quG9 p 1 t [] o hm hp ht
  refine ⟨h2, h3, h4 (fun b h => by cases h), h5 (fun b h => by cases h), h6 (by simp), fun b hb => ?_, by simpa using h7⟩
  rcases qvH9 _ _ _ _ hm b hb with h | h
  · cases h
  · exact h
theorem MatOK.tok {sig : List Symbol} {p t : List Int} {o : List Bind} (h : MatOK sig p t o) {c : Int} (hc : c ∈ p) (hneg : c < 0) : TOK sig (bf o (-1 - c)) := by
  obtain ⟨u, hu⟩ := h.has c hc hneg
  obtain ⟨b, hb, _, rfl⟩ := qiY9 hu
  unfold bf
  rw [hu, Option.getD_some]
  exact h.ok b hb
theorem MatOK.tlen {sig : List Symbol} {p t : List Int} {o : List Bind} (h : MatOK sig p t o) {b : Bind} (hb : b ∈ o) : b.T.length ≤ t.length := by
  obtain ⟨c, hc, hneg, hv⟩ := h.keys b hb
  have := qvO9 (bf o) p c hc hneg
  rw [← h.eq] at this
  have e : bf o (-1 - c) = b.T := by unfold bf; rw [← hv, qkr9 h.nodup hb]; rfl
  rwa [e] at this
theorem qvE9 {o m : List Bind} (hp : o.Perm m) (hn : (o.map (·.Var)).Nodup) (v : Int) : bf o v = bf m v := by unfold bf; rw [qwp9 hp hn]
theorem qjz9 (l : List Int) : l.length ≤ szLL (l.map intD) := by
  have := qmC9 (xs := l.map intD) (fun a ha => by obtain ⟨n, _, rfl⟩ := List.mem_map.1 ha; simp [intD])
  simpa using this
theorem qtJ9 {l : List Int} {n : Nat} (h : szL ((lsD intD) l) + n ≤ 1048576) : Small l := by
  have h1 := qjz9 l
  simp only [lsD, szL, szD] at h
  unfold Small
  omega
theorem qtP9 {l : List Symbol} {n : Nat} (h : szL ((lsD qa9) l) + n ≤ 1048576) : SigOK l := by
  intro s hs
  have h1 := qnS9 (f := qa9) hs
  simp only [lsD, qa9, szL, szD] at h h1
  omega
theorem qvi9 {l : List Bind} {n : Nat} (h : szL ((lsD qb9) l) + n ≤ 1048576) : BOK l := by
  have hl := qmC9 (xs := l.map qb9) (fun a ha => by obtain ⟨n, _, rfl⟩ := List.mem_map.1 ha; simp [qb9])
  rw [List.length_map] at hl
  refine ⟨by simp only [lsD, szL, szD] at h; omega, fun b hb => ?_⟩
  have h1 := qnS9 (f := qb9) hb
  have h2 := qjz9 b.T
  simp only [lsD, qb9, szL, szD] at h h1
  omega
end Ld.Law

import Derived.Test.YtigabemldjdlhaaDoorMiq5
set_option maxHeartbeats 400000
set_option linter.unusedVariables false
set_option linter.unusedSimpArgs false
namespace Ld.Law
open Go Go.Abs Go.Lib
/-! ### terms under binds -/
/-- a row that is one term -/
abbrev TOK (sig : List Symbol) (u : List Int) : Prop := rdT sig u 1 = ([], 0)
theorem rdT_app {sig : List Symbol} (r : List Int) : ∀ (u : List Int) (k j : Nat), rdT sig u k = ([], 0) → rdT sig (u ++ r) (k + j) = rdT sig r j := by
  intro u
  induction u with
  | nil =>
    intro k j h
    cases k with
    | zero => rw [Nat.zero_add]; rfl
    | succ k => simp [rdT] at h
  | cons c u ih =>
    intro k j h
    cases k with
    | zero => simp [rdT] at h
    | succ k =>
      simp only [rdT] at h
      by_cases hc : (sig.length : Int) ≤ c ∨ c < -1048576
      · rw [if_pos hc] at h; simp at h
      · rw [if_neg hc] at h
        rw [List.cons_append, show k + 1 + j = (k + j) + 1 by omega]
        simp only [rdT]
        rw [if_neg hc, show k + j + arOf sig c = (k + arOf sig c) + j by omega]
        exact ih _ j h
theorem rdT_pre {sig : List Symbol} : ∀ (l : List Int) (k : Nat), (rdT sig l k).2 = 0 → ∃ f, l = f ++ (rdT sig l k).1 ∧ rdT sig f k = ([], 0) := by
  intro l
  induction l with
  | nil =>
    intro k h
    cases k with
    | zero => exact ⟨[], rfl, rfl⟩
    | succ k => simp [rdT] at h
  | cons c r ih =>
    intro k h
    cases k with
    | zero => exact ⟨[], rfl, rfl⟩
    | succ k =>
      simp only [rdT] at h ⊢
      by_cases hc : (sig.length : Int) ≤ c ∨ c < -1048576
      · rw [if_pos hc] at h; simp at h
      · rw [if_neg hc] at h ⊢
        obtain ⟨f, h1, h2⟩ := ih _ h
        refine ⟨c :: f, by rw [List.cons_append, ← h1], ?_⟩
        simp only [rdT]
        rw [if_neg hc]; exact h2
theorem first_app {sig : List Symbol} {u : List Int} (h : TOK sig u) (r : List Int) : first sig (u ++ r) = u ∧ rest sig (u ++ r) = r := by
  have h1 : rest sig (u ++ r) = r := by
    unfold rest
    rw [rdT_app r u 1 0 h, rdT_zero]
  refine ⟨?_, h1⟩
  unfold first
  rw [h1, List.length_append, Nat.add_sub_cancel, List.take_left]
theorem first_ok {sig : List Symbol} {s : List Int} (h : (rdT sig s 1).2 = 0) : TOK sig (first sig s) := by
  obtain ⟨f, h1, h2⟩ := rdT_pre s 1 h
  have := (first_app (u := f) h2 (rdT sig s 1).1).1
  rw [← h1] at this
  rw [this]; exact h2
theorem TOK_right {sig : List Symbol} {u : List Int} (h : TOK sig u) : termRight sig u = 0 := by
  have e : termRight sig u = outc (rdT sig u 1) := rfl
  rw [e, h]; rfl
/-- what variables become, laid into a row -/
def appF (β : Int → List Int) (p : List Int) : List Int := p.flatMap fun c => if 0 ≤ c then [c] else β (-1 - c)
theorem appF_cons (β : Int → List Int) (c : Int) (p : List Int) : appF β (c :: p) = (if 0 ≤ c then [c] else β (-1 - c)) ++ appF β p := rfl
theorem appF_app (β : Int → List Int) (p q : List Int) : appF β (p ++ q) = appF β p ++ appF β q := by simp [appF]
theorem appF_congr {β γ : Int → List Int} {p : List Int} (h : ∀ c ∈ p, c < 0 → β (-1 - c) = γ (-1 - c)) : appF β p = appF γ p := by
  induction p with
  | nil => rfl
  | cons c r ih =>
    rw [appF_cons, appF_cons, ih (fun d hd => h d (List.mem_cons_of_mem _ hd))]
    by_cases h0 : 0 ≤ c
    · rw [if_pos h0, if_pos h0]
    · rw [if_neg h0, if_neg h0, h c (List.mem_cons_self ..) (by omega)]
/-- terms for variables make a term of a term -/
theorem appF_ok {sig : List Symbol} {β : Int → List Int} : ∀ (p : List Int) (k : Nat), rdT sig p k = ([], 0) → (∀ c ∈ p, c < 0 → TOK sig (β (-1 - c))) → rdT sig (appF β p) k = ([], 0) := by
  intro p
  induction p with
  | nil => intro k h _; exact h
  | cons c r ih =>
    intro k h hb
    cases k with
    | zero => simp [rdT] at h
    | succ k =>
      simp only [rdT] at h
      by_cases hc : (sig.length : Int) ≤ c ∨ c < -1048576
      · rw [if_pos hc] at h; simp at h
      · rw [if_neg hc] at h
        have hr := ih _ h (fun d hd => hb d (List.mem_cons_of_mem _ hd))
        rw [appF_cons]
        by_cases h0 : 0 ≤ c
        · rw [if_pos h0, List.singleton_append]
          simp only [rdT]
          rw [if_neg hc]; exact hr
        · have ha : arOf sig c = 0 := by unfold arOf; rw [if_neg h0]
          rw [ha, Nat.add_zero] at hr
          rw [if_neg h0, Nat.add_comm k 1, rdT_app _ _ 1 k (hb c (List.mem_cons_self ..) (by omega))]
          exact hr
theorem bnd_app {o e : List Bind} {v : Int} {u : List Int} (h : bnd? o v = some u) : bnd? (o ++ e) v = some u := by
  unfold bnd? at *
  rw [List.find?_append]
  cases hf : o.find? (fun b => decide (b.Var = v)) with
  | none => rw [hf] at h; cases h
  | some x => rw [hf] at h; simpa using h
theorem bnd_mem {o : List Bind} {v : Int} {u : List Int} (h : bnd? o v = some u) : ∃ b ∈ o, b.Var = v ∧ b.T = u := by
  unfold bnd? at h
  cases hf : o.find? (fun b => decide (b.Var = v)) with
  | none => rw [hf] at h; cases h
  | some x =>
    rw [hf] at h
    exact ⟨x, List.mem_of_find?_eq_some hf, by have := List.find?_some hf; simpa using this, by simpa using h⟩
theorem bnd_of_mem : ∀ {o : List Bind}, (o.map (·.Var)).Nodup → ∀ {b : Bind}, b ∈ o → bnd? o b.Var = some b.T := by
  intro o
  induction o with
  | nil => intro _ b h; cases h
  | cons a r ih =>
    intro hn b hb
    have hc := List.nodup_cons.1 (show (a.Var :: r.map (·.Var)).Nodup from hn)
    unfold bnd?
    rw [List.find?_cons]
    rcases List.mem_cons.1 hb with rfl | hb
    · rw [decide_eq_true rfl]; rfl
    · have hne : a.Var ≠ b.Var := fun e => hc.1 (e ▸ List.mem_map.2 ⟨b, hb, rfl⟩)
      rw [decide_eq_false hne]
      exact ih hc.2 hb
theorem bnd_perm {o m : List Bind} (hp : o.Perm m) (hn : (o.map (·.Var)).Nodup) (v : Int) : bnd? o v = bnd? m v := by
  have hm : (m.map (·.Var)).Nodup := (hp.map (·.Var)).nodup_iff.1 hn
  cases ho : bnd? o v with
  | some u =>
    obtain ⟨b, hb, rfl, rfl⟩ := bnd_mem ho
    exact (bnd_of_mem hm (hp.mem_iff.1 hb)).symm
  | none =>
    cases hm' : bnd? m v with
    | none => rfl
    | some u =>
      obtain ⟨b, hb, rfl, rfl⟩ := bnd_mem hm'
      rw [bnd_of_mem hn (hp.mem_iff.2 hb)] at ho
      cases ho
/-- what binds make of a variable -/
def bf (o : List Bind) (v : Int) : List Int := (bnd? o v).getD [-1 - v]
/-! ### a match, by what it says -/
theorem mat_sound {sig : List Symbol} : ∀ (p : List Int) (k : Nat) (s : List Int) (o o' : List Bind), mat sig p s o = some o' → rdT sig p k = ([], 0) → rdT sig s k = ([], 0) →
    (∃ e, o' = o ++ e) ∧ s = appF (bf o') p ∧ (∀ c ∈ p, c < 0 → ∃ u, bnd? o' (-1 - c) = some u) ∧ ((∀ b ∈ o, TOK sig b.T) → ∀ b ∈ o', TOK sig b.T) ∧ ((∀ b ∈ o, 0 ≤ b.Var ∧ b.Var < 1048576) → ∀ b ∈ o', 0 ≤ b.Var ∧ b.Var < 1048576) ∧ ((o.map (·.Var)).Nodup → (o'.map (·.Var)).Nodup) ∧ o'.length ≤ o.length + p.length := by
  intro p
  induction p with
  | nil =>
    intro k s o o' hm hp hs
    simp only [mat, Option.some.injEq] at hm
    subst hm
    cases k with
    | zero => rw [rdT_zero] at hs; exact ⟨⟨[], by simp⟩, (Prod.mk.inj hs).1, (fun c h => by cases h), fun h => h, fun h => h, fun h => h, by simp⟩
    | succ k => simp [rdT] at hp
  | cons c p ih =>
    intro k s o o' hm hp hs
    cases k with
    | zero => simp [rdT] at hp
    | succ k =>
      simp only [rdT] at hp
      by_cases hc : (sig.length : Int) ≤ c ∨ c < -1048576
      · rw [if_pos hc] at hp; simp at hp
      rw [if_neg hc] at hp
      simp only [mat] at hm
      by_cases h0 : 0 ≤ c
      · rw [if_pos h0] at hm
        cases s with
        | nil => cases hm
        | cons a r =>
          simp only at hm
          split at hm
          · rename_i e
            subst e
            simp only [rdT, if_neg hc] at hs
            obtain ⟨h1, h2, h3, h4, h5, h6, h7⟩ := ih _ r o o' hm hp hs
            refine ⟨h1, by rw [appF_cons, if_pos h0, List.singleton_append, ← h2], fun d hd hneg => ?_, h4, h5, h6, by simp only [List.length_cons]; omega⟩
            rcases List.mem_cons.1 hd with rfl | hd
            · omega
            · exact h3 d hd hneg
          · cases hm
      · rw [if_neg h0] at hm
        have ha : arOf sig c = 0 := by unfold arOf; rw [if_neg h0]
        rw [ha, Nat.add_zero] at hp
        have hadd := rdT_add sig s 1 k (by rw [Nat.add_comm 1 k, hs])
        rw [Nat.add_comm 1 k, hs] at hadd
        have hfr := first_rest sig s
        have hfo := first_ok hadd.1
        have hrest : rdT sig (rest sig s) k = ([], 0) := hadd.2
        cases hb : bnd? o (-1 - c) with
        | some u =>
          rw [hb] at hm
          simp only at hm
          split at hm
          · rename_i e
            obtain ⟨⟨ex, h1⟩, h2, h3, h4, h5, h6, h7⟩ := ih _ _ o o' hm hp hrest
            have hb' : bnd? o' (-1 - c) = some u := by rw [h1]; exact bnd_app hb
            refine ⟨⟨ex, h1⟩, ?_, fun d hd hneg => ?_, h4, h5, h6, by simp only [List.length_cons]; omega⟩
            · rw [appF_cons, if_neg h0, ← h2]
              unfold bf
              rw [hb', Option.getD_some, e, hfr]
            · rcases List.mem_cons.1 hd with rfl | hd
              · exact ⟨u, hb'⟩
              · exact h3 d hd hneg
          · cases hm
        | none =>
          rw [hb] at hm
          simp only at hm
          obtain ⟨⟨ex, h1⟩, h2, h3, h4, h5, h6, h7⟩ := ih _ _ _ o' hm hp hrest
          have hb' : bnd? o' (-1 - c) = some (first sig s) := by
            rw [h1]
            refine bnd_app ?_
            unfold bnd? at hb ⊢
            rw [List.find?_append]
            cases hf : o.find? (fun b => decide (b.Var = -1 - c)) with
            | some x => rw [hf] at hb; cases hb
            | none => simp
          refine ⟨⟨[Bind.mk (-1 - c) (first sig s)] ++ ex, by rw [h1]; simp⟩, ?_, fun d hd hneg => ?_, fun hok => h4 (fun b hb2 => ?_), fun hok => h5 (fun b hb2 => ?_), fun hn => h6 ?_, by simp only [List.length_append, List.length_cons, List.length_nil] at h7 ⊢; omega⟩
          · rw [appF_cons, if_neg h0, ← h2]
            unfold bf
            rw [hb', Option.getD_some, hfr]
          · rcases List.mem_cons.1 hd with rfl | hd
            · exact ⟨_, hb'⟩
            · exact h3 d hd hneg
          · rcases List.mem_append.1 hb2 with h | h
            · exact hok b h
            · rw [List.mem_singleton] at h; subst h; exact hfo
          · rcases List.mem_append.1 hb2 with h | h
            · exact hok b h
            · rw [List.mem_singleton] at h; subst h; exact ⟨by show 0 ≤ -1 - c; omega, by show -1 - c < 1048576; omega⟩
          · rw [List.map_append, List.nodup_append]
            refine ⟨hn, by simp, fun x hx y hy e => ?_⟩
            simp at hy
            subst hy; subst e
            exact bnd_none hb hx
theorem mat_complete {sig : List Symbol} {β : Int → List Int} : ∀ (p : List Int) (k : Nat) (o : List Bind), rdT sig p k = ([], 0) → (∀ c ∈ p, c < 0 → TOK sig (β (-1 - c))) → (∀ v u, bnd? o v = some u → β v = u) →
    ∃ o', mat sig p (appF β p) o = some o' ∧ ∀ v u, bnd? o' v = some u → β v = u := by
  intro p
  induction p with
  | nil => intro k o _ _ h; exact ⟨o, rfl, h⟩
  | cons c p ih =>
    intro k o hp hb ho
    cases k with
    | zero => simp [rdT] at hp
    | succ k =>
      simp only [rdT] at hp
      by_cases hc : (sig.length : Int) ≤ c ∨ c < -1048576
      · rw [if_pos hc] at hp; simp at hp
      rw [if_neg hc] at hp
      have hb' : ∀ d ∈ p, d < 0 → TOK sig (β (-1 - d)) := fun d hd => hb d (List.mem_cons_of_mem _ hd)
      simp only [mat]
      rw [appF_cons]
      by_cases h0 : 0 ≤ c
      · rw [if_pos h0, if_pos h0, List.singleton_append]
        simp only [if_true]
        exact ih _ o hp hb' ho
      · rw [if_neg h0, if_neg h0]
        obtain ⟨f1, f2⟩ := first_app (hb c (List.mem_cons_self ..) (by omega)) (appF β p)
        rw [f1, f2]
        cases hv : bnd? o (-1 - c) with
        | some u =>
          have := ho _ _ hv
          simp only
          rw [if_pos this.symm]
          exact ih _ o hp hb' ho
        | none =>
          simp only
          refine ih _ _ hp hb' (fun v u h => ?_)
          obtain ⟨b, hbm, rfl, rfl⟩ := bnd_mem h
          rcases List.mem_append.1 hbm with hbm | hbm
          · cases hx : bnd? o b.Var with
            | some u =>
              have h2 := bnd_app (e := [Bind.mk (-1 - c) (β (-1 - c))]) hx
              rw [h] at h2
              rw [ho _ _ hx]; exact (Option.some.inj h2).symm
            | none => exact absurd (List.mem_map.2 ⟨b, hbm, rfl⟩) (bnd_none hx)
          · rw [List.mem_singleton] at hbm; subst hbm; rfl
/-! ### where a term ends -/
theorem End_loop {sig : List Symbol} {t : List Int} (hA : Ars sig) (hL : t.length < 17179869184) : ∀ (n i k : Nat), i + n = t.length → k ≤ 8 * i + 9 → (rdT sig (t.drop i) k).2 = 0 → ∃ k', wh (r03_End_l0 sig t) ((i : Int), (k : Int)) = some (((t.length - (rdT sig (t.drop i) k).1.length : Nat) : Int), k') := by
  intro n
  induction n with
  | zero =>
    intro i k hi hk h
    rw [List.drop_eq_nil_of_le (by omega)] at h ⊢
    cases k with
    | zero => exact ⟨0, wh_done (by simp only [r03_End_l0]; rw [if_neg (by omega)]; simp [rdT]; omega)⟩
    | succ k => simp [rdT] at h
  | succ n ih =>
    intro i k hi hk h
    have hlt : i < t.length := by omega
    have hx : t[i]? = some t[i] := List.getElem?_eq_getElem hlt
    cases k with
    | zero => exact ⟨0, wh_done (by simp only [r03_End_l0]; rw [if_neg (by omega), rdT_zero]; simp; omega)⟩
    | succ k =>
      have hw2 : w64 ((i : Int) + 1) = ((i + 1 : Nat) : Int) := by rw [w64_small (by omega) (by omega)]; omega
      have hw1 : w64 (((k + 1 : Nat) : Int) - 1) = (k : Int) := by rw [w64_small (by omega) (by omega)]; omega
      rw [List.drop_eq_getElem_cons hlt] at h ⊢
      have hc : ¬ ((sig.length : Int) ≤ t[i] ∨ t[i] < -1048576) := by
        intro hc; simp [rdT, hc] at h
      have hr : rdT sig (t[i] :: t.drop (i + 1)) (k + 1) = rdT sig (t.drop (i + 1)) (k + arOf sig t[i]) := by simp [rdT, hc]
      rw [hr] at h ⊢
      have har := ar_le hA t[i]
      have round : r03_End_l0 sig t ((i : Int), ((k + 1 : Nat) : Int)) = some (.inl (((i + 1 : Nat) : Int), ((k + arOf sig t[i] : Nat) : Int))) := by
        simp only [r03_End_l0]
        rw [if_pos (by omega), idx_nat hx]
        simp only [Option.bind_some, hw2, hw1]
        by_cases hn : 0 ≤ t[i]
        · obtain ⟨c, hcn⟩ : ∃ c : Nat, t[i] = (c : Int) := ⟨t[i].toNat, by omega⟩
          have hcs : c < sig.length := by rw [hcn] at hc; omega
          have hs : sig[c]? = some sig[c] := List.getElem?_eq_getElem hcs
          have hra := hA _ (List.getElem_mem hcs)
          have hao : arOf sig t[i] = sig[c].Arity.toNat := by unfold arOf; rw [if_pos hn, hcn]; simp [hs]
          rw [if_pos hn, hao, hcn, idx_nat hs]
          simp only [Option.bind_some]
          rw [w64_small (n := (k : Int) + sig[c].Arity) (by omega) (by omega)]
          congr 3
          omega
        · have hao : arOf sig t[i] = 0 := by unfold arOf; rw [if_neg hn]
          rw [if_neg hn, hao]
          rfl
      rw [wh_next round]
      exact ih (i + 1) _ (by omega) (by omega) h
theorem End_eq {sig : List Symbol} {t : List Int} {i : Nat} (hA : Ars sig) (hL : t.length < 17179869184) (hi : i ≤ t.length) (h : (rdT sig (t.drop i) 1).2 = 0) : r03_End sig t (i : Int) = some (((i + (first sig (t.drop i)).length : Nat) : Int)) := by
  obtain ⟨k', hk⟩ := End_loop hA hL (t.length - i) i 1 (by omega) (by omega) h
  simp only [r03_End]
  rw [Int.natCast_one] at hk
  rw [hk]
  simp only [Option.bind_some]
  have hf := congrArg List.length (first_rest sig (t.drop i))
  rw [List.length_append, List.length_drop] at hf
  have : t.length - (rdT sig (t.drop i) 1).1.length = i + (first sig (t.drop i)).length := by
    unfold rest at hf; omega
  rw [this]
theorem rdT_head {sig : List Symbol} {l : List Int} {k : Nat} (h : rdT sig l k = ([], 0)) (hne : l ≠ []) : ∃ j, k = j + 1 ∧ (rdT sig l 1).2 = 0 ∧ rdT sig (rest sig l) j = ([], 0) := by
  cases k with
  | zero => rw [rdT_zero] at h; exact absurd (Prod.mk.inj h).1 hne
  | succ j =>
    have hadd := rdT_add sig l 1 j (by rw [Nat.add_comm 1 j, h])
    rw [Nat.add_comm 1 j, h] at hadd
    exact ⟨j, rfl, hadd.1, hadd.2⟩
theorem rdT_len {sig : List Symbol} : ∀ (l : List Int) (k : Nat), rdT sig l k = ([], 0) → k ≤ l.length := by
  intro l
  induction l with
  | nil => intro k h; cases k with | zero => exact Nat.zero_le _ | succ k => simp [rdT] at h
  | cons c r ih =>
    intro k h
    cases k with
    | zero => exact Nat.zero_le _
    | succ k =>
      simp only [rdT] at h
      split at h
      · simp at h
      · have := ih _ h; simp only [List.length_cons]; omega
end Ld.Law

import Derived.Test.YtfjgfcnhklopdaaDoorSyq5
set_option maxHeartbeats 400000
set_option linter.unusedVariables false
set_option linter.unusedSimpArgs false
namespace Ld.Law
open Go Go.Abs Go.Lib
abbrev TOK (sig : List Symbol) (u : List Int) : Prop := rdT sig u 1 = ([], 0)
theorem qxp9 {sig : List Symbol} (r : List Int) : ∀ (u : List Int) (k j : Nat), rdT sig u k = ([], 0) → rdT sig (u ++ r) (k + j) = rdT sig r j := by
  intro u
  induction u with
  | nil =>
    intro k j h
    cases k with
    | zero => rw [Nat.zero_add]; rfl
    | succ k => simp [rdT] at h
  | cons c u ih =>
    intro k j h
    cases k with
    | zero => simp [rdT] at h
    | succ k =>
      simp only [rdT] at h
      by_cases hc : (sig.length : Int) ≤ c ∨ c < -1048576
      · rw [if_pos hc] at h; simp at h
      · rw [if_neg hc] at h
        rw [List.cons_append, show k + 1 + j = (k + j) + 1 by omega]
        simp only [rdT]
        rw [if_neg hc, show k + j + arOf sig c = (k + arOf sig c) + j by omega]
        exact ih _ j h
theorem qwH9 {sig : List Symbol} : ∀ (l : List Int) (k : Nat), (rdT sig l k).2 = 0 → ∃ f, l = f ++ (rdT sig l k).1 ∧ rdT sig f k = ([], 0) := by
  intro l
  induction l with
  | nil =>
    intro k h
    cases k with
    | zero => exact ⟨[], rfl, rfl⟩
    | succ k => simp [rdT] at h
  | cons c r ih =>
    intro k h
    cases k with
    | zero => exact ⟨[], rfl, rfl⟩
    | succ k =>
      simp only [rdT] at h ⊢
      by_cases hc : (sig.length : Int) ≤ c ∨ c < -1048576
      · rw [if_pos hc] at h; simp at h
      · rw [if_neg hc] at h ⊢
        obtain ⟨f, h1, h2⟩ := ih _ h
        refine ⟨c :: f, by rw [List.cons_append, ← h1], ?_⟩
        simp only [rdT]
        rw [if_neg hc]; exact h2
theorem quv9 {sig : List Symbol} {u : List Int} (h : TOK sig u) (r : List Int) : first sig (u ++ r) = u ∧ rest sig (u ++ r) = r := by
  have h1 : rest sig (u ++ r) = r := by
    unfold rest
    rw [qxp9 r u 1 0 h, qdT9]
  refine ⟨?_, h1⟩
  unfold first
  rw [h1, List.length_append, Nat.add_sub_cancel, List.take_left]
theorem qfZ9 {sig : List Symbol} {s : List Int} (h : (rdT sig s 1).2 = 0) : TOK sig (first sig s) := by
  obtain ⟨f, h1, h2⟩ := qwH9 s 1 h
  have := (quv9 (u := f) h2 (rdT sig s 1).1).1
  rw [← h1] at this
  rw [this]; exact h2
theorem qeO9 {sig : List Symbol} {u : List Int} (h : TOK sig u) : qo9 sig u = 0 := by
  have e : qo9 sig u = outc (rdT sig u 1) := rfl
  rw [e, h]; rfl
def appF (β : Int → List Int) (p : List Int) : List Int := p.flatMap fun c => if 0 ≤ c then [c] else β (-1 - c)
theorem qhC9 (β : Int → List Int) (c : Int) (p : List Int) : appF β (c :: p) = (if 0 ≤ c then [c] else β (-1 - c)) ++ appF β p := rfl
theorem qlj9 (β : Int → List Int) (p q : List Int) : appF β (p ++ q) = appF β p ++ appF β q := by simp [appF]
theorem qmK9 {o e : List Bind} {v : Int} {u : List Int} (h : bnd? o v = some u) : bnd? (o ++ e) v = some u := by
  unfold bnd? at *
  rw [List.find?_append]
  cases hf : o.find? (fun b => decide (b.Var = v)) with
  | none => rw [hf] at h; cases h
  | some x => rw [hf] at h; simpa using h
theorem qxo9 {o : List Bind} {v : Int} {u : List Int} (h : bnd? o v = some u) : ∃ b ∈ o, b.Var = v ∧ b.T = u := by
  unfold bnd? at h
  cases hf : o.find? (fun b => decide (b.Var = v)) with
  | none => rw [hf] at h; cases h
  | some x =>
    rw [hf] at h
    exact ⟨x, List.mem_of_find?_eq_some hf, by have := List.find?_some hf; simpa using this, by simpa using h⟩
theorem qto9 : ∀ {o : List Bind}, (o.map (·.Var)).Nodup → ∀ {b : Bind}, b ∈ o → bnd? o b.Var = some b.T := by
  intro o
  induction o with
  | nil => intro _ b h; cases h
  | cons a r ih =>
    intro hn b hb
    have hc := List.nodup_cons.1 (show (a.Var :: r.map (·.Var)).Nodup from hn)
    unfold bnd?
    rw [List.find?_cons]
    rcases List.mem_cons.1 hb with rfl | hb
    · rw [decide_eq_true rfl]; rfl
    · have hne : a.Var ≠ b.Var := fun e => hc.1 (e ▸ List.mem_map.2 ⟨b, hb, rfl⟩)
      rw [decide_eq_false hne]
      exact ih hc.2 hb
def bf (o : List Bind) (v : Int) : List Int := (bnd? o v).getD [-1 - v]
theorem qnu9 {sig : List Symbol} : ∀ (p : List Int) (k : Nat) (s : List Int) (o o' : List Bind), mat sig p s o = some o' → rdT sig p k = ([], 0) → rdT sig s k = ([], 0) →
    (∃ e, o' = o ++ e) ∧ s = appF (bf o') p ∧ (∀ c ∈ p, c < 0 → ∃ u, bnd? o' (-1 - c) = some u) ∧ ((∀ b ∈ o, TOK sig b.T) → ∀ b ∈ o', TOK sig b.T) ∧ ((∀ b ∈ o, 0 ≤ b.Var ∧ b.Var < 1048576) → ∀ b ∈ o', 0 ≤ b.Var ∧ b.Var < 1048576) ∧ ((o.map (·.Var)).Nodup → (o'.map (·.Var)).Nodup) ∧ o'.length ≤ o.length + p.length := by
  intro p
  induction p with
  | nil =>
    intro k s o o' hm hp hs
    simp only [mat, Option.some.injEq] at hm
    subst hm
    cases k with
    | zero => rw [qdT9] at hs; exact ⟨⟨[], by simp⟩, (Prod.mk.inj hs).1, (fun c h => by cases h), fun h => h, fun h => h, fun h => h, by simp⟩
    | succ k => simp [rdT] at hp
  | cons c p ih =>
    intro k s o o' hm hp hs
    cases k with
    | zero => simp [rdT] at hp
    | succ k =>
      simp only [rdT] at hp
      by_cases hc : (sig.length : Int) ≤ c ∨ c < -1048576
      · rw [if_pos hc] at hp; simp at hp
      rw [if_neg hc] at hp
      simp only [mat] at hm
      by_cases h0 : 0 ≤ c
      · rw [if_pos h0] at hm
        cases s with
        | nil => cases hm
        | cons a r =>
          simp only at hm
          split at hm
          · rename_i e
            subst e
            simp only [rdT, if_neg hc] at hs
            obtain ⟨h1, h2, h3, h4, h5, h6, h7⟩ := ih _ r o o' hm hp hs
            refine ⟨h1, by rw [qhC9, if_pos h0, List.singleton_append, ← h2], fun d hd hneg => ?_, h4, h5, h6, by simp only [List.length_cons]; omega⟩
            rcases List.mem_cons.1 hd with rfl | hd
            · omega
            · exact h3 d hd hneg
          · cases hm
      · rw [if_neg h0] at hm
        have ha : arOf sig c = 0 := by unfold arOf; rw [if_neg h0]
        rw [ha, Nat.add_zero] at hp
        have hadd := qir9 sig s 1 k (by rw [Nat.add_comm 1 k, hs])
        rw [Nat.add_comm 1 k, hs] at hadd
        have hfr := qfm9 sig s
        have hfo := qfZ9 hadd.1
        have hrest : rdT sig (rest sig s) k = ([], 0) := hadd.2
        cases hb : bnd? o (-1 - c) with
        | some u =>
          rw [hb] at hm
          simp only at hm
          split at hm
          · rename_i e
            obtain ⟨⟨ex, h1⟩, h2, h3, h4, h5, h6, h7⟩ := ih _ _ o o' hm hp hrest
            have hb' : bnd? o' (-1 - c) = some u := by rw [h1]; exact qmK9 hb
            refine ⟨⟨ex, h1⟩, ?_, fun d hd hneg => ?_, h4, h5, h6, by simp only [List.length_cons]; omega⟩
            · rw [qhC9, if_neg h0, ← h2]
              unfold bf
              rw [hb', Option.getD_some, e, hfr]
            · rcases List.mem_cons.1 hd with rfl | hd
              · exact ⟨u, hb'⟩
              · exact h3 d hd hneg
          · cases hm
        | none =>
          rw [hb] at hm
          simp only at hm
          obtain ⟨⟨ex, h1⟩, h2, h3, h4, h5, h6, h7⟩ := ih _ _ _ o' hm hp hrest
          have hb' : bnd? o' (-1 - c) = some (first sig s) := by
            rw [h1]
            refine qmK9 ?_
            unfold bnd? at hb ⊢
            rw [List.find?_append]
            cases hf : o.find? (fun b => decide (b.Var = -1 - c)) with
            | some x => rw [hf] at hb; cases hb
            | none => simp
          refine ⟨⟨[Bind.mk (-1 - c) (first sig s)] ++ ex, by rw [h1]; simp⟩, ?_, fun d hd hneg => ?_, fun hok => h4 (fun b hb2 => ?_), fun hok => h5 (fun b hb2 => ?_), fun hn => h6 ?_, by simp only [List.length_append, List.length_cons, List.length_nil] at h7 ⊢; omega⟩
          · rw [qhC9, if_neg h0, ← h2]
            unfold bf
            rw [hb', Option.getD_some, hfr]
          · rcases List.mem_cons.1 hd with rfl | hd
            · exact ⟨_, hb'⟩
            · exact h3 d hd hneg
          · rcases List.mem_append.1 hb2 with h | h
            · exact hok b h
            · rw [List.mem_singleton] at h; subst h; exact hfo
          · rcases List.mem_append.1 hb2 with h | h
            · exact hok b h
            · rw [List.mem_singleton] at h; subst h; exact ⟨by show 0 ≤ -1 - c; omega, by show -1 - c < 1048576; omega⟩
          · rw [List.map_append, List.nodup_append]
            refine ⟨hn, by simp, fun x hx y hy e => ?_⟩
            simp at hy
            subst hy; subst e
            exact qpF9 hb hx
theorem qvS9 {sig : List Symbol} {t : List Int} (hA : Ars sig) (hL : t.length < 17179869184) : ∀ (n i k : Nat), i + n = t.length → k ≤ 8 * i + 9 → (rdT sig (t.drop i) k).2 = 0 → ∃ k', wh (qdN9 sig t) ((i : Int), (k : Int)) = some (((t.length - (rdT sig (t.drop i) k).1.length : Nat) : Int), k') := by
  intro n
  induction n with
  | zero =>
    intro i k hi hk h
    rw [List.drop_eq_nil_of_le (by omega)] at h ⊢
    cases k with
    | zero => exact ⟨0, qg9 (by simp only [qdN9]; rw [if_neg (by omega)]; simp [rdT]; omega)⟩
    | succ k => simp [rdT] at h
  | succ n ih =>
    intro i k hi hk h
    have hlt : i < t.length := by omega
    have hx : t[i]? = some t[i] := List.getElem?_eq_getElem hlt
    cases k with
    | zero => exact ⟨0, qg9 (by simp only [qdN9]; rw [if_neg (by omega), qdT9]; simp; omega)⟩
    | succ k =>
      have hw2 : w64 ((i : Int) + 1) = ((i + 1 : Nat) : Int) := by rw [qe9 (by omega) (by omega)]; omega
      have hw1 : w64 (((k + 1 : Nat) : Int) - 1) = (k : Int) := by rw [qe9 (by omega) (by omega)]; omega
      rw [List.drop_eq_getElem_cons hlt] at h ⊢
      have hc : ¬ ((sig.length : Int) ≤ t[i] ∨ t[i] < -1048576) := by
        intro hc; simp [rdT, hc] at h
      have hr : rdT sig (t[i] :: t.drop (i + 1)) (k + 1) = rdT sig (t.drop (i + 1)) (k + arOf sig t[i]) := by simp [rdT, hc]
      rw [hr] at h ⊢
      have har := ar_le hA t[i]
      have round : qdN9 sig t ((i : Int), ((k + 1 : Nat) : Int)) = some (.inl (((i + 1 : Nat) : Int), ((k + arOf sig t[i] : Nat) : Int))) := by
        simp only [qdN9]
        rw [if_pos (by omega), qh9 hx]
        simp only [Option.bind_some, hw2, hw1]
        by_cases hn : 0 ≤ t[i]
        · obtain ⟨c, hcn⟩ : ∃ c : Nat, t[i] = (c : Int) := ⟨t[i].toNat, by omega⟩
          have hcs : c < sig.length := by rw [hcn] at hc; omega
          have hs : sig[c]? = some sig[c] := List.getElem?_eq_getElem hcs
          have hra := hA _ (List.getElem_mem hcs)
          have hao : arOf sig t[i] = sig[c].Arity.toNat := by unfold arOf; rw [if_pos hn, hcn]; simp [hs]
          rw [if_pos hn, hao, hcn, qh9 hs]
          simp only [Option.bind_some]
          rw [qe9 (n := (k : Int) + sig[c].Arity) (by omega) (by omega)]
          congr 3
          omega
        · have hao : arOf sig t[i] = 0 := by unfold arOf; rw [if_neg hn]
          rw [if_neg hn, hao]
          rfl
      rw [qy9 round]
      exact ih (i + 1) _ (by omega) (by omega) h
theorem quH9 {sig : List Symbol} {t : List Int} {i : Nat} (hA : Ars sig) (hL : t.length < 17179869184) (hi : i ≤ t.length) (h : (rdT sig (t.drop i) 1).2 = 0) : qim9 sig t (i : Int) = some (((i + (first sig (t.drop i)).length : Nat) : Int)) := by
  obtain ⟨k', hk⟩ := qvS9 hA hL (t.length - i) i 1 (by omega) (by omega) h
  simp only [qim9]
  rw [Int.natCast_one] at hk
  rw [hk]
  simp only [Option.bind_some]
  have hf := congrArg List.length (qfm9 sig (t.drop i))
  rw [List.length_append, List.length_drop] at hf
  have : t.length - (rdT sig (t.drop i) 1).1.length = i + (first sig (t.drop i)).length := by
    unfold rest at hf; omega
  rw [this]
theorem qpo9 {sig : List Symbol} {l : List Int} {k : Nat} (h : rdT sig l k = ([], 0)) (hne : l ≠ []) : ∃ j, k = j + 1 ∧ (rdT sig l 1).2 = 0 ∧ rdT sig (rest sig l) j = ([], 0) := by
  cases k with
  | zero => rw [qdT9] at h; exact absurd (Prod.mk.inj h).1 hne
  | succ j =>
    have hadd := qir9 sig l 1 j (by rw [Nat.add_comm 1 j, h])
    rw [Nat.add_comm 1 j, h] at hadd
    exact ⟨j, rfl, hadd.1, hadd.2⟩
end Ld.Law
namespace Ld.Law
open Go Go.Abs Go.Lib
theorem qrh9 {xs ys : List Int} (hL : xs.length < 4611686018427387904) : qeB9 xs ys = some (decide (xs = ys)) := by
  simp only [qeB9]
  by_cases hlen : xs.length = ys.length
  · rw [if_pos (by omega), qop9 (step := qfo9 xs ys) hlen hL (fun i => rfl)]
    by_cases h : xs = ys <;> simp [h]
  · rw [if_neg (by omega), decide_eq_false (fun e => hlen (by rw [e]))]
theorem quw9 {o : List Bind} {v : Int} (hL : o.length ≤ 1048576) : ∃ k, qhx9 o v = some k ∧ (match bnd? o v with | none => k = -1 | some u => ∃ (i : Nat) (b : Bind), k = (i : Int) ∧ o[i]? = some b ∧ b.T = u) := by
  have key : ∀ (n i : Nat), i + n = o.length → bnd? (o.take i) v = none → ∃ x, wh (qcP9 o v) (i : Int) = some x ∧ (match bnd? o v with | none => ∃ j, x = .inr j | some u => ∃ (i : Nat) (b : Bind), x = .inl (i : Int) ∧ o[i]? = some b ∧ b.T = u) := by
    intro n
    induction n with
    | zero =>
      intro i hi hn
      have : o.take i = o := List.take_of_length_le (by omega)
      rw [this] at hn
      rw [hn]
      exact ⟨.inr (i : Int), qg9 (by simp only [qcP9]; rw [if_neg (by omega)]), _, rfl⟩
    | succ n ih =>
      intro i hi hn
      have hlt : i < o.length := by omega
      have hx : o[i]? = some o[i] := List.getElem?_eq_getElem hlt
      have htk : o.take (i + 1) = o.take i ++ [o[i]] := by rw [List.take_add_one, hx]; rfl
      have hw : w64 ((i : Int) + 1) = ((i + 1 : Nat) : Int) := by rw [qe9 (by omega) (by omega)]; omega
      have hf : (o.take i).find? (fun b => decide (b.Var = v)) = none := by
        unfold bnd? at hn
        cases hh : (o.take i).find? (fun b => decide (b.Var = v)) with
        | none => rfl
        | some y => rw [hh] at hn; cases hn
      by_cases hv : o[i].Var = v
      · have hb : bnd? o v = some o[i].T := by
          have : bnd? (o.take (i + 1)) v = some o[i].T := by
            unfold bnd?; rw [htk, List.find?_append, hf]; simp [hv]
          have := qmK9 (e := o.drop (i + 1)) this
          rwa [List.take_append_drop] at this
        rw [hb]
        exact ⟨.inl (i : Int), qg9 (by simp only [qcP9]; rw [if_pos (by omega), qh9 hx]; simp only [Option.bind_some]; rw [if_pos hv]), i, o[i], rfl, hx, rfl⟩
      · have step : qcP9 o v (i : Int) = some (.inl ((i + 1 : Nat) : Int)) := by
          simp only [qcP9]; rw [if_pos (by omega), qh9 hx]; simp only [Option.bind_some]; rw [if_neg hv, hw]
        rw [qy9 step]
        refine ih (i + 1) (by omega) ?_
        unfold bnd?; rw [htk, List.find?_append, hf]; simp [hv]
  obtain ⟨x, hx, h⟩ := key o.length 0 (by omega) (by simp [bnd?])
  rw [Int.natCast_zero] at hx
  simp only [qhx9, hx, Option.bind_some]
  cases hb : bnd? o v with
  | none =>
    rw [hb] at h
    obtain ⟨j, rfl⟩ := h
    exact ⟨-1, rfl, rfl⟩
  | some u =>
    rw [hb] at h
    obtain ⟨i, b, rfl, h2, h3⟩ := h
    exact ⟨_, rfl, i, b, rfl, h2, h3⟩
theorem qtc9 {sig : List Symbol} {p t : List Int} (hA : Ars sig) (hp : Small p) (ht : Small t) : ∀ (n i h k : Nat) (o : List Bind), i + n = p.length → h ≤ t.length → o.length ≤ i → (∀ b ∈ o, b.T.length ≤ t.length) → rdT sig (p.drop i) k = ([], 0) → rdT sig (t.drop h) k = ([], 0) →
    ∃ x, wh (qce9 sig p t []) ((h : Int), (i : Int), o) = some x ∧ (match mat sig (p.drop i) (t.drop h) o with | none => x = .inl ([], false) | some o' => ∃ a b, x = .inr (a, b, o')) := by
  unfold Small at hp ht
  intro n
  induction n with
  | zero =>
    intro i h k o hi hh hol hob h1 h2
    rw [List.drop_eq_nil_of_le (by omega)]
    exact ⟨.inr ((h : Int), (i : Int), o), qg9 (by simp only [qce9]; rw [if_neg (by omega)]), _, _, rfl⟩
  | succ n ih =>
    intro i h k o hi hh hol hob h1 h2
    have hlt : i < p.length := by omega
    have hx : p[i]? = some p[i] := List.getElem?_eq_getElem hlt
    have hw : w64 ((i : Int) + 1) = ((i + 1 : Nat) : Int) := by rw [qe9 (by omega) (by omega)]; omega
    have hw2 : w64 ((h : Int) + 1) = ((h + 1 : Nat) : Int) := by rw [qe9 (by omega) (by omega)]; omega
    rw [List.drop_eq_getElem_cons hlt] at h1 ⊢
    cases k with
    | zero => rw [qdT9] at h1; cases h1
    | succ k =>
      have hc : ¬ ((sig.length : Int) ≤ p[i] ∨ p[i] < -1048576) := by
        intro hc; simp [rdT, hc] at h1
      simp only [rdT, if_neg hc] at h1
      have hhlt : h < t.length := by
        rcases Nat.lt_or_ge h t.length with c | c
        · exact c
        · rw [List.drop_eq_nil_of_le c] at h2; simp [rdT] at h2
      have hy : t[h]? = some t[h] := List.getElem?_eq_getElem hhlt
      simp only [mat]
      by_cases hn : 0 ≤ p[i]
      · rw [if_pos hn]
        rw [List.drop_eq_getElem_cons hhlt] at h2 ⊢
        simp only
        by_cases hac : t[h] = p[i]
        · rw [if_pos hac]
          have step : qce9 sig p t [] ((h : Int), (i : Int), o) = some (.inl (((h + 1 : Nat) : Int), ((i + 1 : Nat) : Int), o)) := by
            simp only [qce9]
            rw [if_pos (by omega), qh9 hx]
            simp only [Option.bind_some]
            rw [if_pos hn, qh9 hy]
            simp only [Option.bind_some]
            rw [if_pos hac, hw, hw2]
          rw [qy9 step]
          simp only [rdT] at h2
          rw [hac, if_neg hc] at h2
          exact ih (i + 1) (h + 1) _ o (by omega) (by omega) (by omega) hob h1 h2
        · rw [if_neg hac]
          refine ⟨_, qg9 ?_, rfl⟩
          simp only [qce9]
          rw [if_pos (by omega), qh9 hx]
          simp only [Option.bind_some]
          rw [if_pos hn, qh9 hy]
          simp only [Option.bind_some]
          rw [if_neg hac]
      · rw [if_neg hn]
        have hao : arOf sig p[i] = 0 := by unfold arOf; rw [if_neg hn]
        rw [hao, Nat.add_zero] at h1
        have hne : t.drop h ≠ [] := fun e => by
          have := congrArg List.length e
          rw [List.length_drop] at this; simp at this; omega
        obtain ⟨j, hj, g1, g2⟩ := qpo9 h2 hne
        have hj' : j = k := by omega
        subst hj'
        have e1 := quH9 hA (show t.length < 17179869184 by omega) hh g1
        have hfr := qfm9 sig (t.drop h)
        have lp := congrArg List.length hfr
        rw [List.length_append, List.length_drop] at lp
        have c1 : cutL t (h : Int) ((h + (first sig (t.drop h)).length : Nat) : Int) = some (first sig (t.drop h)) := by
          rw [qcA9 (by omega) (by omega), Nat.add_sub_cancel_left]
          have := congrArg (List.take (first sig (t.drop h)).length) hfr
          rw [List.take_left] at this
          rw [← this]
        have hnext : t.drop (h + (first sig (t.drop h)).length) = rest sig (t.drop h) := by
          rw [← List.drop_drop]
          have := congrArg (List.drop (first sig (t.drop h)).length) hfr
          rw [List.drop_left] at this
          exact this.symm
        have hv : w64 (-1 - p[i]) = -1 - p[i] := qe9 (by omega) (by omega)
        obtain ⟨q, hq, hqb⟩ := quw9 (o := o) (v := -1 - p[i]) (by omega)
        have pre : qce9 sig p t [] ((h : Int), (i : Int), o) = if q < 0 then some (.inl (((h + (first sig (t.drop h)).length : Nat) : Int), ((i + 1 : Nat) : Int), o ++ [Bind.mk (-1 - p[i]) (first sig (t.drop h))]))
            else (idx o q).bind fun x6 => (qeB9 x6.T (first sig (t.drop h))).bind fun x7 => if x7 = true then some (.inl (((h + (first sig (t.drop h)).length : Nat) : Int), ((i + 1 : Nat) : Int), o)) else some (.inr (.inl (([] : List Bind), false))) := by
          simp only [qce9]
          rw [if_pos (by omega), qh9 hx]
          simp only [Option.bind_some]
          rw [if_neg hn, e1]
          simp only [Option.bind_some, c1]
          rw [if_pos (by omega), hv, hq]
          simp only [Option.bind_some, hw]
          by_cases hq0 : q < 0
          · rw [if_pos hq0, if_pos hq0, if_pos (by omega)]
          · rw [if_neg hq0, if_neg hq0]
        cases hb : bnd? o (-1 - p[i]) with
        | none =>
          rw [hb] at hqb
          simp only at hqb ⊢
          rw [if_pos (by omega)] at pre
          rw [qy9 pre]
          have := ih (i + 1) (h + (first sig (t.drop h)).length) j (o ++ [Bind.mk (-1 - p[i]) (first sig (t.drop h))]) (by omega) (by omega) (by simp; omega) (fun b hb2 => by
            rcases List.mem_append.1 hb2 with h' | h'
            · exact hob b h'
            · rw [List.mem_singleton] at h'; subst h'; show (first sig (t.drop h)).length ≤ t.length; omega) h1 (by rw [hnext]; exact g2)
          rw [hnext] at this
          exact this
        | some u =>
          rw [hb] at hqb
          simp only at hqb ⊢
          obtain ⟨m, b, rfl, hm, hbT⟩ := hqb
          have hbl := hob b (List.mem_of_getElem? hm)
          rw [if_neg (by omega), qh9 hm] at pre
          simp only [Option.bind_some] at pre
          rw [qrh9 (by omega)] at pre
          simp only [Option.bind_some, decide_eq_true_eq, hbT] at pre
          by_cases hu : u = first sig (t.drop h)
          · rw [if_pos hu] at pre ⊢
            rw [qy9 pre]
            have := ih (i + 1) (h + (first sig (t.drop h)).length) j o (by omega) (by omega) (by omega) hob h1 (by rw [hnext]; exact g2)
            rw [hnext] at this
            exact this
          · rw [if_neg hu] at pre ⊢
            exact ⟨_, qg9 pre, rfl⟩
def later (out : List Bind) (b : Bind) : Prop := ∀ x, out.getLast? = some x → x.Var < b.Var
theorem qvK9 {l out : List Bind} (hl : l.length ≤ 1048576) (ho : out.length ≤ 1048576) : ∃ (m : Int), wh (qch9 l [] out) (-1, 0) = some m ∧
    ((m = -1 ∧ ∀ b ∈ l, ¬ later out b) ∨ ∃ (i : Nat) (b : Bind), m = (i : Int) ∧ l[i]? = some b ∧ later out b ∧ ∀ c ∈ l, later out c → b.Var ≤ c.Var) := by
  have dec : ∀ b, later out b ∨ ¬ later out b := fun b => Classical.em _
  have key : ∀ (n i : Nat) (m : Int), i + n = l.length → ((m = -1 ∧ ∀ b ∈ l.take i, ¬ later out b) ∨ ∃ (j : Nat) (b : Bind), m = (j : Int) ∧ l[j]? = some b ∧ later out b ∧ ∀ c ∈ l.take i, later out c → b.Var ≤ c.Var) →
      ∃ (m : Int), wh (qch9 l [] out) (m, (i : Int)) = some m ∨ True := fun n i m _ _ => ⟨0, .inr trivial⟩
  have main : ∀ (n i : Nat) (m : Int), i + n = l.length → ((m = -1 ∧ ∀ b ∈ l.take i, ¬ later out b) ∨ ∃ (j : Nat) (b : Bind), m = (j : Int) ∧ l[j]? = some b ∧ later out b ∧ ∀ c ∈ l.take i, later out c → b.Var ≤ c.Var) →
      ∃ (m' : Int), wh (qch9 l [] out) (m, (i : Int)) = some m' ∧ ((m' = -1 ∧ ∀ b ∈ l, ¬ later out b) ∨ ∃ (j : Nat) (b : Bind), m' = (j : Int) ∧ l[j]? = some b ∧ later out b ∧ ∀ c ∈ l, later out c → b.Var ≤ c.Var) := by
    intro n
    induction n with
    | zero =>
      intro i m hi hI
      have : l.take i = l := List.take_of_length_le (by omega)
      rw [this] at hI
      exact ⟨m, qg9 (by simp only [qch9]; rw [if_neg (by omega)]), hI⟩
    | succ n ih =>
      intro i m hi hI
      have hlt : i < l.length := by omega
      have hx : l[i]? = some l[i] := List.getElem?_eq_getElem hlt
      have htk : l.take (i + 1) = l.take i ++ [l[i]] := by rw [List.take_add_one, hx]; rfl
      have hw : w64 ((i : Int) + 1) = ((i + 1 : Nat) : Int) := by rw [qe9 (by omega) (by omega)]; omega
      -- what the round does
      have round : ∃ m' : Int, qch9 l [] out (m, (i : Int)) = some (.inl (m', ((i + 1 : Nat) : Int))) ∧ ((¬ later out l[i] ∧ m' = m) ∨ (later out l[i] ∧ ((m < 0 ∧ m' = (i : Int)) ∨ ∃ (j : Nat) (b : Bind), m = (j : Int) ∧ l[j]? = some b ∧ ((l[i].Var < b.Var ∧ m' = (i : Int)) ∨ (¬ l[i].Var < b.Var ∧ m' = m))))) := by
        have mine : later out l[i] → ∃ m' : Int, (if m < 0 then some (Sum.inl ((i : Int), ((i + 1 : Nat) : Int)) : (Int × Int) ⊕ Int) else (idx l m).bind fun x2 => if l[i].Var < x2.Var then some (Sum.inl ((i : Int), ((i + 1 : Nat) : Int))) else some (Sum.inl (m, ((i + 1 : Nat) : Int)))) = some (Sum.inl (m', ((i + 1 : Nat) : Int))) ∧ ((m < 0 ∧ m' = (i : Int)) ∨ ∃ (j : Nat) (b : Bind), m = (j : Int) ∧ l[j]? = some b ∧ ((l[i].Var < b.Var ∧ m' = (i : Int)) ∨ (¬ l[i].Var < b.Var ∧ m' = m))) := by
          intro _
          rcases hI with ⟨rfl, _⟩ | ⟨j, b, rfl, hb, _, _⟩
          · exact ⟨(i : Int), by rw [if_pos (by omega)], .inl ⟨by omega, rfl⟩⟩
          · rw [if_neg (by omega), qh9 hb]
            simp only [Option.bind_some]
            by_cases hv : l[i].Var < b.Var
            · exact ⟨(i : Int), by rw [if_pos hv], .inr ⟨j, b, rfl, hb, .inl ⟨hv, rfl⟩⟩⟩
            · exact ⟨(j : Int), by rw [if_neg hv], .inr ⟨j, b, rfl, hb, .inr ⟨hv, rfl⟩⟩⟩
        simp only [qch9]
        rw [if_pos (by omega), hw, qh9 hx]
        simp only [Option.bind_some]
        by_cases h0 : out.length = 0
        · have hl0 : later out l[i] := fun x hx => by rw [List.eq_nil_of_length_eq_zero h0] at hx; cases hx
          rw [if_pos (by omega)]
          obtain ⟨m', e, h⟩ := mine hl0
          exact ⟨m', e, .inr ⟨hl0, h⟩⟩
        · rw [if_neg (by omega)]
          have hlast : out[out.length - 1]? = some out[out.length - 1] := List.getElem?_eq_getElem (by omega)
          have hgl : out.getLast? = some out[out.length - 1] := by rw [List.getLast?_eq_getElem?, hlast]
          have hwl : w64 ((out.length : Int) - 1) = ((out.length - 1 : Nat) : Int) := by rw [qe9 (by omega) (by omega)]; omega
          rw [hwl, qh9 hlast]
          simp only [Option.bind_some]
          by_cases hv : out[out.length - 1].Var < l[i].Var
          · have hl0 : later out l[i] := fun x hx => by rw [hgl] at hx; cases hx; exact hv
            rw [if_pos hv]
            obtain ⟨m', e, h⟩ := mine hl0
            exact ⟨m', e, .inr ⟨hl0, h⟩⟩
          · have hl0 : ¬ later out l[i] := fun h => hv (h _ hgl)
            rw [if_neg hv]
            exact ⟨m, rfl, .inl ⟨hl0, rfl⟩⟩
      obtain ⟨m', e, hr⟩ := round
      rw [qy9 e]
      refine ih (i + 1) m' (by omega) ?_
      rw [htk]
      rcases hr with ⟨hnl, rfl⟩ | ⟨hl0, hr⟩
      · rcases hI with ⟨rfl, hI⟩ | ⟨j, b, rfl, hb, hlb, hI⟩
        · exact .inl ⟨rfl, fun c hc => by
            rcases List.mem_append.1 hc with h | h
            · exact hI c h
            · rw [List.mem_singleton] at h; subst h; exact hnl⟩
        · exact .inr ⟨j, b, rfl, hb, hlb, fun c hc hlc => by
            rcases List.mem_append.1 hc with h | h
            · exact hI c h hlc
            · rw [List.mem_singleton] at h; subst h; exact absurd hlc hnl⟩
      · rcases hr with ⟨hm0, rfl⟩ | ⟨j, b, rfl, hb, ⟨hv, rfl⟩ | ⟨hv, rfl⟩⟩
        · rcases hI with ⟨rfl, hI⟩ | ⟨j, b, rfl, _⟩
          · exact .inr ⟨i, l[i], rfl, hx, hl0, fun c hc hlc => by
              rcases List.mem_append.1 hc with h | h
              · exact absurd hlc (hI c h)
              · rw [List.mem_singleton] at h; subst h; omega⟩
          · omega
        · rcases hI with ⟨h, _⟩ | ⟨j', b', h, hb', hlb, hI⟩
          · omega
          · have : j = j' := by omega
            subst this
            rw [hb] at hb'; cases hb'
            exact .inr ⟨i, l[i], rfl, hx, hl0, fun c hc hlc => by
              rcases List.mem_append.1 hc with h | h
              · have := hI c h hlc; omega
              · rw [List.mem_singleton] at h; subst h; omega⟩
        · rcases hI with ⟨h, _⟩ | ⟨j', b', h, hb', hlb, hI⟩
          · omega
          · have : j = j' := by omega
            subst this
            rw [hb] at hb'; cases hb'
            exact .inr ⟨j, b, rfl, hb, hlb, fun c hc hlc => by
              rcases List.mem_append.1 hc with h | h
              · exact hI c h hlc
              · rw [List.mem_singleton] at h; subst h; omega⟩
  have := main l.length 0 (-1) (by omega) (.inl ⟨rfl, fun b hb => by simp at hb⟩)
  rw [Int.natCast_zero] at this
  exact this
theorem qum9 {l : List Bind} (hn : (l.map (·.Var)).Nodup) (hl : l.length ≤ 1048576) : qgD9 l = some (sortB l) := by
  have hperm := qij9 l
  have hrise := qmi9 hn
  have hlen : (sortB l).length = l.length := hperm.length_eq
  have key := qml9 (step := qdF9 l []) (fun j => (sortB l).take j) l.length (r := sortB l) (fun j hj => ?_) ?_
  · simp only [qgD9]
    rw [List.take_zero] at key
    rw [key]; rfl
  · have hx : (sortB l)[j]? = some (sortB l)[j] := List.getElem?_eq_getElem (by omega)
    have htl : ((sortB l).take j).length = j := by rw [List.length_take]; omega
    have htk : (sortB l).take (j + 1) = (sortB l).take j ++ [(sortB l)[j]] := by rw [List.take_add_one, hx]; rfl
    have hpw := List.pairwise_iff_getElem.1 hrise
    -- who is later
    have lat : ∀ i (hi : i < (sortB l).length), later ((sortB l).take j) (sortB l)[i] ↔ j ≤ i := by
      intro i hi
      constructor
      · intro h
        rcases Nat.lt_or_ge i j with c | c
        · exfalso
          have hgl : ((sortB l).take j).getLast? = some ((sortB l)[j - 1]'(by omega)) := by
            rw [List.getLast?_eq_getElem?, htl, List.getElem?_take, if_pos (by omega)]
            exact List.getElem?_eq_getElem (by omega)
          have := h _ hgl
          rcases Nat.lt_or_ge i (j - 1) with c2 | c2
          · have := hpw i (j - 1) hi (by omega) c2; omega
          · have : i = j - 1 := by omega
            subst this
            omega
        · exact c
      · intro c x hx
        rcases Nat.eq_zero_or_pos j with h0 | h0
        · subst h0; simp at hx
        · have hgl : ((sortB l).take j).getLast? = some ((sortB l)[j - 1]'(by omega)) := by
            rw [List.getLast?_eq_getElem?, htl, List.getElem?_take, if_pos (by omega)]
            exact List.getElem?_eq_getElem (by omega)
          rw [hgl] at hx
          cases hx
          exact hpw (j - 1) i (by omega) hi (by omega)
    obtain ⟨m, hm, hmm⟩ := qvK9 (l := l) (out := (sortB l).take j) hl (by omega)
    have hjm : (sortB l)[j] ∈ l := hperm.mem_iff.1 (List.mem_of_getElem? hx)
    have hjl : later ((sortB l).take j) (sortB l)[j] := (lat j (by omega)).2 (Nat.le_refl _)
    rcases hmm with ⟨_, h⟩ | ⟨i, b, rfl, hb, hlb, hmin⟩
    · exact absurd hjl (h _ hjm)
    · have hbm : b ∈ sortB l := hperm.mem_iff.2 (List.mem_of_getElem? hb)
      obtain ⟨q, hq, hqb⟩ := List.mem_iff_getElem.1 hbm
      have hjq : j ≤ q := (lat q hq).1 (by rw [hqb]; exact hlb)
      have hle := hmin _ hjm hjl
      have e : b = (sortB l)[j] := by
        rcases Nat.lt_or_ge j q with c | c
        · have := hpw j q (by omega) hq c
          rw [hqb] at this; omega
        · have : j = q := by omega
          subst this
          exact hqb.symm
      simp only [qdF9]
      rw [if_pos (by omega), hm]
      simp only [Option.bind_some]
      rw [qh9 hb]
      simp only [Option.bind_some]
      rw [if_pos (by omega), e, htk]
  · simp only [qdF9]
    rw [List.take_of_length_le (by omega), if_neg (by omega)]
theorem qvO9 {sig : List Symbol} {p t : List Int} (hA : Ars sig) (hp : Small p) (ht : Small t) (h1 : TOK sig p) (h2 : TOK sig t) : qhE9 sig p t = some (match mat sig p t [] with | none => ([], false) | some o => (sortB o, true)) := by
  obtain ⟨x, hx, h⟩ := qtc9 hA hp ht p.length 0 0 1 [] (by omega) (by omega) (by simp) (fun b hb => by cases hb) (by rw [List.drop_zero]; exact h1) (by rw [List.drop_zero]; exact h2)
  simp only [List.drop_zero, Int.natCast_zero] at hx h
  simp only [qhE9, hx, Option.bind_some]
  cases hm : mat sig p t [] with
  | none => rw [hm] at h; simp only at h; subst h; rfl
  | some o =>
    rw [hm] at h
    obtain ⟨a, b, rfl⟩ := h
    obtain ⟨_, _, _, _, _, h6, h7⟩ := qnu9 p 1 t [] o hm h1 h2
    simp only
    unfold Small at hp
    rw [qum9 (h6 (by simp)) (by simp at h7; omega)]
    rfl
end Ld.Law
namespace Ld.Law
open Go Go.Abs Go.Lib
noncomputable def badB (sig : List Symbol) (s : List Bind) (i : Nat) (b : Bind) : Option Int :=
  if b.Var < 0 then some 40 else if 1048576 ≤ b.Var then some 40 else if 0 < i ∧ b.Var ≤ (s.getD (i - 1) ⟨0, []⟩).Var then some 41 else if chk sig b.T = 0 then none else some (chk sig b.T)
noncomputable def sChk (sig : List Symbol) (s : List Bind) : Int := if (qw9 sig).getD 1 = 0 then (qbI9 (badB sig s) 0 s).getD 0 else (qw9 sig).getD 1
def BOK (s : List Bind) : Prop := s.length ≤ 1048576 ∧ ∀ b ∈ s, b.T.length ≤ 1048576
theorem qiX9 {α ρ : Type} {g : Nat → α → Option ρ} : ∀ (l : List α) (k : Nat), qbI9 g k l = none ↔ ∀ i x, l[i]? = some x → g (k + i) x = none := by
  intro l
  induction l with
  | nil => intro k; exact ⟨fun _ i x h => by simp at h, fun _ => rfl⟩
  | cons a r ih =>
    intro k
    simp only [qbI9]
    cases hg : g k a with
    | none =>
      simp only
      rw [ih]
      constructor
      · intro h i x hx
        cases i with
        | zero => simp at hx; subst hx; exact hg
        | succ i => rw [show k + (i + 1) = k + 1 + i by omega]; exact h i x (by simpa using hx)
      · intro h i x hx
        have := h (i + 1) x (by simpa using hx)
        rwa [show k + (i + 1) = k + 1 + i by omega] at this
    | some q =>
      simp only
      constructor
      · intro h; cases h
      · intro h; have := h 0 a rfl; rw [Nat.add_zero, hg] at this; cases this
structure SOK (sig : List Symbol) (s : List Bind) : Prop where
  sg : qw9 sig = some 0
  rng : ∀ b ∈ s, 0 ≤ b.Var ∧ b.Var < 1048576
  rise : Rise s
  ok : ∀ b ∈ s, TOK sig b.T
theorem qpA9 {s : List Bind} {v : Int} (hL : s.length ≤ 1048576) : qhw9 s v = some (match bnd? s v with | none => ([], false) | some u => (u, true)) := by
  have := qcG9 (step := qef9 s v []) (l := s) (g := fun _ b => if b.Var = v then some (Sum.inl (b.T, true) : (List Int × Bool) ⊕ Int) else none) (fin := .inr (s.length : Int)) (fun i b hb => ?_) ?_
  · simp only [qhw9, this, Option.bind_some]
    have e : ∀ (l : List Bind) (k : Nat), qbI9 (fun _ b => if b.Var = v then some (Sum.inl (b.T, true) : (List Int × Bool) ⊕ Int) else none) k l = (bnd? l v).map fun u => Sum.inl (u, true) := by
      intro l
      induction l with
      | nil => intro k; rfl
      | cons a r ih =>
        intro k
        simp only [qbI9, bnd?, List.find?_cons]
        by_cases h : a.Var = v
        · rw [if_pos h, decide_eq_true h]; rfl
        · rw [if_neg h, decide_eq_false h]; exact ih _
    rw [e]
    cases bnd? s v <;> rfl
  · have hi := (List.getElem?_eq_some_iff.1 hb).1
    simp only [qef9]
    rw [if_pos (by omega), qh9 hb, qe9 (n := (i : Int) + 1) (by omega) (by omega)]
    simp only [Option.bind_some]
    by_cases h : b.Var = v
    · rw [if_pos h, if_pos h]
    · rw [if_neg h, if_neg h]; rfl
  · simp only [qef9]; rw [if_neg (by omega)]
theorem qmT9 (β : Int → List Int) (p : List Int) (c : Int) : appF β (p ++ [c]) = appF β p ++ (if 0 ≤ c then [c] else β (-1 - c)) := by rw [qlj9, qhC9]; simp [appF]
theorem quO9 {s : List Bind} (hB : BOK s) (v : Int) : (bf s v).length ≤ 1048576 := by
  unfold bf
  cases h : bnd? s v with
  | none => simp
  | some u => obtain ⟨b, hb, _, rfl⟩ := qxo9 h; exact hB.2 b hb
theorem qrd9 {s : List Bind} {t : List Int} {most : Nat} (hB : BOK s) (ht : Small t) (hm : most ≤ 1048576) (hlow : ∀ c ∈ t, -1048576 ≤ c) : qiC9 s t (most : Int) = some (if (appF (bf s) t).length ≤ most then (appF (bf s) t, true) else ([], false)) := by
  unfold Small at ht
  have key : ∀ (n i : Nat), i + n = t.length → (appF (bf s) (t.take i)).length ≤ most → ∃ x, wh (qdP9 s t (most : Int) []) ((i : Int), appF (bf s) (t.take i)) = some x ∧ (if (appF (bf s) t).length ≤ most then ∃ a, x = .inr (a, appF (bf s) t) else x = .inl ([], false)) := by
    intro n
    induction n with
    | zero =>
      intro i hi hle
      have e : t.take i = t := List.take_of_length_le (by omega)
      rw [e] at hle ⊢
      exact ⟨_, qg9 (r := .inr ((i : Int), appF (bf s) t)) (by simp only [qdP9]; rw [if_neg (by omega)]), by rw [if_pos hle]; exact ⟨_, rfl⟩⟩
    | succ n ih =>
      intro i hi hle
      have hlt : i < t.length := by omega
      have hx : t[i]? = some t[i] := List.getElem?_eq_getElem hlt
      have htk : t.take (i + 1) = t.take i ++ [t[i]] := by rw [List.take_add_one, hx]; rfl
      have hlo := hlow _ (List.getElem_mem hlt)
      have hw : w64 ((i : Int) + 1) = ((i + 1 : Nat) : Int) := by rw [qe9 (by omega) (by omega)]; omega
      have hcut : cutL t (i : Int) ((i + 1 : Nat) : Int) = some [t[i]] := by
        rw [qcA9 (by omega) (by omega), Nat.add_sub_cancel_left, List.drop_eq_getElem_cons hlt]; rfl
      have hwm : w64 ((most : Int) - ((appF (bf s) (t.take i)).length : Int)) = ((most - (appF (bf s) (t.take i)).length : Nat) : Int) := by rw [qe9 (by omega) (by omega)]; omega
      have hsn := qmT9 (bf s) (t.take i) t[i]
      rw [← htk] at hsn
      have hbl := quO9 hB (-1 - t[i])
      have step : qdP9 s t (most : Int) [] ((i : Int), appF (bf s) (t.take i)) = if (appF (bf s) (t.take (i + 1))).length ≤ most then some (.inl (((i + 1 : Nat) : Int), appF (bf s) (t.take (i + 1)))) else some (.inr (.inl ([], false))) := by
        have fin : ∀ piece : List Int, piece = (if 0 ≤ t[i] then [t[i]] else bf s (-1 - t[i])) → piece.length ≤ 1048576 → (if ((most - (appF (bf s) (t.take i)).length : Nat) : Int) < (piece.length : Int) then some (Sum.inr (Sum.inl (([] : List Int), false)) : (Int × List Int) ⊕ (List Int × Bool) ⊕ (Int × List Int)) else if ((appF (bf s) (t.take i)).length + piece.length) * 8 ≤ 140737488355328 then some (.inl (((i + 1 : Nat) : Int), appF (bf s) (t.take i) ++ piece)) else none) =
            if (appF (bf s) (t.take (i + 1))).length ≤ most then some (.inl (((i + 1 : Nat) : Int), appF (bf s) (t.take (i + 1)))) else some (.inr (.inl ([], false))) := by
          intro piece hp hpl
          rw [hsn, ← hp, List.length_append]
          by_cases hc : (appF (bf s) (t.take i)).length + piece.length ≤ most
          · rw [if_neg (by omega), if_pos (by omega), if_pos hc]
          · rw [if_pos (by omega), if_neg hc]
        simp only [qdP9]
        rw [if_pos (by omega), hw, hcut, qh9 hx, hwm]
        simp only [Option.bind_some]
        by_cases h0 : t[i] < 0
        · rw [if_pos h0, qe9 (n := -1 - t[i]) (by omega) (by omega), qpA9 hB.1]
          simp only [Option.bind_some]
          cases hb : bnd? s (-1 - t[i]) with
          | some u =>
            simp only [if_true]
            have : u = bf s (-1 - t[i]) := by unfold bf; rw [hb]; rfl
            exact fin u (by rw [if_neg (by omega)]; exact this) (by rw [this]; exact hbl)
          | none =>
            simp only [Bool.false_eq_true, if_false]
            exact fin [t[i]] (by rw [if_neg (by omega)]; unfold bf; rw [hb, Option.getD_none]; congr 1; omega) (by simp)
        · rw [if_neg h0]
          exact fin [t[i]] (by rw [if_pos (by omega)]) (by simp)
      have htot : (appF (bf s) (t.take (i + 1))).length ≤ (appF (bf s) t).length := by
        conv => rhs; rw [← List.take_append_drop (i + 1) t]
        rw [qlj9, List.length_append]; omega
      by_cases hc : (appF (bf s) (t.take (i + 1))).length ≤ most
      · rw [if_pos hc] at step
        rw [qy9 step]
        exact ih (i + 1) (by omega) hc
      · rw [if_neg hc] at step
        exact ⟨_, qg9 step, by rw [if_neg (by omega)]⟩
  obtain ⟨x, hx, h⟩ := key t.length 0 (by omega) (by simp [appF])
  rw [Int.natCast_zero, List.take_zero, show appF (bf s) [] = [] from rfl] at hx
  simp only [qiC9, hx, Option.bind_some]
  by_cases hc : (appF (bf s) t).length ≤ most
  · rw [if_pos hc] at h ⊢
    obtain ⟨a, rfl⟩ := h; rfl
  · rw [if_neg hc] at h ⊢
    subst h; rfl
noncomputable def qzA9 (sig : List Symbol) (s : List Bind) (t : List Int) : List Int × Int :=
  if sChk sig s = 0 then (if chk sig t = 0 then (if (appF (bf s) t).length ≤ 512 then (appF (bf s) t, 0) else ([], 2)) else ([], chk sig t)) else ([], sChk sig s)
end Ld.Law
namespace Ld.Law
open Go Go.Abs Go.Lib
theorem qvH9 {sig : List Symbol} : ∀ (p s : List Int) (o o' : List Bind), mat sig p s o = some o' → ∀ b ∈ o', b ∈ o ∨ ∃ c ∈ p, c < 0 ∧ b.Var = -1 - c := by
  intro p
  induction p with
  | nil =>
    intro s o o' hm b hb
    simp only [mat, Option.some.injEq] at hm
    subst hm; exact .inl hb
  | cons c p ih =>
    intro s o o' hm b hb
    have up : (∃ d ∈ p, d < 0 ∧ b.Var = -1 - d) → ∃ d ∈ c :: p, d < 0 ∧ b.Var = -1 - d := fun ⟨d, h1, h2⟩ => ⟨d, List.mem_cons_of_mem _ h1, h2⟩
    simp only [mat] at hm
    by_cases h0 : 0 ≤ c
    · rw [if_pos h0] at hm
      cases s with
      | nil => cases hm
      | cons a r =>
        simp only at hm
        split at hm
        · exact (ih _ _ _ hm b hb).imp id up
        · cases hm
    · rw [if_neg h0] at hm
      cases hv : bnd? o (-1 - c) with
      | some u =>
        rw [hv] at hm
        simp only at hm
        split at hm
        · exact (ih _ _ _ hm b hb).imp id up
        · cases hm
      | none =>
        rw [hv] at hm
        simp only at hm
        rcases ih _ _ _ hm b hb with h | h
        · rcases List.mem_append.1 h with h | h
          · exact .inl h
          · rw [List.mem_singleton] at h; subst h
            exact .inr ⟨c, List.mem_cons_self .., by omega, rfl⟩
        · exact .inr (up h)
theorem qww9 (β : Int → List Int) : ∀ (p : List Int) (c : Int), c ∈ p → c < 0 → (β (-1 - c)).length ≤ (appF β p).length := by
  intro p
  induction p with
  | nil => intro c h; cases h
  | cons a r ih =>
    intro c h hneg
    rw [qhC9, List.length_append]
    rcases List.mem_cons.1 h with rfl | h
    · rw [if_neg (by omega)]; omega
    · have := ih c h hneg; omega
structure MatOK (sig : List Symbol) (p t : List Int) (o : List Bind) : Prop where
  eq : t = appF (bf o) p
  has : ∀ c ∈ p, c < 0 → ∃ u, bnd? o (-1 - c) = some u
  ok : ∀ b ∈ o, TOK sig b.T
  rng : ∀ b ∈ o, 0 ≤ b.Var ∧ b.Var < 1048576
  nodup : (o.map (·.Var)).Nodup
  keys : ∀ b ∈ o, ∃ c ∈ p, c < 0 ∧ b.Var = -1 - c
  len : o.length ≤ p.length
theorem matOK {sig : List Symbol} {p t : List Int} {o : List Bind} (hp : TOK sig p) (ht : TOK sig t) (hm : mat sig p t [] = some o) : MatOK sig p t o := by
  obtain ⟨_, h2, h3, h4, h5, h6, h7⟩ := qnu9 p 1 t [] o hm hp ht
  refine ⟨h2, h3, h4 (fun b h => by cases h), h5 (fun b h => by cases h), h6 (by simp), fun b hb => ?_, by simpa using h7⟩
  rcases qvH9 _ _ _ _ hm b hb with h | h
  · cases h
  · exact h
theorem MatOK.tlen {sig : List Symbol} {p t : List Int} {o : List Bind} (h : MatOK sig p t o) {b : Bind} (hb : b ∈ o) : b.T.length ≤ t.length := by
  obtain ⟨c, hc, hneg, hv⟩ := h.keys b hb
  have := qww9 (bf o) p c hc hneg
  rw [← h.eq] at this
  have e : bf o (-1 - c) = b.T := by unfold bf; rw [← hv, qto9 h.nodup hb]; rfl
  rwa [e] at this
theorem qks9 (l : List Int) : l.length ≤ szLL (l.map intD) := by
  have := qoC9 (xs := l.map intD) (fun a ha => by obtain ⟨n, _, rfl⟩ := List.mem_map.1 ha; simp [intD])
  simpa using this
theorem qta9 {l : List Int} {n : Nat} (h : szL ((lsD intD) l) + n ≤ 1048576) : Small l := by
  have h1 := qks9 l
  simp only [lsD, szL, szD] at h
  unfold Small
  omega
theorem qss9 {l : List Symbol} {n : Nat} (h : szL ((lsD qb9) l) + n ≤ 1048576) : SigOK l := by
  intro s hs
  have h1 := qrP9 (f := qb9) hs
  simp only [lsD, qb9, szL, szD] at h h1
  omega
end Ld.Law

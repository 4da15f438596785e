import Derived.Test.YtigabemldjdlhaaDoorMbq8
set_option maxHeartbeats 400000
set_option linter.unusedVariables false
set_option linter.unusedSimpArgs false
namespace Ld.Law
open Go Go.Abs Go.Lib
theorem wh_forS {α σ ρ : Type} {step : σ → Option (σ ⊕ ρ)} {S : Nat → σ} {l : List α} {g : Nat → α → Option ρ} {fin : ρ} (hs : ∀ (i : Nat) (x : α), l[i]? = some x → step (S i) = some (match g i x with | none => .inl (S (i + 1)) | some r => .inr r)) (he : step (S l.length) = some (.inr fin)) :
    ∀ (k i : Nat), i + k = l.length → wh step (S i) = some ((firstG g i (l.drop i)).getD fin) := by
  intro k
  induction k with
  | zero =>
    intro i hi
    have : i = l.length := by omega
    subst this
    rw [List.drop_eq_nil_of_le (Nat.le_refl _), wh_done he]; rfl
  | succ k ih =>
    intro i hi
    have hlt : i < l.length := by omega
    rw [List.drop_eq_getElem_cons hlt]
    have h1 := hs i l[i] (List.getElem?_eq_getElem hlt)
    simp only [firstG]
    cases hg : g i l[i] with
    | none =>
      rw [hg] at h1
      rw [wh_next h1]
      exact ih (i + 1) (by omega)
    | some q =>
      rw [hg] at h1
      rw [wh_done h1]; rfl
noncomputable def badB (sig : List Symbol) (s : List Bind) (i : Nat) (b : Bind) : Option Int :=
  if b.Var < 0 then some 40 else if 1048576 ≤ b.Var then some 40 else if 0 < i ∧ b.Var ≤ (s.getD (i - 1) ⟨0, []⟩).Var then some 41 else if chk sig b.T = 0 then none else some (chk sig b.T)
noncomputable def sChk (sig : List Symbol) (s : List Bind) : Int := if (term_CheckSig sig).getD 1 = 0 then (firstG (badB sig s) 0 s).getD 0 else (term_CheckSig sig).getD 1
theorem firstG_map {α ρ κ : Type} {g : Nat → α → Option ρ} (f : ρ → κ) : ∀ (l : List α) (k : Nat), firstG (fun i x => (g i x).map f) k l = (firstG g k l).map f := by
  intro l
  induction l with
  | nil => intro k; rfl
  | cons a r ih =>
    intro k
    simp only [firstG]
    cases g k a with
    | none => exact ih _
    | some q => rfl
def BOK (s : List Bind) : Prop := s.length ≤ 1048576 ∧ ∀ b ∈ s, b.T.length ≤ 1048576
theorem prev_eq {s : List Bind} {i : Nat} (hi : i < s.length) : s[i - 1]? = some (s.getD (i - 1) ⟨0, []⟩) := by
  rw [List.getD_eq_getElem?_getD, List.getElem?_eq_getElem (by omega)]; rfl
theorem subst_Check_eq {sig : List Symbol} {s : List Bind} (hS : SigOK sig) (hB : BOK s) : subst_Check sig s = some (sChk sig s) := by
  obtain ⟨e, he⟩ := checkSig_tot sig hS
  simp only [subst_Check, he, Option.bind_some, sChk, Option.getD_some]
  by_cases h0 : e = 0
  rotate_left
  · rw [if_neg h0, if_neg h0]
  subst h0
  rw [if_pos rfl, if_pos rfl]
  have := wh_forS (step := subst_Check_l0 sig s 0 s (s.length : Int)) (S := fun i => (i : Int)) (l := s) (g := fun i x => (badB sig s i x).map (Sum.inl : Int → Int ⊕ Int)) (fin := .inr (s.length : Int)) (fun i b hb => ?_) ?_ s.length 0 (by omega)
  · simp only [Int.natCast_zero, List.drop_zero] at this
    rw [this, firstG_map]
    cases firstG (badB sig s) 0 s <;> rfl
  · have hi := (List.getElem?_eq_some_iff.1 hb).1
    have hl := hB.2 b (List.mem_of_getElem? hb)
    have hsl := hB.1
    have hw : w64 ((i : Int) + 1) = ((i + 1 : Nat) : Int) := by rw [w64_small (by omega) (by omega)]; omega
    have hc : term_Check sig b.T = some (chk sig b.T) := chk_eq hS (by omega)
    simp only [subst_Check_l0, badB]
    rw [if_pos (by omega), idx_nat hb]
    simp only [Option.bind_some, hc, hw]
    by_cases c1 : b.Var < 0
    · rw [if_pos c1, if_pos c1]; rfl
    rw [if_neg c1, if_neg c1]
    by_cases c2 : 1048576 ≤ b.Var
    · rw [if_pos c2, if_pos c2]; rfl
    rw [if_neg c2, if_neg c2]
    by_cases c3 : 0 < i
    · have hw1 : w64 ((i : Int) - 1) = ((i - 1 : Nat) : Int) := by rw [w64_small (by omega) (by omega)]; omega
      rw [if_pos (by omega), hw1, idx_nat (prev_eq hi)]
      simp only [Option.bind_some]
      by_cases c4 : b.Var ≤ (s.getD (i - 1) ⟨0, []⟩).Var
      · rw [if_pos c4, if_pos ⟨c3, c4⟩]; rfl
      · rw [if_neg c4, if_neg (fun h : 0 < i ∧ b.Var ≤ (s.getD (i - 1) ⟨0, []⟩).Var => c4 h.2)]
        by_cases c5 : chk sig b.T = 0
        · rw [if_pos c5, if_pos c5]; rfl
        · rw [if_neg c5, if_neg c5]; rfl
    · rw [if_neg (by omega), if_neg (fun h : 0 < i ∧ b.Var ≤ (s.getD (i - 1) ⟨0, []⟩).Var => c3 h.1)]
      by_cases c5 : chk sig b.T = 0
      · rw [if_pos c5, if_pos c5]; rfl
      · rw [if_neg c5, if_neg c5]; rfl
  · simp only [subst_Check_l0]; rw [if_neg (by omega)]
theorem r04_Check_eq {sig : List Symbol} {s : List Bind} (hS : SigOK sig) (hB : BOK s) : r04_Check sig s = some (sChk sig s) := by
  obtain ⟨e, he⟩ := checkSig_tot sig hS
  simp only [r04_Check, checkSig_eq, he, Option.bind_some, sChk, Option.getD_some]
  by_cases h0 : e = 0
  rotate_left
  · rw [if_neg h0, if_neg h0]
  subst h0
  rw [if_pos rfl, if_pos rfl]
  have := wh_forS (step := r04_Check_l0 sig s) (S := fun i => ((0 : Int), (i : Int))) (l := s) (g := fun i x => (badB sig s i x).map (Sum.inl : Int → Int ⊕ (Int × Int))) (fin := .inr (0, (s.length : Int))) (fun i b hb => ?_) ?_ s.length 0 (by omega)
  · simp only [Int.natCast_zero, List.drop_zero] at this
    rw [this, firstG_map]
    cases firstG (badB sig s) 0 s <;> rfl
  · have hi := (List.getElem?_eq_some_iff.1 hb).1
    have hl := hB.2 b (List.mem_of_getElem? hb)
    have hsl := hB.1
    have hw : w64 ((i : Int) + 1) = ((i + 1 : Nat) : Int) := by rw [w64_small (by omega) (by omega)]; omega
    have hc : r03_Check sig b.T = some (chk sig b.T) := by rw [check_eq (by omega)]; exact chk_eq hS (by omega)
    simp only [r04_Check_l0, badB]
    rw [if_pos (by omega), idx_nat hb]
    simp only [Option.bind_some, hc, hw]
    by_cases c1 : b.Var < 0
    · rw [if_pos c1, if_pos c1]; rfl
    rw [if_neg c1, if_neg c1]
    by_cases c2 : 1048576 ≤ b.Var
    · rw [if_pos c2, if_pos c2]; rfl
    rw [if_neg c2, if_neg c2]
    by_cases c3 : 0 < i
    · have hw1 : w64 ((i : Int) - 1) = ((i - 1 : Nat) : Int) := by rw [w64_small (by omega) (by omega)]; omega
      rw [if_pos (by omega), hw1, idx_nat (prev_eq hi)]
      simp only [Option.bind_some]
      by_cases c4 : b.Var ≤ (s.getD (i - 1) ⟨0, []⟩).Var
      · rw [if_pos c4, if_pos ⟨c3, c4⟩]; rfl
      · rw [if_neg c4, if_neg (fun h : 0 < i ∧ b.Var ≤ (s.getD (i - 1) ⟨0, []⟩).Var => c4 h.2)]
        by_cases c5 : chk sig b.T = 0
        · rw [if_pos c5, if_pos c5, c5]; rfl
        · rw [if_neg c5, if_neg c5]; rfl
    · rw [if_neg (by omega), if_neg (fun h : 0 < i ∧ b.Var ≤ (s.getD (i - 1) ⟨0, []⟩).Var => c3 h.1)]
      by_cases c5 : chk sig b.T = 0
      · rw [if_pos c5, if_pos c5, c5]; rfl
      · rw [if_neg c5, if_neg c5]; rfl
  · simp only [r04_Check_l0]; rw [if_neg (by omega)]
theorem firstG_none {α ρ : Type} {g : Nat → α → Option ρ} : ∀ (l : List α) (k : Nat), firstG g k l = none ↔ ∀ i x, l[i]? = some x → g (k + i) x = none := by
  intro l
  induction l with
  | nil => intro k; exact ⟨fun _ i x h => by simp at h, fun _ => rfl⟩
  | cons a r ih =>
    intro k
    simp only [firstG]
    cases hg : g k a with
    | none =>
      simp only
      rw [ih]
      constructor
      · intro h i x hx
        cases i with
        | zero => simp at hx; subst hx; exact hg
        | succ i => rw [show k + (i + 1) = k + 1 + i by omega]; exact h i x (by simpa using hx)
      · intro h i x hx
        have := h (i + 1) x (by simpa using hx)
        rwa [show k + (i + 1) = k + 1 + i by omega] at this
    | some q =>
      simp only
      constructor
      · intro h; cases h
      · intro h; have := h 0 a rfl; rw [Nat.add_zero, hg] at this; cases this
structure SOK (sig : List Symbol) (s : List Bind) : Prop where
  sg : term_CheckSig sig = some 0
  rng : ∀ b ∈ s, 0 ≤ b.Var ∧ b.Var < 1048576
  rise : Rise s
  ok : ∀ b ∈ s, TOK sig b.T
theorem badB_none {sig : List Symbol} {s : List Bind} {i : Nat} {b : Bind} : badB sig s i b = none ↔ (0 ≤ b.Var ∧ b.Var < 1048576) ∧ (0 < i → (s.getD (i - 1) ⟨0, []⟩).Var < b.Var) ∧ chk sig b.T = 0 := by
  unfold badB
  by_cases c1 : b.Var < 0
  · rw [if_pos c1]; exact ⟨fun h => (by cases h), fun h => by omega⟩
  rw [if_neg c1]
  by_cases c2 : 1048576 ≤ b.Var
  · rw [if_pos c2]; exact ⟨fun h => (by cases h), fun h => by omega⟩
  rw [if_neg c2]
  by_cases c3 : 0 < i ∧ b.Var ≤ (s.getD (i - 1) ⟨0, []⟩).Var
  · rw [if_pos c3]; exact ⟨fun h => (by cases h), fun h => by have := h.2.1 c3.1; omega⟩
  rw [if_neg c3]
  by_cases c5 : chk sig b.T = 0
  · rw [if_pos c5]; exact ⟨fun _ => ⟨⟨by omega, by omega⟩, fun h0 => by
      rcases Int.lt_or_le (s.getD (i - 1) ⟨0, []⟩).Var b.Var with h | h
      · exact h
      · exact absurd ⟨h0, h⟩ c3, c5⟩, fun _ => rfl⟩
  · rw [if_neg c5]; exact ⟨fun h => (by cases h), fun h => absurd h.2.2 c5⟩
theorem sChk_zero {sig : List Symbol} {s : List Bind} (hS : SigOK sig) (hB : BOK s) : sChk sig s = 0 ↔ SOK sig s := by
  obtain ⟨e, he⟩ := checkSig_tot sig hS
  unfold sChk
  rw [he, Option.getD_some]
  by_cases h0 : e = 0
  rotate_left
  · rw [if_neg h0]
    exact ⟨fun h => absurd h h0, fun h => by have := h.sg; rw [he] at this; exact absurd (Option.some.inj this) h0⟩
  subst h0
  rw [if_pos rfl]
  have val : ∀ c, firstG (badB sig s) 0 s = some c → c ≠ 0 := by
    have : ∀ (l : List Bind) (k : Nat) (c : Int), firstG (badB sig s) k l = some c → c ≠ 0 := by
      intro l
      induction l with
      | nil => intro k c h; cases h
      | cons a r ih =>
        intro k c h
        simp only [firstG] at h
        cases hg : badB sig s k a with
        | none => rw [hg] at h; exact ih _ _ h
        | some q =>
          rw [hg] at h
          simp only [Option.some.injEq] at h
          subst h
          unfold badB at hg
          split at hg
          · cases hg; decide
          split at hg
          · cases hg; decide
          split at hg
          · cases hg; decide
          split at hg
          · cases hg
          · rename_i hne; cases hg; exact hne
    exact this s 0
  have hz : (firstG (badB sig s) 0 s).getD 0 = 0 ↔ firstG (badB sig s) 0 s = none := by
    cases hf : firstG (badB sig s) 0 s with
    | none => simp
    | some c => have := val c hf; simp [this]
  rw [hz, firstG_none]
  constructor
  · intro h
    have h' : ∀ i x, s[i]? = some x → _ := fun i x hx => badB_none.1 (by have := h i x hx; rwa [Nat.zero_add] at this)
    refine ⟨he, fun b hb => ?_, ?_, fun b hb => ?_⟩
    · obtain ⟨i, hi⟩ := List.getElem?_of_mem hb
      exact (h' i b hi).1
    · have adj : ∀ i (hi : i + 1 < s.length), s[i].Var < s[i + 1].Var := by
        intro i hi
        have := (h' (i + 1) s[i + 1] (List.getElem?_eq_getElem hi)).2.1 (by omega)
        rw [Nat.add_sub_cancel, List.getD_eq_getElem?_getD, List.getElem?_eq_getElem (show i < s.length by omega)] at this
        exact this
      refine List.pairwise_iff_getElem.2 fun i j hi hj hij => ?_
      have : ∀ (n : Nat) (hn : i + n + 1 < s.length), s[i].Var < s[i + n + 1].Var := by
        intro n
        induction n with
        | zero => intro hn; exact adj i hn
        | succ n ih =>
          intro hn
          have h1 := ih (by omega)
          have h2 := adj (i + n + 1) (by omega)
          have e : i + (n + 1) + 1 = i + n + 1 + 1 := by omega
          simp only [e]
          omega
      obtain ⟨n, rfl⟩ : ∃ n, j = i + n + 1 := ⟨j - i - 1, by omega⟩
      exact this n hj
    · obtain ⟨i, hi⟩ := List.getElem?_of_mem hb
      have hl := hB.2 b hb
      exact right_rd (chk_zero hS (by omega) (h' i b hi).2.2).2
  · intro h i b hb
    rw [Nat.zero_add]
    have hm := List.mem_of_getElem? hb
    have hi := (List.getElem?_eq_some_iff.1 hb).1
    have hl := hB.2 b hm
    refine badB_none.2 ⟨h.rng b hm, fun h0 => ?_, chk_of (by omega) he (TOK_right (h.ok b hm))⟩
    have := List.pairwise_iff_getElem.1 h.rise (i - 1) i (by omega) hi (by omega)
    rw [List.getD_eq_getElem?_getD, List.getElem?_eq_getElem (show i - 1 < s.length by omega)]
    have e : b = s[i] := by rw [List.getElem?_eq_getElem hi] at hb; exact (Option.some.inj hb).symm
    rw [e]; exact this
theorem rise_nodup {s : List Bind} (h : Rise s) : (s.map (·.Var)).Nodup := by
  unfold Rise at h
  rw [List.Nodup, List.pairwise_map]
  exact h.imp (fun h e => by omega)
theorem r04_bound_eq {s : List Bind} {v : Int} (hL : s.length ≤ 1048576) : r04_bound s v = some (match bnd? s v with | none => ([], false) | some u => (u, true)) := by
  have := wh_for0 (step := r04_bound_l0 s v []) (l := s) (g := fun _ b => if b.Var = v then some (Sum.inl (b.T, true) : (List Int × Bool) ⊕ Int) else none) (fin := .inr (s.length : Int)) (fun i b hb => ?_) ?_
  · simp only [r04_bound, this, Option.bind_some]
    have e : ∀ (l : List Bind) (k : Nat), firstG (fun _ b => if b.Var = v then some (Sum.inl (b.T, true) : (List Int × Bool) ⊕ Int) else none) k l = (bnd? l v).map fun u => Sum.inl (u, true) := by
      intro l
      induction l with
      | nil => intro k; rfl
      | cons a r ih =>
        intro k
        simp only [firstG, bnd?, List.find?_cons]
        by_cases h : a.Var = v
        · rw [if_pos h, decide_eq_true h]; rfl
        · rw [if_neg h, decide_eq_false h]; exact ih _
    rw [e]
    cases bnd? s v <;> rfl
  · have hi := (List.getElem?_eq_some_iff.1 hb).1
    simp only [r04_bound_l0]
    rw [if_pos (by omega), idx_nat hb, w64_small (n := (i : Int) + 1) (by omega) (by omega)]
    simp only [Option.bind_some]
    by_cases h : b.Var = v
    · rw [if_pos h, if_pos h]
    · rw [if_neg h, if_neg h]; rfl
  · simp only [r04_bound_l0]; rw [if_neg (by omega)]
theorem appF_snoc (β : Int → List Int) (p : List Int) (c : Int) : appF β (p ++ [c]) = appF β p ++ (if 0 ≤ c then [c] else β (-1 - c)) := by rw [appF_app, appF_cons]; simp [appF]
theorem bf_len {s : List Bind} (hB : BOK s) (v : Int) : (bf s v).length ≤ 1048576 := by
  unfold bf
  cases h : bnd? s v with
  | none => simp
  | some u => obtain ⟨b, hb, _, rfl⟩ := bnd_mem h; exact hB.2 b hb
theorem r04_Laid_eq {s : List Bind} {t : List Int} {most : Nat} (hB : BOK s) (ht : Small t) (hm : most ≤ 1048576) (hlow : ∀ c ∈ t, -1048576 ≤ c) : r04_Laid s t (most : Int) = some (if (appF (bf s) t).length ≤ most then (appF (bf s) t, true) else ([], false)) := by
  unfold Small at ht
  have key : ∀ (n i : Nat), i + n = t.length → (appF (bf s) (t.take i)).length ≤ most → ∃ x, wh (r04_Laid_l0 s t (most : Int) []) ((i : Int), appF (bf s) (t.take i)) = some x ∧ (if (appF (bf s) t).length ≤ most then ∃ a, x = .inr (a, appF (bf s) t) else x = .inl ([], false)) := by
    intro n
    induction n with
    | zero =>
      intro i hi hle
      have e : t.take i = t := List.take_of_length_le (by omega)
      rw [e] at hle ⊢
      exact ⟨_, wh_done (r := .inr ((i : Int), appF (bf s) t)) (by simp only [r04_Laid_l0]; rw [if_neg (by omega)]), by rw [if_pos hle]; exact ⟨_, rfl⟩⟩
    | succ n ih =>
      intro i hi hle
      have hlt : i < t.length := by omega
      have hx : t[i]? = some t[i] := List.getElem?_eq_getElem hlt
      have htk : t.take (i + 1) = t.take i ++ [t[i]] := by rw [List.take_add_one, hx]; rfl
      have hlo := hlow _ (List.getElem_mem hlt)
      have hw : w64 ((i : Int) + 1) = ((i + 1 : Nat) : Int) := by rw [w64_small (by omega) (by omega)]; omega
      have hcut : cutL t (i : Int) ((i + 1 : Nat) : Int) = some [t[i]] := by
        rw [cutL_nat (by omega) (by omega), Nat.add_sub_cancel_left, List.drop_eq_getElem_cons hlt]; rfl
      have hwm : w64 ((most : Int) - ((appF (bf s) (t.take i)).length : Int)) = ((most - (appF (bf s) (t.take i)).length : Nat) : Int) := by rw [w64_small (by omega) (by omega)]; omega
      have hsn := appF_snoc (bf s) (t.take i) t[i]
      rw [← htk] at hsn
      have hbl := bf_len hB (-1 - t[i])
      have step : r04_Laid_l0 s t (most : Int) [] ((i : Int), appF (bf s) (t.take i)) = if (appF (bf s) (t.take (i + 1))).length ≤ most then some (.inl (((i + 1 : Nat) : Int), appF (bf s) (t.take (i + 1)))) else some (.inr (.inl ([], false))) := by
        have fin : ∀ piece : List Int, piece = (if 0 ≤ t[i] then [t[i]] else bf s (-1 - t[i])) → piece.length ≤ 1048576 → (if ((most - (appF (bf s) (t.take i)).length : Nat) : Int) < (piece.length : Int) then some (Sum.inr (Sum.inl (([] : List Int), false)) : (Int × List Int) ⊕ (List Int × Bool) ⊕ (Int × List Int)) else if ((appF (bf s) (t.take i)).length + piece.length) * 8 ≤ 140737488355328 then some (.inl (((i + 1 : Nat) : Int), appF (bf s) (t.take i) ++ piece)) else none) =
            if (appF (bf s) (t.take (i + 1))).length ≤ most then some (.inl (((i + 1 : Nat) : Int), appF (bf s) (t.take (i + 1)))) else some (.inr (.inl ([], false))) := by
          intro piece hp hpl
          rw [hsn, ← hp, List.length_append]
          by_cases hc : (appF (bf s) (t.take i)).length + piece.length ≤ most
          · rw [if_neg (by omega), if_pos (by omega), if_pos hc]
          · rw [if_pos (by omega), if_neg hc]
        simp only [r04_Laid_l0]
        rw [if_pos (by omega), hw, hcut, idx_nat hx, hwm]
        simp only [Option.bind_some]
        by_cases h0 : t[i] < 0
        · rw [if_pos h0, w64_small (n := -1 - t[i]) (by omega) (by omega), r04_bound_eq hB.1]
          simp only [Option.bind_some]
          cases hb : bnd? s (-1 - t[i]) with
          | some u =>
            simp only [if_true]
            have : u = bf s (-1 - t[i]) := by unfold bf; rw [hb]; rfl
            exact fin u (by rw [if_neg (by omega)]; exact this) (by rw [this]; exact hbl)
          | none =>
            simp only [Bool.false_eq_true, if_false]
            exact fin [t[i]] (by rw [if_neg (by omega)]; unfold bf; rw [hb, Option.getD_none]; congr 1; omega) (by simp)
        · rw [if_neg h0]
          exact fin [t[i]] (by rw [if_pos (by omega)]) (by simp)
      have htot : (appF (bf s) (t.take (i + 1))).length ≤ (appF (bf s) t).length := by
        conv => rhs; rw [← List.take_append_drop (i + 1) t]
        rw [appF_app, List.length_append]; omega
      by_cases hc : (appF (bf s) (t.take (i + 1))).length ≤ most
      · rw [if_pos hc] at step
        rw [wh_next step]
        exact ih (i + 1) (by omega) hc
      · rw [if_neg hc] at step
        exact ⟨_, wh_done step, by rw [if_neg (by omega)]⟩
  obtain ⟨x, hx, h⟩ := key t.length 0 (by omega) (by simp [appF])
  rw [Int.natCast_zero, List.take_zero, show appF (bf s) [] = [] from rfl] at hx
  simp only [r04_Laid, hx, Option.bind_some]
  by_cases hc : (appF (bf s) t).length ≤ most
  · rw [if_pos hc] at h ⊢
    obtain ⟨a, rfl⟩ := h; rfl
  · rw [if_neg hc] at h ⊢
    subst h; rfl
noncomputable def applyR (sig : List Symbol) (s : List Bind) (t : List Int) : List Int × Int :=
  if sChk sig s = 0 then (if chk sig t = 0 then (if (appF (bf s) t).length ≤ 512 then (appF (bf s) t, 0) else ([], 2)) else ([], chk sig t)) else ([], sChk sig s)
theorem r04_Apply_eq {sig : List Symbol} {s : List Bind} {t : List Int} (hS : SigOK sig) (hB : BOK s) (ht : Small t) : r04_Apply sig s t = some (applyR sig s t) := by
  have htl : t.length < 17179869184 := by unfold Small at ht; omega
  simp only [r04_Apply, r04_Check_eq hS hB, Option.bind_some, check_eq htl, chk_eq hS htl, applyR]
  by_cases h1 : sChk sig s = 0
  rotate_left
  · rw [if_neg h1, if_neg h1]
  rw [if_pos h1, if_pos h1]
  by_cases h2 : chk sig t = 0
  rotate_left
  · rw [if_neg h2, if_neg h2]
  rw [if_pos h2, if_pos h2]
  have := r04_Laid_eq (most := 512) hB ht (by omega) (right_codes (chk_zero hS htl h2).2)
  rw [show ((512 : Nat) : Int) = 512 from rfl] at this
  rw [this]
  simp only [Option.bind_some]
  by_cases h3 : (appF (bf s) t).length ≤ 512
  · rw [if_pos h3, if_pos h3]; rfl
  · rw [if_neg h3, if_neg h3]; rfl
theorem mget_codes (c : Int) : ∀ (l : List Bind), mget (l.map fun b => (-1 - b.Var, b)) c = l.find? fun b => decide (b.Var = -1 - c) := by
  intro l
  induction l with
  | nil => rfl
  | cons a r ih =>
    simp only [List.map_cons, mget, List.find?_cons]
    by_cases h : c = -1 - a.Var
    · rw [if_pos h, decide_eq_true (by omega)]
    · rw [if_neg h, decide_eq_false (by omega), ih]
theorem mset_codes {c : Int} {b : Bind} : ∀ (m : List (Int × Bind)), mget m c = none → mset m c b = m ++ [(c, b)] := by
  intro m
  induction m with
  | nil => intro _; rfl
  | cons p r ih =>
    intro h
    simp only [mget] at h
    simp only [mset]
    by_cases e : c = p.1
    · rw [if_pos e] at h; cases h
    · rw [if_neg e] at h ⊢; rw [ih h]; rfl
theorem codes_loop {sig : List Symbol} {s : List Bind} {t : List Int} {e1 e2 : Int} (hB : BOK s) (hr : ∀ b ∈ s, 0 ≤ b.Var ∧ b.Var < 1048576) (hn : (s.map (·.Var)).Nodup) : ∃ a, wh (subst_Apply_l0 sig s t [] e1 e2 s (s.length : Int)) (0, []) = some (a, s.map fun b => (-1 - b.Var, b)) := by
  have hl := hB.1
  have := wh_up0 (step := subst_Apply_l0 sig s t [] e1 e2 s (s.length : Int)) (fun i => ((i : Int), (s.take i).map fun b => (-1 - b.Var, b))) s.length (r := ((s.length : Int), s.map fun b => (-1 - b.Var, b))) (fun i hi => ?_) ?_
  · exact ⟨_, by simpa using this⟩
  · have hx : s[i]? = some s[i] := List.getElem?_eq_getElem hi
    have htk : s.take (i + 1) = s.take i ++ [s[i]] := by rw [List.take_add_one, hx]; rfl
    have hb := hr _ (List.getElem_mem hi)
    simp only [subst_Apply_l0]
    rw [if_pos (by omega), idx_nat hx, w64_small (n := (i : Int) + 1) (by omega) (by omega)]
    simp only [Option.bind_some]
    rw [w64_small (n := -1 - s[i].Var) (by omega) (by omega), mset_codes]
    · rw [htk, List.map_append]; rfl
    · rw [mget_codes]
      refine List.find?_eq_none.2 fun b hb2 => ?_
      simp only [decide_eq_true_eq]
      intro e
      obtain ⟨j, hj, hjb⟩ := List.mem_iff_getElem.1 hb2
      rw [List.length_take] at hj
      rw [List.getElem_take] at hjb
      have := (List.pairwise_iff_getElem.1 hn) j i (by simp; omega) (by simp; omega) (by omega)
      apply this
      rw [List.getElem_map, List.getElem_map, hjb]
      omega
  · simp only [subst_Apply_l0]
    rw [if_neg (by omega), List.take_length]
theorem subst_laid_eq {s : List Bind} {t : List Int} (hB : BOK s) (ht : Small t) (hlow : ∀ c ∈ t, -1048576 ≤ c) : subst_laid_on_subst_Apply_c1 t (s.map fun b => (-1 - b.Var, b)) = some (if (appF (bf s) t).length ≤ 512 then (appF (bf s) t, 0) else ([], 2)) := by
  unfold Small at ht
  have one : ∀ c : Int, subst_Apply_c1 c (s.map fun b => (-1 - b.Var, b)) = some (bf s (-1 - c)) := by
    intro c
    simp only [subst_Apply_c1, mget_codes, bf, bnd?]
    cases s.find? (fun b => decide (b.Var = -1 - c)) with
    | none => simp only [Option.map_none, Option.getD_none]; congr 2; omega
    | some b => rfl
  have key : ∀ (n i : Nat), i + n = t.length → (appF (bf s) (t.take i)).length ≤ 512 → ∃ x, wh (subst_laid_on_subst_Apply_c1_l0 t [] t (t.length : Int) (s.map fun b => (-1 - b.Var, b))) ((i : Int), appF (bf s) (t.take i)) = some x ∧ (if (appF (bf s) t).length ≤ 512 then ∃ a, x = .inr (a, appF (bf s) t) else x = .inl ([], 2)) := by
    intro n
    induction n with
    | zero =>
      intro i hi hle
      have e : t.take i = t := List.take_of_length_le (by omega)
      rw [e] at hle ⊢
      exact ⟨_, wh_done (r := .inr ((i : Int), appF (bf s) t)) (by simp only [subst_laid_on_subst_Apply_c1_l0]; rw [if_neg (by omega)]), by rw [if_pos hle]; exact ⟨_, rfl⟩⟩
    | succ n ih =>
      intro i hi hle
      have hlt : i < t.length := by omega
      have hx : t[i]? = some t[i] := List.getElem?_eq_getElem hlt
      have htk : t.take (i + 1) = t.take i ++ [t[i]] := by rw [List.take_add_one, hx]; rfl
      have hlo := hlow _ (List.getElem_mem hlt)
      have hw : w64 ((i : Int) + 1) = ((i + 1 : Nat) : Int) := by rw [w64_small (by omega) (by omega)]; omega
      have hwm : w64 (512 - ((appF (bf s) (t.take i)).length : Int)) = ((512 - (appF (bf s) (t.take i)).length : Nat) : Int) := by rw [w64_small (by omega) (by omega)]; omega
      have hsn := appF_snoc (bf s) (t.take i) t[i]
      rw [← htk] at hsn
      have hbl := bf_len hB (-1 - t[i])
      have step : subst_laid_on_subst_Apply_c1_l0 t [] t (t.length : Int) (s.map fun b => (-1 - b.Var, b)) ((i : Int), appF (bf s) (t.take i)) = if (appF (bf s) (t.take (i + 1))).length ≤ 512 then some (.inl (((i + 1 : Nat) : Int), appF (bf s) (t.take (i + 1)))) else some (.inr (.inl ([], 2))) := by
        have fin : ∀ piece : List Int, piece = (if 0 ≤ t[i] then [t[i]] else bf s (-1 - t[i])) → piece.length ≤ 1048576 → (if ((512 - (appF (bf s) (t.take i)).length : Nat) : Int) < (piece.length : Int) then some (Sum.inr (Sum.inl (([] : List Int), 2)) : (Int × List Int) ⊕ (List Int × Int) ⊕ (Int × List Int)) else if ((appF (bf s) (t.take i)).length + piece.length) * 8 ≤ 140737488355328 then some (.inl (((i + 1 : Nat) : Int), appF (bf s) (t.take i) ++ piece)) else none) =
            if (appF (bf s) (t.take (i + 1))).length ≤ 512 then some (.inl (((i + 1 : Nat) : Int), appF (bf s) (t.take (i + 1)))) else some (.inr (.inl ([], 2))) := by
          intro piece hp hpl
          rw [hsn, ← hp, List.length_append]
          by_cases hc : (appF (bf s) (t.take i)).length + piece.length ≤ 512
          · rw [if_neg (by omega), if_pos (by omega), if_pos hc]
          · rw [if_pos (by omega), if_neg hc]
        simp only [subst_laid_on_subst_Apply_c1_l0]
        rw [if_pos (by omega), hw, idx_nat hx, hwm]
        simp only [Option.bind_some]
        by_cases h0 : t[i] < 0
        · rw [if_pos h0, one]
          simp only [Option.bind_some]
          exact fin _ (by rw [if_neg (by omega)]) hbl
        · rw [if_neg h0]
          exact fin [t[i]] (by rw [if_pos (by omega)]) (by simp)
      have htot : (appF (bf s) (t.take (i + 1))).length ≤ (appF (bf s) t).length := by
        conv => rhs; rw [← List.take_append_drop (i + 1) t]
        rw [appF_app, List.length_append]; omega
      by_cases hc : (appF (bf s) (t.take (i + 1))).length ≤ 512
      · rw [if_pos hc] at step
        rw [wh_next step]
        exact ih (i + 1) (by omega) hc
      · rw [if_neg hc] at step
        exact ⟨_, wh_done step, by rw [if_neg (by omega)]⟩
  obtain ⟨x, hx, h⟩ := key t.length 0 (by omega) (by simp [appF])
  rw [Int.natCast_zero, List.take_zero, show appF (bf s) [] = [] from rfl] at hx
  simp only [subst_laid_on_subst_Apply_c1, hx, Option.bind_some]
  by_cases hc : (appF (bf s) t).length ≤ 512
  · rw [if_pos hc] at h ⊢
    obtain ⟨a, rfl⟩ := h; rfl
  · rw [if_neg hc] at h ⊢
    subst h; rfl
theorem subst_Apply_eq {sig : List Symbol} {s : List Bind} {t : List Int} (hS : SigOK sig) (hB : BOK s) (ht : Small t) : subst_Apply sig s t = some (applyR sig s t) := by
  have htl : t.length < 17179869184 := by unfold Small at ht; omega
  simp only [subst_Apply, subst_Check_eq hS hB, Option.bind_some, chk_eq hS htl, applyR]
  by_cases h1 : sChk sig s = 0
  rotate_left
  · rw [if_neg h1, if_neg h1]
  rw [if_pos h1, if_pos h1]
  by_cases h2 : chk sig t = 0
  rotate_left
  · rw [if_neg h2, if_neg h2]
  rw [if_pos h2, if_pos h2]
  have hok := (sChk_zero hS hB).1 h1
  obtain ⟨a, ha⟩ := codes_loop (sig := sig) (t := t) (e1 := sChk sig s) (e2 := chk sig t) hB hok.rng (rise_nodup hok.rise)
  rw [ha]
  simp only [Option.bind_some]
  rw [subst_laid_eq hB ht (right_codes (chk_zero hS htl h2).2)]
  simp only [Option.bind_some]
end Ld.Law
namespace Ld.Law
open Go Go.Abs Go.Lib
theorem mat_keys {sig : List Symbol} : ∀ (p s : List Int) (o o' : List Bind), mat sig p s o = some o' → ∀ b ∈ o', b ∈ o ∨ ∃ c ∈ p, c < 0 ∧ b.Var = -1 - c := by
  intro p
  induction p with
  | nil =>
    intro s o o' hm b hb
    simp only [mat, Option.some.injEq] at hm
    subst hm; exact .inl hb
  | cons c p ih =>
    intro s o o' hm b hb
    have up : (∃ d ∈ p, d < 0 ∧ b.Var = -1 - d) → ∃ d ∈ c :: p, d < 0 ∧ b.Var = -1 - d := fun ⟨d, h1, h2⟩ => ⟨d, List.mem_cons_of_mem _ h1, h2⟩
    simp only [mat] at hm
    by_cases h0 : 0 ≤ c
    · rw [if_pos h0] at hm
      cases s with
      | nil => cases hm
      | cons a r =>
        simp only at hm
        split at hm
        · exact (ih _ _ _ hm b hb).imp id up
        · cases hm
    · rw [if_neg h0] at hm
      cases hv : bnd? o (-1 - c) with
      | some u =>
        rw [hv] at hm
        simp only at hm
        split at hm
        · exact (ih _ _ _ hm b hb).imp id up
        · cases hm
      | none =>
        rw [hv] at hm
        simp only at hm
        rcases ih _ _ _ hm b hb with h | h
        · rcases List.mem_append.1 h with h | h
          · exact .inl h
          · rw [List.mem_singleton] at h; subst h
            exact .inr ⟨c, List.mem_cons_self .., by omega, rfl⟩
        · exact .inr (up h)
theorem appF_len (β : Int → List Int) : ∀ (p : List Int) (c : Int), c ∈ p → c < 0 → (β (-1 - c)).length ≤ (appF β p).length := by
  intro p
  induction p with
  | nil => intro c h; cases h
  | cons a r ih =>
    intro c h hneg
    rw [appF_cons, List.length_append]
    rcases List.mem_cons.1 h with rfl | h
    · rw [if_neg (by omega)]; omega
    · have := ih c h hneg; omega
structure MatOK (sig : List Symbol) (p t : List Int) (o : List Bind) : Prop where
  eq : t = appF (bf o) p
  has : ∀ c ∈ p, c < 0 → ∃ u, bnd? o (-1 - c) = some u
  ok : ∀ b ∈ o, TOK sig b.T
  rng : ∀ b ∈ o, 0 ≤ b.Var ∧ b.Var < 1048576
  nodup : (o.map (·.Var)).Nodup
  keys : ∀ b ∈ o, ∃ c ∈ p, c < 0 ∧ b.Var = -1 - c
  len : o.length ≤ p.length
theorem matOK {sig : List Symbol} {p t : List Int} {o : List Bind} (hp : TOK sig p) (ht : TOK sig t) (hm : mat sig p t [] = some o) : MatOK sig p t o := by
  obtain ⟨_, h2, h3, h4, h5, h6, h7⟩ := mat_sound p 1 t [] o hm hp ht
  refine ⟨h2, h3, h4 (fun b h => by cases h), h5 (fun b h => by cases h), h6 (by simp), fun b hb => ?_, by simpa using h7⟩
  rcases mat_keys _ _ _ _ hm b hb with h | h
  · cases h
  · exact h
theorem MatOK.tlen {sig : List Symbol} {p t : List Int} {o : List Bind} (h : MatOK sig p t o) {b : Bind} (hb : b ∈ o) : b.T.length ≤ t.length := by
  obtain ⟨c, hc, hneg, hv⟩ := h.keys b hb
  have := appF_len (bf o) p c hc hneg
  rw [← h.eq] at this
  have e : bf o (-1 - c) = b.T := by unfold bf; rw [← hv, bnd_of_mem h.nodup hb]; rfl
  rwa [e] at this
theorem matR_cases {sig : List Symbol} (p s : List Int) : (∃ o, chk sig p = 0 ∧ chk sig s = 0 ∧ mat sig p s [] = some o ∧ matR sig p s = (sortB o, true)) ∨ matR sig p s = ([], false) := by
  unfold matR
  by_cases h : chk sig p = 0 ∧ chk sig s = 0
  · rw [if_pos h]
    cases hm : mat sig p s [] with
    | none => exact .inr rfl
    | some o => exact .inl ⟨o, h.1, h.2, rfl, rfl⟩
  · rw [if_neg h]; exact .inr rfl
theorem bf_congr {o m : List Bind} (hp : o.Perm m) (hn : (o.map (·.Var)).Nodup) (v : Int) : bf o v = bf m v := by unfold bf; rw [bnd_perm hp hn]
theorem back_ap {sig : List Symbol} {p t : List Int} (hS : SigOK sig) (hp : Small p) (ht : Small t) (hl : t.length ≤ 512) (hm : (matR sig p t).2 = true) : BOK (matR sig p t).1 ∧ applyR sig (matR sig p t).1 p = (t, 0) := by
  have sm : ∀ t : List Int, Small t → t.length < 17179869184 := fun t h => by unfold Small at h; omega
  rcases matR_cases (sig := sig) p t with ⟨o, c1, c2, m, e⟩ | e
  rotate_left
  · rw [e] at hm; cases hm
  rw [e]
  obtain ⟨k0, r1⟩ := chk_zero hS (sm _ hp) c1
  obtain ⟨_, r2⟩ := chk_zero hS (sm _ ht) c2
  have hO := matOK (right_rd r1) (right_rd r2) m
  have hperm := sortB_perm o
  have hB : BOK (sortB o) := ⟨by rw [hperm.length_eq]; have := hO.len; unfold Small at hp; omega, fun b hb => by have := hO.tlen (hperm.mem_iff.1 hb); omega⟩
  refine ⟨hB, ?_⟩
  have hk : SOK sig (sortB o) := ⟨k0, fun b hb => hO.rng b (hperm.mem_iff.1 hb), sortB_rise hO.nodup, fun b hb => hO.ok b (hperm.mem_iff.1 hb)⟩
  have he : appF (bf (sortB o)) p = t := by
    rw [hO.eq]
    exact appF_congr fun c _ _ => (bf_congr hperm.symm hO.nodup _).symm
  unfold applyR
  simp only
  rw [if_pos ((sChk_zero hS hB).2 hk), if_pos c1, he, if_pos hl]
theorem back_mat {sig : List Symbol} {p : List Int} {s : List Bind} (hS : SigOK sig) (hp : Small p) (hB : BOK s) (h1 : sChk sig s = 0) (h2 : chk sig p = 0) (hl : (appF (bf s) p).length ≤ 512) : (matR sig p (appF (bf s) p)).2 = true := by
  have sm : ∀ t : List Int, Small t → t.length < 17179869184 := fun t h => by unfold Small at h; omega
  have hk := (sChk_zero hS hB).1 h1
  obtain ⟨k0, r1⟩ := chk_zero hS (sm _ hp) h2
  have hr := right_rd r1
  have hcod := right_codes r1
  have hβ : ∀ c ∈ p, c < 0 → TOK sig (bf s (-1 - c)) := by
    intro c hc hneg
    unfold bf
    cases hb : bnd? s (-1 - c) with
    | some u => obtain ⟨b, hbm, _, rfl⟩ := bnd_mem hb; exact hk.ok b hbm
    | none =>
      have := hcod c hc
      rw [Option.getD_none, show -1 - (-1 - c) = c by omega]
      unfold TOK
      simp only [rdT]
      rw [if_neg (by omega)]
      have : arOf sig c = 0 := by unfold arOf; rw [if_neg (by omega)]
      rw [this]; rfl
  obtain ⟨o', m1, _⟩ := mat_complete (sig := sig) (β := bf s) p 1 [] hr hβ (fun v u hvu => by simp [bnd?] at hvu)
  have hu : TOK sig (appF (bf s) p) := appF_ok p 1 hr hβ
  unfold matR
  rw [if_pos ⟨h2, chk_of (by omega) k0 (TOK_right hu)⟩, m1]
theorem applyR_cases {sig : List Symbol} {s : List Bind} {p : List Int} (h1 : sChk sig s = 0) (h2 : chk sig p = 0) : ((appF (bf s) p).length ≤ 512 ∧ applyR sig s p = (appF (bf s) p, 0)) ∨ applyR sig s p = ([], 2) := by
  unfold applyR
  rw [if_pos h1, if_pos h2]
  by_cases h : (appF (bf s) p).length ≤ 512
  · rw [if_pos h]; exact .inl ⟨h, rfl⟩
  · rw [if_neg h]; exact .inr rfl
theorem back {sig : List Symbol} {a : List Int × List Int} {s : List Bind} (hS : SigOK sig) (hp : Small a.1) (ht : Small a.2) (hB : BOK s) : l05_MatchBack sig a s = some true := by
  have sm : ∀ t : List Int, Small t → t.length < 17179869184 := fun t h => by unfold Small at h; omega
  have tail : (if (matR sig a.1 a.2).2 = true then if (512 : Int) < (a.2.length : Int) then some true else (r04_Apply sig (matR sig a.1 a.2).1 a.1).bind fun x => (l05_sameRow x.1 a.2).bind fun y => if x.2 = 0 then some y else some false else some true) = some true := by
    by_cases hm : (matR sig a.1 a.2).2 = true
    rotate_left
    · rw [if_neg hm]
    rw [if_pos hm]
    by_cases hl : (512 : Int) < (a.2.length : Int)
    · rw [if_pos hl]
    rw [if_neg hl]
    obtain ⟨b1, b2⟩ := back_ap hS hp ht (by omega) hm
    rw [r04_Apply_eq hS b1 hp, b2]
    simp only [Option.bind_some, sameRow_eq (show a.2.length < 4611686018427387904 by have := sm _ ht; omega), if_true, decide_true]
  simp only [l05_MatchBack, shown, Option.bind_some, check_eq (sm _ hp), chk_eq hS (sm _ hp), r04_Check_eq hS hB, r04_Apply_eq hS hB hp, Match_eq hS hp ht, Match5_eq hS hp ht, bne_self_eq_false, Bool.false_eq_true, if_false, if_true]
  by_cases c1 : chk sig a.1 = 0
  rotate_left
  · rw [if_neg c1]
  rw [if_pos c1]
  by_cases c2 : sChk sig s = 0
  rotate_left
  · rw [if_neg c2]; exact tail
  rw [if_pos c2]
  rcases applyR_cases c2 c1 with ⟨hl, e⟩ | e
  rotate_left
  · rw [e]
    simp only
    rw [if_neg (by decide)]
    exact tail
  rw [e]
  simp only [if_true]
  have hu : Small (appF (bf s) a.1) := by unfold Small; omega
  have hm := back_mat hS hp hB c2 c1 hl
  obtain ⟨b1, b2⟩ := back_ap hS hp hu hl hm
  rw [Match_eq hS hp hu]
  simp only [Option.bind_some]
  rw [subst_Apply_eq hS b1 hp, b2]
  simp only [Option.bind_some, sameRow_eq (show (appF (bf s) a.1).length < 4611686018427387904 by omega), decide_true, if_true]
  rw [if_pos hm]
  exact tail
theorem szL_intsI (l : List Int) : l.length ≤ szLL (l.map intD) := by
  have := len_szLL (xs := l.map intD) (fun a ha => by obtain ⟨n, _, rfl⟩ := List.mem_map.1 ha; simp [intD])
  simpa using this
theorem small_sigI {l : List Symbol} {n : Nat} (h : szL ((lsD encSymbol) l) + n ≤ 1048576) : SigOK l := by
  intro s hs
  have h1 := szL_map (f := encSymbol) hs
  simp only [lsD, encSymbol, szL, szD] at h h1
  omega
theorem bok_binds {l : List Bind} {n : Nat} (h : szL ((lsD encBind) l) + n ≤ 1048576) : BOK l := by
  have hl := len_szLL (xs := l.map encBind) (fun a ha => by obtain ⟨n, _, rfl⟩ := List.mem_map.1 ha; simp [encBind])
  rw [List.length_map] at hl
  refine ⟨by simp only [lsD, szL, szD] at h; omega, fun b hb => ?_⟩
  have h1 := szL_map (f := encBind) hb
  have h2 := szL_intsI b.T
  simp only [lsD, encBind, szL, szD] at h h1
  omega
theorem small_pair {a : List Int × List Int} {n : Nat} (h : szL ((ar2D (lsD intD)) a) + n ≤ 1048576) : Small a.1 ∧ Small a.2 := by
  have h1 := szL_intsI a.1
  have h2 := szL_intsI a.2
  simp only [ar2D, lsD, List.cons_append, List.nil_append, szL, szD] at h
  unfold Small
  omega
theorem back_law {a0 : List Symbol} {a1 : (List Int) × (List Int)} {a2 : List Bind} (_ : okL okSymbol a0) (_ : (fun p : (List Int) × (List Int) => (okL (okI .i64)) p.1 ∧ (okL (okI .i64)) p.2) a1) (_ : okL okBind a2) (hs : szL ((lsD encSymbol) a0) + szL ((ar2D (lsD intD)) a1) + szL ((lsD encBind) a2) ≤ 1048576) : l05_MatchBack a0 a1 a2 = some true :=
  have h := small_pair (a := a1) (n := 0) (by omega)
  back (small_sigI (n := 0) (by omega)) h.1 h.2 (bok_binds (n := 0) (by omega))
end Ld.Law

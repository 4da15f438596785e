import Derived.Test.YtigabemldjdlhaaDoorMiq2
set_option maxHeartbeats 400000
set_option linter.unusedVariables false
set_option linter.unusedSimpArgs false
namespace Ld.Law
open Go Go.Abs Go.Lib
/-! ### the checks come to an end -/
theorem wh_tot {ρ : Type} {step : Int → Option (Int ⊕ ρ)} {n : Nat} (hs : ∀ i : Nat, i < n → step (i : Int) = some (.inl ((i + 1 : Nat) : Int)) ∨ ∃ r, step (i : Int) = some (.inr r)) (he : ∃ r, step (n : Int) = some (.inr r)) : ∀ (k i : Nat), i + k = n → ∃ r, wh step (i : Int) = some r := by
  intro k
  induction k with
  | zero => intro i h; obtain ⟨r, hr⟩ := he; have : i = n := by omega
            subst this; exact ⟨r, wh_done hr⟩
  | succ k ih =>
    intro i h
    rcases hs i (by omega) with h1 | ⟨r, h1⟩
    · rw [wh_next h1]; exact ih (i + 1) (by omega)
    · exact ⟨r, wh_done h1⟩
theorem named_loop (s : ByteArray) : ∀ (n q : Nat), s.size - q ≤ n → ∃ r, wh (term_named_l0 s s) q = some r := by
  intro n
  induction n with
  | zero => intro q h; exact ⟨_, wh_done (by simp only [term_named_l0]; rw [if_neg (by omega)])⟩
  | succ n ih =>
    intro q h
    by_cases hq : q < s.size
    · obtain ⟨b, hb⟩ := letter_tot ((Utf8.decode s q).1 : Int)
      have hw := decodeL_width (s.data.toList.drop q)
      rw [decodeL_drop] at hw
      have : term_named_l0 s s q = some (.inl (q + (Utf8.decode s q).2)) ∨ ∃ r, term_named_l0 s s q = some (.inr r) := by
        simp only [term_named_l0, if_pos hq, hb, Option.bind_some]
        split
        · exact .inl rfl
        split
        · split
          · split
            · exact .inl rfl
            split
            · exact .inl rfl
            split
            · exact .inl rfl
            · exact .inr ⟨_, rfl⟩
          · split
            · exact .inl rfl
            split
            · exact .inl rfl
            · exact .inr ⟨_, rfl⟩
        · exact .inr ⟨_, rfl⟩
      rcases this with h1 | ⟨r, h1⟩
      · rw [wh_next h1]; exact ih _ (by omega)
      · exact ⟨_, wh_done h1⟩
    · exact ⟨_, wh_done (by simp only [term_named_l0]; rw [if_neg (by omega)])⟩
theorem named_tot (s : ByteArray) : ∃ b, term_named s = some b := by
  simp only [term_named]
  split
  · exact ⟨_, rfl⟩
  split
  · exact ⟨_, rfl⟩
  rename_i h
  rw [unicode_utf8_ValidString, if_pos (by omega)]
  simp only [Option.bind_some]
  split
  · obtain ⟨r, hr⟩ := named_loop s s.size 0 (by omega)
    rw [hr]
    cases r <;> exact ⟨_, rfl⟩
  · exact ⟨_, rfl⟩
theorem marked_tot (s : ByteArray) : s.size < 4611686018427387904 → ∃ b, r03_Marked s = some b := by
  intro hS
  simp only [r03_Marked]
  split
  · rename_i h
    have h1 : w64 ((s.size : Int) - 1) = ((s.size - 1 : Nat) : Int) := by rw [w64_small (by omega) (by omega)]; omega
    have h2 : sidx s (w64 ((s.size : Int) - 1)) = some ((s[s.size - 1]'(by omega)).toNat : Int) := by
      rw [h1]; unfold sidx; rw [if_pos (by omega)]
      simp only [Int.toNat_natCast]
      rw [getElem?_pos s (s.size - 1) (by omega)]; rfl
    rw [h2]
    simp only [Option.bind_some]
    split
    · have h3 : cutBA s 0 (w64 ((s.size : Int) - 1)) = some (s.extract 0 (s.size - 1)) := by
        rw [h1]; unfold cutBA; rw [if_pos (by omega)]; simp
      rw [h3]
      simp only [Option.bind_some, name_eq]
      obtain ⟨b, hb⟩ := named_tot (s.extract 0 (s.size - 1))
      rw [hb]; exact ⟨_, rfl⟩
    · exact ⟨_, rfl⟩
  · exact ⟨_, rfl⟩
theorem checkSig_tot (l : List Symbol) (hN : ∀ s ∈ l, s.Name.size < 4611686018427387904) : ∃ e, term_CheckSig l = some e := by
  rw [← checkSig_eq]
  simp only [r03_CheckSig]
  split
  · exact ⟨_, rfl⟩
  rename_i hlen
  have := wh_tot (step := r03_CheckSig_l0 l) (n := l.length) (fun i hi => ?_) ⟨.inr (l.length : Int), by simp only [r03_CheckSig_l0]; rw [if_neg (by omega)]⟩ l.length 0 (by omega)
  · obtain ⟨r, hr⟩ := this
    simp only [Int.natCast_zero] at hr
    rw [hr]
    cases r <;> exact ⟨_, rfl⟩
  · have hx : l[i]? = some l[i] := List.getElem?_eq_getElem hi
    obtain ⟨y, hd⟩ := dup_eq hx (by omega)
    simp only [r03_CheckSig_l0]
    rw [if_pos (by omega), idx_nat hx]
    obtain ⟨b, hb⟩ := named_tot l[i].Name
    obtain ⟨b', hb'⟩ := marked_tot l[i].Name (hN _ (List.getElem_mem hi))
    have hw : w64 ((i : Int) + 1) = ((i + 1 : Nat) : Int) := by rw [w64_small (by omega) (by omega)]; omega
    simp only [Option.bind_some, name_eq, hb, hb', hd, hw]
    split
    · split
      · exact .inr ⟨_, rfl⟩
      split
      · exact .inr ⟨_, rfl⟩
      split <;> simp
    · split
      · split
        · exact .inr ⟨_, rfl⟩
        split
        · exact .inr ⟨_, rfl⟩
        split <;> simp
      · exact .inr ⟨_, rfl⟩
/-- names that a machine can hold -/
def SigOK (l : List Symbol) : Prop := ∀ s ∈ l, s.Name.size < 4611686018427387904
/-- a row's verdict -/
noncomputable def chk (sig : List Symbol) (t : List Int) : Int := (term_Check sig t).getD 0
theorem chk_eq {sig : List Symbol} {t : List Int} (hS : SigOK sig) (hL : t.length < 17179869184) : term_Check sig t = some (chk sig t) := by
  unfold chk
  obtain ⟨e, he⟩ := checkSig_tot sig hS
  simp only [term_Check, he, Option.bind_some]
  split
  · rw [if_pos (by omega)]; rfl
  · rfl
theorem chk_zero {sig : List Symbol} {t : List Int} (hS : SigOK sig) (hL : t.length < 17179869184) (h : chk sig t = 0) : term_CheckSig sig = some 0 ∧ termRight sig t = 0 := by
  have h1 := chk_eq hS hL
  rw [h] at h1
  obtain ⟨e, he⟩ := checkSig_tot sig hS
  simp only [term_Check, he, Option.bind_some] at h1
  split at h1
  · rename_i h0
    subst h0
    rw [if_pos (by omega)] at h1
    exact ⟨he, Option.some.inj h1⟩
  · rename_i h0; exact absurd (Option.some.inj h1) h0
theorem chk_of {sig : List Symbol} {t : List Int} (hL : t.length < 17179869184) (h : term_CheckSig sig = some 0) (h2 : termRight sig t = 0) : chk sig t = 0 := by
  unfold chk
  simp only [term_Check, h, Option.bind_some, if_true]
  rw [if_pos (by omega), h2]; rfl
/-! ### variants -/
theorem canRow_len : ∀ (l : List Int) (m : List (Int × Int)), (canRow m l).2.length = l.length := by
  intro l
  induction l with
  | nil => intro m; rfl
  | cons c r ih => intro m; simp only [canRow]; split <;> simp [ih]
def Small (t : List Int) : Prop := t.length ≤ 1048576
theorem canon_two {a b : List Int} (ha : Small a) (hb : Small b) : subst_Canon [a, b] = some (canRows [] [a, b]) := by
  unfold Small at ha hb
  simp only [subst_Canon]
  rw [if_pos (by simp), if_pos (by simp; omega)]
theorem Variant_eq {sig : List Symbol} {a b : Rule} (hS : SigOK sig) (h1 : Small a.L) (h2 : Small a.R) (h3 : Small b.L) (h4 : Small b.R) :
    match_Variant sig a b = some (decide ((chk sig a.L = 0 ∧ chk sig a.R = 0) ∧ (chk sig b.L = 0 ∧ chk sig b.R = 0) ∧ canRows [] [a.L, a.R] = canRows [] [b.L, b.R])) := by
  have hsm : ∀ t ∈ [a.L, a.R, b.L, b.R], t.length < 17179869184 := by
    unfold Small at h1 h2 h3 h4
    intro t ht
    simp only [List.mem_cons, List.not_mem_nil, or_false] at ht
    rcases ht with rfl | rfl | rfl | rfl <;> omega
  have hw : wh (match_Variant_l0 sig a b [a.L, a.R, b.L, b.R] a.L a.R b.L b.R) 0 = _ := wh_for0 (l := [a.L, a.R, b.L, b.R]) (g := fun _ t => if chk sig t = 0 then none else some (Sum.inl false : Bool ⊕ Int)) (fin := .inr 4) (fun i t ht => ?_) ?_
  · simp only [match_Variant, hw, canon_two h1 h2, canon_two h3 h4]
    simp only [firstG]
    by_cases c1 : chk sig a.L = 0
    rotate_left
    · simp [c1]
    by_cases c2 : chk sig a.R = 0
    rotate_left
    · simp [c1, c2]
    by_cases c3 : chk sig b.L = 0
    rotate_left
    · simp [c1, c2, c3]
    by_cases c4 : chk sig b.R = 0
    rotate_left
    · simp [c1, c2, c3, c4]
    simp only [c1, c2, c3, c4, if_true, Option.getD_none, Option.bind_some, canRows, and_self, true_and]
    have i0 : ∀ x y : List Int, idx [x, y] 0 = some x := fun _ _ => rfl
    have i1 : ∀ x y : List Int, idx [x, y] 1 = some y := fun _ _ => rfl
    simp only [i0, i1, Option.bind_some]
    unfold Small at h1 h2
    rw [Equal_eq (by rw [canRow_len]; omega), Equal_eq (by rw [canRow_len]; omega)]
    simp only [Option.bind_some, decide_eq_true_eq, List.cons.injEq, and_true]
    by_cases e1 : (canRow [] a.L).2 = (canRow [] b.L).2 <;> simp [e1]
  · have hlt := (List.getElem?_eq_some_iff.1 ht).1
    simp only [List.length_cons, List.length_nil] at hlt
    simp only [match_Variant_l0]
    rw [if_pos (by omega), idx_nat ht]
    simp only [Option.bind_some]
    rw [chk_eq hS (hsm t (List.mem_of_getElem? ht))]
    simp only [Option.bind_some]
    split
    · simp [w64_small (n := (i : Int) + 1) (by omega) (by omega)]
    · rfl
  · simp only [match_Variant_l0]
    rfl
/-! ### the codes of terms -/
theorem right_low {sig : List Symbol} : ∀ (l : List Int) (k : Nat), (rdT sig l k).2 = 0 → (rdT sig l k).1 = [] → ∀ c ∈ l, -1048576 ≤ c := by
  intro l
  induction l with
  | nil => intro k _ _ c hc; cases hc
  | cons a r ih =>
    intro k h h2 c hc
    cases k with
    | zero => simp [rdT] at h2
    | succ k =>
      simp only [rdT] at h h2
      by_cases hx : (sig.length : Int) ≤ a ∨ a < -1048576
      · rw [if_pos hx] at h; simp at h
      · rw [if_neg hx] at h h2
        rcases List.mem_cons.1 hc with rfl | hc
        · omega
        · exact ih _ h h2 c hc
theorem right_codes {sig : List Symbol} {t : List Int} (h : termRight sig t = 0) : ∀ c ∈ t, -1048576 ≤ c := by
  have e : termRight sig t = outc (rdT sig t 1) := rfl
  rw [e] at h
  unfold outc at h
  split at h
  · rename_i h0
    refine right_low t 1 h0 ?_
    unfold stop at h
    split at h
    · assumption
    · cases h
  · rename_i h0; exact absurd h h0
end Ld.Law

import Derived.Test.YtigabemldjdlhaaDoorK2
set_option maxHeartbeats 400000
set_option linter.unusedVariables false
set_option linter.unusedSimpArgs false
namespace Ld.Law
open Go Go.Abs Go.Lib
/-! ### the checks come to an end -/
theorem wh_tot {ρ : Type} {step : Int → Option (Int ⊕ ρ)} {n : Nat} (hs : ∀ i : Nat, i < n → step (i : Int) = some (.inl ((i + 1 : Nat) : Int)) ∨ ∃ r, step (i : Int) = some (.inr r)) (he : ∃ r, step (n : Int) = some (.inr r)) : ∀ (k i : Nat), i + k = n → ∃ r, wh step (i : Int) = some r := by
  intro k
  induction k with
  | zero => intro i h; obtain ⟨r, hr⟩ := he; have : i = n := by omega
            subst this; exact ⟨r, wh_done hr⟩
  | succ k ih =>
    intro i h
    rcases hs i (by omega) with h1 | ⟨r, h1⟩
    · rw [wh_next h1]; exact ih (i + 1) (by omega)
    · exact ⟨r, wh_done h1⟩
theorem named_loop (s : ByteArray) : ∀ (n q : Nat), s.size - q ≤ n → ∃ r, wh (term_named_l0 s s) q = some r := by
  intro n
  induction n with
  | zero => intro q h; exact ⟨_, wh_done (by simp only [term_named_l0]; rw [if_neg (by omega)])⟩
  | succ n ih =>
    intro q h
    by_cases hq : q < s.size
    · obtain ⟨b, hb⟩ := letter_tot ((Utf8.decode s q).1 : Int)
      have hw := decodeL_width (s.data.toList.drop q)
      rw [decodeL_drop] at hw
      have : term_named_l0 s s q = some (.inl (q + (Utf8.decode s q).2)) ∨ ∃ r, term_named_l0 s s q = some (.inr r) := by
        simp only [term_named_l0, if_pos hq, hb, Option.bind_some]
        split
        · exact .inl rfl
        split
        · split
          · split
            · exact .inl rfl
            split
            · exact .inl rfl
            split
            · exact .inl rfl
            · exact .inr ⟨_, rfl⟩
          · split
            · exact .inl rfl
            split
            · exact .inl rfl
            · exact .inr ⟨_, rfl⟩
        · exact .inr ⟨_, rfl⟩
      rcases this with h1 | ⟨r, h1⟩
      · rw [wh_next h1]; exact ih _ (by omega)
      · exact ⟨_, wh_done h1⟩
    · exact ⟨_, wh_done (by simp only [term_named_l0]; rw [if_neg (by omega)])⟩
theorem named_tot (s : ByteArray) : ∃ b, term_named s = some b := by
  simp only [term_named]
  split
  · exact ⟨_, rfl⟩
  split
  · exact ⟨_, rfl⟩
  rename_i h
  rw [unicode_utf8_ValidString, if_pos (by omega)]
  simp only [Option.bind_some]
  split
  · obtain ⟨r, hr⟩ := named_loop s s.size 0 (by omega)
    rw [hr]
    cases r <;> exact ⟨_, rfl⟩
  · exact ⟨_, rfl⟩
theorem marked_tot (s : ByteArray) : s.size < 4611686018427387904 → ∃ b, r03_Marked s = some b := by
  intro hS
  simp only [r03_Marked]
  split
  · rename_i h
    have h1 : w64 ((s.size : Int) - 1) = ((s.size - 1 : Nat) : Int) := by rw [w64_small (by omega) (by omega)]; omega
    have h2 : sidx s (w64 ((s.size : Int) - 1)) = some ((s[s.size - 1]'(by omega)).toNat : Int) := by
      rw [h1]; unfold sidx; rw [if_pos (by omega)]
      simp only [Int.toNat_natCast]
      rw [getElem?_pos s (s.size - 1) (by omega)]; rfl
    rw [h2]
    simp only [Option.bind_some]
    split
    · have h3 : cutBA s 0 (w64 ((s.size : Int) - 1)) = some (s.extract 0 (s.size - 1)) := by
        rw [h1]; unfold cutBA; rw [if_pos (by omega)]; simp
      rw [h3]
      simp only [Option.bind_some, name_eq]
      obtain ⟨b, hb⟩ := named_tot (s.extract 0 (s.size - 1))
      rw [hb]; exact ⟨_, rfl⟩
    · exact ⟨_, rfl⟩
  · exact ⟨_, rfl⟩
theorem checkSig_tot (l : List Symbol) (hN : ∀ s ∈ l, s.Name.size < 4611686018427387904) : ∃ e, term_CheckSig l = some e := by
  rw [← checkSig_eq]
  simp only [r03_CheckSig]
  split
  · exact ⟨_, rfl⟩
  rename_i hlen
  have := wh_tot (step := r03_CheckSig_l0 l) (n := l.length) (fun i hi => ?_) ⟨.inr (l.length : Int), by simp only [r03_CheckSig_l0]; rw [if_neg (by omega)]⟩ l.length 0 (by omega)
  · obtain ⟨r, hr⟩ := this
    simp only [Int.natCast_zero] at hr
    rw [hr]
    cases r <;> exact ⟨_, rfl⟩
  · have hx : l[i]? = some l[i] := List.getElem?_eq_getElem hi
    obtain ⟨y, hd⟩ := dup_eq hx (by omega)
    simp only [r03_CheckSig_l0]
    rw [if_pos (by omega), idx_nat hx]
    obtain ⟨b, hb⟩ := named_tot l[i].Name
    obtain ⟨b', hb'⟩ := marked_tot l[i].Name (hN _ (List.getElem_mem hi))
    have hw : w64 ((i : Int) + 1) = ((i + 1 : Nat) : Int) := by rw [w64_small (by omega) (by omega)]; omega
    simp only [Option.bind_some, name_eq, hb, hb', hd, hw]
    split
    · split
      · exact .inr ⟨_, rfl⟩
      split
      · exact .inr ⟨_, rfl⟩
      split <;> simp
    · split
      · split
        · exact .inr ⟨_, rfl⟩
        split
        · exact .inr ⟨_, rfl⟩
        split <;> simp
      · exact .inr ⟨_, rfl⟩
/-- names that a machine can hold -/
def SigOK (l : List Symbol) : Prop := ∀ s ∈ l, s.Name.size < 4611686018427387904
/-- a row's verdict -/
noncomputable def chk (sig : List Symbol) (t : List Int) : Int := (term_Check sig t).getD 0
theorem chk_eq {sig : List Symbol} {t : List Int} (hS : SigOK sig) (hL : t.length < 17179869184) : term_Check sig t = some (chk sig t) := by
  unfold chk
  obtain ⟨e, he⟩ := checkSig_tot sig hS
  simp only [term_Check, he, Option.bind_some]
  split
  · rw [if_pos (by omega)]; rfl
  · rfl
theorem chk_zero {sig : List Symbol} {t : List Int} (hS : SigOK sig) (hL : t.length < 17179869184) (h : chk sig t = 0) : term_CheckSig sig = some 0 ∧ termRight sig t = 0 := by
  have h1 := chk_eq hS hL
  rw [h] at h1
  obtain ⟨e, he⟩ := checkSig_tot sig hS
  simp only [term_Check, he, Option.bind_some] at h1
  split at h1
  · rename_i h0
    subst h0
    rw [if_pos (by omega)] at h1
    exact ⟨he, Option.some.inj h1⟩
  · rename_i h0; exact absurd (Option.some.inj h1) h0
theorem chk_of {sig : List Symbol} {t : List Int} (hL : t.length < 17179869184) (h : term_CheckSig sig = some 0) (h2 : termRight sig t = 0) : chk sig t = 0 := by
  unfold chk
  simp only [term_Check, h, Option.bind_some, if_true]
  rw [if_pos (by omega), h2]; rfl
/-! ### variants -/
theorem canRow_len : ∀ (l : List Int) (m : List (Int × Int)), (canRow m l).2.length = l.length := by
  intro l
  induction l with
  | nil => intro m; rfl
  | cons c r ih => intro m; simp only [canRow]; split <;> simp [ih]
def Small (t : List Int) : Prop := t.length ≤ 1048576
theorem canon_two {a b : List Int} (ha : Small a) (hb : Small b) : subst_Canon [a, b] = some (canRows [] [a, b]) := by
  unfold Small at ha hb
  simp only [subst_Canon]
  rw [if_pos (by simp), if_pos (by simp; omega)]
theorem Variant_eq {sig : List Symbol} {a b : Rule} (hS : SigOK sig) (h1 : Small a.L) (h2 : Small a.R) (h3 : Small b.L) (h4 : Small b.R) :
    match_Variant sig a b = some (decide ((chk sig a.L = 0 ∧ chk sig a.R = 0) ∧ (chk sig b.L = 0 ∧ chk sig b.R = 0) ∧ canRows [] [a.L, a.R] = canRows [] [b.L, b.R])) := by
  have hsm : ∀ t ∈ [a.L, a.R, b.L, b.R], t.length < 17179869184 := by
    unfold Small at h1 h2 h3 h4
    intro t ht
    simp only [List.mem_cons, List.not_mem_nil, or_false] at ht
    rcases ht with rfl | rfl | rfl | rfl <;> omega
  have hw : wh (match_Variant_l0 sig a b [a.L, a.R, b.L, b.R] a.L a.R b.L b.R) 0 = _ := wh_for0 (l := [a.L, a.R, b.L, b.R]) (g := fun _ t => if chk sig t = 0 then none else some (Sum.inl false : Bool ⊕ Int)) (fin := .inr 4) (fun i t ht => ?_) ?_
  · simp only [match_Variant, hw, canon_two h1 h2, canon_two h3 h4]
    simp only [firstG]
    by_cases c1 : chk sig a.L = 0
    rotate_left
    · simp [c1]
    by_cases c2 : chk sig a.R = 0
    rotate_left
    · simp [c1, c2]
    by_cases c3 : chk sig b.L = 0
    rotate_left
    · simp [c1, c2, c3]
    by_cases c4 : chk sig b.R = 0
    rotate_left
    · simp [c1, c2, c3, c4]
    simp only [c1, c2, c3, c4, if_true, Option.getD_none, Option.bind_some, canRows, and_self, true_and]
    have i0 : ∀ x y : List Int, idx [x, y] 0 = some x := fun _ _ => rfl
    have i1 : ∀ x y : List Int, idx [x, y] 1 = some y := fun _ _ => rfl
    simp only [i0, i1, Option.bind_some]
    unfold Small at h1 h2
    rw [Equal_eq (by rw [canRow_len]; omega), Equal_eq (by rw [canRow_len]; omega)]
    simp only [Option.bind_some, decide_eq_true_eq, List.cons.injEq, and_true]
    by_cases e1 : (canRow [] a.L).2 = (canRow [] b.L).2 <;> simp [e1]
  · have hlt := (List.getElem?_eq_some_iff.1 ht).1
    simp only [List.length_cons, List.length_nil] at hlt
    simp only [match_Variant_l0]
    rw [if_pos (by omega), idx_nat ht]
    simp only [Option.bind_some]
    rw [chk_eq hS (hsm t (List.mem_of_getElem? ht))]
    simp only [Option.bind_some]
    split
    · simp [w64_small (n := (i : Int) + 1) (by omega) (by omega)]
    · rfl
  · simp only [match_Variant_l0]
    rfl
/-! ### shifting -/
def shC (n c : Int) : Int := if 0 ≤ c then c else c - n
/-- a row's variables may be raised so far -/
def ShOK (n : Int) (l : List Int) : Prop := ∀ c ∈ l, c < 0 → c - n < 0 ∧ -1048576 ≤ c - n
theorem mget_sh (n c : Int) : ∀ m : List (Int × Int), mget (m.map fun p => (p.1 - n, p.2)) (c - n) = mget m c := by
  intro m
  induction m with
  | nil => rfl
  | cons p r ih =>
    simp only [List.map_cons, mget]
    by_cases h : c = p.1
    · rw [if_pos h, if_pos (by omega)]
    · rw [if_neg h, if_neg (by omega)]; exact ih
theorem mset_sh (n c v : Int) : ∀ m : List (Int × Int), mset (m.map fun p => (p.1 - n, p.2)) (c - n) v = (mset m c v).map fun p => (p.1 - n, p.2) := by
  intro m
  induction m with
  | nil => rfl
  | cons p r ih =>
    simp only [List.map_cons, mset]
    by_cases h : c = p.1
    · rw [if_pos h, if_pos (by omega)]; rfl
    · rw [if_neg h, if_neg (by omega), ih]; rfl
theorem canNum_sh (n c : Int) (m : List (Int × Int)) : canNum (m.map fun p => (p.1 - n, p.2)) (c - n) = (canNum m c).map fun p => (p.1 - n, p.2) := by
  simp only [canNum, mget_sh]
  cases mget m c with
  | none => simp only [List.length_map]; rw [mset_sh]
  | some _ => rfl
theorem canRow_sh {n : Int} : ∀ (l : List Int) (m : List (Int × Int)), ShOK n l → canRow (m.map fun p => (p.1 - n, p.2)) (l.map (shC n)) = ((canRow m l).1.map fun p => (p.1 - n, p.2), (canRow m l).2) := by
  intro l
  induction l with
  | nil => intro m _; rfl
  | cons c r ih =>
    intro m h
    have hr : ShOK n r := fun c hc => h c (List.mem_cons_of_mem _ hc)
    simp only [List.map_cons, canRow, shC]
    by_cases h0 : 0 ≤ c
    · simp only [h0, if_true]
      rw [ih m hr]
    · have h1 := (h c (List.mem_cons_self) (by omega)).1
      simp only [if_neg h0, if_neg (show ¬ 0 ≤ c - n by omega)]
      rw [canNum_sh, ih _ hr, mget_sh]
theorem canRows_sh {n : Int} : ∀ (l : List (List Int)) (m : List (Int × Int)), (∀ t ∈ l, ShOK n t) → canRows (m.map fun p => (p.1 - n, p.2)) (l.map fun t => t.map (shC n)) = canRows m l := by
  intro l
  induction l with
  | nil => intro m _; rfl
  | cons t r ih =>
    intro m h
    simp only [List.map_cons, canRows, canRow_sh t m (h t List.mem_cons_self)]
    rw [ih _ (fun t ht => h t (List.mem_cons_of_mem _ ht))]
theorem rdT_sh {sig : List Symbol} {n : Int} : ∀ (l : List Int) (k : Nat), ShOK n l → (rdT sig l k).2 = 0 → rdT sig (l.map (shC n)) k = ((rdT sig l k).1.map (shC n), 0) := by
  intro l
  induction l with
  | nil => intro k _ h; cases k with | zero => rfl | succ k => simp [rdT] at h
  | cons c r ih =>
    intro k hs h
    cases k with
    | zero => rfl
    | succ k =>
      have hr : ShOK n r := fun c hc => hs c (List.mem_cons_of_mem _ hc)
      simp only [List.map_cons, rdT] at h ⊢
      by_cases hc : (sig.length : Int) ≤ c ∨ c < -1048576
      · rw [if_pos hc] at h; simp at h
      · rw [if_neg hc] at h ⊢
        by_cases h0 : 0 ≤ c
        · have e : shC n c = c := by unfold shC; rw [if_pos h0]
          rw [e, if_neg hc]; exact ih _ hr h
        · have e : shC n c = c - n := by unfold shC; rw [if_neg h0]
          have h1 := hs c List.mem_cons_self (by omega)
          have ea : arOf sig (c - n) = arOf sig c := by unfold arOf; rw [if_neg h0, if_neg (by omega)]
          rw [e, if_neg (by omega), ea]; exact ih _ hr h
theorem right_sh {sig : List Symbol} {n : Int} {t : List Int} (hs : ShOK n t) (h : termRight sig t = 0) : termRight sig (t.map (shC n)) = 0 := by
  have e : ∀ t, termRight sig t = outc (rdT sig t 1) := fun _ => rfl
  rw [e] at h ⊢
  unfold outc at h ⊢
  have h0 : (rdT sig t 1).2 = 0 := by
    by_cases h0 : (rdT sig t 1).2 = 0
    · exact h0
    · rw [if_neg h0] at h; exact h
  rw [if_pos h0] at h
  rw [rdT_sh t 1 hs h0]
  simp only [if_true]
  unfold stop at h ⊢
  split at h
  · rename_i hn; rw [hn]; rfl
  · cases h
theorem right_low {sig : List Symbol} : ∀ (l : List Int) (k : Nat), (rdT sig l k).2 = 0 → (rdT sig l k).1 = [] → ∀ c ∈ l, -1048576 ≤ c := by
  intro l
  induction l with
  | nil => intro k _ _ c hc; cases hc
  | cons a r ih =>
    intro k h h2 c hc
    cases k with
    | zero => simp [rdT] at h2
    | succ k =>
      simp only [rdT] at h h2
      by_cases hx : (sig.length : Int) ≤ a ∨ a < -1048576
      · rw [if_pos hx] at h; simp at h
      · rw [if_neg hx] at h h2
        rcases List.mem_cons.1 hc with rfl | hc
        · omega
        · exact ih _ h h2 c hc
theorem right_codes {sig : List Symbol} {t : List Int} (h : termRight sig t = 0) : ∀ c ∈ t, -1048576 ≤ c := by
  have e : termRight sig t = outc (rdT sig t 1) := rfl
  rw [e] at h
  unfold outc at h
  split at h
  · rename_i h0
    refine right_low t 1 h0 ?_
    unfold stop at h
    split at h
    · assumption
    · cases h
  · rename_i h0; exact absurd h h0
/-- what the reference's shift gives -/
theorem Shift_eq {t : List Int} {n : Int} (hn : -9223372036854775808 ≤ n ∧ n ≤ 9223372036854775807) (hL : Small t) (hlow : ∀ c ∈ t, -1048576 ≤ c) : ∃ x, r04_Shift t n = some x ∧ (x.2 = 0 → x.1 = t.map (shC n) ∧ ShOK n t) := by
  unfold Small at hL
  have key : ∀ (k i : Nat), i + k = t.length → (∀ c ∈ t.take i, c < 0 → c - n < 0 ∧ -1048576 ≤ c - n) → ∃ x, wh (r04_Shift_l0 t n []) ((i : Int), (t.take i).map (shC n)) = some x ∧ (match x with | .inl y => y.2 = 40 | .inr y => y.2 = t.map (shC n) ∧ ShOK n t) := by
    intro k
    induction k with
    | zero =>
      intro i h hI
      have : i = t.length := by omega
      subst this
      refine ⟨.inr _, wh_done (by simp only [r04_Shift_l0]; rw [if_neg (by omega)]), ?_⟩
      rw [List.take_length] at hI ⊢
      exact ⟨rfl, hI⟩
    | succ k ih =>
      intro i h hI
      have hlt : i < t.length := by omega
      have hx : t[i]? = some t[i] := List.getElem?_eq_getElem hlt
      have hlo := hlow _ (List.getElem_mem hlt)
      have htk : t.take (i + 1) = t.take i ++ [t[i]] := by rw [List.take_add_one, hx]; rfl
      have hlen : (List.map (shC n) (List.take i t)).length = i := by rw [List.length_map, List.length_take]; omega
      have hw : w64 ((i : Int) + 1) = ((i + 1 : Nat) : Int) := by rw [w64_small (by omega) (by omega)]; omega
      have hgo : (t[i] < 0 → t[i] - n < 0 ∧ -1048576 ≤ t[i] - n) → ∃ x, wh (r04_Shift_l0 t n []) (((i + 1 : Nat) : Int), (t.take i).map (shC n) ++ [shC n t[i]]) = some x ∧ (match x with | .inl y => y.2 = 40 | .inr y => y.2 = t.map (shC n) ∧ ShOK n t) := by
        intro hc
        have := ih (i + 1) (by omega) (by
          intro c hc' hneg
          rw [htk] at hc'
          rcases List.mem_append.1 hc' with h1 | h1
          · exact hI c h1 hneg
          · rw [List.mem_singleton] at h1; subst h1; exact hc hneg)
        rw [htk, List.map_append] at this
        exact this
      by_cases h0 : 0 ≤ t[i]
      · have hs : shC n t[i] = t[i] := by unfold shC; rw [if_pos h0]
        have hr : r04_Shift_l0 t n [] ((i : Int), (t.take i).map (shC n)) = some (.inl (((i + 1 : Nat) : Int), (t.take i).map (shC n) ++ [shC n t[i]])) := by
          simp only [r04_Shift_l0]
          rw [if_pos (by omega), idx_nat hx]
          simp only [Option.bind_some]
          rw [if_pos h0, if_pos (by rw [hlen]; omega), hw, hs]
        rw [wh_next hr]
        exact hgo (fun h => by omega)
      · have hs : shC n t[i] = t[i] - n := by unfold shC; rw [if_neg h0]
        have hv : w64 (-1 - t[i]) = -1 - t[i] := w64_small (by omega) (by omega)
        by_cases hbig : 1048576 ≤ n
        · refine ⟨.inl ([], 40), wh_done ?_, rfl⟩
          simp only [r04_Shift_l0]
          rw [if_pos (by omega), idx_nat hx]
          simp only [Option.bind_some]
          rw [if_neg h0, if_pos hbig]
        have hvn : w64 (-1 - t[i] + n) = -1 - t[i] + n := by
          unfold w64; rw [IntKind.wrap_i64]; omega
        by_cases hok : t[i] - n < 0 ∧ -1048576 ≤ t[i] - n
        · have hr : r04_Shift_l0 t n [] ((i : Int), (t.take i).map (shC n)) = some (.inl (((i + 1 : Nat) : Int), (t.take i).map (shC n) ++ [shC n t[i]])) := by
            have hb : w64 (-1 - (-1 - t[i] + n)) = t[i] - n := by rw [w64_small (by omega) (by omega)]; omega
            simp only [r04_Shift_l0]
            rw [if_pos (by omega), idx_nat hx]
            simp only [Option.bind_some, hv, hvn, hb]
            rw [if_neg h0, if_neg hbig]
            by_cases hp : 0 ≤ n
            · rw [if_pos hp, w64_small (n := 1048576 - n) (by omega) (by omega), if_neg (by omega), if_neg (by omega), if_neg (by omega), if_pos (by rw [hlen]; omega), hw, hs]
            · rw [if_neg hp, if_neg (by omega), if_neg (by omega), if_pos (by rw [hlen]; omega), hw, hs]
          rw [wh_next hr]
          exact hgo (fun _ => hok)
        · refine ⟨.inl ([], 40), wh_done ?_, rfl⟩
          simp only [r04_Shift_l0]
          rw [if_pos (by omega), idx_nat hx]
          simp only [Option.bind_some, hv, hvn]
          rw [if_neg h0, if_neg hbig]
          by_cases hp : 0 ≤ n
          · rw [if_pos hp, w64_small (n := 1048576 - n) (by omega) (by omega)]
            rw [if_pos (by omega)]
          · rw [if_neg hp]
            by_cases hq : -1 - t[i] + n < 0
            · rw [if_pos hq]
            · rw [if_neg hq, if_pos (by omega)]
  obtain ⟨x, hx, h⟩ := key t.length 0 (by omega) (by intro c hc; simp at hc)
  simp only [r04_Shift]
  simp only [List.take_zero, List.map_nil, Int.natCast_zero] at hx
  rw [hx]
  cases x with
  | inl y => exact ⟨y, rfl, fun e => by simp only at h; rw [h] at e; cases e⟩
  | inr y => obtain ⟨a, b⟩ := y; exact ⟨(b, 0), rfl, fun _ => h⟩
/-! ### the law of kinds -/
theorem kinds {sig : List Symbol} {a1 : Rule × Rule × Rule} {n : Int} (hsh : l05_shown = some true) (hS : SigOK sig) (hn : -9223372036854775808 ≤ n ∧ n ≤ 9223372036854775807)
    (h1 : Small a1.1.L) (h2 : Small a1.1.R) (h3 : Small a1.2.1.L) (h4 : Small a1.2.1.R) (h5 : Small a1.2.2.L) (h6 : Small a1.2.2.R) : l05_MatchKinds sig a1 n = some true := by
  have sm : ∀ t : List Int, Small t → t.length < 17179869184 := fun t h => by unfold Small at h; omega
  simp only [l05_MatchKinds, hsh, Option.bind_some, check_eq (sm _ h1), check_eq (sm _ h2), chk_eq hS (sm _ h1), chk_eq hS (sm _ h2), if_true]
  by_cases c1 : chk sig a1.1.L = 0
  rotate_left
  · rw [if_neg c1]
  by_cases c2 : chk sig a1.1.R = 0
  rotate_left
  · rw [if_pos c1, if_neg c2]
  rw [if_pos c1, if_pos c2]
  obtain ⟨k0, r1⟩ := chk_zero hS (sm _ h1) c1
  obtain ⟨_, r2⟩ := chk_zero hS (sm _ h2) c2
  obtain ⟨x, hx, hx'⟩ := Shift_eq hn h1 (right_codes r1)
  obtain ⟨y, hy, hy'⟩ := Shift_eq hn h2 (right_codes r2)
  have v12 := Variant_eq hS h1 h2 h3 h4
  have v21 := Variant_eq hS h3 h4 h1 h2
  have v23 := Variant_eq hS h3 h4 h5 h6
  have v13 := Variant_eq hS h1 h2 h5 h6
  have v11 : match_Variant sig a1.1 a1.1 = some true := by
    rw [Variant_eq hS h1 h2 h1 h2]
    exact congrArg some (decide_eq_true ⟨⟨c1, c2⟩, ⟨c1, c2⟩, rfl⟩)
  rw [v11, v12, v21, v23, v13, hx, hy]
  simp only [Option.bind_some]
  simp only [if_true]
  have last : (if (decide ((chk sig a1.1.L = 0 ∧ chk sig a1.1.R = 0) ∧ (chk sig a1.2.1.L = 0 ∧ chk sig a1.2.1.R = 0) ∧ canRows [] [a1.1.L, a1.1.R] = canRows [] [a1.2.1.L, a1.2.1.R]) == decide ((chk sig a1.2.1.L = 0 ∧ chk sig a1.2.1.R = 0) ∧ (chk sig a1.1.L = 0 ∧ chk sig a1.1.R = 0) ∧ canRows [] [a1.2.1.L, a1.2.1.R] = canRows [] [a1.1.L, a1.1.R])) = true then
      if decide ((chk sig a1.1.L = 0 ∧ chk sig a1.1.R = 0) ∧ (chk sig a1.2.1.L = 0 ∧ chk sig a1.2.1.R = 0) ∧ canRows [] [a1.1.L, a1.1.R] = canRows [] [a1.2.1.L, a1.2.1.R]) = true then
        if decide ((chk sig a1.2.1.L = 0 ∧ chk sig a1.2.1.R = 0) ∧ (chk sig a1.2.2.L = 0 ∧ chk sig a1.2.2.R = 0) ∧ canRows [] [a1.2.1.L, a1.2.1.R] = canRows [] [a1.2.2.L, a1.2.2.R]) = true then
          some (decide ((chk sig a1.1.L = 0 ∧ chk sig a1.1.R = 0) ∧ (chk sig a1.2.2.L = 0 ∧ chk sig a1.2.2.R = 0) ∧ canRows [] [a1.1.L, a1.1.R] = canRows [] [a1.2.2.L, a1.2.2.R]))
        else some true
      else some true
    else some false) = some true := by
    generalize canRows [] [a1.1.L, a1.1.R] = A
    generalize canRows [] [a1.2.1.L, a1.2.1.R] = B
    generalize canRows [] [a1.2.2.L, a1.2.2.R] = D
    have e1 : (decide ((chk sig a1.1.L = 0 ∧ chk sig a1.1.R = 0) ∧ (chk sig a1.2.1.L = 0 ∧ chk sig a1.2.1.R = 0) ∧ A = B)) = decide ((chk sig a1.2.1.L = 0 ∧ chk sig a1.2.1.R = 0) ∧ (chk sig a1.1.L = 0 ∧ chk sig a1.1.R = 0) ∧ B = A) :=
      decide_eq_decide.2 ⟨fun ⟨a, b, c⟩ => ⟨b, a, c.symm⟩, fun ⟨a, b, c⟩ => ⟨b, a, c.symm⟩⟩
    rw [if_pos (by rw [e1]; exact beq_self_eq_true _)]
    split
    · rename_i d1
      split
      · rename_i d2
        rw [decide_eq_true_eq] at d1 d2
        rw [decide_eq_true (by exact ⟨d1.1, d2.2.1, d1.2.2.trans d2.2.2⟩)]
      · rfl
    · rfl
  by_cases z1 : x.2 = 0
  rotate_left
  · rw [if_neg z1]; exact last
  by_cases z2 : y.2 = 0
  rotate_left
  · rw [if_pos z1, if_neg z2]; exact last
  rw [if_pos z1, if_pos z2]
  obtain ⟨ex, sx⟩ := hx' z1
  obtain ⟨ey, sy⟩ := hy' z2
  have s1 : Small x.1 := by rw [ex]; unfold Small; rw [List.length_map]; exact h1
  have s2 : Small y.1 := by rw [ey]; unfold Small; rw [List.length_map]; exact h2
  have hc : canRows [] [x.1, y.1] = canRows [] [a1.1.L, a1.1.R] := by
    rw [ex, ey]
    exact canRows_sh [a1.1.L, a1.1.R] [] (by
      intro t ht
      simp only [List.mem_cons, List.not_mem_nil, or_false] at ht
      rcases ht with rfl | rfl
      · exact sx
      · exact sy)
  have d1 : chk sig x.1 = 0 := chk_of (sm _ s1) k0 (by rw [ex]; exact right_sh sx r1)
  have d2 : chk sig y.1 = 0 := chk_of (sm _ s2) k0 (by rw [ey]; exact right_sh sy r2)
  have w1 := Variant_eq (a := a1.1) (b := Rule.mk x.1 y.1) hS h1 h2 s1 s2
  have w2 := Variant_eq (a := Rule.mk x.1 y.1) (b := a1.1) hS s1 s2 h1 h2
  rw [w1, w2]
  simp only [Option.bind_some]
  rw [decide_eq_true (by exact ⟨⟨c1, c2⟩, ⟨d1, d2⟩, hc.symm⟩), decide_eq_true (by exact ⟨⟨d1, d2⟩, ⟨c1, c2⟩, hc⟩)]
  simp only [if_true]
  exact last
end Ld.Law

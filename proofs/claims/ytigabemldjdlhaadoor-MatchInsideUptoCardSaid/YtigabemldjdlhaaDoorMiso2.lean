import Derived.Test.YtigabemldjdlhaaDoorMiso1
set_option maxHeartbeats 400000
set_option linter.unusedVariables false
set_option linter.unusedSimpArgs false
namespace Ld.SoB
open Go Go.Abs Go.Sort
variable {lt : Bind → Bind → Bool} (hcmp : ∀ a b, ∃ n, match_Match_c1 a b = some n ∧ (n < 0 ↔ lt a b = true))
section
/-! partial insertion -/
theorem scanSorted_rng (d : Array Bind) (b : Nat) : ∀ (n i : Nat), b - i ≤ n → i ≤ b → i ≤ scanSorted lt d b i ∧ scanSorted lt d b i ≤ b := by
  intro n
  induction n with
  | zero => intro i hn hi; rw [scanSorted, if_neg (by simp; omega)]; omega
  | succ n ih =>
    intro i hn hi
    rw [scanSorted]
    split
    · rename_i h
      simp only [Bool.and_eq_true, decide_eq_true_eq] at h
      have := ih (i + 1) (by omega) (by omega)
      omega
    · omega
include hcmp in
theorem scanSorted_eq (a b : Nat) (s10 : Int) {d : Array Bind} (hb : b ≤ d.size) (hs : Sm d.size) : ∀ (n i : Nat), b - i ≤ n → 1 ≤ i → i ≤ b → wh (slices_partialInsertionSort_Bm_l1 (a : Int) (b : Int) s10 d.toList) (i : Int) = some ((scanSorted lt d b i : Nat) : Int) := by
  intro n
  induction n with
  | zero =>
    intro i hn h1 hi
    refine wh_done ?_
    simp only [slices_partialInsertionSort_Bm_l1]
    rw [if_neg (by omega), scanSorted, if_neg (by simp; omega)]
  | succ n ih =>
    intro i hn h1 hi
    by_cases hlt : i < b
    · have step : slices_partialInsertionSort_Bm_l1 (a : Int) (b : Int) s10 d.toList (i : Int) = if lt d[i]! d[i - 1]! = true then some (.inr (i : Int)) else some (.inl ((i + 1 : Nat) : Int)) := by
        simp only [slices_partialInsertionSort_Bm_l1]
        rw [if_pos (by omega), wN (x := (i : Int) - 1) (n := i - 1) (by omega) (by omega), wN (x := (i : Int) + 1) (n := i + 1) (by omega) (by omega), idxA (show i < d.size by omega), idxA (show i - 1 < d.size by omega)]
        simp only [Option.bind_some, cmpIf hcmp]
      rw [scanSorted]
      by_cases hc : lt d[i]! d[i - 1]! = true
      · rw [if_pos hc] at step
        rw [wh_done step, if_neg (by simp [hc])]
      · rw [if_neg hc] at step
        rw [wh_next step, if_pos (by simp [hlt, hc])]
        exact ih (i + 1) (by omega) (by omega) (by omega)
    · refine wh_done ?_
      simp only [slices_partialInsertionSort_Bm_l1]
      rw [if_neg (by omega), scanSorted, if_neg (by simp; omega)]
theorem shiftDown_sz : ∀ (j : Nat) (d : Array Bind), (shiftDown lt j d).size = d.size := by
  intro j
  induction j with
  | zero => intro d; rfl
  | succ j ih => intro d; simp only [shiftDown]; split <;> simp [ih, swp_sz]
include hcmp in
theorem shiftDown_eq (a b : Nat) (s9 s10 : Int) : ∀ (j : Nat) (d : Array Bind), j < d.size → Sm d.size → wh (slices_partialInsertionSort_Bm_l2 (a : Int) (b : Int) s9 s10) ((j : Int), d.toList) = some (shiftDown lt j d).toList := by
  intro j
  induction j with
  | zero =>
    intro d _ _
    refine wh_done ?_
    simp only [slices_partialInsertionSort_Bm_l2]
    rw [if_neg (by omega)]; rfl
  | succ j ih =>
    intro d hj hs
    have step : slices_partialInsertionSort_Bm_l2 (a : Int) (b : Int) s9 s10 (((j + 1 : Nat) : Int), d.toList) = if lt d[j + 1]! d[j]! = true then some (.inl ((j : Int), (swp d (j + 1) j).toList)) else some (.inr d.toList) := by
      simp only [slices_partialInsertionSort_Bm_l2]
      rw [if_pos (by omega), wN (x := ((j + 1 : Nat) : Int) - 1) (n := j) (by omega) (by omega), idxA hj, idxA (show j < d.size by omega)]
      simp only [Option.bind_some, cmpIf hcmp, swpB hj (show j < d.size by omega) (k := fun l => some (Sum.inl ((j : Int), l)))]
    by_cases hc : lt d[j + 1]! d[j]! = true
    · rw [if_pos hc] at step
      rw [wh_next step, shiftDown, if_neg (by simp [hc])]
      exact ih _ (by rw [swp_sz]; omega) (by rw [swp_sz]; exact hs)
    · rw [if_neg hc] at step
      rw [wh_done step, shiftDown, if_pos (by simpa using hc)]
theorem shiftUp_sz (b : Nat) : ∀ (n j : Nat) (d : Array Bind), b - j ≤ n → (shiftUp lt b j d).size = d.size := by
  intro n
  induction n with
  | zero => intro j d hn; rw [shiftUp, if_neg (by omega)]
  | succ n ih =>
    intro j d hn
    rw [shiftUp]
    split
    · split
      · rfl
      · rw [ih _ _ (by omega), swp_sz]
    · rfl
include hcmp in
theorem shiftUp_eq (a b : Nat) (s9 s10 : Int) : ∀ (n j : Nat) (d : Array Bind), b - j ≤ n → 1 ≤ j → b ≤ d.size → Sm d.size → j ≤ d.size + 1 → wh (slices_partialInsertionSort_Bm_l3 (a : Int) (b : Int) s9 s10) ((j : Int), d.toList) = some (shiftUp lt b j d).toList := by
  intro n
  induction n with
  | zero =>
    intro j d hn h1 hb hs hj
    refine wh_done ?_
    simp only [slices_partialInsertionSort_Bm_l3]
    rw [if_neg (by omega), shiftUp, if_neg (by omega)]
  | succ n ih =>
    intro j d hn h1 hb hs hj
    by_cases hlt : j < b
    · have b1 : j < d.size := by omega
      have b2 : j - 1 < d.size := by omega
      have step : slices_partialInsertionSort_Bm_l3 (a : Int) (b : Int) s9 s10 ((j : Int), d.toList) = if lt d[j]! d[j - 1]! = true then some (.inl (((j + 1 : Nat) : Int), (swp d j (j - 1)).toList)) else some (.inr d.toList) := by
        simp only [slices_partialInsertionSort_Bm_l3]
        rw [if_pos (by omega), wN (x := (j : Int) - 1) (n := j - 1) (by omega) (by omega), wN (x := (j : Int) + 1) (n := j + 1) (by omega) (by omega), idxA b1, idxA b2]
        simp only [Option.bind_some, cmpIf hcmp, swpB b1 b2 (k := fun l => some (Sum.inl (((j + 1 : Nat) : Int), l)))]
      rw [shiftUp, if_pos hlt]
      by_cases hc : lt d[j]! d[j - 1]! = true
      · rw [if_pos hc] at step
        rw [wh_next step, if_neg (by simp [hc])]
        exact ih (j + 1) _ (by omega) (by omega) (by rw [swp_sz]; exact hb) (by rw [swp_sz]; exact hs) (by rw [swp_sz]; omega)
      · rw [if_neg hc] at step
        rw [wh_done step, if_pos (by simpa using hc)]
    · refine wh_done ?_
      simp only [slices_partialInsertionSort_Bm_l3]
      rw [if_neg (by omega), shiftUp, if_neg hlt]
include hcmp in
theorem partialIns_eq {a b : Nat} (hab : a < b) : ∀ (s i : Nat) (d : Array Bind), s ≤ 5 → a < i → i ≤ b → b ≤ d.size → Sm d.size → ∃ x, wh (slices_partialInsertionSort_Bm_l0 (a : Int) (b : Int)) ((i : Int), ((5 - s : Nat) : Int), d.toList) = some x ∧
    (match x with | .inl p => p | .inr q => (false, q.2.2)) = ((partialIns lt a b s i d).2, (partialIns lt a b s i d).1.toList) := by
  intro s
  induction s with
  | zero =>
    intro i d _ h1 h2 hb hs
    refine ⟨_, wh_done (r := .inr ((i : Int), ((5 - 0 : Nat) : Int), d.toList)) ?_, rfl⟩
    simp only [slices_partialInsertionSort_Bm_l0]
    rw [if_neg (by omega)]
  | succ s ih =>
    intro i d h5 h1 h2 hb hs
    have hsc := scanSorted_rng (lt := lt) d b (b - i) i (Nat.le_refl _) h2
    have hsq := scanSorted_eq hcmp a b ((5 - (s + 1) : Nat) : Int) hb hs (b - i) i (Nat.le_refl _) (by omega) h2
    simp only [partialIns]
    generalize hk : scanSorted lt d b i = k at hsc hsq ⊢
    have base : slices_partialInsertionSort_Bm_l0 (a : Int) (b : Int) ((i : Int), ((5 - (s + 1) : Nat) : Int), d.toList) =
        if k = b then some (.inr (.inl (true, d.toList))) else if b - a < 50 then some (.inr (.inl (false, d.toList))) else
          some (.inl ((k : Int), ((5 - s : Nat) : Int), ((fun d1 => if b - k ≥ 2 then shiftUp lt b (k + 1) d1 else d1) ((fun d1 => if k - a ≥ 2 then shiftDown lt (k - 1) d1 else d1) (swp d k (k - 1)))).toList)) := by
      simp only [slices_partialInsertionSort_Bm_l0]
      rw [if_pos (by omega), hsq]
      simp only [Option.bind_some]
      by_cases hkb : k = b
      · rw [if_pos (by omega), if_pos hkb]
      rw [if_neg (by omega), if_neg hkb, wN (x := (b : Int) - (a : Int)) (n := b - a) (by omega) (by omega)]
      by_cases h50 : b - a < 50
      · rw [if_pos (by omega), if_pos h50]
      rw [if_neg (by omega), if_neg h50]
      have b1 : k < d.size := by omega
      have b2 : k - 1 < d.size := by omega
      rw [wN (x := (k : Int) - 1) (n := k - 1) (by omega) (by omega), wN (x := (k : Int) + 1) (n := k + 1) (by omega) (by omega), idxA b1, idxA b2]
      obtain ⟨y, hy⟩ := idxS (d := d) (i := k - 1) (x := d[k - 1]!) (n := k) b2
      simp only [Option.bind_some, Int.toNat_natCast, hy, swpA b1 b2]
      rw [wN (x := (k : Int) - (a : Int)) (n := k - a) (by omega) (by omega), wN (x := (b : Int) - (k : Int)) (n := b - k) (by omega) (by omega), wN (x := ((5 - (s + 1) : Nat) : Int) + 1) (n := 5 - s) (by omega) (by omega)]
      have hz : (swp d k (k - 1)).size = d.size := swp_sz _ _ _
      by_cases c1 : k - a ≥ 2
      · rw [if_pos (by omega), if_pos c1, shiftDown_eq hcmp a b _ _ (k - 1) _ (by rw [hz]; omega) (by rw [hz]; exact hs)]
        simp only [Option.bind_some]
        have hz2 := shiftDown_sz (lt := lt) (k - 1) (swp d k (k - 1))
        by_cases c2 : b - k ≥ 2
        · rw [if_pos (by omega), if_pos c2, shiftUp_eq hcmp a b _ _ (b - (k + 1)) (k + 1) _ (Nat.le_refl _) (by omega) (by rw [hz2, hz]; exact hb) (by rw [hz2, hz]; exact hs) (by rw [hz2, hz]; omega)]
          rfl
        · rw [if_neg (by omega), if_neg c2]
      · rw [if_neg (by omega), if_neg c1]
        by_cases c2 : b - k ≥ 2
        · rw [if_pos (by omega), if_pos c2, shiftUp_eq hcmp a b _ _ (b - (k + 1)) (k + 1) _ (Nat.le_refl _) (by omega) (by rw [hz]; exact hb) (by rw [hz]; exact hs) (by rw [hz]; omega)]
          rfl
        · rw [if_neg (by omega), if_neg c2]
    by_cases hkb : k = b
    · rw [if_pos hkb] at base
      refine ⟨_, wh_done base, ?_⟩
      rw [if_pos hkb]
    rw [if_neg hkb] at base
    rw [if_neg hkb]
    by_cases h50 : b - a < 50
    · rw [if_pos h50] at base
      refine ⟨_, wh_done base, ?_⟩
      rw [if_pos h50]
    rw [if_neg h50] at base
    rw [if_neg h50, wh_next base]
    have hz : ((fun d1 => if b - k ≥ 2 then shiftUp lt b (k + 1) d1 else d1) ((fun d1 => if k - a ≥ 2 then shiftDown lt (k - 1) d1 else d1) (swp d k (k - 1)))).size = d.size := by
      have e1 : ((fun d1 => if k - a ≥ 2 then shiftDown lt (k - 1) d1 else d1) (swp d k (k - 1))).size = d.size := by
        simp only []
        split
        · rw [shiftDown_sz, swp_sz]
        · rw [swp_sz]
      generalize ((fun d1 => if k - a ≥ 2 then shiftDown lt (k - 1) d1 else d1) (swp d k (k - 1))) = d1 at e1
      simp only []
      split
      · rw [shiftUp_sz b (b - (k + 1)) (k + 1) _ (Nat.le_refl _), e1]
      · exact e1
    exact ih k _ (by omega) (by omega) (by omega) (by rw [hz]; exact hb) (by rw [hz]; exact hs)
include hcmp in
theorem partialInsertionSort_eq {a b : Nat} {d : Array Bind} (hab : a < b) (hb : b ≤ d.size) (hs : Sm d.size) : slices_partialInsertionSort_Bm (a : Int) (b : Int) d.toList = some ((partialInsertionSort lt d a b).2, (partialInsertionSort lt d a b).1.toList) := by
  obtain ⟨x, h1, h2⟩ := partialIns_eq hcmp hab 5 (a + 1) d (Nat.le_refl _) (by omega) (by omega) hb hs
  simp only [slices_partialInsertionSort_Bm]
  rw [wN (x := (a : Int) + 1) (n := a + 1) (by omega) (by omega)]
  simp only [Nat.sub_self, Int.natCast_zero] at h1
  rw [h1]
  unfold partialInsertionSort
  cases x with
  | inl p => simp only [Option.bind_some]; exact congrArg some h2
  | inr q => obtain ⟨q1, q2, q3⟩ := q; simp only [Option.bind_some]; exact congrArg some h2
/-! the scans -/
theorem scanUp_wh {step : Int → Option (Int ⊕ Int)} {p : Bind → Bool} {d : Array Bind} {j : Nat} (h : ∀ i : Nat, i ≤ j + 2 → step (i : Int) = if (decide (i ≤ j) && p d[i]!) = true then some (.inl ((i + 1 : Nat) : Int)) else some (.inr (i : Int))) :
    ∀ (n i : Nat), j + 1 - i ≤ n → i ≤ j + 2 → wh step (i : Int) = some ((scanUp p d j i : Nat) : Int) := by
  intro n
  induction n with
  | zero =>
    intro i hn hi
    have hc : ¬ ((decide (i ≤ j) && p d[i]!) = true) := by simp; omega
    rw [scanUp, if_neg hc]
    exact wh_done (by rw [h i hi, if_neg hc])
  | succ n ih =>
    intro i hn hi
    rw [scanUp]
    by_cases hc : (decide (i ≤ j) && p d[i]!) = true
    · rw [if_pos hc, wh_next (by rw [h i hi, if_pos hc])]
      have : i ≤ j := by simp at hc; exact hc.1
      exact ih (i + 1) (by omega) (by omega)
    · rw [if_neg hc]
      exact wh_done (by rw [h i hi, if_neg hc])
theorem scanDown_wh {step : Int → Option (Int ⊕ Int)} {p : Bind → Bool} {d : Array Bind} {i : Nat} (hi : 1 ≤ i) : ∀ (j : Nat), (∀ k : Nat, k ≤ j → step (k : Int) = if (decide (i ≤ k) && p d[k]!) = true then some (.inl ((k - 1 : Nat) : Int)) else some (.inr (k : Int))) →
    wh step (j : Int) = some ((scanDown p d i j : Nat) : Int) := by
  intro j
  induction j with
  | zero =>
    intro h
    refine wh_done ?_
    rw [h 0 (Nat.le_refl _), if_neg (by simp; omega)]; rfl
  | succ j ih =>
    intro h
    rw [scanDown]
    have h0 := h (j + 1) (Nat.le_refl _)
    by_cases hc : (decide (i ≤ j + 1) && p d[j + 1]!) = true
    · rw [if_pos hc] at h0 ⊢
      rw [wh_next h0]
      exact ih (fun k hk => h k (by omega))
    · rw [if_neg hc] at h0 ⊢
      exact wh_done h0
include hcmp in
theorem up_part {a b pv j : Nat} {d : Array Bind} (hj : j < d.size) (ha : a < d.size) (hs : Sm d.size) (i : Nat) (hi : i ≤ j + 2) : wh (slices_partition_Bm_l3 (a : Int) (b : Int) (pv : Int) (j : Int) d.toList) (i : Int) = some ((scanUp (fun x => lt x d[a]!) d j i : Nat) : Int) := by
  refine scanUp_wh (fun k hk => ?_) (j + 1 - i) i (Nat.le_refl _) hi
  simp only [slices_partition_Bm_l3]
  by_cases h : k ≤ j
  · rw [if_pos (by omega), idxA (show k < d.size by omega), idxA ha, wN (x := (k : Int) + 1) (n := k + 1) (by omega) (by omega)]
    simp only [Option.bind_some, cmpIf hcmp, decide_eq_true h, Bool.true_and]
  · rw [if_neg (by omega), if_neg (by simp; omega)]
include hcmp in
theorem up_part0 {a b pv j : Nat} {d : Array Bind} (hj : j < d.size) (ha : a < d.size) (hs : Sm d.size) (i : Nat) (hi : i ≤ j + 2) : wh (slices_partition_Bm_l0 (a : Int) (b : Int) (pv : Int) (j : Int) d.toList) (i : Int) = some ((scanUp (fun x => lt x d[a]!) d j i : Nat) : Int) := by
  refine scanUp_wh (fun k hk => ?_) (j + 1 - i) i (Nat.le_refl _) hi
  simp only [slices_partition_Bm_l0]
  by_cases h : k ≤ j
  · rw [if_pos (by omega), idxA (show k < d.size by omega), idxA ha, wN (x := (k : Int) + 1) (n := k + 1) (by omega) (by omega)]
    simp only [Option.bind_some, cmpIf hcmp, decide_eq_true h, Bool.true_and]
  · rw [if_neg (by omega), if_neg (by simp; omega)]
theorem ifNot {β : Type} (c : Bool) (A B : β) : (if c = true then A else B) = if (!c) = true then B else A := by cases c <;> rfl
include hcmp in
theorem down_part {a b pv i : Nat} {d : Array Bind} (hi : 1 ≤ i) (ha : a < d.size) (hs : Sm d.size) (j : Nat) (hj : j < d.size) : wh (slices_partition_Bm_l4 (a : Int) (b : Int) (pv : Int) (i : Int) d.toList) (j : Int) = some ((scanDown (fun x => !lt x d[a]!) d i j : Nat) : Int) := by
  refine scanDown_wh hi j (fun k hk => ?_)
  simp only [slices_partition_Bm_l4]
  by_cases h : i ≤ k
  · rw [if_pos (by omega), idxA (show k < d.size by omega), idxA ha, wN (x := (k : Int) - 1) (n := k - 1) (by omega) (by omega)]
    simp only [Option.bind_some, cmpIf hcmp, decide_eq_true h, Bool.true_and]
    exact ifNot _ _ _
  · rw [if_neg (by omega), if_neg (by simp; omega)]
include hcmp in
theorem down_part0 {a b pv i : Nat} {d : Array Bind} (hi : 1 ≤ i) (ha : a < d.size) (hs : Sm d.size) (j : Nat) (hj : j < d.size) : wh (slices_partition_Bm_l1 (a : Int) (b : Int) (pv : Int) (i : Int) d.toList) (j : Int) = some ((scanDown (fun x => !lt x d[a]!) d i j : Nat) : Int) := by
  refine scanDown_wh hi j (fun k hk => ?_)
  simp only [slices_partition_Bm_l1]
  by_cases h : i ≤ k
  · rw [if_pos (by omega), idxA (show k < d.size by omega), idxA ha, wN (x := (k : Int) - 1) (n := k - 1) (by omega) (by omega)]
    simp only [Option.bind_some, cmpIf hcmp, decide_eq_true h, Bool.true_and]
    exact ifNot _ _ _
  · rw [if_neg (by omega), if_neg (by simp; omega)]
include hcmp in
theorem up_eq {a b pv j : Nat} {d : Array Bind} (hj : j < d.size) (ha : a < d.size) (hs : Sm d.size) (i : Nat) (hi : i ≤ j + 2) : wh (slices_partitionEqual_Bm_l1 (a : Int) (b : Int) (pv : Int) (j : Int) d.toList) (i : Int) = some ((scanUp (fun x => !lt d[a]! x) d j i : Nat) : Int) := by
  refine scanUp_wh (fun k hk => ?_) (j + 1 - i) i (Nat.le_refl _) hi
  simp only [slices_partitionEqual_Bm_l1]
  by_cases h : k ≤ j
  · rw [if_pos (by omega), idxA (show k < d.size by omega), idxA ha, wN (x := (k : Int) + 1) (n := k + 1) (by omega) (by omega)]
    simp only [Option.bind_some, cmpIf hcmp, decide_eq_true h, Bool.true_and]
    exact ifNot _ _ _
  · rw [if_neg (by omega), if_neg (by simp; omega)]
include hcmp in
theorem down_eq {a b pv i : Nat} {d : Array Bind} (hi : 1 ≤ i) (ha : a < d.size) (hs : Sm d.size) (j : Nat) (hj : j < d.size) : wh (slices_partitionEqual_Bm_l2 (a : Int) (b : Int) (pv : Int) (i : Int) d.toList) (j : Int) = some ((scanDown (fun x => lt d[a]! x) d i j : Nat) : Int) := by
  refine scanDown_wh hi j (fun k hk => ?_)
  simp only [slices_partitionEqual_Bm_l2]
  by_cases h : i ≤ k
  · rw [if_pos (by omega), idxA (show k < d.size by omega), idxA ha, wN (x := (k : Int) - 1) (n := k - 1) (by omega) (by omega)]
    simp only [Option.bind_some, cmpIf hcmp, decide_eq_true h, Bool.true_and]
  · rw [if_neg (by omega), if_neg (by simp; omega)]
/-! the partitions -/
include hcmp in
theorem partLoop_wh {a b pv : Nat} : ∀ (n i j : Nat) (d : Array Bind), j + 1 - i ≤ n → a < i → i ≤ j + 2 → j < d.size → a < d.size → Sm d.size → ∃ x, wh (slices_partition_Bm_l2 (a : Int) (b : Int) (pv : Int)) ((i : Int), (j : Int), d.toList) = some (x, (((partLoop lt a i j d).1 : Nat) : Int), (partLoop lt a i j d).2.toList) := by
  intro n
  induction n with
  | zero =>
    intro i j d hn ha hi hj haz hs
    have h1 := up_part hcmp (a := a) (b := b) (pv := pv) hj (by omega) hs i hi
    have g1 := scanUp_ge (fun x => lt x d[a]!) d j i
    have h2 := down_part hcmp (a := a) (b := b) (pv := pv) (i := scanUp (fun x => lt x d[a]!) d j i) (by omega) (by omega) hs j hj
    have g2 := scanDown_le (fun x => !lt x d[a]!) d (scanUp (fun x => lt x d[a]!) d j i) j
    rw [partLoop_eq, if_pos (by omega)]
    refine ⟨_, wh_done (r := (((scanUp (fun x => lt x d[a]!) d j i : Nat) : Int), _, _)) ?_⟩
    simp only [slices_partition_Bm_l2, h1, h2, Option.bind_some]
    rw [if_pos (by omega)]
  | succ n ih =>
    intro i j d hn ha hi hj haz hs
    have h1 := up_part hcmp (a := a) (b := b) (pv := pv) hj (by omega) hs i hi
    have g1 := scanUp_ge (fun x => lt x d[a]!) d j i
    have h2 := down_part hcmp (a := a) (b := b) (pv := pv) (i := scanUp (fun x => lt x d[a]!) d j i) (by omega) (by omega) hs j hj
    have g2 := scanDown_le (fun x => !lt x d[a]!) d (scanUp (fun x => lt x d[a]!) d j i) j
    rw [partLoop_eq]
    generalize scanUp (fun x => lt x d[a]!) d j i = i2 at h1 g1 h2 g2 ⊢
    generalize scanDown (fun x => !lt x d[a]!) d i2 j = j2 at h2 g2 ⊢
    by_cases h : i2 > j2
    · rw [if_pos h]
      refine ⟨_, wh_done (r := ((i2 : Int), (j2 : Int), d.toList)) ?_⟩
      simp only [slices_partition_Bm_l2, h1, h2, Option.bind_some]
      rw [if_pos (by omega)]
    · have b1 : i2 < d.size := by omega
      have b2 : j2 < d.size := by omega
      have step : slices_partition_Bm_l2 (a : Int) (b : Int) (pv : Int) ((i : Int), (j : Int), d.toList) = some (.inl (((i2 + 1 : Nat) : Int), ((j2 - 1 : Nat) : Int), (swp d i2 j2).toList)) := by
        simp only [slices_partition_Bm_l2, h1, h2, Option.bind_some]
        rw [if_neg (by omega), idxA b1, idxA b2, wN (x := (i2 : Int) + 1) (n := i2 + 1) (by omega) (by omega), wN (x := (j2 : Int) - 1) (n := j2 - 1) (by omega) (by omega)]
        simp only [Option.bind_some]
        rw [swpB b1 b2 (k := fun l => some (Sum.inl (((i2 + 1 : Nat) : Int), ((j2 - 1 : Nat) : Int), l)))]
      rw [if_neg h, wh_next step]
      exact ih (i2 + 1) (j2 - 1) _ (by omega) (by omega) (by omega) (by rw [swp_sz]; omega) (by rw [swp_sz]; exact haz) (by rw [swp_sz]; exact hs)
include hcmp in
theorem partition_eq {a b pv : Nat} {d : Array Bind} (h1 : a ≤ pv) (h2 : pv < b) (hb : b ≤ d.size) (hs : Sm d.size) (hpos : a + 1 < b) : slices_partition_Bm (a : Int) (b : Int) (pv : Int) d.toList = some (((((partition lt d a b pv).1 : Nat) : Int)), (partition lt d a b pv).2.1, (partition lt d a b pv).2.2.toList) := by
  have b1 : a < d.size := by omega
  have b2 : pv < d.size := by omega
  have hz : (swp d a pv).size = d.size := swp_sz _ _ _
  have u := up_part0 hcmp (a := a) (b := b) (pv := pv) (j := b - 1) (d := swp d a pv) (by rw [hz]; omega) (by rw [hz]; omega) (by rw [hz]; exact hs) (a + 1) (by omega)
  have g1 := scanUp_ge (fun x => lt x (swp d a pv)[a]!) (swp d a pv) (b - 1) (a + 1)
  have g3 := (scanUp_spec (fun x => lt x (swp d a pv)[a]!) (swp d a pv) (b - 1) _ (a + 1) rfl).2.1 (by omega)
  have w := down_part0 hcmp (a := a) (b := b) (pv := pv) (d := swp d a pv) (i := scanUp (fun x => lt x (swp d a pv)[a]!) (swp d a pv) (b - 1) (a + 1)) (by omega) (by rw [hz]; omega) (by rw [hz]; exact hs) (b - 1) (by rw [hz]; omega)
  have g2 := scanDown_le (fun x => !lt x (swp d a pv)[a]!) (swp d a pv) (scanUp (fun x => lt x (swp d a pv)[a]!) (swp d a pv) (b - 1) (a + 1)) (b - 1)
  obtain ⟨y, hy⟩ := idxS (d := d) (i := pv) (x := d[pv]!) (n := a) b2
  simp only [slices_partition_Bm]
  rw [idxA b1, idxA b2, wN (x := (b : Int) - 1) (n := b - 1) (by omega) (by omega), wN (x := (a : Int) + 1) (n := a + 1) (by omega) (by omega)]
  simp only [Option.bind_some, Int.toNat_natCast, hy, swpA b1 b2, u, w]
  unfold partition
  simp only []
  generalize swp d a pv = e at hz u g1 g3 w g2 ⊢
  generalize scanUp (fun x => lt x e[a]!) e (b - 1) (a + 1) = i2 at u g1 g3 w g2 ⊢
  generalize scanDown (fun x => !lt x e[a]!) e i2 (b - 1) = j2 at w g2 ⊢
  have c1 : a < e.size := by omega
  have c2 : j2 < e.size := by omega
  by_cases h : i2 > j2
  · rw [if_pos (by omega), if_pos h, idxA c1, idxA c2]
    obtain ⟨y2, hy2⟩ := idxS (d := e) (i := a) (x := e[a]!) (n := j2) c1
    simp only [Option.bind_some, hy2, swpA c2 c1]
  · rw [if_neg (by omega), if_neg h]
    have c3 : i2 < e.size := by omega
    rw [idxA c2, idxA c3, wN (x := (i2 : Int) + 1) (n := i2 + 1) (by omega) (by omega), wN (x := (j2 : Int) - 1) (n := j2 - 1) (by omega) (by omega)]
    obtain ⟨y3, hy3⟩ := idxS (d := e) (i := j2) (x := e[j2]!) (n := i2) c2
    simp only [Option.bind_some, hy3, swpA c3 c2]
    obtain ⟨x, hx⟩ := partLoop_wh hcmp (a := a) (b := b) (pv := pv) (j2 - 1 + 1 - (i2 + 1)) (i2 + 1) (j2 - 1) (swp e i2 j2) (Nat.le_refl _) (by omega) (by omega) (by rw [swp_sz]; omega) (by rw [swp_sz]; omega) (by rw [swp_sz, hz]; exact hs)
    rw [hx]
    simp only [Option.bind_some]
    rcases hr : partLoop lt a (i2 + 1) (j2 - 1) (swp e i2 j2) with ⟨r1, r2⟩
    have hrs : r2.size = e.size ∧ r1 < e.size := by
      have hp : ∀ (n i j : Nat) (f : Array Bind), j + 1 - i ≤ n → j < f.size → (partLoop lt a i j f).2.size = f.size ∧ (partLoop lt a i j f).1 < f.size := by
        intro n
        induction n with
        | zero =>
          intro i j f hn hj
          have q1 := scanUp_ge (fun x => lt x f[a]!) f j i
          have q2 := scanDown_le (fun x => !lt x f[a]!) f (scanUp (fun x => lt x f[a]!) f j i) j
          rw [partLoop_eq]
          split
          · exact ⟨rfl, by simp only []; omega⟩
          · omega
        | succ n ih =>
          intro i j f hn hj
          have q1 := scanUp_ge (fun x => lt x f[a]!) f j i
          have q2 := scanDown_le (fun x => !lt x f[a]!) f (scanUp (fun x => lt x f[a]!) f j i) j
          rw [partLoop_eq]
          split
          · exact ⟨rfl, by simp only []; omega⟩
          · have := ih (scanUp (fun x => lt x f[a]!) f j i + 1) (scanDown (fun x => !lt x f[a]!) f (scanUp (fun x => lt x f[a]!) f j i) j - 1) (swp f (scanUp (fun x => lt x f[a]!) f j i) (scanDown (fun x => !lt x f[a]!) f (scanUp (fun x => lt x f[a]!) f j i) j)) (by omega) (by rw [swp_sz]; omega)
            rw [swp_sz] at this
            exact this
      have := hp _ (i2 + 1) (j2 - 1) (swp e i2 j2) (Nat.le_refl _) (by rw [swp_sz]; omega)
      rw [hr, swp_sz] at this
      exact this
    have d1 : r1 < r2.size := by omega
    have d2 : a < r2.size := by omega
    simp only []
    rw [idxA d2, idxA d1]
    obtain ⟨y4, hy4⟩ := idxS (d := r2) (i := a) (x := r2[a]!) (n := r1) d2
    simp only [Option.bind_some, Int.toNat_natCast, hy4, swpA d1 d2]
include hcmp in
theorem partEqLoop_wh {a b pv : Nat} : ∀ (n i j : Nat) (d : Array Bind), j + 1 - i ≤ n → a < i → i ≤ j + 2 → j < d.size → a < d.size → Sm d.size → ∃ x, wh (slices_partitionEqual_Bm_l0 (a : Int) (b : Int) (pv : Int)) ((i : Int), (j : Int), d.toList) = some ((((partEqLoop lt a i j d).1 : Nat) : Int), x, (partEqLoop lt a i j d).2.toList) := by
  intro n
  induction n with
  | zero =>
    intro i j d hn ha hi hj haz hs
    have h1 := up_eq hcmp (a := a) (b := b) (pv := pv) hj (by omega) hs i hi
    have g1 := scanUp_ge (fun x => !lt d[a]! x) d j i
    have h2 := down_eq hcmp (a := a) (b := b) (pv := pv) (i := scanUp (fun x => !lt d[a]! x) d j i) (by omega) (by omega) hs j hj
    have g2 := scanDown_le (fun x => lt d[a]! x) d (scanUp (fun x => !lt d[a]! x) d j i) j
    rw [partEqLoop_eq, if_pos (by omega)]
    refine ⟨_, wh_done (r := (_, ((scanDown (fun x => lt d[a]! x) d (scanUp (fun x => !lt d[a]! x) d j i) j : Nat) : Int), _)) ?_⟩
    simp only [slices_partitionEqual_Bm_l0, h1, h2, Option.bind_some]
    rw [if_pos (by omega)]
  | succ n ih =>
    intro i j d hn ha hi hj haz hs
    have h1 := up_eq hcmp (a := a) (b := b) (pv := pv) hj (by omega) hs i hi
    have g1 := scanUp_ge (fun x => !lt d[a]! x) d j i
    have h2 := down_eq hcmp (a := a) (b := b) (pv := pv) (i := scanUp (fun x => !lt d[a]! x) d j i) (by omega) (by omega) hs j hj
    have g2 := scanDown_le (fun x => lt d[a]! x) d (scanUp (fun x => !lt d[a]! x) d j i) j
    rw [partEqLoop_eq]
    generalize scanUp (fun x => !lt d[a]! x) d j i = i2 at h1 g1 h2 g2 ⊢
    generalize scanDown (fun x => lt d[a]! x) d i2 j = j2 at h2 g2 ⊢
    by_cases h : i2 > j2
    · rw [if_pos h]
      refine ⟨_, wh_done (r := ((i2 : Int), (j2 : Int), d.toList)) ?_⟩
      simp only [slices_partitionEqual_Bm_l0, h1, h2, Option.bind_some]
      rw [if_pos (by omega)]
    · have b1 : i2 < d.size := by omega
      have b2 : j2 < d.size := by omega
      have step : slices_partitionEqual_Bm_l0 (a : Int) (b : Int) (pv : Int) ((i : Int), (j : Int), d.toList) = some (.inl (((i2 + 1 : Nat) : Int), ((j2 - 1 : Nat) : Int), (swp d i2 j2).toList)) := by
        simp only [slices_partitionEqual_Bm_l0, h1, h2, Option.bind_some]
        rw [if_neg (by omega), idxA b1, idxA b2, wN (x := (i2 : Int) + 1) (n := i2 + 1) (by omega) (by omega), wN (x := (j2 : Int) - 1) (n := j2 - 1) (by omega) (by omega)]
        simp only [Option.bind_some]
        rw [swpB b1 b2 (k := fun l => some (Sum.inl (((i2 + 1 : Nat) : Int), ((j2 - 1 : Nat) : Int), l)))]
      rw [if_neg h, wh_next step]
      exact ih (i2 + 1) (j2 - 1) _ (by omega) (by omega) (by omega) (by rw [swp_sz]; omega) (by rw [swp_sz]; exact haz) (by rw [swp_sz]; exact hs)
include hcmp in
theorem partitionEqual_eq {a b pv : Nat} {d : Array Bind} (h1 : a ≤ pv) (h2 : pv < b) (hb : b ≤ d.size) (hs : Sm d.size) (hpos : a + 1 < b) : slices_partitionEqual_Bm (a : Int) (b : Int) (pv : Int) d.toList = some ((((partitionEqual lt d a b pv).1 : Nat) : Int), (partitionEqual lt d a b pv).2.toList) := by
  have b1 : a < d.size := by omega
  have b2 : pv < d.size := by omega
  obtain ⟨y, hy⟩ := idxS (d := d) (i := pv) (x := d[pv]!) (n := a) b2
  simp only [slices_partitionEqual_Bm]
  rw [idxA b1, idxA b2, wN (x := (b : Int) - 1) (n := b - 1) (by omega) (by omega), wN (x := (a : Int) + 1) (n := a + 1) (by omega) (by omega)]
  simp only [Option.bind_some, Int.toNat_natCast, hy, swpA b1 b2]
  obtain ⟨x, hx⟩ := partEqLoop_wh hcmp (a := a) (b := b) (pv := pv) (b - 1 + 1 - (a + 1)) (a + 1) (b - 1) (swp d a pv) (Nat.le_refl _) (by omega) (by omega) (by rw [swp_sz]; omega) (by rw [swp_sz]; exact b1) (by rw [swp_sz]; exact hs)
  rw [hx]; rfl
end
end Ld.SoB

import Derived.Test.YtigabemldjdlhaaDoorMIP
import Derived.Sort.AssemblyPlain
set_option maxHeartbeats 400000
set_option linter.unusedVariables false
set_option linter.unusedSimpArgs false
namespace Ld.SoB
open Go Go.Abs Go.Sort
/-! ### the sort of rows, by the kit's words for it -/
instance inhE : Inhabited Bind := ⟨⟨0, []⟩⟩
variable {lt : Bind → Bind → Bool} (hcmp : ∀ a b, ∃ n, match_Match_c1 a b = some n ∧ (n < 0 ↔ lt a b = true))
section
theorem idxA {d : Array Bind} {i : Nat} (h : i < d.size) : idx d.toList (i : Int) = some d[i]! := by
  unfold idx
  rw [if_pos (by omega)]
  simp [h]
theorem idxS {d : Array Bind} {i : Nat} {x : Bind} {n : Nat} (h : i < d.size) : ∃ y, idx (d.toList.set n x) (i : Int) = some y := by
  unfold idx
  rw [if_pos (by omega)]
  have : i < (d.toList.set n x).length := by simpa using h
  exact ⟨_, by simp only [Int.toNat_natCast]; exact List.getElem?_eq_getElem this⟩
theorem swpA {d : Array Bind} {i j : Nat} (hi : i < d.size) (hj : j < d.size) : (d.toList.set i d[j]!).set j d[i]! = (swp d i j).toList := by
  unfold swp
  simp [Array.setIfInBounds, hi, hj]
/-- a swap, as it is printed -/
theorem swpB {β : Type} {d : Array Bind} {i j : Nat} (hi : i < d.size) (hj : j < d.size) {k : List Bind → Option β} : ((idx (d.toList.set ((i : Int)).toNat d[j]!) (j : Int)).bind fun _ => k ((d.toList.set ((i : Int)).toNat d[j]!).set ((j : Int)).toNat d[i]!)) = k (swp d i j).toList := by
  simp only [Int.toNat_natCast]
  obtain ⟨y, hy⟩ := idxS (d := d) (i := j) (x := d[j]!) (n := i) hj
  rw [hy, swpA hi hj]; rfl
theorem swp_sz (d : Array Bind) (i j : Nat) : (swp d i j).size = d.size := by simp [swp]
include hcmp in
theorem cmpIf {β : Type} (x y : Bind) (A B : Option β) : ((match_Match_c1 x y).bind fun n => if n < 0 then A else B) = if lt x y = true then A else B := by
  obtain ⟨n, h1, h2⟩ := hcmp x y
  rw [h1]
  simp only [Option.bind_some]
  by_cases h : n < 0
  · rw [if_pos h, if_pos (h2.1 h)]
  · rw [if_neg h, if_neg (fun e => h (h2.2 e))]
/-- numbers that are small enough -/
abbrev Sm (n : Nat) : Prop := n < 1073741824
theorem wN {x : Int} {n : Nat} (h : x = (n : Int)) (hn : n < 4611686018427387904) : w64 x = (n : Int) := by rw [h, w64_small (by omega) (by omega)]
theorem wZ {x : Int} (h1 : -4611686018427387904 ≤ x) (h2 : x < 4611686018427387904) : w64 x = x := w64_small h1 h2
/-! insertion -/
include hcmp in
theorem insInner_eq (a b : Nat) (s8 : Int) : ∀ (j : Nat) (d : Array Bind), j < d.size → Sm d.size → wh (slices_insertionSort_Bm_l1 (a : Int) (b : Int) s8) ((j : Int), d.toList) = some (insInner lt a j d).toList := by
  intro j
  induction j with
  | zero =>
    intro d _ _
    refine wh_done ?_
    simp only [slices_insertionSort_Bm_l1]
    rw [if_neg (by omega)]; rfl
  | succ j ih =>
    intro d hj hs
    have w1 : w64 (((j + 1 : Nat) : Int) - 1) = (j : Int) := wN (by omega) (by omega)
    have step : slices_insertionSort_Bm_l1 (a : Int) (b : Int) s8 (((j + 1 : Nat) : Int), d.toList) = if (decide (j + 1 > a) && lt d[j + 1]! d[j]!) = true then some (.inl ((j : Int), (swp d (j + 1) j).toList)) else some (.inr d.toList) := by
      simp only [slices_insertionSort_Bm_l1, w1]
      by_cases ha : j + 1 > a
      · rw [if_pos (by omega), idxA hj, idxA (by omega)]
        simp only [Option.bind_some, cmpIf hcmp, swpB hj (show j < d.size by omega) (k := fun l => some (Sum.inl ((j : Int), l))), decide_eq_true ha, Bool.true_and]
      · rw [if_neg (by omega), decide_eq_false ha]; rfl
    by_cases hc : (decide (j + 1 > a) && lt d[j + 1]! d[j]!) = true
    · rw [if_pos hc] at step
      rw [wh_next step, insInner, if_pos hc]
      exact ih _ (by rw [swp_sz]; omega) (by rw [swp_sz]; exact hs)
    · rw [if_neg hc] at step
      rw [wh_done step, insInner, if_neg hc]
theorem insInner_sz (a : Nat) : ∀ (j : Nat) (d : Array Bind), (insInner lt a j d).size = d.size := by
  intro j
  induction j with
  | zero => intro d; rfl
  | succ j ih => intro d; simp only [insInner]; split <;> simp [ih, swp_sz]
include hcmp in
theorem insOuter_eq (a b : Nat) : ∀ (n i : Nat) (d : Array Bind), b - i ≤ n → b ≤ d.size → Sm d.size → ∃ k, wh (slices_insertionSort_Bm_l0 (a : Int) (b : Int)) ((i : Int), d.toList) = some (k, (insOuter lt a b i d).toList) := by
  intro n
  induction n with
  | zero =>
    intro i d hn hb hs
    refine ⟨(i : Int), wh_done ?_⟩
    simp only [slices_insertionSort_Bm_l0]
    rw [if_neg (by omega), insOuter, if_neg (by omega)]
  | succ n ih =>
    intro i d hn hb hs
    by_cases hi : i < b
    · have step : slices_insertionSort_Bm_l0 (a : Int) (b : Int) ((i : Int), d.toList) = some (.inl (((i + 1 : Nat) : Int), (insInner lt a i d).toList)) := by
        simp only [slices_insertionSort_Bm_l0]
        rw [if_pos (by omega), insInner_eq hcmp a b _ i d (by omega) hs]
        simp only [Option.bind_some]
        rw [wN (n := i + 1) (by omega) (by omega)]
      rw [wh_next step, insOuter, if_pos hi]
      have hz := insInner_sz (lt := lt) a i d
      exact ih (i + 1) _ (by omega) (by rw [hz]; exact hb) (by rw [hz]; exact hs)
    · refine ⟨(i : Int), wh_done ?_⟩
      simp only [slices_insertionSort_Bm_l0]
      rw [if_neg (by omega), insOuter, if_neg hi]
include hcmp in
theorem insertionSort_eq {a b : Nat} {d : Array Bind} (hb : b ≤ d.size) (hab : a ≤ b) (hs : Sm d.size) : slices_insertionSort_Bm (a : Int) (b : Int) d.toList = some (insertionSort lt d a b).toList := by
  simp only [slices_insertionSort_Bm]
  rw [wN (n := a + 1) (by omega) (by omega)]
  obtain ⟨k, hk⟩ := insOuter_eq hcmp a b (b - (a + 1)) (a + 1) d (Nat.le_refl _) hb hs
  rw [hk]; rfl
/-! the heap -/
theorem siftDown_sz (hi first : Nat) : ∀ (n root : Nat) (d : Array Bind), hi - root ≤ n → (siftDown lt hi first root d).size = d.size := by
  intro n
  induction n with
  | zero => intro root d hn; rw [siftDown, dif_pos (by omega)]
  | succ n ih =>
    intro root d hn
    rw [siftDown]
    split
    · rfl
    split
    · split
      · rfl
      · split
        · rw [ih _ _ (by omega), swp_sz]
        · rfl
    · split
      · rfl
      · rw [ih _ _ (by omega), swp_sz]
include hcmp in
theorem siftDown_loop (lo hi first : Nat) : ∀ (n root : Nat) (d : Array Bind), hi - root ≤ n → first + hi ≤ d.size → Sm d.size → root ≤ d.size → ∃ x, wh (slices_siftDown_Bm_l0 (lo : Int) (hi : Int) (first : Int)) ((root : Int), d.toList) = some x ∧
    (match x with | .inl p => p.2 | .inr o => o) = (siftDown lt hi first root d).toList := by
  intro n
  induction n with
  | zero =>
    intro root d hn hf hs hr
    refine ⟨_, wh_done (r := .inl ((root : Int), d.toList)) ?_, by rw [siftDown, dif_pos (by omega)]⟩
    simp only [slices_siftDown_Bm_l0]
    rw [wN (x := 2 * (root : Int)) (n := 2 * root) (by omega) (by omega), wN (x := ((2 * root : Nat) : Int) + 1) (n := 2 * root + 1) (by omega) (by omega), if_pos (by omega)]
  | succ n ih =>
    intro root d hn hf hs hr
    by_cases h0 : 2 * root + 1 ≥ hi
    · refine ⟨_, wh_done (r := .inl ((root : Int), d.toList)) ?_, by rw [siftDown, dif_pos h0]⟩
      simp only [slices_siftDown_Bm_l0]
      rw [wN (x := 2 * (root : Int)) (n := 2 * root) (by omega) (by omega), wN (x := ((2 * root : Nat) : Int) + 1) (n := 2 * root + 1) (by omega) (by omega), if_pos (by omega)]
    · have e1 : w64 (2 * (root : Int)) = ((2 * root : Nat) : Int) := wN (by omega) (by omega)
      have e2 : w64 (((2 * root : Nat) : Int) + 1) = ((2 * root + 1 : Nat) : Int) := wN (by omega) (by omega)
      have e3 : w64 (((2 * root + 1 : Nat) : Int) + 1) = ((2 * root + 2 : Nat) : Int) := wN (by omega) (by omega)
      have f1 : w64 ((first : Int) + ((2 * root + 1 : Nat) : Int)) = ((first + (2 * root + 1) : Nat) : Int) := wN (by omega) (by omega)
      have f2 : w64 (((first + (2 * root + 1) : Nat) : Int) + 1) = ((first + (2 * root + 1) + 1 : Nat) : Int) := wN (by omega) (by omega)
      have f3 : w64 ((first : Int) + (root : Int)) = ((first + root : Nat) : Int) := wN (by omega) (by omega)
      have f4 : w64 ((first : Int) + ((2 * root + 2 : Nat) : Int)) = ((first + (2 * root + 2) : Nat) : Int) := wN (by omega) (by omega)
      have go : ∀ (c : Nat), root < c → c < hi → first + c < d.size → ∀ (r : Option (Int × List Bind ⊕ (Int × List Bind) ⊕ List Bind)), slices_siftDown_Bm_l0 (lo : Int) (hi : Int) (first : Int) ((root : Int), d.toList) = some (.inl ((c : Int), (swp d (first + root) (first + c)).toList)) → ∃ x, wh (slices_siftDown_Bm_l0 (lo : Int) (hi : Int) (first : Int)) ((root : Int), d.toList) = some x ∧
          (match x with | .inl p => p.2 | .inr o => o) = (siftDown lt hi first c (swp d (first + root) (first + c))).toList := by
        intro c h1 h2 h3 _ hstep
        rw [wh_next hstep]
        exact ih c _ (by omega) (by rw [swp_sz]; exact hf) (by rw [swp_sz]; exact hs) (by rw [swp_sz]; omega)
      have stop : slices_siftDown_Bm_l0 (lo : Int) (hi : Int) (first : Int) ((root : Int), d.toList) = some (.inr (.inr d.toList)) → ∃ x, wh (slices_siftDown_Bm_l0 (lo : Int) (hi : Int) (first : Int)) ((root : Int), d.toList) = some x ∧
          (match x with | .inl p => p.2 | .inr o => o) = d.toList := fun h => ⟨_, wh_done h, rfl⟩
      have step : slices_siftDown_Bm_l0 (lo : Int) (hi : Int) (first : Int) ((root : Int), d.toList) =
          if 2 * root + 1 + 1 < hi then (if lt d[first + (2 * root + 1)]! d[first + (2 * root + 1) + 1]! = true then (if lt d[first + root]! d[first + (2 * root + 2)]! = true then some (.inl (((2 * root + 2 : Nat) : Int), (swp d (first + root) (first + (2 * root + 2))).toList)) else some (.inr (.inr d.toList)))
            else (if lt d[first + root]! d[first + (2 * root + 1)]! = true then some (.inl (((2 * root + 1 : Nat) : Int), (swp d (first + root) (first + (2 * root + 1))).toList)) else some (.inr (.inr d.toList))))
          else (if lt d[first + root]! d[first + (2 * root + 1)]! = true then some (.inl (((2 * root + 1 : Nat) : Int), (swp d (first + root) (first + (2 * root + 1))).toList)) else some (.inr (.inr d.toList))) := by
        simp only [slices_siftDown_Bm_l0, e1, e2, e3, f1, f2, f3, f4]
        rw [if_neg (by omega)]
        have b1 : first + (2 * root + 1) < d.size := by omega
        have b2 : first + root < d.size := by omega
        by_cases hc : 2 * root + 1 + 1 < hi
        · have b3 : first + (2 * root + 2) < d.size := by omega
          rw [if_pos (by omega), if_pos hc, idxA b1, idxA (show first + (2 * root + 1) + 1 < d.size by omega), idxA b2, idxA b3]
          simp only [Option.bind_some, cmpIf hcmp, swpB b2 b3 (k := fun l => some (Sum.inl (((2 * root + 2 : Nat) : Int), l))), swpB b2 b1 (k := fun l => some (Sum.inl (((2 * root + 1 : Nat) : Int), l)))]
        · rw [if_neg (by omega), if_neg hc, idxA b1, idxA b2]
          simp only [Option.bind_some, cmpIf hcmp, swpB b2 b1 (k := fun l => some (Sum.inl (((2 * root + 1 : Nat) : Int), l)))]
      rw [siftDown, dif_neg h0]
      by_cases hc : 2 * root + 1 + 1 < hi
      · rw [if_pos hc] at step
        by_cases h1 : lt d[first + (2 * root + 1)]! d[first + (2 * root + 1) + 1]! = true
        · rw [if_pos h1] at step
          rw [if_pos (by simp [hc, h1])]
          by_cases h2 : lt d[first + root]! d[first + (2 * root + 2)]! = true
          · rw [if_pos h2] at step
            rw [if_neg (by simp [h2]), dif_pos (by omega)]
            exact go (2 * root + 2) (by omega) (by omega) (by omega) none step
          · rw [if_neg h2] at step
            rw [if_pos (by simpa using h2)]
            exact stop step
        · rw [if_neg h1] at step
          rw [if_neg (by simp [h1])]
          by_cases h2 : lt d[first + root]! d[first + (2 * root + 1)]! = true
          · rw [if_pos h2] at step
            rw [if_neg (by simp [h2])]
            exact go (2 * root + 1) (by omega) (by omega) (by omega) none step
          · rw [if_neg h2] at step
            rw [if_pos (by simpa using h2)]
            exact stop step
      · rw [if_neg hc] at step
        rw [if_neg (by simp [hc])]
        by_cases h2 : lt d[first + root]! d[first + (2 * root + 1)]! = true
        · rw [if_pos h2] at step
          rw [if_neg (by simp [h2])]
          exact go (2 * root + 1) (by omega) (by omega) (by omega) none step
        · rw [if_neg h2] at step
          rw [if_pos (by simpa using h2)]
          exact stop step
include hcmp in
theorem siftDown_eq {root hi first : Nat} {d : Array Bind} (hf : first + hi ≤ d.size) (hs : Sm d.size) (hr : root ≤ d.size) : slices_siftDown_Bm (root : Int) (hi : Int) (first : Int) d.toList = some (siftDown lt hi first root d).toList := by
  obtain ⟨x, h1, h2⟩ := siftDown_loop hcmp root hi first (hi - root) root d (Nat.le_refl _) hf hs hr
  simp only [slices_siftDown_Bm, h1, Option.bind_some]
  cases x with
  | inl p => obtain ⟨p1, p2⟩ := p; exact congrArg some h2
  | inr o => exact congrArg some h2
include hcmp in
theorem heapBuild_eq (a b hi first : Nat) : ∀ (k : Nat) (d : Array Bind), first + hi ≤ d.size → k ≤ d.size → Sm d.size → ∃ x, wh (slices_heapSort_Bm_l0 (a : Int) (b : Int) (first : Int) (hi : Int)) ((k : Int) - 1, d.toList) = some (x, (heapBuild lt hi first k d).toList) := by
  intro k
  induction k with
  | zero =>
    intro d hf hk hs
    refine ⟨_, wh_done (r := (((0 : Nat) : Int) - 1, d.toList)) ?_⟩
    simp only [slices_heapSort_Bm_l0]
    rw [if_neg (by omega)]
  | succ k ih =>
    intro d hf hk hs
    have hz := siftDown_sz (lt := lt) hi first (hi - k) k d (Nat.le_refl _)
    have step : slices_heapSort_Bm_l0 (a : Int) (b : Int) (first : Int) (hi : Int) (((k + 1 : Nat) : Int) - 1, d.toList) = some (.inl ((k : Int) - 1, (siftDown lt hi first k d).toList)) := by
      simp only [slices_heapSort_Bm_l0]
      rw [if_pos (by omega), show ((k + 1 : Nat) : Int) - 1 = (k : Int) by omega, siftDown_eq hcmp hf hs (by omega)]
      simp only [Option.bind_some]
      rw [wZ (by omega) (by omega)]
    rw [wh_next step]
    exact ih _ (by rw [hz]; exact hf) (by rw [hz]; omega) (by rw [hz]; exact hs)
theorem heapBuild_sz (hi first : Nat) : ∀ (k : Nat) (d : Array Bind), (heapBuild lt hi first k d).size = d.size := by
  intro k
  induction k with
  | zero => intro d; rfl
  | succ k ih => intro d; rw [heapBuild, ih, siftDown_sz hi first (hi - k) k d (Nat.le_refl _)]
include hcmp in
theorem heapPop_eq (a b hi first : Nat) (s11 : Int) : ∀ (k : Nat) (d : Array Bind), first + k ≤ d.size → Sm d.size → ∃ x, wh (slices_heapSort_Bm_l1 (a : Int) (b : Int) (first : Int) (hi : Int) s11) ((k : Int) - 1, d.toList) = some (x, (heapPop lt first k d).toList) := by
  intro k
  induction k with
  | zero =>
    intro d hf hs
    refine ⟨_, wh_done (r := (((0 : Nat) : Int) - 1, d.toList)) ?_⟩
    simp only [slices_heapSort_Bm_l1]
    rw [if_neg (by omega)]
  | succ k ih =>
    intro d hf hs
    have hz := siftDown_sz (lt := lt) k first k 0 (swp d first (first + k)) (Nat.le_refl _)
    rw [swp_sz] at hz
    have b1 : first < d.size := by omega
    have b2 : first + k < d.size := by omega
    have step : slices_heapSort_Bm_l1 (a : Int) (b : Int) (first : Int) (hi : Int) s11 (((k + 1 : Nat) : Int) - 1, d.toList) = some (.inl ((k : Int) - 1, (siftDown lt k first 0 (swp d first (first + k))).toList)) := by
      simp only [slices_heapSort_Bm_l1]
      rw [if_pos (by omega), show ((k + 1 : Nat) : Int) - 1 = (k : Int) by omega, wN (x := (first : Int) + (k : Int)) (n := first + k) (by omega) (by omega), idxA b1, idxA b2]
      simp only [Option.bind_some]
      rw [swpB b1 b2 (k := fun l => (slices_siftDown_Bm 0 (k : Int) (first : Int) l).bind fun x11 => some (Sum.inl (w64 ((k : Int) - 1), x11)))]
      have := siftDown_eq hcmp (root := 0) (hi := k) (first := first) (d := swp d first (first + k)) (by rw [swp_sz]; omega) (by rw [swp_sz]; exact hs) (by omega)
      rw [Int.natCast_zero] at this
      rw [this]
      simp only [Option.bind_some]
      rw [wZ (by omega) (by omega)]
    rw [wh_next step]
    exact ih _ (by rw [hz]; omega) (by rw [hz]; exact hs)
include hcmp in
theorem heapSort_eq {a b : Nat} {d : Array Bind} (hb : b ≤ d.size) (hab : a < b) (hs : Sm d.size) : slices_heapSort_Bm (a : Int) (b : Int) d.toList = some (heapSort lt d a b).toList := by
  simp only [slices_heapSort_Bm]
  have e1 : w64 ((b : Int) - (a : Int)) = ((b - a : Nat) : Int) := wN (by omega) (by omega)
  have e2 : w64 (((b - a : Nat) : Int) - 1) = ((b - a - 1 : Nat) : Int) := wN (by omega) (by omega)
  have e3 : quoV .i64 ((b - a - 1 : Nat) : Int) 2 = some ((((b - a - 1) / 2 + 1 : Nat) : Int) - 1) := by
    unfold quoV
    rw [if_neg (by decide)]
    have : (((b - a - 1 : Nat) : Int)).tdiv 2 = (((b - a - 1) / 2 : Nat) : Int) := by
      rw [Int.tdiv_eq_ediv_of_nonneg (by omega)]; omega
    rw [this]
    exact congrArg some ((wZ (x := (((b - a - 1) / 2 : Nat) : Int)) (by omega) (by omega)).trans (by omega))
  rw [e1, e2, e3]
  simp only [Option.bind_some]
  obtain ⟨x, hx⟩ := heapBuild_eq hcmp a b (b - a) a ((b - a - 1) / 2 + 1) d (by omega) (by omega) hs
  rw [hx]
  simp only [Option.bind_some]
  have hz := heapBuild_sz (lt := lt) (b - a) a ((b - a - 1) / 2 + 1) d
  obtain ⟨y, hy⟩ := heapPop_eq hcmp a b (b - a) a x (b - a) (heapBuild lt (b - a) a ((b - a - 1) / 2 + 1) d) (by rw [hz]; omega) (by rw [hz]; exact hs)
  rw [show ((b - a - 1 : Nat) : Int) = ((b - a : Nat) : Int) - 1 by omega, hy]
  rfl
/-! turning round -/
theorem reverseLoop_eq (a b : Nat) : ∀ (n i j : Nat) (d : Array Bind), j - i ≤ n → j < d.size → Sm d.size → ∃ x y, wh (slices_reverseRange_Bm_l0 (a : Int) (b : Int)) ((i : Int), (j : Int), d.toList) = some (x, y, (reverseLoop i j d).toList) := by
  intro n
  induction n with
  | zero =>
    intro i j d hn hj hs
    refine ⟨_, _, wh_done (r := ((i : Int), (j : Int), (reverseLoop i j d).toList)) ?_⟩
    simp only [slices_reverseRange_Bm_l0]
    rw [if_neg (by omega), reverseLoop, if_neg (by omega)]
  | succ n ih =>
    intro i j d hn hj hs
    by_cases h : i < j
    · have b1 : i < d.size := by omega
      have step : slices_reverseRange_Bm_l0 (a : Int) (b : Int) ((i : Int), (j : Int), d.toList) = some (.inl (((i + 1 : Nat) : Int), ((j - 1 : Nat) : Int), (swp d i j).toList)) := by
        simp only [slices_reverseRange_Bm_l0]
        rw [if_pos (by omega), idxA hj, idxA b1, wN (x := (i : Int) + 1) (n := i + 1) (by omega) (by omega), wN (x := (j : Int) - 1) (n := j - 1) (by omega) (by omega)]
        simp only [Option.bind_some]
        rw [swpB b1 hj (k := fun l => some (Sum.inl (((i + 1 : Nat) : Int), ((j - 1 : Nat) : Int), l)))]
      rw [wh_next step, reverseLoop, if_pos h]
      exact ih (i + 1) (j - 1) _ (by omega) (by rw [swp_sz]; omega) (by rw [swp_sz]; exact hs)
    · refine ⟨_, _, wh_done (r := ((i : Int), (j : Int), (reverseLoop i j d).toList)) ?_⟩
      simp only [slices_reverseRange_Bm_l0]
      rw [if_neg (by omega), reverseLoop, if_neg h]
theorem reverseRange_eq {a b : Nat} {d : Array Bind} (hb : b ≤ d.size) (hab : a < b) (hs : Sm d.size) : slices_reverseRange_Bm (a : Int) (b : Int) d.toList = some (reverseRange d a b).toList := by
  simp only [slices_reverseRange_Bm]
  rw [wN (x := (b : Int) - 1) (n := b - 1) (by omega) (by omega)]
  obtain ⟨x, y, h⟩ := reverseLoop_eq a b (b - 1 - a) a (b - 1) d (Nat.le_refl _) (by omega) hs
  rw [h]; rfl
end
end Ld.SoB

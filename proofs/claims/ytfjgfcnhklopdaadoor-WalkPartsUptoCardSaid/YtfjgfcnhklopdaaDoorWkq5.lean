import Derived.Test.YtfjgfcnhklopdaaDoorWKP
import Derived.Sort.AssemblyPlain
import Derived.Lib.ValidLaws
import Derived.Lib.MapLaws
import Derived.Lib.TrimUEq
set_option maxHeartbeats 400000
set_option linter.unusedVariables false
set_option linter.unusedSimpArgs false
namespace Ld.SoB
open Go Go.Abs Go.Sort
instance inhE : Inhabited Bind := ⟨⟨0, []⟩⟩
variable {lt : Bind → Bind → Bool} (hcmp : ∀ a b, ∃ n, qi9 a b = some n ∧ (n < 0 ↔ lt a b = true))
section
theorem idxA {d : Array Bind} {i : Nat} (h : i < d.size) : idx d.toList (i : Int) = some d[i]! := by
  unfold idx
  rw [if_pos (by omega)]
  simp [h]
theorem idxS {d : Array Bind} {i : Nat} {x : Bind} {n : Nat} (h : i < d.size) : ∃ y, idx (d.toList.set n x) (i : Int) = some y := by
  unfold idx
  rw [if_pos (by omega)]
  have : i < (d.toList.set n x).length := by simpa using h
  exact ⟨_, by simp only [Int.toNat_natCast]; exact List.getElem?_eq_getElem this⟩
theorem swpA {d : Array Bind} {i j : Nat} (hi : i < d.size) (hj : j < d.size) : (d.toList.set i d[j]!).set j d[i]! = (swp d i j).toList := by
  unfold swp
  simp [Array.setIfInBounds, hi, hj]
theorem swpB {β : Type} {d : Array Bind} {i j : Nat} (hi : i < d.size) (hj : j < d.size) {k : List Bind → Option β} : ((idx (d.toList.set ((i : Int)).toNat d[j]!) (j : Int)).bind fun _ => k ((d.toList.set ((i : Int)).toNat d[j]!).set ((j : Int)).toNat d[i]!)) = k (swp d i j).toList := by
  simp only [Int.toNat_natCast]
  obtain ⟨y, hy⟩ := idxS (d := d) (i := j) (x := d[j]!) (n := i) hj
  rw [hy, swpA hi hj]; rfl
theorem qL9 (d : Array Bind) (i j : Nat) : (swp d i j).size = d.size := by simp [swp]
include hcmp in
theorem cmpIf {β : Type} (x y : Bind) (A B : Option β) : ((qi9 x y).bind fun n => if n < 0 then A else B) = if lt x y = true then A else B := by
  obtain ⟨n, h1, h2⟩ := hcmp x y
  rw [h1]
  simp only [Option.bind_some]
  by_cases h : n < 0
  · rw [if_pos h, if_pos (h2.1 h)]
  · rw [if_neg h, if_neg (fun e => h (h2.2 e))]
abbrev Sm (n : Nat) : Prop := n < 1073741824
theorem wN {x : Int} {n : Nat} (h : x = (n : Int)) (hn : n < 4611686018427387904) : w64 x = (n : Int) := by rw [h, qf9 (by omega) (by omega)]
theorem wZ {x : Int} (h1 : -4611686018427387904 ≤ x) (h2 : x < 4611686018427387904) : w64 x = x := qf9 h1 h2
include hcmp in
theorem qre9 (a b : Nat) (s8 : Int) : ∀ (j : Nat) (d : Array Bind), j < d.size → Sm d.size → wh (qW9 (a : Int) (b : Int) s8) ((j : Int), d.toList) = some (insInner lt a j d).toList := by
  intro j
  induction j with
  | zero =>
    intro d _ _
    refine qe9 ?_
    simp only [qW9]
    rw [if_neg (by omega)]; rfl
  | succ j ih =>
    intro d hj hs
    have w1 : w64 (((j + 1 : Nat) : Int) - 1) = (j : Int) := wN (by omega) (by omega)
    have step : qW9 (a : Int) (b : Int) s8 (((j + 1 : Nat) : Int), d.toList) = if (decide (j + 1 > a) && lt d[j + 1]! d[j]!) = true then some (.inl ((j : Int), (swp d (j + 1) j).toList)) else some (.inr d.toList) := by
      simp only [qW9, w1]
      by_cases ha : j + 1 > a
      · rw [if_pos (by omega), idxA hj, idxA (by omega)]
        simp only [Option.bind_some, cmpIf hcmp, swpB hj (show j < d.size by omega) (k := fun l => some (Sum.inl ((j : Int), l))), decide_eq_true ha, Bool.true_and]
      · rw [if_neg (by omega), decide_eq_false ha]; rfl
    by_cases hc : (decide (j + 1 > a) && lt d[j + 1]! d[j]!) = true
    · rw [if_pos hc] at step
      rw [qE9 step, insInner, if_pos hc]
      exact ih _ (by rw [qL9]; omega) (by rw [qL9]; exact hs)
    · rw [if_neg hc] at step
      rw [qe9 step, insInner, if_neg hc]
theorem qqA9 (a : Nat) : ∀ (j : Nat) (d : Array Bind), (insInner lt a j d).size = d.size := by
  intro j
  induction j with
  | zero => intro d; rfl
  | succ j ih => intro d; simp only [insInner]; split <;> simp [ih, qL9]
include hcmp in
theorem qqv9 (a b : Nat) : ∀ (n i : Nat) (d : Array Bind), b - i ≤ n → b ≤ d.size → Sm d.size → ∃ k, wh (qP9 (a : Int) (b : Int)) ((i : Int), d.toList) = some (k, (insOuter lt a b i d).toList) := by
  intro n
  induction n with
  | zero =>
    intro i d hn hb hs
    refine ⟨(i : Int), qe9 ?_⟩
    simp only [qP9]
    rw [if_neg (by omega), insOuter, if_neg (by omega)]
  | succ n ih =>
    intro i d hn hb hs
    by_cases hi : i < b
    · have step : qP9 (a : Int) (b : Int) ((i : Int), d.toList) = some (.inl (((i + 1 : Nat) : Int), (insInner lt a i d).toList)) := by
        simp only [qP9]
        rw [if_pos (by omega), qre9 hcmp a b _ i d (by omega) hs]
        simp only [Option.bind_some]
        rw [wN (n := i + 1) (by omega) (by omega)]
      rw [qE9 step, insOuter, if_pos hi]
      have hz := qqA9 (lt := lt) a i d
      exact ih (i + 1) _ (by omega) (by rw [hz]; exact hb) (by rw [hz]; exact hs)
    · refine ⟨(i : Int), qe9 ?_⟩
      simp only [qP9]
      rw [if_neg (by omega), insOuter, if_neg hi]
include hcmp in
theorem qlk9 {a b : Nat} {d : Array Bind} (hb : b ≤ d.size) (hab : a ≤ b) (hs : Sm d.size) : qbW9 (a : Int) (b : Int) d.toList = some (insertionSort lt d a b).toList := by
  simp only [qbW9]
  rw [wN (n := a + 1) (by omega) (by omega)]
  obtain ⟨k, hk⟩ := qqv9 hcmp a b (b - (a + 1)) (a + 1) d (Nat.le_refl _) hb hs
  rw [hk]; rfl
theorem qiF9 (hi first : Nat) : ∀ (n root : Nat) (d : Array Bind), hi - root ≤ n → (siftDown lt hi first root d).size = d.size := by
  intro n
  induction n with
  | zero => intro root d hn; rw [siftDown, dif_pos (by omega)]
  | succ n ih =>
    intro root d hn
    rw [siftDown]
    split
    · rfl
    split
    · split
      · rfl
      · split
        · rw [ih _ _ (by omega), qL9]
        · rfl
    · split
      · rfl
      · rw [ih _ _ (by omega), qL9]
include hcmp in
theorem qnN9 (lo hi first : Nat) : ∀ (n root : Nat) (d : Array Bind), hi - root ≤ n → first + hi ≤ d.size → Sm d.size → root ≤ d.size → ∃ x, wh (qG9 (lo : Int) (hi : Int) (first : Int)) ((root : Int), d.toList) = some x ∧
    (match x with | .inl p => p.2 | .inr o => o) = (siftDown lt hi first root d).toList := by
  intro n
  induction n with
  | zero =>
    intro root d hn hf hs hr
    refine ⟨_, qe9 (r := .inl ((root : Int), d.toList)) ?_, by rw [siftDown, dif_pos (by omega)]⟩
    simp only [qG9]
    rw [wN (x := 2 * (root : Int)) (n := 2 * root) (by omega) (by omega), wN (x := ((2 * root : Nat) : Int) + 1) (n := 2 * root + 1) (by omega) (by omega), if_pos (by omega)]
  | succ n ih =>
    intro root d hn hf hs hr
    by_cases h0 : 2 * root + 1 ≥ hi
    · refine ⟨_, qe9 (r := .inl ((root : Int), d.toList)) ?_, by rw [siftDown, dif_pos h0]⟩
      simp only [qG9]
      rw [wN (x := 2 * (root : Int)) (n := 2 * root) (by omega) (by omega), wN (x := ((2 * root : Nat) : Int) + 1) (n := 2 * root + 1) (by omega) (by omega), if_pos (by omega)]
    · have e1 : w64 (2 * (root : Int)) = ((2 * root : Nat) : Int) := wN (by omega) (by omega)
      have e2 : w64 (((2 * root : Nat) : Int) + 1) = ((2 * root + 1 : Nat) : Int) := wN (by omega) (by omega)
      have e3 : w64 (((2 * root + 1 : Nat) : Int) + 1) = ((2 * root + 2 : Nat) : Int) := wN (by omega) (by omega)
      have f1 : w64 ((first : Int) + ((2 * root + 1 : Nat) : Int)) = ((first + (2 * root + 1) : Nat) : Int) := wN (by omega) (by omega)
      have f2 : w64 (((first + (2 * root + 1) : Nat) : Int) + 1) = ((first + (2 * root + 1) + 1 : Nat) : Int) := wN (by omega) (by omega)
      have f3 : w64 ((first : Int) + (root : Int)) = ((first + root : Nat) : Int) := wN (by omega) (by omega)
      have f4 : w64 ((first : Int) + ((2 * root + 2 : Nat) : Int)) = ((first + (2 * root + 2) : Nat) : Int) := wN (by omega) (by omega)
      have go : ∀ (c : Nat), root < c → c < hi → first + c < d.size → ∀ (r : Option (Int × List Bind ⊕ (Int × List Bind) ⊕ List Bind)), qG9 (lo : Int) (hi : Int) (first : Int) ((root : Int), d.toList) = some (.inl ((c : Int), (swp d (first + root) (first + c)).toList)) → ∃ x, wh (qG9 (lo : Int) (hi : Int) (first : Int)) ((root : Int), d.toList) = some x ∧
          (match x with | .inl p => p.2 | .inr o => o) = (siftDown lt hi first c (swp d (first + root) (first + c))).toList := by
        intro c h1 h2 h3 _ hstep
        rw [qE9 hstep]
        exact ih c _ (by omega) (by rw [qL9]; exact hf) (by rw [qL9]; exact hs) (by rw [qL9]; omega)
      have stop : qG9 (lo : Int) (hi : Int) (first : Int) ((root : Int), d.toList) = some (.inr (.inr d.toList)) → ∃ x, wh (qG9 (lo : Int) (hi : Int) (first : Int)) ((root : Int), d.toList) = some x ∧
          (match x with | .inl p => p.2 | .inr o => o) = d.toList := fun h => ⟨_, qe9 h, rfl⟩
      have step : qG9 (lo : Int) (hi : Int) (first : Int) ((root : Int), d.toList) =
          if 2 * root + 1 + 1 < hi then (if lt d[first + (2 * root + 1)]! d[first + (2 * root + 1) + 1]! = true then (if lt d[first + root]! d[first + (2 * root + 2)]! = true then some (.inl (((2 * root + 2 : Nat) : Int), (swp d (first + root) (first + (2 * root + 2))).toList)) else some (.inr (.inr d.toList)))
            else (if lt d[first + root]! d[first + (2 * root + 1)]! = true then some (.inl (((2 * root + 1 : Nat) : Int), (swp d (first + root) (first + (2 * root + 1))).toList)) else some (.inr (.inr d.toList))))
          else (if lt d[first + root]! d[first + (2 * root + 1)]! = true then some (.inl (((2 * root + 1 : Nat) : Int), (swp d (first + root) (first + (2 * root + 1))).toList)) else some (.inr (.inr d.toList))) := by
        simp only [qG9, e1, e2, e3, f1, f2, f3, f4]
        rw [if_neg (by omega)]
        have b1 : first + (2 * root + 1) < d.size := by omega
        have b2 : first + root < d.size := by omega
        by_cases hc : 2 * root + 1 + 1 < hi
        · have b3 : first + (2 * root + 2) < d.size := by omega
          rw [if_pos (by omega), if_pos hc, idxA b1, idxA (show first + (2 * root + 1) + 1 < d.size by omega), idxA b2, idxA b3]
          simp only [Option.bind_some, cmpIf hcmp, swpB b2 b3 (k := fun l => some (Sum.inl (((2 * root + 2 : Nat) : Int), l))), swpB b2 b1 (k := fun l => some (Sum.inl (((2 * root + 1 : Nat) : Int), l)))]
        · rw [if_neg (by omega), if_neg hc, idxA b1, idxA b2]
          simp only [Option.bind_some, cmpIf hcmp, swpB b2 b1 (k := fun l => some (Sum.inl (((2 * root + 1 : Nat) : Int), l)))]
      rw [siftDown, dif_neg h0]
      by_cases hc : 2 * root + 1 + 1 < hi
      · rw [if_pos hc] at step
        by_cases h1 : lt d[first + (2 * root + 1)]! d[first + (2 * root + 1) + 1]! = true
        · rw [if_pos h1] at step
          rw [if_pos (by simp [hc, h1])]
          by_cases h2 : lt d[first + root]! d[first + (2 * root + 2)]! = true
          · rw [if_pos h2] at step
            rw [if_neg (by simp [h2]), dif_pos (by omega)]
            exact go (2 * root + 2) (by omega) (by omega) (by omega) none step
          · rw [if_neg h2] at step
            rw [if_pos (by simpa using h2)]
            exact stop step
        · rw [if_neg h1] at step
          rw [if_neg (by simp [h1])]
          by_cases h2 : lt d[first + root]! d[first + (2 * root + 1)]! = true
          · rw [if_pos h2] at step
            rw [if_neg (by simp [h2])]
            exact go (2 * root + 1) (by omega) (by omega) (by omega) none step
          · rw [if_neg h2] at step
            rw [if_pos (by simpa using h2)]
            exact stop step
      · rw [if_neg hc] at step
        rw [if_neg (by simp [hc])]
        by_cases h2 : lt d[first + root]! d[first + (2 * root + 1)]! = true
        · rw [if_pos h2] at step
          rw [if_neg (by simp [h2])]
          exact go (2 * root + 1) (by omega) (by omega) (by omega) none step
        · rw [if_neg h2] at step
          rw [if_pos (by simpa using h2)]
          exact stop step
include hcmp in
theorem qkV9 {root hi first : Nat} {d : Array Bind} (hf : first + hi ≤ d.size) (hs : Sm d.size) (hr : root ≤ d.size) : qbR9 (root : Int) (hi : Int) (first : Int) d.toList = some (siftDown lt hi first root d).toList := by
  obtain ⟨x, h1, h2⟩ := qnN9 hcmp root hi first (hi - root) root d (Nat.le_refl _) hf hs hr
  simp only [qbR9, h1, Option.bind_some]
  cases x with
  | inl p => obtain ⟨p1, p2⟩ := p; exact congrArg some h2
  | inr o => exact congrArg some h2
include hcmp in
theorem qpV9 (a b hi first : Nat) : ∀ (k : Nat) (d : Array Bind), first + hi ≤ d.size → k ≤ d.size → Sm d.size → ∃ x, wh (qbt9 (a : Int) (b : Int) (first : Int) (hi : Int)) ((k : Int) - 1, d.toList) = some (x, (heapBuild lt hi first k d).toList) := by
  intro k
  induction k with
  | zero =>
    intro d hf hk hs
    refine ⟨_, qe9 (r := (((0 : Nat) : Int) - 1, d.toList)) ?_⟩
    simp only [qbt9]
    rw [if_neg (by omega)]
  | succ k ih =>
    intro d hf hk hs
    have hz := qiF9 (lt := lt) hi first (hi - k) k d (Nat.le_refl _)
    have step : qbt9 (a : Int) (b : Int) (first : Int) (hi : Int) (((k + 1 : Nat) : Int) - 1, d.toList) = some (.inl ((k : Int) - 1, (siftDown lt hi first k d).toList)) := by
      simp only [qbt9]
      rw [if_pos (by omega), show ((k + 1 : Nat) : Int) - 1 = (k : Int) by omega, qkV9 hcmp hf hs (by omega)]
      simp only [Option.bind_some]
      rw [wZ (by omega) (by omega)]
    rw [qE9 step]
    exact ih _ (by rw [hz]; exact hf) (by rw [hz]; omega) (by rw [hz]; exact hs)
theorem qpg9 (hi first : Nat) : ∀ (k : Nat) (d : Array Bind), (heapBuild lt hi first k d).size = d.size := by
  intro k
  induction k with
  | zero => intro d; rfl
  | succ k ih => intro d; rw [heapBuild, ih, qiF9 hi first (hi - k) k d (Nat.le_refl _)]
include hcmp in
theorem qtg9 (a b hi first : Nat) (s11 : Int) : ∀ (k : Nat) (d : Array Bind), first + k ≤ d.size → Sm d.size → ∃ x, wh (qbu9 (a : Int) (b : Int) (first : Int) (hi : Int) s11) ((k : Int) - 1, d.toList) = some (x, (heapPop lt first k d).toList) := by
  intro k
  induction k with
  | zero =>
    intro d hf hs
    refine ⟨_, qe9 (r := (((0 : Nat) : Int) - 1, d.toList)) ?_⟩
    simp only [qbu9]
    rw [if_neg (by omega)]
  | succ k ih =>
    intro d hf hs
    have hz := qiF9 (lt := lt) k first k 0 (swp d first (first + k)) (Nat.le_refl _)
    rw [qL9] at hz
    have b1 : first < d.size := by omega
    have b2 : first + k < d.size := by omega
    have step : qbu9 (a : Int) (b : Int) (first : Int) (hi : Int) s11 (((k + 1 : Nat) : Int) - 1, d.toList) = some (.inl ((k : Int) - 1, (siftDown lt k first 0 (swp d first (first + k))).toList)) := by
      simp only [qbu9]
      rw [if_pos (by omega), show ((k + 1 : Nat) : Int) - 1 = (k : Int) by omega, wN (x := (first : Int) + (k : Int)) (n := first + k) (by omega) (by omega), idxA b1, idxA b2]
      simp only [Option.bind_some]
      rw [swpB b1 b2 (k := fun l => (qbR9 0 (k : Int) (first : Int) l).bind fun x11 => some (Sum.inl (w64 ((k : Int) - 1), x11)))]
      have := qkV9 hcmp (root := 0) (hi := k) (first := first) (d := swp d first (first + k)) (by rw [qL9]; omega) (by rw [qL9]; exact hs) (by omega)
      rw [Int.natCast_zero] at this
      rw [this]
      simp only [Option.bind_some]
      rw [wZ (by omega) (by omega)]
    rw [qE9 step]
    exact ih _ (by rw [hz]; omega) (by rw [hz]; exact hs)
include hcmp in
theorem qrf9 {a b : Nat} {d : Array Bind} (hb : b ≤ d.size) (hab : a < b) (hs : Sm d.size) : qcV9 (a : Int) (b : Int) d.toList = some (heapSort lt d a b).toList := by
  simp only [qcV9]
  have e1 : w64 ((b : Int) - (a : Int)) = ((b - a : Nat) : Int) := wN (by omega) (by omega)
  have e2 : w64 (((b - a : Nat) : Int) - 1) = ((b - a - 1 : Nat) : Int) := wN (by omega) (by omega)
  have e3 : quoV .i64 ((b - a - 1 : Nat) : Int) 2 = some ((((b - a - 1) / 2 + 1 : Nat) : Int) - 1) := by
    unfold quoV
    rw [if_neg (by decide)]
    have : (((b - a - 1 : Nat) : Int)).tdiv 2 = (((b - a - 1) / 2 : Nat) : Int) := by
      rw [Int.tdiv_eq_ediv_of_nonneg (by omega)]; omega
    rw [this]
    exact congrArg some ((wZ (x := (((b - a - 1) / 2 : Nat) : Int)) (by omega) (by omega)).trans (by omega))
  rw [e1, e2, e3]
  simp only [Option.bind_some]
  obtain ⟨x, hx⟩ := qpV9 hcmp a b (b - a) a ((b - a - 1) / 2 + 1) d (by omega) (by omega) hs
  rw [hx]
  simp only [Option.bind_some]
  have hz := qpg9 (lt := lt) (b - a) a ((b - a - 1) / 2 + 1) d
  obtain ⟨y, hy⟩ := qtg9 hcmp a b (b - a) a x (b - a) (heapBuild lt (b - a) a ((b - a - 1) / 2 + 1) d) (by rw [hz]; omega) (by rw [hz]; exact hs)
  rw [show ((b - a - 1 : Nat) : Int) = ((b - a : Nat) : Int) - 1 by omega, hy]
  rfl
theorem qmt9 (a b : Nat) : ∀ (n i j : Nat) (d : Array Bind), j - i ≤ n → j < d.size → Sm d.size → ∃ x y, wh (qS9 (a : Int) (b : Int)) ((i : Int), (j : Int), d.toList) = some (x, y, (reverseLoop i j d).toList) := by
  intro n
  induction n with
  | zero =>
    intro i j d hn hj hs
    refine ⟨_, _, qe9 (r := ((i : Int), (j : Int), (reverseLoop i j d).toList)) ?_⟩
    simp only [qS9]
    rw [if_neg (by omega), reverseLoop, if_neg (by omega)]
  | succ n ih =>
    intro i j d hn hj hs
    by_cases h : i < j
    · have b1 : i < d.size := by omega
      have step : qS9 (a : Int) (b : Int) ((i : Int), (j : Int), d.toList) = some (.inl (((i + 1 : Nat) : Int), ((j - 1 : Nat) : Int), (swp d i j).toList)) := by
        simp only [qS9]
        rw [if_pos (by omega), idxA hj, idxA b1, wN (x := (i : Int) + 1) (n := i + 1) (by omega) (by omega), wN (x := (j : Int) - 1) (n := j - 1) (by omega) (by omega)]
        simp only [Option.bind_some]
        rw [swpB b1 hj (k := fun l => some (Sum.inl (((i + 1 : Nat) : Int), ((j - 1 : Nat) : Int), l)))]
      rw [qE9 step, reverseLoop, if_pos h]
      exact ih (i + 1) (j - 1) _ (by omega) (by rw [qL9]; omega) (by rw [qL9]; exact hs)
    · refine ⟨_, _, qe9 (r := ((i : Int), (j : Int), (reverseLoop i j d).toList)) ?_⟩
      simp only [qS9]
      rw [if_neg (by omega), reverseLoop, if_neg h]
theorem qlQ9 {a b : Nat} {d : Array Bind} (hb : b ≤ d.size) (hab : a < b) (hs : Sm d.size) : qbm9 (a : Int) (b : Int) d.toList = some (reverseRange d a b).toList := by
  simp only [qbm9]
  rw [wN (x := (b : Int) - 1) (n := b - 1) (by omega) (by omega)]
  obtain ⟨x, y, h⟩ := qmt9 a b (b - 1 - a) a (b - 1) d (Nat.le_refl _) (by omega) hs
  rw [h]; rfl
end
end Ld.SoB
namespace Ld.SoB
open Go Go.Abs Go.Sort
variable {lt : Bind → Bind → Bool} (hcmp : ∀ a b, ∃ n, qi9 a b = some n ∧ (n < 0 ↔ lt a b = true))
section
theorem qmJ9 (d : Array Bind) (b : Nat) : ∀ (n i : Nat), b - i ≤ n → i ≤ b → i ≤ scanSorted lt d b i ∧ scanSorted lt d b i ≤ b := by
  intro n
  induction n with
  | zero => intro i hn hi; rw [scanSorted, if_neg (by simp; omega)]; omega
  | succ n ih =>
    intro i hn hi
    rw [scanSorted]
    split
    · rename_i h
      simp only [Bool.and_eq_true, decide_eq_true_eq] at h
      have := ih (i + 1) (by omega) (by omega)
      omega
    · omega
include hcmp in
theorem qnV9 (a b : Nat) (s10 : Int) {d : Array Bind} (hb : b ≤ d.size) (hs : Sm d.size) : ∀ (n i : Nat), b - i ≤ n → 1 ≤ i → i ≤ b → wh (qB9 (a : Int) (b : Int) s10 d.toList) (i : Int) = some ((scanSorted lt d b i : Nat) : Int) := by
  intro n
  induction n with
  | zero =>
    intro i hn h1 hi
    refine qe9 ?_
    simp only [qB9]
    rw [if_neg (by omega), scanSorted, if_neg (by simp; omega)]
  | succ n ih =>
    intro i hn h1 hi
    by_cases hlt : i < b
    · have step : qB9 (a : Int) (b : Int) s10 d.toList (i : Int) = if lt d[i]! d[i - 1]! = true then some (.inr (i : Int)) else some (.inl ((i + 1 : Nat) : Int)) := by
        simp only [qB9]
        rw [if_pos (by omega), wN (x := (i : Int) - 1) (n := i - 1) (by omega) (by omega), wN (x := (i : Int) + 1) (n := i + 1) (by omega) (by omega), idxA (show i < d.size by omega), idxA (show i - 1 < d.size by omega)]
        simp only [Option.bind_some, cmpIf hcmp]
      rw [scanSorted]
      by_cases hc : lt d[i]! d[i - 1]! = true
      · rw [if_pos hc] at step
        rw [qe9 step, if_neg (by simp [hc])]
      · rw [if_neg hc] at step
        rw [qE9 step, if_pos (by simp [hlt, hc])]
        exact ih (i + 1) (by omega) (by omega) (by omega)
    · refine qe9 ?_
      simp only [qB9]
      rw [if_neg (by omega), scanSorted, if_neg (by simp; omega)]
theorem qkh9 : ∀ (j : Nat) (d : Array Bind), (shiftDown lt j d).size = d.size := by
  intro j
  induction j with
  | zero => intro d; rfl
  | succ j ih => intro d; simp only [shiftDown]; split <;> simp [ih, qL9]
include hcmp in
theorem qoQ9 (a b : Nat) (s9 s10 : Int) : ∀ (j : Nat) (d : Array Bind), j < d.size → Sm d.size → wh (qJ9 (a : Int) (b : Int) s9 s10) ((j : Int), d.toList) = some (shiftDown lt j d).toList := by
  intro j
  induction j with
  | zero =>
    intro d _ _
    refine qe9 ?_
    simp only [qJ9]
    rw [if_neg (by omega)]; rfl
  | succ j ih =>
    intro d hj hs
    have step : qJ9 (a : Int) (b : Int) s9 s10 (((j + 1 : Nat) : Int), d.toList) = if lt d[j + 1]! d[j]! = true then some (.inl ((j : Int), (swp d (j + 1) j).toList)) else some (.inr d.toList) := by
      simp only [qJ9]
      rw [if_pos (by omega), wN (x := ((j + 1 : Nat) : Int) - 1) (n := j) (by omega) (by omega), idxA hj, idxA (show j < d.size by omega)]
      simp only [Option.bind_some, cmpIf hcmp, swpB hj (show j < d.size by omega) (k := fun l => some (Sum.inl ((j : Int), l)))]
    by_cases hc : lt d[j + 1]! d[j]! = true
    · rw [if_pos hc] at step
      rw [qE9 step, shiftDown, if_neg (by simp [hc])]
      exact ih _ (by rw [qL9]; omega) (by rw [qL9]; exact hs)
    · rw [if_neg hc] at step
      rw [qe9 step, shiftDown, if_pos (by simpa using hc)]
theorem qsM9 (b : Nat) : ∀ (n j : Nat) (d : Array Bind), b - j ≤ n → (shiftUp lt b j d).size = d.size := by
  intro n
  induction n with
  | zero => intro j d hn; rw [shiftUp, if_neg (by omega)]
  | succ n ih =>
    intro j d hn
    rw [shiftUp]
    split
    · split
      · rfl
      · rw [ih _ _ (by omega), qL9]
    · rfl
include hcmp in
theorem qlC9 (a b : Nat) (s9 s10 : Int) : ∀ (n j : Nat) (d : Array Bind), b - j ≤ n → 1 ≤ j → b ≤ d.size → Sm d.size → j ≤ d.size + 1 → wh (qx9 (a : Int) (b : Int) s9 s10) ((j : Int), d.toList) = some (shiftUp lt b j d).toList := by
  intro n
  induction n with
  | zero =>
    intro j d hn h1 hb hs hj
    refine qe9 ?_
    simp only [qx9]
    rw [if_neg (by omega), shiftUp, if_neg (by omega)]
  | succ n ih =>
    intro j d hn h1 hb hs hj
    by_cases hlt : j < b
    · have b1 : j < d.size := by omega
      have b2 : j - 1 < d.size := by omega
      have step : qx9 (a : Int) (b : Int) s9 s10 ((j : Int), d.toList) = if lt d[j]! d[j - 1]! = true then some (.inl (((j + 1 : Nat) : Int), (swp d j (j - 1)).toList)) else some (.inr d.toList) := by
        simp only [qx9]
        rw [if_pos (by omega), wN (x := (j : Int) - 1) (n := j - 1) (by omega) (by omega), wN (x := (j : Int) + 1) (n := j + 1) (by omega) (by omega), idxA b1, idxA b2]
        simp only [Option.bind_some, cmpIf hcmp, swpB b1 b2 (k := fun l => some (Sum.inl (((j + 1 : Nat) : Int), l)))]
      rw [shiftUp, if_pos hlt]
      by_cases hc : lt d[j]! d[j - 1]! = true
      · rw [if_pos hc] at step
        rw [qE9 step, if_neg (by simp [hc])]
        exact ih (j + 1) _ (by omega) (by omega) (by rw [qL9]; exact hb) (by rw [qL9]; exact hs) (by rw [qL9]; omega)
      · rw [if_neg hc] at step
        rw [qe9 step, if_pos (by simpa using hc)]
    · refine qe9 ?_
      simp only [qx9]
      rw [if_neg (by omega), shiftUp, if_neg hlt]
include hcmp in
theorem qnQ9 {a b : Nat} (hab : a < b) : ∀ (s i : Nat) (d : Array Bind), s ≤ 5 → a < i → i ≤ b → b ≤ d.size → Sm d.size → ∃ x, wh (qH9 (a : Int) (b : Int)) ((i : Int), ((5 - s : Nat) : Int), d.toList) = some x ∧
    (match x with | .inl p => p | .inr q => (false, q.2.2)) = ((partialIns lt a b s i d).2, (partialIns lt a b s i d).1.toList) := by
  intro s
  induction s with
  | zero =>
    intro i d _ h1 h2 hb hs
    refine ⟨_, qe9 (r := .inr ((i : Int), ((5 - 0 : Nat) : Int), d.toList)) ?_, rfl⟩
    simp only [qH9]
    rw [if_neg (by omega)]
  | succ s ih =>
    intro i d h5 h1 h2 hb hs
    have hsc := qmJ9 (lt := lt) d b (b - i) i (Nat.le_refl _) h2
    have hsq := qnV9 hcmp a b ((5 - (s + 1) : Nat) : Int) hb hs (b - i) i (Nat.le_refl _) (by omega) h2
    simp only [partialIns]
    generalize hk : scanSorted lt d b i = k at hsc hsq ⊢
    have base : qH9 (a : Int) (b : Int) ((i : Int), ((5 - (s + 1) : Nat) : Int), d.toList) =
        if k = b then some (.inr (.inl (true, d.toList))) else if b - a < 50 then some (.inr (.inl (false, d.toList))) else
          some (.inl ((k : Int), ((5 - s : Nat) : Int), ((fun d1 => if b - k ≥ 2 then shiftUp lt b (k + 1) d1 else d1) ((fun d1 => if k - a ≥ 2 then shiftDown lt (k - 1) d1 else d1) (swp d k (k - 1)))).toList)) := by
      simp only [qH9]
      rw [if_pos (by omega), hsq]
      simp only [Option.bind_some]
      by_cases hkb : k = b
      · rw [if_pos (by omega), if_pos hkb]
      rw [if_neg (by omega), if_neg hkb, wN (x := (b : Int) - (a : Int)) (n := b - a) (by omega) (by omega)]
      by_cases h50 : b - a < 50
      · rw [if_pos (by omega), if_pos h50]
      rw [if_neg (by omega), if_neg h50]
      have b1 : k < d.size := by omega
      have b2 : k - 1 < d.size := by omega
      rw [wN (x := (k : Int) - 1) (n := k - 1) (by omega) (by omega), wN (x := (k : Int) + 1) (n := k + 1) (by omega) (by omega), idxA b1, idxA b2]
      obtain ⟨y, hy⟩ := idxS (d := d) (i := k - 1) (x := d[k - 1]!) (n := k) b2
      simp only [Option.bind_some, Int.toNat_natCast, hy, swpA b1 b2]
      rw [wN (x := (k : Int) - (a : Int)) (n := k - a) (by omega) (by omega), wN (x := (b : Int) - (k : Int)) (n := b - k) (by omega) (by omega), wN (x := ((5 - (s + 1) : Nat) : Int) + 1) (n := 5 - s) (by omega) (by omega)]
      have hz : (swp d k (k - 1)).size = d.size := qL9 _ _ _
      by_cases c1 : k - a ≥ 2
      · rw [if_pos (by omega), if_pos c1, qoQ9 hcmp a b _ _ (k - 1) _ (by rw [hz]; omega) (by rw [hz]; exact hs)]
        simp only [Option.bind_some]
        have hz2 := qkh9 (lt := lt) (k - 1) (swp d k (k - 1))
        by_cases c2 : b - k ≥ 2
        · rw [if_pos (by omega), if_pos c2, qlC9 hcmp a b _ _ (b - (k + 1)) (k + 1) _ (Nat.le_refl _) (by omega) (by rw [hz2, hz]; exact hb) (by rw [hz2, hz]; exact hs) (by rw [hz2, hz]; omega)]
          rfl
        · rw [if_neg (by omega), if_neg c2]
      · rw [if_neg (by omega), if_neg c1]
        by_cases c2 : b - k ≥ 2
        · rw [if_pos (by omega), if_pos c2, qlC9 hcmp a b _ _ (b - (k + 1)) (k + 1) _ (Nat.le_refl _) (by omega) (by rw [hz]; exact hb) (by rw [hz]; exact hs) (by rw [hz]; omega)]
          rfl
        · rw [if_neg (by omega), if_neg c2]
    by_cases hkb : k = b
    · rw [if_pos hkb] at base
      refine ⟨_, qe9 base, ?_⟩
      rw [if_pos hkb]
    rw [if_neg hkb] at base
    rw [if_neg hkb]
    by_cases h50 : b - a < 50
    · rw [if_pos h50] at base
      refine ⟨_, qe9 base, ?_⟩
      rw [if_pos h50]
    rw [if_neg h50] at base
    rw [if_neg h50, qE9 base]
    have hz : ((fun d1 => if b - k ≥ 2 then shiftUp lt b (k + 1) d1 else d1) ((fun d1 => if k - a ≥ 2 then shiftDown lt (k - 1) d1 else d1) (swp d k (k - 1)))).size = d.size := by
      have e1 : ((fun d1 => if k - a ≥ 2 then shiftDown lt (k - 1) d1 else d1) (swp d k (k - 1))).size = d.size := by
        simp only []
        split
        · rw [qkh9, qL9]
        · rw [qL9]
      generalize ((fun d1 => if k - a ≥ 2 then shiftDown lt (k - 1) d1 else d1) (swp d k (k - 1))) = d1 at e1
      simp only []
      split
      · rw [qsM9 b (b - (k + 1)) (k + 1) _ (Nat.le_refl _), e1]
      · exact e1
    exact ih k _ (by omega) (by omega) (by omega) (by rw [hz]; exact hb) (by rw [hz]; exact hs)
include hcmp in
theorem qio9 {a b : Nat} {d : Array Bind} (hab : a < b) (hb : b ≤ d.size) (hs : Sm d.size) : qO9 (a : Int) (b : Int) d.toList = some ((partialInsertionSort lt d a b).2, (partialInsertionSort lt d a b).1.toList) := by
  obtain ⟨x, h1, h2⟩ := qnQ9 hcmp hab 5 (a + 1) d (Nat.le_refl _) (by omega) (by omega) hb hs
  simp only [qO9]
  rw [wN (x := (a : Int) + 1) (n := a + 1) (by omega) (by omega)]
  simp only [Nat.sub_self, Int.natCast_zero] at h1
  rw [h1]
  unfold partialInsertionSort
  cases x with
  | inl p => simp only [Option.bind_some]; exact congrArg some h2
  | inr q => obtain ⟨q1, q2, q3⟩ := q; simp only [Option.bind_some]; exact congrArg some h2
theorem qkd9 {step : Int → Option (Int ⊕ Int)} {p : Bind → Bool} {d : Array Bind} {j : Nat} (h : ∀ i : Nat, i ≤ j + 2 → step (i : Int) = if (decide (i ≤ j) && p d[i]!) = true then some (.inl ((i + 1 : Nat) : Int)) else some (.inr (i : Int))) :
    ∀ (n i : Nat), j + 1 - i ≤ n → i ≤ j + 2 → wh step (i : Int) = some ((scanUp p d j i : Nat) : Int) := by
  intro n
  induction n with
  | zero =>
    intro i hn hi
    have hc : ¬ ((decide (i ≤ j) && p d[i]!) = true) := by simp; omega
    rw [scanUp, if_neg hc]
    exact qe9 (by rw [h i hi, if_neg hc])
  | succ n ih =>
    intro i hn hi
    rw [scanUp]
    by_cases hc : (decide (i ≤ j) && p d[i]!) = true
    · rw [if_pos hc, qE9 (by rw [h i hi, if_pos hc])]
      have : i ≤ j := by simp at hc; exact hc.1
      exact ih (i + 1) (by omega) (by omega)
    · rw [if_neg hc]
      exact qe9 (by rw [h i hi, if_neg hc])
theorem qiK9 {step : Int → Option (Int ⊕ Int)} {p : Bind → Bool} {d : Array Bind} {i : Nat} (hi : 1 ≤ i) : ∀ (j : Nat), (∀ k : Nat, k ≤ j → step (k : Int) = if (decide (i ≤ k) && p d[k]!) = true then some (.inl ((k - 1 : Nat) : Int)) else some (.inr (k : Int))) →
    wh step (j : Int) = some ((scanDown p d i j : Nat) : Int) := by
  intro j
  induction j with
  | zero =>
    intro h
    refine qe9 ?_
    rw [h 0 (Nat.le_refl _), if_neg (by simp; omega)]; rfl
  | succ j ih =>
    intro h
    rw [scanDown]
    have h0 := h (j + 1) (Nat.le_refl _)
    by_cases hc : (decide (i ≤ j + 1) && p d[j + 1]!) = true
    · rw [if_pos hc] at h0 ⊢
      rw [qE9 h0]
      exact ih (fun k hk => h k (by omega))
    · rw [if_neg hc] at h0 ⊢
      exact qe9 h0
include hcmp in
theorem qrP9 {a b pv j : Nat} {d : Array Bind} (hj : j < d.size) (ha : a < d.size) (hs : Sm d.size) (i : Nat) (hi : i ≤ j + 2) : wh (qch9 (a : Int) (b : Int) (pv : Int) (j : Int) d.toList) (i : Int) = some ((scanUp (fun x => lt x d[a]!) d j i : Nat) : Int) := by
  refine qkd9 (fun k hk => ?_) (j + 1 - i) i (Nat.le_refl _) hi
  simp only [qch9]
  by_cases h : k ≤ j
  · rw [if_pos (by omega), idxA (show k < d.size by omega), idxA ha, wN (x := (k : Int) + 1) (n := k + 1) (by omega) (by omega)]
    simp only [Option.bind_some, cmpIf hcmp, decide_eq_true h, Bool.true_and]
  · rw [if_neg (by omega), if_neg (by simp; omega)]
include hcmp in
theorem qwB9 {a b pv j : Nat} {d : Array Bind} (hj : j < d.size) (ha : a < d.size) (hs : Sm d.size) (i : Nat) (hi : i ≤ j + 2) : wh (qcd9 (a : Int) (b : Int) (pv : Int) (j : Int) d.toList) (i : Int) = some ((scanUp (fun x => lt x d[a]!) d j i : Nat) : Int) := by
  refine qkd9 (fun k hk => ?_) (j + 1 - i) i (Nat.le_refl _) hi
  simp only [qcd9]
  by_cases h : k ≤ j
  · rw [if_pos (by omega), idxA (show k < d.size by omega), idxA ha, wN (x := (k : Int) + 1) (n := k + 1) (by omega) (by omega)]
    simp only [Option.bind_some, cmpIf hcmp, decide_eq_true h, Bool.true_and]
  · rw [if_neg (by omega), if_neg (by simp; omega)]
theorem ifNot {β : Type} (c : Bool) (A B : β) : (if c = true then A else B) = if (!c) = true then B else A := by cases c <;> rfl
include hcmp in
theorem qnG9 {a b pv i : Nat} {d : Array Bind} (hi : 1 ≤ i) (ha : a < d.size) (hs : Sm d.size) (j : Nat) (hj : j < d.size) : wh (qce9 (a : Int) (b : Int) (pv : Int) (i : Int) d.toList) (j : Int) = some ((scanDown (fun x => !lt x d[a]!) d i j : Nat) : Int) := by
  refine qiK9 hi j (fun k hk => ?_)
  simp only [qce9]
  by_cases h : i ≤ k
  · rw [if_pos (by omega), idxA (show k < d.size by omega), idxA ha, wN (x := (k : Int) - 1) (n := k - 1) (by omega) (by omega)]
    simp only [Option.bind_some, cmpIf hcmp, decide_eq_true h, Bool.true_and]
    exact ifNot _ _ _
  · rw [if_neg (by omega), if_neg (by simp; omega)]
include hcmp in
theorem qrS9 {a b pv i : Nat} {d : Array Bind} (hi : 1 ≤ i) (ha : a < d.size) (hs : Sm d.size) (j : Nat) (hj : j < d.size) : wh (qcj9 (a : Int) (b : Int) (pv : Int) (i : Int) d.toList) (j : Int) = some ((scanDown (fun x => !lt x d[a]!) d i j : Nat) : Int) := by
  refine qiK9 hi j (fun k hk => ?_)
  simp only [qcj9]
  by_cases h : i ≤ k
  · rw [if_pos (by omega), idxA (show k < d.size by omega), idxA ha, wN (x := (k : Int) - 1) (n := k - 1) (by omega) (by omega)]
    simp only [Option.bind_some, cmpIf hcmp, decide_eq_true h, Bool.true_and]
    exact ifNot _ _ _
  · rw [if_neg (by omega), if_neg (by simp; omega)]
include hcmp in
theorem up_eq {a b pv j : Nat} {d : Array Bind} (hj : j < d.size) (ha : a < d.size) (hs : Sm d.size) (i : Nat) (hi : i ≤ j + 2) : wh (qbA9 (a : Int) (b : Int) (pv : Int) (j : Int) d.toList) (i : Int) = some ((scanUp (fun x => !lt d[a]! x) d j i : Nat) : Int) := by
  refine qkd9 (fun k hk => ?_) (j + 1 - i) i (Nat.le_refl _) hi
  simp only [qbA9]
  by_cases h : k ≤ j
  · rw [if_pos (by omega), idxA (show k < d.size by omega), idxA ha, wN (x := (k : Int) + 1) (n := k + 1) (by omega) (by omega)]
    simp only [Option.bind_some, cmpIf hcmp, decide_eq_true h, Bool.true_and]
    exact ifNot _ _ _
  · rw [if_neg (by omega), if_neg (by simp; omega)]
include hcmp in
theorem qrI9 {a b pv i : Nat} {d : Array Bind} (hi : 1 ≤ i) (ha : a < d.size) (hs : Sm d.size) (j : Nat) (hj : j < d.size) : wh (qbB9 (a : Int) (b : Int) (pv : Int) (i : Int) d.toList) (j : Int) = some ((scanDown (fun x => lt d[a]! x) d i j : Nat) : Int) := by
  refine qiK9 hi j (fun k hk => ?_)
  simp only [qbB9]
  by_cases h : i ≤ k
  · rw [if_pos (by omega), idxA (show k < d.size by omega), idxA ha, wN (x := (k : Int) - 1) (n := k - 1) (by omega) (by omega)]
    simp only [Option.bind_some, cmpIf hcmp, decide_eq_true h, Bool.true_and]
  · rw [if_neg (by omega), if_neg (by simp; omega)]
include hcmp in
theorem qrs9 {a b pv : Nat} : ∀ (n i j : Nat) (d : Array Bind), j + 1 - i ≤ n → a < i → i ≤ j + 2 → j < d.size → a < d.size → Sm d.size → ∃ x, wh (qbc9 (a : Int) (b : Int) (pv : Int)) ((i : Int), (j : Int), d.toList) = some (x, (((partLoop lt a i j d).1 : Nat) : Int), (partLoop lt a i j d).2.toList) := by
  intro n
  induction n with
  | zero =>
    intro i j d hn ha hi hj haz hs
    have h1 := qrP9 hcmp (a := a) (b := b) (pv := pv) hj (by omega) hs i hi
    have g1 := scanUp_ge (fun x => lt x d[a]!) d j i
    have h2 := qnG9 hcmp (a := a) (b := b) (pv := pv) (i := scanUp (fun x => lt x d[a]!) d j i) (by omega) (by omega) hs j hj
    have g2 := scanDown_le (fun x => !lt x d[a]!) d (scanUp (fun x => lt x d[a]!) d j i) j
    rw [partLoop_eq, if_pos (by omega)]
    refine ⟨_, qe9 (r := (((scanUp (fun x => lt x d[a]!) d j i : Nat) : Int), _, _)) ?_⟩
    simp only [qbc9, h1, h2, Option.bind_some]
    rw [if_pos (by omega)]
  | succ n ih =>
    intro i j d hn ha hi hj haz hs
    have h1 := qrP9 hcmp (a := a) (b := b) (pv := pv) hj (by omega) hs i hi
    have g1 := scanUp_ge (fun x => lt x d[a]!) d j i
    have h2 := qnG9 hcmp (a := a) (b := b) (pv := pv) (i := scanUp (fun x => lt x d[a]!) d j i) (by omega) (by omega) hs j hj
    have g2 := scanDown_le (fun x => !lt x d[a]!) d (scanUp (fun x => lt x d[a]!) d j i) j
    rw [partLoop_eq]
    generalize scanUp (fun x => lt x d[a]!) d j i = i2 at h1 g1 h2 g2 ⊢
    generalize scanDown (fun x => !lt x d[a]!) d i2 j = j2 at h2 g2 ⊢
    by_cases h : i2 > j2
    · rw [if_pos h]
      refine ⟨_, qe9 (r := ((i2 : Int), (j2 : Int), d.toList)) ?_⟩
      simp only [qbc9, h1, h2, Option.bind_some]
      rw [if_pos (by omega)]
    · have b1 : i2 < d.size := by omega
      have b2 : j2 < d.size := by omega
      have step : qbc9 (a : Int) (b : Int) (pv : Int) ((i : Int), (j : Int), d.toList) = some (.inl (((i2 + 1 : Nat) : Int), ((j2 - 1 : Nat) : Int), (swp d i2 j2).toList)) := by
        simp only [qbc9, h1, h2, Option.bind_some]
        rw [if_neg (by omega), idxA b1, idxA b2, wN (x := (i2 : Int) + 1) (n := i2 + 1) (by omega) (by omega), wN (x := (j2 : Int) - 1) (n := j2 - 1) (by omega) (by omega)]
        simp only [Option.bind_some]
        rw [swpB b1 b2 (k := fun l => some (Sum.inl (((i2 + 1 : Nat) : Int), ((j2 - 1 : Nat) : Int), l)))]
      rw [if_neg h, qE9 step]
      exact ih (i2 + 1) (j2 - 1) _ (by omega) (by omega) (by omega) (by rw [qL9]; omega) (by rw [qL9]; exact haz) (by rw [qL9]; exact hs)
include hcmp in
theorem qpz9 {a b pv : Nat} {d : Array Bind} (h1 : a ≤ pv) (h2 : pv < b) (hb : b ≤ d.size) (hs : Sm d.size) (hpos : a + 1 < b) : qp9 (a : Int) (b : Int) (pv : Int) d.toList = some (((((partition lt d a b pv).1 : Nat) : Int)), (partition lt d a b pv).2.1, (partition lt d a b pv).2.2.toList) := by
  have b1 : a < d.size := by omega
  have b2 : pv < d.size := by omega
  have hz : (swp d a pv).size = d.size := qL9 _ _ _
  have u := qwB9 hcmp (a := a) (b := b) (pv := pv) (j := b - 1) (d := swp d a pv) (by rw [hz]; omega) (by rw [hz]; omega) (by rw [hz]; exact hs) (a + 1) (by omega)
  have g1 := scanUp_ge (fun x => lt x (swp d a pv)[a]!) (swp d a pv) (b - 1) (a + 1)
  have g3 := (scanUp_spec (fun x => lt x (swp d a pv)[a]!) (swp d a pv) (b - 1) _ (a + 1) rfl).2.1 (by omega)
  have w := qrS9 hcmp (a := a) (b := b) (pv := pv) (d := swp d a pv) (i := scanUp (fun x => lt x (swp d a pv)[a]!) (swp d a pv) (b - 1) (a + 1)) (by omega) (by rw [hz]; omega) (by rw [hz]; exact hs) (b - 1) (by rw [hz]; omega)
  have g2 := scanDown_le (fun x => !lt x (swp d a pv)[a]!) (swp d a pv) (scanUp (fun x => lt x (swp d a pv)[a]!) (swp d a pv) (b - 1) (a + 1)) (b - 1)
  obtain ⟨y, hy⟩ := idxS (d := d) (i := pv) (x := d[pv]!) (n := a) b2
  simp only [qp9]
  rw [idxA b1, idxA b2, wN (x := (b : Int) - 1) (n := b - 1) (by omega) (by omega), wN (x := (a : Int) + 1) (n := a + 1) (by omega) (by omega)]
  simp only [Option.bind_some, Int.toNat_natCast, hy, swpA b1 b2, u, w]
  unfold partition
  simp only []
  generalize swp d a pv = e at hz u g1 g3 w g2 ⊢
  generalize scanUp (fun x => lt x e[a]!) e (b - 1) (a + 1) = i2 at u g1 g3 w g2 ⊢
  generalize scanDown (fun x => !lt x e[a]!) e i2 (b - 1) = j2 at w g2 ⊢
  have c1 : a < e.size := by omega
  have c2 : j2 < e.size := by omega
  by_cases h : i2 > j2
  · rw [if_pos (by omega), if_pos h, idxA c1, idxA c2]
    obtain ⟨y2, hy2⟩ := idxS (d := e) (i := a) (x := e[a]!) (n := j2) c1
    simp only [Option.bind_some, hy2, swpA c2 c1]
  · rw [if_neg (by omega), if_neg h]
    have c3 : i2 < e.size := by omega
    rw [idxA c2, idxA c3, wN (x := (i2 : Int) + 1) (n := i2 + 1) (by omega) (by omega), wN (x := (j2 : Int) - 1) (n := j2 - 1) (by omega) (by omega)]
    obtain ⟨y3, hy3⟩ := idxS (d := e) (i := j2) (x := e[j2]!) (n := i2) c2
    simp only [Option.bind_some, hy3, swpA c3 c2]
    obtain ⟨x, hx⟩ := qrs9 hcmp (a := a) (b := b) (pv := pv) (j2 - 1 + 1 - (i2 + 1)) (i2 + 1) (j2 - 1) (swp e i2 j2) (Nat.le_refl _) (by omega) (by omega) (by rw [qL9]; omega) (by rw [qL9]; omega) (by rw [qL9, hz]; exact hs)
    rw [hx]
    simp only [Option.bind_some]
    rcases hr : partLoop lt a (i2 + 1) (j2 - 1) (swp e i2 j2) with ⟨r1, r2⟩
    have hrs : r2.size = e.size ∧ r1 < e.size := by
      have hp : ∀ (n i j : Nat) (f : Array Bind), j + 1 - i ≤ n → j < f.size → (partLoop lt a i j f).2.size = f.size ∧ (partLoop lt a i j f).1 < f.size := by
        intro n
        induction n with
        | zero =>
          intro i j f hn hj
          have q1 := scanUp_ge (fun x => lt x f[a]!) f j i
          have q2 := scanDown_le (fun x => !lt x f[a]!) f (scanUp (fun x => lt x f[a]!) f j i) j
          rw [partLoop_eq]
          split
          · exact ⟨rfl, by simp only []; omega⟩
          · omega
        | succ n ih =>
          intro i j f hn hj
          have q1 := scanUp_ge (fun x => lt x f[a]!) f j i
          have q2 := scanDown_le (fun x => !lt x f[a]!) f (scanUp (fun x => lt x f[a]!) f j i) j
          rw [partLoop_eq]
          split
          · exact ⟨rfl, by simp only []; omega⟩
          · have := ih (scanUp (fun x => lt x f[a]!) f j i + 1) (scanDown (fun x => !lt x f[a]!) f (scanUp (fun x => lt x f[a]!) f j i) j - 1) (swp f (scanUp (fun x => lt x f[a]!) f j i) (scanDown (fun x => !lt x f[a]!) f (scanUp (fun x => lt x f[a]!) f j i) j)) (by omega) (by rw [qL9]; omega)
            rw [qL9] at this
            exact this
      have := hp _ (i2 + 1) (j2 - 1) (swp e i2 j2) (Nat.le_refl _) (by rw [qL9]; omega)
      rw [hr, qL9] at this
      exact this
    have d1 : r1 < r2.size := by omega
    have d2 : a < r2.size := by omega
    simp only []
    rw [idxA d2, idxA d1]
    obtain ⟨y4, hy4⟩ := idxS (d := r2) (i := a) (x := r2[a]!) (n := r1) d2
    simp only [Option.bind_some, Int.toNat_natCast, hy4, swpA d1 d2]
include hcmp in
theorem qnL9 {a b pv : Nat} : ∀ (n i j : Nat) (d : Array Bind), j + 1 - i ≤ n → a < i → i ≤ j + 2 → j < d.size → a < d.size → Sm d.size → ∃ x, wh (qN9 (a : Int) (b : Int) (pv : Int)) ((i : Int), (j : Int), d.toList) = some ((((partEqLoop lt a i j d).1 : Nat) : Int), x, (partEqLoop lt a i j d).2.toList) := by
  intro n
  induction n with
  | zero =>
    intro i j d hn ha hi hj haz hs
    have h1 := up_eq hcmp (a := a) (b := b) (pv := pv) hj (by omega) hs i hi
    have g1 := scanUp_ge (fun x => !lt d[a]! x) d j i
    have h2 := qrI9 hcmp (a := a) (b := b) (pv := pv) (i := scanUp (fun x => !lt d[a]! x) d j i) (by omega) (by omega) hs j hj
    have g2 := scanDown_le (fun x => lt d[a]! x) d (scanUp (fun x => !lt d[a]! x) d j i) j
    rw [partEqLoop_eq, if_pos (by omega)]
    refine ⟨_, qe9 (r := (_, ((scanDown (fun x => lt d[a]! x) d (scanUp (fun x => !lt d[a]! x) d j i) j : Nat) : Int), _)) ?_⟩
    simp only [qN9, h1, h2, Option.bind_some]
    rw [if_pos (by omega)]
  | succ n ih =>
    intro i j d hn ha hi hj haz hs
    have h1 := up_eq hcmp (a := a) (b := b) (pv := pv) hj (by omega) hs i hi
    have g1 := scanUp_ge (fun x => !lt d[a]! x) d j i
    have h2 := qrI9 hcmp (a := a) (b := b) (pv := pv) (i := scanUp (fun x => !lt d[a]! x) d j i) (by omega) (by omega) hs j hj
    have g2 := scanDown_le (fun x => lt d[a]! x) d (scanUp (fun x => !lt d[a]! x) d j i) j
    rw [partEqLoop_eq]
    generalize scanUp (fun x => !lt d[a]! x) d j i = i2 at h1 g1 h2 g2 ⊢
    generalize scanDown (fun x => lt d[a]! x) d i2 j = j2 at h2 g2 ⊢
    by_cases h : i2 > j2
    · rw [if_pos h]
      refine ⟨_, qe9 (r := ((i2 : Int), (j2 : Int), d.toList)) ?_⟩
      simp only [qN9, h1, h2, Option.bind_some]
      rw [if_pos (by omega)]
    · have b1 : i2 < d.size := by omega
      have b2 : j2 < d.size := by omega
      have step : qN9 (a : Int) (b : Int) (pv : Int) ((i : Int), (j : Int), d.toList) = some (.inl (((i2 + 1 : Nat) : Int), ((j2 - 1 : Nat) : Int), (swp d i2 j2).toList)) := by
        simp only [qN9, h1, h2, Option.bind_some]
        rw [if_neg (by omega), idxA b1, idxA b2, wN (x := (i2 : Int) + 1) (n := i2 + 1) (by omega) (by omega), wN (x := (j2 : Int) - 1) (n := j2 - 1) (by omega) (by omega)]
        simp only [Option.bind_some]
        rw [swpB b1 b2 (k := fun l => some (Sum.inl (((i2 + 1 : Nat) : Int), ((j2 - 1 : Nat) : Int), l)))]
      rw [if_neg h, qE9 step]
      exact ih (i2 + 1) (j2 - 1) _ (by omega) (by omega) (by omega) (by rw [qL9]; omega) (by rw [qL9]; exact haz) (by rw [qL9]; exact hs)
include hcmp in
theorem qkE9 {a b pv : Nat} {d : Array Bind} (h1 : a ≤ pv) (h2 : pv < b) (hb : b ≤ d.size) (hs : Sm d.size) (hpos : a + 1 < b) : qz9 (a : Int) (b : Int) (pv : Int) d.toList = some ((((partitionEqual lt d a b pv).1 : Nat) : Int), (partitionEqual lt d a b pv).2.toList) := by
  have b1 : a < d.size := by omega
  have b2 : pv < d.size := by omega
  obtain ⟨y, hy⟩ := idxS (d := d) (i := pv) (x := d[pv]!) (n := a) b2
  simp only [qz9]
  rw [idxA b1, idxA b2, wN (x := (b : Int) - 1) (n := b - 1) (by omega) (by omega), wN (x := (a : Int) + 1) (n := a + 1) (by omega) (by omega)]
  simp only [Option.bind_some, Int.toNat_natCast, hy, swpA b1 b2]
  obtain ⟨x, hx⟩ := qnL9 hcmp (a := a) (b := b) (pv := pv) (b - 1 + 1 - (a + 1)) (a + 1) (b - 1) (swp d a pv) (Nat.le_refl _) (by omega) (by omega) (by rw [qL9]; omega) (by rw [qL9]; exact b1) (by rw [qL9]; exact hs)
  rw [hx]; rfl
end
end Ld.SoB
namespace Ld.SoB
open Go Go.Abs Go.Sort
variable {lt : Bind → Bind → Bool} (hcmp : ∀ a b, ∃ n, qi9 a b = some n ∧ (n < 0 ↔ lt a b = true))
section
include hcmp in
theorem qjD9 {s1 s2 : Nat} {d : Array Bind} (h1 : s1 < d.size) (h2 : s2 < d.size) (n : Int) : ∃ (x y : Nat) (m : Int), qco9 (s1 : Int) (s2 : Int) d.toList n = some ((x : Int), (y : Int), m) ∧ ((x = s1 ∧ y = s2) ∨ (x = s2 ∧ y = s1)) := by
  simp only [qco9]
  rw [idxA h1, idxA h2]
  simp only [Option.bind_some, cmpIf hcmp]
  split
  · exact ⟨s2, s1, _, rfl, .inr ⟨rfl, rfl⟩⟩
  · exact ⟨s1, s2, _, rfl, .inl ⟨rfl, rfl⟩⟩
include hcmp in
theorem qjC9 {s1 s2 s3 : Nat} {d : Array Bind} (h1 : s1 < d.size) (h2 : s2 < d.size) (h3 : s3 < d.size) (n : Int) : ∃ (x : Nat) (m : Int), qcq9 (s1 : Int) (s2 : Int) (s3 : Int) d.toList n = some ((x : Int), m) ∧ (x = s1 ∨ x = s2 ∨ x = s3) := by
  simp only [qcq9]
  obtain ⟨x, y, m, e1, c1⟩ := qjD9 hcmp h1 h2 n
  rw [e1]
  simp only [Option.bind_some]
  obtain ⟨x2, y2, m2, e2, c2⟩ := qjD9 hcmp (s1 := y) (s2 := s3) (d := d) (by omega) h3 m
  rw [e2]
  simp only [Option.bind_some]
  obtain ⟨x3, y3, m3, e3, c3⟩ := qjD9 hcmp (s1 := x) (s2 := x2) (d := d) (by omega) (by omega) m2
  rw [e3]
  exact ⟨y3, m3, rfl, by omega⟩
include hcmp in
theorem qhx9 {s1 : Nat} {d : Array Bind} (h0 : 1 ≤ s1) (h1 : s1 + 1 < d.size) (hs : Sm d.size) (n : Int) : ∃ (x : Nat) (m : Int), qbj9 (s1 : Int) d.toList n = some ((x : Int), m) ∧ (x = s1 - 1 ∨ x = s1 ∨ x = s1 + 1) := by
  simp only [qbj9]
  rw [wN (x := (s1 : Int) - 1) (n := s1 - 1) (by omega) (by omega), wN (x := (s1 : Int) + 1) (n := s1 + 1) (by omega) (by omega)]
  obtain ⟨x, m, e, c⟩ := qjC9 hcmp (s1 := s1 - 1) (s2 := s1) (s3 := s1 + 1) (d := d) (by omega) (by omega) (by omega) n
  rw [e]
  exact ⟨x, m, rfl, c⟩
theorem quoN {n k : Nat} (hk : 0 < k) (hn : n < 4611686018427387904) : quoV .i64 (n : Int) (k : Int) = some ((n / k : Nat) : Int) := by
  unfold quoV
  rw [if_neg (by omega)]
  have : ((n : Int)).tdiv (k : Int) = ((n / k : Nat) : Int) := by rw [Int.tdiv_eq_ediv_of_nonneg (by omega)]; exact (Int.natCast_ediv n k).symm
  rw [this]
  have hle : n / k ≤ n := Nat.div_le_self n k
  generalize n / k = q at hle ⊢
  exact congrArg some (wZ (x := (q : Int)) (by omega) (by omega))
include hcmp in
theorem qiv9 {a b : Nat} {d : Array Bind} (hab : a + 12 < b) (hb : b ≤ d.size) (hs : Sm d.size) : ∃ (p : Nat) (h : Int), qbO9 (a : Int) (b : Int) d.toList = some ((p : Int), h) ∧ a ≤ p ∧ p < b := by
  simp only [qbO9]
  rw [wN (x := (b : Int) - (a : Int)) (n := b - a) (by omega) (by omega)]
  have hq := quoN (n := b - a) (k := 4) (by omega) (by omega)
  rw [show ((4 : Nat) : Int) = 4 from rfl] at hq
  rw [hq]
  simp only [Option.bind_some]
  rw [if_pos (by omega)]
  generalize hl : (b - a) / 4 = l at *
  rw [wN (x := (l : Int) * 1) (n := l * 1) (by omega) (by omega), wN (x := (l : Int) * 2) (n := l * 2) (by omega) (by omega), wN (x := (l : Int) * 3) (n := l * 3) (by omega) (by omega),
    wN (x := (a : Int) + ((l * 1 : Nat) : Int)) (n := a + l * 1) (by omega) (by omega), wN (x := (a : Int) + ((l * 2 : Nat) : Int)) (n := a + l * 2) (by omega) (by omega), wN (x := (a : Int) + ((l * 3 : Nat) : Int)) (n := a + l * 3) (by omega) (by omega)]
  have fin : ∀ (x : Nat) (m : Int), a ≤ x → x < b → ∃ (p : Nat) (h : Int), (if m = 0 then some ((x : Int), (1 : Int)) else if m = 12 then some ((x : Int), (2 : Int)) else some ((x : Int), (0 : Int))) = some ((p : Int), h) ∧ a ≤ p ∧ p < b := by
    intro x m h1 h2
    split
    · exact ⟨x, _, rfl, h1, h2⟩
    split
    · exact ⟨x, _, rfl, h1, h2⟩
    · exact ⟨x, _, rfl, h1, h2⟩
  by_cases h50 : 50 ≤ b - a
  · rw [if_pos (by omega)]
    obtain ⟨x2, m2, e2, c2⟩ := qhx9 hcmp (s1 := a + l * 1) (d := d) (by omega) (by omega) hs 0
    rw [e2]
    simp only [Option.bind_some]
    obtain ⟨x3, m3, e3, c3⟩ := qhx9 hcmp (s1 := a + l * 2) (d := d) (by omega) (by omega) hs m2
    rw [e3]
    simp only [Option.bind_some]
    obtain ⟨x4, m4, e4, c4⟩ := qhx9 hcmp (s1 := a + l * 3) (d := d) (by omega) (by omega) hs m3
    rw [e4]
    simp only [Option.bind_some]
    obtain ⟨x5, m5, e5, c5⟩ := qjC9 hcmp (s1 := x2) (s2 := x3) (s3 := x4) (d := d) (by omega) (by omega) (by omega) m4
    rw [e5]
    simp only [Option.bind_some]
    exact fin x5 m5 (by omega) (by omega)
  · rw [if_neg (by omega)]
    obtain ⟨x5, m5, e5, c5⟩ := qjC9 hcmp (s1 := a + l * 1) (s2 := a + l * 2) (s3 := a + l * 3) (d := d) (by omega) (by omega) (by omega) 0
    rw [e5]
    simp only [Option.bind_some]
    exact fin x5 m5 (by omega) (by omega)
theorem qls9 {n : Nat} (hn : 0 < n) (hs : Sm n) : n < 2 ^ Go.Lib.bitLen n ∧ 2 ^ Go.Lib.bitLen n ≤ 2 * n := by
  induction n using Nat.strongRecOn with
  | ind n ih =>
    unfold Sm at hs
    have h := Go.Lib.bitLen_half n (by omega) (by omega)
    by_cases h1 : n = 1
    · subst h1; decide +kernel
    · obtain ⟨i1, i2⟩ := ih (n / 2) (by omega) (by omega) (by unfold Sm; omega)
      rw [h, Nat.pow_add, Nat.pow_one]
      omega
theorem u64N {n : Nat} (h : n < 18446744073709551616) : IntKind.u64.wrap (n : Int) = (n : Int) := by
  have e : IntKind.u64.wrap (n : Int) = (n : Int) % 18446744073709551616 := by simp [IntKind.wrap, IntKind.bits, IntKind.signed]
  rw [e]; omega
theorem qxe9 {n : Nat} (hn : 0 < n) (hs : Sm n) : qct9 (n : Int) = some ((2 ^ Go.Lib.bitLen n : Nat) : Int) := by
  have hb := qls9 hn hs
  have hle : Go.Lib.bitLen n ≤ 31 := by
    rcases Nat.lt_or_ge 31 (Go.Lib.bitLen n) with h | h
    · have : 2 ^ 32 ≤ 2 ^ Go.Lib.bitLen n := Nat.pow_le_pow_right (by omega) (by omega)
      unfold Sm at hs; omega
    · exact h
  simp only [qct9]
  rw [u64N (by omega)]
  unfold qdK9
  rw [if_pos (by omega)]
  simp only [Option.bind_some, Int.toNat_natCast]
  unfold shlV
  rw [if_pos (by omega)]
  have e : min ((Go.Lib.bitLen n : Nat) : Int).toNat IntKind.u64.bits = Go.Lib.bitLen n := by
    simp only [Int.toNat_natCast]
    exact Nat.min_eq_left (by show _ ≤ 64; omega)
  rw [e, Int.one_mul]
  have e2 : ((2 : Int) ^ Go.Lib.bitLen n) = ((2 ^ Go.Lib.bitLen n : Nat) : Int) := by push_cast; rfl
  rw [e2]
  simp only [Option.bind_some]
  rw [u64N (by omega)]
theorem qvH9 (x : Int) : ∃ r, qcG9 x = some (r, r) := by
  simp only [qcG9, shlV, shrV]
  simp only [if_pos (show (0 : Int) ≤ 13 by decide), if_pos (show (0 : Int) ≤ 7 by decide), if_pos (show (0 : Int) ≤ 17 by decide), Option.bind_some]
  exact ⟨_, rfl⟩
theorem qxX9 (x : Int) {m : Nat} (hm : 0 < m) (hs : m < 9223372036854775808) : ∃ v : Nat, w64 (andV .u64 x (IntKind.u64.wrap ((m : Int) - 1))) = (v : Int) ∧ v < m := by
  have e1 : (m : Int) - 1 = ((m - 1 : Nat) : Int) := by omega
  rw [e1, u64N (by omega)]
  have hb : (BitVec.ofInt 64 ((m - 1 : Nat) : Int)).toNat = m - 1 := by
    rw [BitVec.toNat_ofInt]; omega
  have hv : (BitVec.ofInt 64 x &&& BitVec.ofInt 64 ((m - 1 : Nat) : Int)).toNat ≤ m - 1 := by
    rw [BitVec.toNat_and, hb]; exact Nat.and_le_right
  refine ⟨(BitVec.ofInt 64 x &&& BitVec.ofInt 64 ((m - 1 : Nat) : Int)).toNat, ?_, by omega⟩
  have e2 : andV .u64 x ((m - 1 : Nat) : Int) = (((BitVec.ofInt 64 x &&& BitVec.ofInt 64 ((m - 1 : Nat) : Int)).toNat : Nat) : Int) := by
    show IntKind.u64.wrap (((BitVec.ofInt 64 x &&& BitVec.ofInt 64 ((m - 1 : Nat) : Int)).toNat : Nat) : Int) = _
    exact u64N (by omega)
  rw [e2]
  unfold w64
  rw [IntKind.wrap_i64]; omega
theorem qtK9 {a b M : Nat} (hab : a + 12 < b) (hM1 : b - a ≤ M) (hM2 : M ≤ 2 * (b - a)) : ∀ (n i : Nat) (d : Array Bind) (x : Int), a + (b - a) / 4 * 2 + 2 - i ≤ n → a ≤ i → b ≤ d.size → Sm d.size → i ≤ a + (b - a) / 4 * 2 + 2 → ∃ y z R, wh (qF9 (a : Int) (b : Int) ((b - a : Nat) : Int) (M : Int)) ((i : Int), d.toList, x) = some (y, R.toList, z) ∧ PermIn a b d R := by
  have hq := quoN (n := b - a) (k := 4) (by omega)
  rw [show ((4 : Nat) : Int) = 4 from rfl] at hq
  intro n
  induction n with
  | zero =>
    intro i d x hn hi hb hs hie
    refine ⟨_, _, d, qe9 (r := ((i : Int), d.toList, x)) ?_, permIn_refl _ _ _⟩
    unfold Sm at hs
    simp only [qF9]
    rw [hq (by omega)]
    simp only [Option.bind_some]
    rw [wN (x := (((b - a) / 4 : Nat) : Int) * 2) (n := (b - a) / 4 * 2) (by omega) (by omega), wN (x := (a : Int) + (((b - a) / 4 * 2 : Nat) : Int)) (n := a + (b - a) / 4 * 2) (by omega) (by omega), wN (x := ((a + (b - a) / 4 * 2 : Nat) : Int) + 1) (n := a + (b - a) / 4 * 2 + 1) (by omega) (by omega), if_neg (by omega)]
  | succ n ih =>
    intro i d x hn hi hb hs hie
    by_cases hlt : i ≤ a + (b - a) / 4 * 2 + 1
    · obtain ⟨r, hr⟩ := qvH9 x
      obtain ⟨v, hv, hvm⟩ := qxX9 r (m := M) (by omega) (by unfold Sm at hs; omega)
      have bi : i < d.size := by omega
      have go : ∀ k : Nat, a ≤ k → k < b → qF9 (a : Int) (b : Int) ((b - a : Nat) : Int) (M : Int) ((i : Int), d.toList, x) = some (.inl (((i + 1 : Nat) : Int), (swp d i k).toList, r)) →
          ∃ y z R, wh (qF9 (a : Int) (b : Int) ((b - a : Nat) : Int) (M : Int)) ((i : Int), d.toList, x) = some (y, R.toList, z) ∧ PermIn a b d R := by
        intro k h1 h2 hstep
        rw [qE9 hstep]
        obtain ⟨y, z, R, e, hp⟩ := ih (i + 1) (swp d i k) r (by omega) (by omega) (by rw [qL9]; exact hb) (by rw [qL9]; exact hs) (by omega)
        exact ⟨y, z, R, e, permIn_trans _ _ _ a b (swp_permIn d a b i k hi (by omega) h1 h2 hb) hp⟩
      unfold Sm at hs
      by_cases hge : b - a ≤ v
      · refine go (a + (v - (b - a))) (by omega) (by omega) ?_
        have bk : a + (v - (b - a)) < d.size := by omega
        simp only [qF9]
        rw [hq (by omega)]
        simp only [Option.bind_some]
        rw [wN (x := (((b - a) / 4 : Nat) : Int) * 2) (n := (b - a) / 4 * 2) (by omega) (by omega), wN (x := (a : Int) + (((b - a) / 4 * 2 : Nat) : Int)) (n := a + (b - a) / 4 * 2) (by omega) (by omega), wN (x := ((a + (b - a) / 4 * 2 : Nat) : Int) + 1) (n := a + (b - a) / 4 * 2 + 1) (by omega) (by omega), if_pos (by omega), hr]
        simp only [Option.bind_some, hv]
        rw [if_pos (by omega), wN (x := (v : Int) - ((b - a : Nat) : Int)) (n := v - (b - a)) (by omega) (by omega), wN (x := (a : Int) + ((v - (b - a) : Nat) : Int)) (n := a + (v - (b - a))) (by omega) (by omega), wN (x := (i : Int) + 1) (n := i + 1) (by omega) (by omega), idxA bk, idxA bi]
        simp only [Option.bind_some]
        rw [swpB bi bk (k := fun l => some (Sum.inl (((i + 1 : Nat) : Int), l, r)))]
      · refine go (a + v) (by omega) (by omega) ?_
        have bk : a + v < d.size := by omega
        simp only [qF9]
        rw [hq (by omega)]
        simp only [Option.bind_some]
        rw [wN (x := (((b - a) / 4 : Nat) : Int) * 2) (n := (b - a) / 4 * 2) (by omega) (by omega), wN (x := (a : Int) + (((b - a) / 4 * 2 : Nat) : Int)) (n := a + (b - a) / 4 * 2) (by omega) (by omega), wN (x := ((a + (b - a) / 4 * 2 : Nat) : Int) + 1) (n := a + (b - a) / 4 * 2 + 1) (by omega) (by omega), if_pos (by omega), hr]
        simp only [Option.bind_some, hv]
        rw [if_neg (by omega), wN (x := (a : Int) + (v : Int)) (n := a + v) (by omega) (by omega), wN (x := (i : Int) + 1) (n := i + 1) (by omega) (by omega), idxA bk, idxA bi]
        simp only [Option.bind_some]
        rw [swpB bi bk (k := fun l => some (Sum.inl (((i + 1 : Nat) : Int), l, r)))]
    · refine ⟨_, _, d, qe9 (r := ((i : Int), d.toList, x)) ?_, permIn_refl _ _ _⟩
      unfold Sm at hs
      simp only [qF9]
      rw [hq (by omega)]
      simp only [Option.bind_some]
      rw [wN (x := (((b - a) / 4 : Nat) : Int) * 2) (n := (b - a) / 4 * 2) (by omega) (by omega), wN (x := (a : Int) + (((b - a) / 4 * 2 : Nat) : Int)) (n := a + (b - a) / 4 * 2) (by omega) (by omega), wN (x := ((a + (b - a) / 4 * 2 : Nat) : Int) + 1) (n := a + (b - a) / 4 * 2 + 1) (by omega) (by omega), if_neg (by omega)]
theorem qkb9 {a b : Nat} {d : Array Bind} (hab : a + 12 < b) (hb : b ≤ d.size) (hs : Sm d.size) : ∃ R : Array Bind, qbV9 (a : Int) (b : Int) d.toList = some R.toList ∧ PermIn a b d R := by
  have hbl := qls9 (n := b - a) (by omega) (by unfold Sm at hs ⊢; omega)
  have hs' := hs
  unfold Sm at hs'
  simp only [qbV9]
  rw [wN (x := (b : Int) - (a : Int)) (n := b - a) (by omega) (by omega), if_pos (by omega), qxe9 (by omega) (by unfold Sm; omega)]
  have hq := quoN (n := b - a) (k := 4) (by omega) (by omega)
  rw [show ((4 : Nat) : Int) = 4 from rfl] at hq
  rw [hq]
  simp only [Option.bind_some]
  rw [wN (x := (((b - a) / 4 : Nat) : Int) * 2) (n := (b - a) / 4 * 2) (by omega) (by omega), wN (x := (a : Int) + (((b - a) / 4 * 2 : Nat) : Int)) (n := a + (b - a) / 4 * 2) (by omega) (by omega), wN (x := ((a + (b - a) / 4 * 2 : Nat) : Int) - 1) (n := a + (b - a) / 4 * 2 - 1) (by omega) (by omega)]
  obtain ⟨y, z, R, e, hp⟩ := qtK9 (M := 2 ^ Go.Lib.bitLen (b - a)) hab (by omega) (by omega) _ (a + (b - a) / 4 * 2 - 1) d (IntKind.u64.wrap ((b - a : Nat) : Int)) (Nat.le_refl _) (by omega) hb hs (by omega)
  rw [e]
  exact ⟨R, rfl, hp⟩
def Spec (lt : Bind → Bind → Bool) (rec : Int × Int × Int × List Bind → Option (List Bind)) (m : Nat) : Prop := ∀ (a b : Nat) (lim : Int) (d : Array Bind), a ≤ b → b ≤ d.size → Sm d.size → Below lt a b d →
  (rec ((a : Int), (b : Int), lim, d.toList) = none ∧ m ≤ b - a) ∨ ∃ R : Array Bind, rec ((a : Int), (b : Int), lim, d.toList) = some R.toList ∧ PermIn a b d R ∧ SortedIn lt a b R
abbrev PSt := Int × Int × Int × Bool × Bool × List Bind
noncomputable def partP (rec : Int × Int × Int × List Bind → Option (List Bind)) (s1 s2 lim : Int) (pv : Int) (o : List Bind) : Option (PSt ⊕ List Bind) :=
  (qp9 s1 s2 pv o).bind fun x13 =>
  (quoV .i64 (w64 (s2 - s1)) 8).bind fun x15 =>
  if (w64 (x13.1 - s1)) < (w64 (s2 - x13.1)) then
    (rec (s1, x13.1, lim, x13.2.2)).bind fun x16 =>
    some (.inl (w64 (x13.1 + 1), s2, lim, decide (x15 ≤ (w64 (x13.1 - s1))), x13.2.1, x16))
  else
  (rec (w64 (x13.1 + 1), s2, lim, x13.2.2)).bind fun x18 =>
  some (.inl (s1, x13.1, lim, decide (x15 ≤ (w64 (s2 - x13.1))), x13.2.1, x18))
noncomputable def tailP (rec : Int × Int × Int × List Bind → Option (List Bind)) (s1 s2 lim : Int) (wb wp : Bool) (pv : Int) (o : List Bind) : Option (PSt ⊕ List Bind) :=
  if 0 < s1 then
    (idx o (w64 (s1 - 1))).bind fun x10 =>
    (idx o pv).bind fun x11 =>
    (qi9 x10 x11).bind fun x12 =>
    if x12 < 0 then partP rec s1 s2 lim pv o
    else
    (qz9 s1 s2 pv o).bind fun x20 =>
    some (.inl (x20.1, s2, lim, wb, wp, x20.2))
  else partP rec s1 s2 lim pv o
def Goes (lt : Bind → Bind → Bool) (m a b : Nat) (d : Array Bind) (r : Option (PSt ⊕ List Bind)) : Prop :=
  (r = none ∧ m + 1 ≤ b - a) ∨ ∃ (a' b' : Nat) (lim : Int) (wb wp : Bool) (d' : Array Bind), r = some (.inl ((a' : Int), (b' : Int), lim, wb, wp, d'.toList)) ∧ a' ≤ b' ∧ b' ≤ b ∧ b' - a' < b - a ∧ d'.size = d.size ∧ Below lt a' b' d' ∧
    ∀ R, PermIn a' b' d' R → SortedIn lt a' b' R → PermIn a b d R ∧ SortedIn lt a b R
include hcmp in
theorem qme9 (hw : SWO lt) {rec : Int × Int × Int × List Bind → Option (List Bind)} {m : Nat} (hrec : Spec lt rec m) {a b pv : Nat} {d : Array Bind} (lim : Int) (hab : a + 12 < b) (hb : b ≤ d.size) (hs : Sm d.size) (hB : Below lt a b d) (h1 : a ≤ pv) (h2 : pv < b) :
    Goes lt m a b d (partP rec (a : Int) (b : Int) lim (pv : Int) d.toList) := by
  unfold partP
  rw [qpz9 hcmp h1 h2 hb hs (by omega)]
  rcases hx : Go.Sort.partition lt d a b pv with ⟨mid, ap, d4⟩
  obtain ⟨g1, g2, hs4, hBa, hBr, hleft, hright⟩ := round_part hw (partition_holds lt) h1 h2 hb hB hx
  have hq := quoN (n := b - a) (k := 8) (by omega) (by unfold Sm at hs; omega)
  rw [show ((8 : Nat) : Int) = 8 from rfl] at hq
  unfold Sm at hs
  simp only [Option.bind_some]
  rw [wN (x := (b : Int) - (a : Int)) (n := b - a) (by omega) (by omega), hq, wN (x := (mid : Int) - (a : Int)) (n := mid - a) (by omega) (by omega), wN (x := (b : Int) - (mid : Int)) (n := b - mid) (by omega) (by omega), wN (x := (mid : Int) + 1) (n := mid + 1) (by omega) (by omega)]
  simp only [Option.bind_some]
  by_cases hc : mid - a < b - mid
  · rw [if_pos (by omega)]
    rcases hrec a mid lim d4 g1 (by omega) (by unfold Sm; omega) hBa with ⟨e, hm⟩ | ⟨L, e, p1, p2⟩
    · rw [e]; exact .inl ⟨rfl, by omega⟩
    · rw [e]
      obtain ⟨q1, q2⟩ := hleft L p1 p2
      exact .inr ⟨mid + 1, b, lim, _, ap, L, rfl, by omega, by omega, by omega, by rw [p1.1, hs4], q1, q2⟩
  · rw [if_neg (by omega)]
    rcases hrec (mid + 1) b lim d4 (by omega) (by omega) (by unfold Sm; omega) hBr with ⟨e, hm⟩ | ⟨L, e, p1, p2⟩
    · rw [e]; exact .inl ⟨rfl, by omega⟩
    · rw [e]
      obtain ⟨q1, q2⟩ := hright L p1 p2
      exact .inr ⟨a, mid, lim, _, ap, L, rfl, by omega, by omega, by omega, by rw [p1.1, hs4], q1, q2⟩
include hcmp in
theorem qsT9 (hw : SWO lt) {rec : Int × Int × Int × List Bind → Option (List Bind)} {m : Nat} (hrec : Spec lt rec m) {a b pv : Nat} {d : Array Bind} (lim : Int) (wb wp : Bool) (hab : a + 12 < b) (hb : b ≤ d.size) (hs : Sm d.size) (hB : Below lt a b d) (h1 : a ≤ pv) (h2 : pv < b) :
    Goes lt m a b d (tailP rec (a : Int) (b : Int) lim wb wp (pv : Int) d.toList) := by
  unfold tailP
  by_cases h0 : 0 < a
  · rw [if_pos (by omega), wN (x := (a : Int) - 1) (n := a - 1) (by omega) (by unfold Sm at hs; omega), idxA (show a - 1 < d.size by omega), idxA (show pv < d.size by omega)]
    simp only [Option.bind_some, cmpIf hcmp]
    by_cases hc : lt d[a - 1]! d[pv]! = true
    · rw [if_pos hc]
      exact qme9 hcmp hw hrec lim hab hb hs hB h1 h2
    · rw [if_neg hc, qkE9 hcmp h1 h2 hb hs (by omega)]
      rcases hx : Go.Sort.partitionEqual lt d a b pv with ⟨mid, d4⟩
      obtain ⟨g1, g2, hs4, hB4, hfin⟩ := round_eq hw (partitionEqual_holds lt) h0 h1 h2 hb hB (by simpa using hc) hx
      exact .inr ⟨mid, b, lim, wb, wp, d4, rfl, g2, by omega, by omega, hs4, hB4, hfin⟩
  · rw [if_neg (by omega)]
    exact qme9 hcmp hw hrec lim hab hb hs hB h1 h2
include hcmp in
theorem qnh9 (hw : SWO lt) {rec : Int × Int × Int × List Bind → Option (List Bind)} {a b : Nat} {d : Array Bind} (lim : Int) (wb wp : Bool) (hab : a ≤ b) (hb : b ≤ d.size) (hs : Sm d.size) (hB : Below lt a b d) :
    (∃ R : Array Bind, qn9 rec ((a : Int), (b : Int), lim, wb, wp, d.toList) = some (.inr R.toList) ∧ PermIn a b d R ∧ SortedIn lt a b R) ∨
    (a + 12 < b ∧ ∃ (d3 : Array Bind) (pv : Nat) (lim' : Int), PermIn a b d d3 ∧ a ≤ pv ∧ pv < b ∧ qn9 rec ((a : Int), (b : Int), lim, wb, wp, d.toList) = tailP rec (a : Int) (b : Int) lim' wb wp (pv : Int) d3.toList) := by
  have hs' := hs
  unfold Sm at hs'
  have e0 : w64 ((b : Int) - (a : Int)) = ((b - a : Nat) : Int) := wN (by omega) (by omega)
  by_cases h12 : b - a ≤ 12
  · refine .inl ⟨insertionSort lt d a b, ?_, insertionSort_holds hw d a b hab hb⟩
    simp only [qn9, e0]
    rw [if_pos (by omega), qlk9 hcmp hb hab hs]; rfl
  by_cases hl : lim = 0
  · refine .inl ⟨heapSort lt d a b, ?_, heapSort_holds hw d a b hab hb⟩
    simp only [qn9, e0]
    rw [if_neg (by omega), if_pos hl, qrf9 hcmp hb (by omega) hs]; rfl
  have hpos : a + 12 < b := by omega
  -- where no more is done ahead of the partition
  have pvE : ∀ p : Nat, a ≤ p → p < b → w64 (w64 ((b : Int) - 1) - w64 ((p : Int) - (a : Int))) = (((b - 1) - (p - a) : Nat) : Int) := by
    intro p h1 h2
    rw [wN (x := (b : Int) - 1) (n := b - 1) (by omega) (by omega), wN (x := (p : Int) - (a : Int)) (n := p - a) (by omega) (by omega)]
    exact wN (by omega) (by omega)
  have part : ∀ (e : Array Bind), PermIn a b d e → qO9 (a : Int) (b : Int) e.toList = some ((partialInsertionSort lt e a b).2, (partialInsertionSort lt e a b).1.toList) ∧ PermIn a b d (partialInsertionSort lt e a b).1 ∧ ((partialInsertionSort lt e a b).2 = true → SortedIn lt a b (partialInsertionSort lt e a b).1) := by
    intro e hp
    have he : e.size = d.size := hp.1
    have h := partialInsertionSort_holds hw e a b (by omega) (by rw [he]; exact hb) (hB.perm hb hp)
    exact ⟨qio9 hcmp (by omega) (by rw [he]; exact hb) (by rw [he]; exact hs), permIn_trans _ _ _ a b hp h.1, h.2⟩
  have rev : ∀ (e : Array Bind), PermIn a b d e → qbm9 (a : Int) (b : Int) e.toList = some (reverseRange e a b).toList ∧ PermIn a b d (reverseRange e a b) := by
    intro e hp
    have he : e.size = d.size := hp.1
    exact ⟨qlQ9 (by rw [he]; exact hb) (by omega) (by rw [he]; exact hs), permIn_trans _ _ _ a b hp (reverseRange_holds e a b hab (by rw [he]; exact hb))⟩
  cases wb with
  | true =>
    obtain ⟨p, h, hc, hp1, hp2⟩ := qiv9 hcmp hpos hb hs
    by_cases h2 : h = 2
    · subst h2
      obtain ⟨r1, r2⟩ := rev d (permIn_refl _ _ _)
      cases wp with
      | true =>
        obtain ⟨i1, i2, i3⟩ := part _ r2
        by_cases hdone : (partialInsertionSort lt (reverseRange d a b) a b).2 = true
        · refine .inl ⟨_, ?_, i2, i3 hdone⟩
          simp only [qn9, e0]
          rw [if_neg (by omega), if_neg hl, if_pos trivial, hc]
          simp only [Option.bind_some, if_true, r1, i1, hdone]
        · refine .inr ⟨hpos, (partialInsertionSort lt (reverseRange d a b) a b).1, (b - 1) - (p - a), lim, i2, by omega, by omega, ?_⟩
          simp only [qn9, e0]
          rw [if_neg (by omega), if_neg hl, if_pos trivial, hc]
          simp only [Option.bind_some, if_true, r1, i1, hdone, if_false, pvE p hp1 hp2, Bool.false_eq_true]
          simp only [tailP, partP, e0]
      | false =>
        refine .inr ⟨hpos, reverseRange d a b, (b - 1) - (p - a), lim, r2, by omega, by omega, ?_⟩
        simp only [qn9, e0]
        rw [if_neg (by omega), if_neg hl, if_pos trivial, hc]
        simp only [Option.bind_some, if_true, r1, if_false, pvE p hp1 hp2, Bool.false_eq_true]
        simp only [tailP, partP, e0]
    · cases wp with
      | true =>
        by_cases h1 : h = 1
        · subst h1
          obtain ⟨i1, i2, i3⟩ := part d (permIn_refl _ _ _)
          by_cases hdone : (partialInsertionSort lt d a b).2 = true
          · refine .inl ⟨_, ?_, i2, i3 hdone⟩
            simp only [qn9, e0]
            rw [if_neg (by omega), if_neg hl, if_pos trivial, hc]
            simp only [Option.bind_some, if_true, if_neg h2, i1, hdone]
          · refine .inr ⟨hpos, (partialInsertionSort lt d a b).1, p, lim, i2, hp1, hp2, ?_⟩
            simp only [qn9, e0]
            rw [if_neg (by omega), if_neg hl, if_pos trivial, hc]
            simp only [Option.bind_some, if_true, if_neg h2, i1, hdone, if_false, Bool.false_eq_true]
            simp only [tailP, partP, e0]
        · refine .inr ⟨hpos, d, p, lim, permIn_refl _ _ _, hp1, hp2, ?_⟩
          simp only [qn9, e0]
          rw [if_neg (by omega), if_neg hl, if_pos trivial, hc]
          simp only [Option.bind_some, if_true, if_neg h2, if_neg h1]
          simp only [tailP, partP, e0]
      | false =>
        refine .inr ⟨hpos, d, p, lim, permIn_refl _ _ _, hp1, hp2, ?_⟩
        simp only [qn9, e0]
        rw [if_neg (by omega), if_neg hl, if_pos trivial, hc]
        simp only [Option.bind_some, if_neg h2, Bool.false_eq_true, if_false]
        simp only [tailP, partP, e0]
  | false =>
    obtain ⟨E, b1, b2⟩ := qkb9 (d := d) hpos hb hs
    have hE : E.size = d.size := b2.1
    obtain ⟨p, h, hc, hp1, hp2⟩ := qiv9 hcmp hpos (d := E) (by rw [hE]; exact hb) (by rw [hE]; exact hs)
    by_cases h2 : h = 2
    · subst h2
      obtain ⟨r1, r2⟩ := rev E b2
      refine .inr ⟨hpos, reverseRange E a b, (b - 1) - (p - a), w64 (lim - 1), r2, by omega, by omega, ?_⟩
      simp only [qn9, e0]
      rw [if_neg (by omega), if_neg hl, if_neg (by simp), b1]
      simp only [Option.bind_some]
      rw [hc]
      simp only [Option.bind_some, if_true, r1, pvE p hp1 hp2]
      simp only [tailP, partP, e0]
    · refine .inr ⟨hpos, E, p, w64 (lim - 1), b2, hp1, hp2, ?_⟩
      simp only [qn9, e0]
      rw [if_neg (by omega), if_neg hl, if_neg (by simp), b1]
      simp only [Option.bind_some]
      rw [hc]
      simp only [Option.bind_some, if_neg h2]
      simp only [tailP, partP, e0]
include hcmp in
theorem qwJ9 (hw : SWO lt) {rec : Int × Int × Int × List Bind → Option (List Bind)} {m : Nat} (hrec : Spec lt rec m) : ∀ (n a b : Nat) (lim : Int) (wb wp : Bool) (d : Array Bind), b - a ≤ n → a ≤ b → b ≤ d.size → Sm d.size → Below lt a b d →
    (wh (qn9 rec) ((a : Int), (b : Int), lim, wb, wp, d.toList) = none ∧ m + 1 ≤ b - a) ∨ ∃ R : Array Bind, wh (qn9 rec) ((a : Int), (b : Int), lim, wb, wp, d.toList) = some R.toList ∧ PermIn a b d R ∧ SortedIn lt a b R := by
  intro n
  induction n with
  | zero =>
    intro a b lim wb wp d hn hab hb hs hB
    rcases qnh9 hcmp hw (rec := rec) lim wb wp hab hb hs hB with ⟨R, e, p1, p2⟩ | ⟨h12, _⟩
    · exact .inr ⟨R, qe9 e, p1, p2⟩
    · omega
  | succ n ih =>
    intro a b lim wb wp d hn hab hb hs hB
    rcases qnh9 hcmp hw (rec := rec) lim wb wp hab hb hs hB with ⟨R, e, p1, p2⟩ | ⟨h12, d3, pv, lim', hp, h1, h2, e⟩
    · exact .inr ⟨R, qe9 e, p1, p2⟩
    have hz : d3.size = d.size := hp.1
    rcases qsT9 hcmp hw hrec lim' wb wp h12 (d := d3) (by rw [hz]; exact hb) (by rw [hz]; exact hs) (hB.perm hb hp) h1 h2 with ⟨e2, hm⟩ | ⟨a', b', l', wb', wp', d', e2, q1, q2, q3, q4, q5, q6⟩
    · exact .inl ⟨by rw [wh_eq, e, e2], hm⟩
    · rw [e2] at e
      rw [qE9 e]
      rcases ih a' b' l' wb' wp' d' (by omega) q1 (by rw [q4, hz]; omega) (by rw [q4, hz]; exact hs) q5 with ⟨e3, hm⟩ | ⟨R, e3, r1, r2⟩
      · exact .inl ⟨e3, by omega⟩
      · obtain ⟨t1, t2⟩ := q6 R r1 r2
        exact .inr ⟨R, e3, permIn_trans _ _ _ a b hp t1, t2⟩
include hcmp in
theorem qvw9 (hw : SWO lt) : ∀ m : Nat, Spec lt (fixN (fun rec (p : Int × Int × Int × List Bind) => qbq9 rec p.1 p.2.1 p.2.2.1 p.2.2.2) m) m := by
  intro m
  induction m with
  | zero => intro a b lim d _ _ _ _; exact .inl ⟨rfl, Nat.zero_le _⟩
  | succ m ih =>
    intro a b lim d hab hb hs hB
    have e1 : fixN (fun rec (p : Int × Int × Int × List Bind) => qbq9 rec p.1 p.2.1 p.2.2.1 p.2.2.2) (m + 1) ((a : Int), (b : Int), lim, d.toList) = (wh (qn9 (fixN (fun rec (p : Int × Int × Int × List Bind) => qbq9 rec p.1 p.2.1 p.2.2.1 p.2.2.2) m)) ((a : Int), (b : Int), lim, true, true, d.toList)).bind fun x => some x := rfl
    rw [e1]
    rcases qwJ9 hcmp hw ih (b - a) a b lim true true d (Nat.le_refl _) hab hb hs hB with ⟨e, hm⟩ | ⟨R, e, p1, p2⟩
    · rw [e]; exact .inl ⟨rfl, hm⟩
    · rw [e]; exact .inr ⟨R, rfl, p1, p2⟩
include hcmp in
theorem SortFunc_eq (hw : SWO lt) {l r : List Bind} (hl : Sm l.length) (hu : ∀ R : Array Bind, PermIn 0 l.length l.toArray R → SortedIn lt 0 l.length R → R.toList = r) : qcy9 l = some r := by
  have hbits : ∃ x, qdK9 (IntKind.u64.wrap (l.length : Int)) = some x := by
    unfold Sm at hl
    rw [u64N (by omega)]
    unfold qdK9
    rw [if_pos (by omega)]
    exact ⟨_, rfl⟩
  obtain ⟨x, hx⟩ := hbits
  have hd : l.toArray.size = l.length := by simp
  have key : ∀ m : Nat, (fixN (fun rec (p : Int × Int × Int × List Bind) => qbq9 rec p.1 p.2.1 p.2.2.1 p.2.2.2) m (0, (l.length : Int), x, l) = none ∧ m ≤ l.length) ∨ fixN (fun rec (p : Int × Int × Int × List Bind) => qbq9 rec p.1 p.2.1 p.2.2.1 p.2.2.2) m (0, (l.length : Int), x, l) = some r := by
    intro m
    rcases qvw9 hcmp hw m 0 l.length x l.toArray (by omega) (by omega) (by rw [hd]; exact hl) (.inl rfl) with ⟨e, hm⟩ | ⟨R, e, p1, p2⟩
    · exact .inl ⟨e, by omega⟩
    · rw [hu R p1 p2] at e
      exact .inr e
  have hfix : qdU9 0 (l.length : Int) x l = some r := by
    unfold qdU9
    refine qrG9 ?_ ?_
    · rcases key (l.length + 1) with ⟨_, h⟩ | h
      · omega
      · exact ⟨_, _, h⟩
    · intro n r' hn
      rcases key n with ⟨h, _⟩ | h
      · rw [h] at hn; cases hn
      · rw [h] at hn; exact (oiA hn).symm
  simp only [qcy9, hx, Option.bind_some, hfix]
end
end Ld.SoB
namespace Ld.Law
open Go Go.Abs
theorem wh_up {σ ρ : Type} {step : σ → Option (σ ⊕ ρ)} (S : Nat → σ) {n : Nat} {r : ρ} (h : ∀ i, i < n → step (S i) = some (.inl (S (i + 1)))) (he : step (S n) = some (.inr r)) : ∀ (k i : Nat), i + k = n → wh step (S i) = some r := by
  intro k
  induction k with
  | zero => intro i hi; have : i = n := by omega
            subst this; exact qe9 he
  | succ k ih => intro i hi; rw [qE9 (h i (by omega))]; exact ih (i + 1) (by omega)
theorem qpo9 {σ ρ : Type} {step : σ → Option (σ ⊕ ρ)} (S : Nat → σ) (n : Nat) {r : ρ} (h : ∀ i, i < n → step (S i) = some (.inl (S (i + 1)))) (he : step (S n) = some (.inr r)) : wh step (S 0) = some r := wh_up S h he n 0 (by omega)
theorem qup9 {xs : List Int} : ∀ {ys : List Int} {zs : List Int} {k : Nat}, zs.drop k = ys → xs.length = ys.length → qbU9 (fun i a => if zs[i]? = some a then none else some (Sum.inl false : Bool ⊕ Int)) k xs = if xs = ys then none else some (Sum.inl false) := by
  induction xs with
  | nil => intro ys zs k _ hl; cases ys with | nil => rfl | cons _ _ => simp at hl
  | cons a r ih =>
    intro ys zs k hd hl
    cases ys with
    | nil => simp at hl
    | cons b s =>
      have hz : zs[k]? = some b := by
        have := congrArg (·[0]?) hd
        simpa using this
      simp only [qbU9, hz, Option.some.injEq]
      by_cases hab : b = a
      · subst hab
        simp only [if_true, List.cons.injEq, true_and]
        exact ih (ys := s) (zs := zs) (k := k + 1) (by rw [← List.tail_drop, hd]; rfl) (by simpa using hl)
      · rw [if_neg hab]
        simp only
        rw [if_neg (fun e => hab (List.cons.inj e).1.symm)]
theorem qtX9 {step : Int → Option (Int ⊕ (Bool ⊕ Int))} {xs ys : List Int} (hlen : xs.length = ys.length) (hL : xs.length < 4611686018427387904)
    (hs : ∀ i, step i = if i < (xs.length : Int) then (idx xs i).bind fun a => (idx ys i).bind fun b => if a = b then some (.inl (w64 (i + 1))) else some (.inr (.inl false)) else some (.inr (.inr i))) :
    wh step 0 = some (if xs = ys then .inr (xs.length : Int) else .inl false) := by
  have h1 := qda9 (step := step) (l := xs) (g := fun i a => if ys[i]? = some a then none else some (Sum.inl false : Bool ⊕ Int)) (fin := .inr (xs.length : Int)) (fun i x hx => ?_) ?_
  · rw [h1, qup9 (ys := ys) (zs := ys) (k := 0) rfl hlen]
    by_cases h : xs = ys
    · simp [h]
    · simp [h]
  · have hlt := (List.getElem?_eq_some_iff.1 hx).1
    have hy : ys[i]? = some ys[i] := List.getElem?_eq_getElem (by omega)
    rw [hs, if_pos (by omega), qu9 hx, qu9 hy]
    simp only [Option.bind_some, hy, Option.some.injEq]
    by_cases h : x = ys[i]
    · subst h; simp [qf9 (n := (i : Int) + 1) (by omega) (by omega)]
    · rw [if_neg h, if_neg (Ne.symm h)]
  · rw [hs, if_neg (by omega)]
theorem qgC9 {xs ys : List Int} (hL : xs.length < 4611686018427387904) : qbw9 xs ys = some (decide (xs = ys)) := by
  simp only [qbw9]
  by_cases hlen : xs.length = ys.length
  · rw [if_pos (by omega), qtX9 (step := qfd9 xs ys) hlen hL (fun i => rfl)]
    by_cases h : xs = ys <;> simp [h]
  · rw [if_neg (by omega), decide_eq_false (fun e => hlen (by rw [e]))]
theorem qqn9 {xs ys : List Int} (hL : xs.length < 4611686018427387904) : qbF9 xs ys = some (decide (xs = ys)) := by
  simp only [qbF9]
  by_cases hlen : xs.length = ys.length
  · rw [if_pos (by omega), qtX9 (step := qcB9 xs ys (xs.length : Int)) hlen hL (fun i => rfl)]
    by_cases h : xs = ys <;> simp [h]
  · rw [if_neg (by omega), decide_eq_false (fun e => hlen (by rw [e]))]
def Ars (sig : List Symbol) : Prop := ∀ s ∈ sig, 0 ≤ s.Arity ∧ s.Arity ≤ 8
theorem ar_le {sig : List Symbol} (h : Ars sig) (c : Int) : arOf sig c ≤ 8 := by
  unfold arOf
  split
  · cases hq : sig[c.toNat]? with
    | none => simp
    | some s =>
      have := h s (List.mem_of_getElem? hq)
      simp
      omega
  · omega
def stop (r : List Int) : Int := if r = [] then 0 else 32
def outc (p : List Int × Int) : Int := if p.2 = 0 then stop p.1 else p.2
theorem quH9 {sig : List Symbol} {t : List Int} (hA : Ars sig) (hL : t.length < 17179869184) : ∀ (n i k : Nat), i + n = t.length → k ≤ 8 * i + 1 → (k = 0 → t.drop i = []) →
    ∃ x, wh (qcK9 sig t) ((k : Int), (i : Int)) = some x ∧ (match x with | .inl e => e = outc (rdT sig (t.drop i) k) ∧ e ≠ 0 | .inr _ => outc (rdT sig (t.drop i) k) = 0) := by
  intro n
  induction n with
  | zero =>
    intro i k hi hk h0
    have : i = t.length := by omega
    subst this
    rw [List.drop_eq_nil_of_le (Nat.le_refl _)]
    cases k with
    | zero => exact ⟨.inr _, qe9 (by simp only [qcK9]; rw [if_neg (by omega)]), by simp [rdT, stop, outc]⟩
    | succ k => exact ⟨.inl 31, qe9 (by simp only [qcK9]; rw [if_pos (by omega)]; simp), by simp [rdT, outc]⟩
  | succ n ih =>
    intro i k hi hk h0
    have hlt : i < t.length := by omega
    have hx : t[i]? = some t[i] := List.getElem?_eq_getElem hlt
    cases k with
    | zero =>
      have := h0 rfl
      rw [List.drop_eq_getElem_cons hlt] at this
      cases this
    | succ k =>
      have hw1 : w64 (((k + 1 : Nat) : Int) - 1) = (k : Int) := by rw [qf9 (by omega) (by omega)]; omega
      have hw2 : w64 ((i : Int) + 1) = ((i + 1 : Nat) : Int) := by rw [qf9 (by omega) (by omega)]; omega
      rw [List.drop_eq_getElem_cons hlt]
      by_cases hc : (sig.length : Int) ≤ t[i] ∨ t[i] < -1048576
      · refine ⟨.inl 30, qe9 ?_, by simp [rdT, hc, outc]⟩
        simp only [qcK9]
        rw [if_pos (by omega), if_neg (by omega), qu9 hx]
        simp only [Option.bind_some]
        by_cases h1 : (sig.length : Int) ≤ t[i]
        · rw [if_pos h1]
        · rw [if_neg h1, if_pos (hc.resolve_left h1)]
      have h1 : ¬ (sig.length : Int) ≤ t[i] := fun e => hc (.inl e)
      have h2 : ¬ t[i] < -1048576 := fun e => hc (.inr e)
      have hr : rdT sig (t[i] :: t.drop (i + 1)) (k + 1) = rdT sig (t.drop (i + 1)) (k + arOf sig t[i]) := by simp [rdT, hc]
      rw [hr]
      have har := ar_le hA t[i]
      -- one round
      have round : qcK9 sig t (((k + 1 : Nat) : Int), (i : Int)) = if ((k + arOf sig t[i] : Nat) : Int) = 0 ∧ i + 1 < t.length then some (.inr (.inl 32)) else some (.inl (((k + arOf sig t[i] : Nat) : Int), ((i + 1 : Nat) : Int))) := by
        simp only [qcK9]
        rw [if_pos (by omega), if_neg (by omega), qu9 hx]
        simp only [Option.bind_some]
        rw [if_neg h1, if_neg h2]
        by_cases hn : 0 ≤ t[i]
        · obtain ⟨c, hcn⟩ : ∃ c : Nat, t[i] = (c : Int) := ⟨t[i].toNat, by omega⟩
          have hcs : c < sig.length := by rw [hcn] at h1; omega
          have hs : sig[c]? = some sig[c] := List.getElem?_eq_getElem hcs
          have hra := hA _ (List.getElem_mem hcs)
          have hao : arOf sig t[i] = sig[c].Arity.toNat := by unfold arOf; rw [if_pos hn, hcn]; simp [hs]
          rw [if_pos hn]
          rw [hao]
          rw [hcn, qu9 hs]
          simp only [Option.bind_some, hw1, hw2]
          have hw3 : w64 ((k : Int) + sig[c].Arity) = ((k + sig[c].Arity.toNat : Nat) : Int) := by rw [qf9 (by omega) (by omega)]; omega
          simp only [hw3]
          by_cases hz : ((k + sig[c].Arity.toNat : Nat) : Int) = 0
          · by_cases hm : i + 1 < t.length
            · rw [if_pos hz, if_pos (by omega), if_pos ⟨hz, hm⟩]
            · rw [if_pos hz, if_neg (by omega), if_neg (fun e => hm e.2)]
          · rw [if_neg hz, if_neg (fun e => hz e.1)]
        · have hao : arOf sig t[i] = 0 := by unfold arOf; rw [if_neg hn]
          rw [if_neg hn, hao]
          simp only [hw1, hw2, Nat.add_zero]
          by_cases hz : (k : Int) = 0
          · by_cases hm : i + 1 < t.length
            · rw [if_pos hz, if_pos (by omega), if_pos ⟨hz, hm⟩]
            · rw [if_pos hz, if_neg (by omega), if_neg (fun e => hm e.2)]
          · rw [if_neg hz, if_neg (fun e => hz e.1)]
      by_cases hst : ((k + arOf sig t[i] : Nat) : Int) = 0 ∧ i + 1 < t.length
      · rw [if_pos hst] at round
        refine ⟨_, qe9 round, ?_⟩
        have hz : k + arOf sig t[i] = 0 := by omega
        have hne : t.drop (i + 1) ≠ [] := by rw [ne_eq, List.drop_eq_nil_iff]; omega
        rw [hz]
        have : rdT sig (t.drop (i + 1)) 0 = (t.drop (i + 1), 0) := by cases t.drop (i + 1) <;> rfl
        rw [this]
        simp [stop, hne, outc]
      · rw [if_neg hst] at round
        rw [qE9 round]
        exact ih (i + 1) (k + arOf sig t[i]) (by omega) (by omega) (fun hz => by
          rw [List.drop_eq_nil_iff]
          rcases Nat.lt_or_ge (i + 1) t.length with h | h
          · exact absurd ⟨by omega, h⟩ hst
          · exact h)
theorem qmj9 {sig : List Symbol} {t : List Int} (hA : Ars sig) (hL : t.length < 17179869184) : qfN9 sig t = some (qo9 sig t) := by
  obtain ⟨x, hx, h⟩ := quH9 hA hL t.length 0 1 (by omega) (by omega) (by omega)
  simp only [qfN9]
  simp only [Int.natCast_zero, Int.natCast_one] at hx
  rw [hx]
  rw [List.drop_zero] at h
  have e : qo9 sig t = outc (rdT sig t 1) := rfl
  cases x with
  | inl e' => simp only [Option.bind_some]; rw [e, ← h.1]
  | inr y => obtain ⟨a, b⟩ := y; simp only [Option.bind_some]; rw [e, h]
end Ld.Law
namespace Ld.Law
open Go Go.Abs Go.Lib
theorem u8_eq (n : Nat) : n.toUInt8 = UInt8.ofNat n := rfl
theorem qvb9 (r : Int) : (Utf8.encode r).data.toList = encodeRune r := by
  have hv : Utf8.valid r = decide ((0 ≤ r ∧ r < 55296) ∨ (57344 ≤ r ∧ r ≤ 1114111)) := by
    unfold Utf8.valid
    simp only [Bool.decide_or, Bool.decide_and]
  unfold Utf8.encode encodeRune
  rw [hv]
  by_cases h : (0 ≤ r ∧ r < 55296) ∨ (57344 ≤ r ∧ r ≤ 1114111)
  · obtain ⟨c, rfl⟩ : ∃ c : Nat, r = (c : Int) := ⟨r.toNat, by omega⟩
    simp only [decide_eq_true h, if_true, Int.toNat_natCast]
    by_cases h1 : c < 128
    · rw [if_pos h1, encodeRuneZ_one (by omega) (by omega)]
      simp [u8_eq]
    rw [if_neg h1]
    by_cases h2 : c < 2048
    · rw [if_pos h2, encodeRuneZ_two (by omega) (by omega)]
      have e1 : ((192 : Int) + c / 64).toNat = 192 + c / 64 := by omega
      have e2 : ((128 : Int) + c % 64).toNat = 128 + c % 64 := by omega
      simp [u8_eq, e1, e2]
    rw [if_neg h2]
    by_cases h3 : c < 65536
    · rw [if_pos h3, encodeRuneZ_three (by omega)]
      have e1 : ((224 : Int) + c / 4096).toNat = 224 + c / 4096 := by omega
      have e2 : ((128 : Int) + c / 64 % 64).toNat = 128 + c / 64 % 64 := by omega
      have e3 : ((128 : Int) + c % 64).toNat = 128 + c % 64 := by omega
      simp [u8_eq, e1, e2, e3]
    rw [if_neg h3, encodeRuneZ_four (by omega) (by omega)]
    have e0 : ((240 : Int) + c / 262144).toNat = 240 + c / 262144 := by omega
    have e1 : ((128 : Int) + c / 4096 % 64).toNat = 128 + c / 4096 % 64 := by omega
    have e2 : ((128 : Int) + c / 64 % 64).toNat = 128 + c / 64 % 64 := by omega
    have e3 : ((128 : Int) + c % 64).toNat = 128 + c % 64 := by omega
    simp [u8_eq, e0, e1, e2, e3]
  · rw [encodeRuneZ_bad (by omega)]
    simp only [decide_eq_false h, Bool.false_eq_true, if_false]
    decide +kernel
theorem qyu9 {a b : ByteArray} (h : a.data.toList = b.data.toList) : a = b := by
  cases a with | mk x => cases b with | mk y => cases x; cases y; simp at h; rw [h]
theorem qeN9 (a : ByteArray) : a.data.toList.length = a.size := rfl
theorem qug9 (a b : ByteArray) : (a ++ b).data.toList = a.data.toList ++ b.data.toList := by simp
theorem qub9 {s : ByteArray} (hS : s.size < 1152921504606846976) : ∀ (n : Nat) (acc : ByteArray) (q : Nat), s.size - q ≤ n → q ≤ s.size → acc.size ≤ 3 * q →
    ((acc.data.toList = s.data.toList.take q ∧ validD s.data.toList = validD (s.data.toList.drop q)) ∨ (validD s.data.toList = false ∧ q < acc.size)) →
    ∃ acc' q', wh (qdt9 s s) (acc, q) = some (acc', q') ∧ (acc' = s ↔ validD s.data.toList = true) := by
  have done : ∀ (acc : ByteArray) (q : Nat), s.size ≤ q → q ≤ s.size →
    ((acc.data.toList = s.data.toList.take q ∧ validD s.data.toList = validD (s.data.toList.drop q)) ∨ (validD s.data.toList = false ∧ q < acc.size)) →
    ∃ acc' q', wh (qdt9 s s) (acc, q) = some (acc', q') ∧ (acc' = s ↔ validD s.data.toList = true) := by
    intro acc q h h' hI
    refine ⟨acc, q, qe9 (by simp only [qdt9]; rw [if_neg (by omega)]), ?_⟩
    have hq : q = s.size := by omega
    subst hq
    rcases hI with ⟨h1, h2⟩ | ⟨h1, h2⟩
    · rw [← qeN9, List.take_length] at h1
      rw [← qeN9, List.drop_length, validD_nil] at h2
      exact ⟨fun _ => h2, fun _ => qyu9 h1⟩
    · rw [h1]
      refine ⟨fun e => ?_, fun e => by cases e⟩
      rw [e] at h2; omega
  intro n
  induction n with
  | zero => intro acc q h h' ha hI; exact done acc q (by omega) h' hI
  | succ n ih =>
    intro acc q h h' ha hI
    by_cases hlt : q < s.size
    case neg => exact done acc q (by omega) h' hI
    have hne : s.data.toList.drop q ≠ [] := by rw [ne_eq, List.drop_eq_nil_iff, qeN9]; omega
    have hdec := decodeL_drop s q
    have hw := decodeL_width (s.data.toList.drop q)
    have hle := decodeL_le (s.data.toList.drop q) hne
    rw [List.length_drop, qeN9] at hle
    have hel : (encodeRune ((Utf8.decode s q).1 : Int)).length = (Utf8.encode ((Utf8.decode s q).1 : Int)).size := by rw [← qvb9, qeN9]
    have hstep := validD_step _ hne
    rw [hdec] at hw hle hstep
    have hsz : (Utf8.encode ((Utf8.decode s q).1 : Int)).size ≤ 3 * (Utf8.decode s q).2 ∧ (¬ ((Utf8.decode s q).1 = 65533 ∧ (Utf8.decode s q).2 = 1) → (Utf8.encode ((Utf8.decode s q).1 : Int)).data.toList = (s.data.toList.drop q).take (Utf8.decode s q).2) ∧ (Utf8.decode s q).2 ≤ (Utf8.encode ((Utf8.decode s q).1 : Int)).size ∧ (((Utf8.decode s q).1 = 65533 ∧ (Utf8.decode s q).2 = 1) → (Utf8.encode ((Utf8.decode s q).1 : Int)).size = 3) := by
      by_cases hv : (Utf8.decode s q).1 = 65533 ∧ (Utf8.decode s q).2 = 1
      · have : (Utf8.encode ((Utf8.decode s q).1 : Int)).size = 3 := by rw [hv.1]; rfl
        exact ⟨by omega, fun h => absurd hv h, by omega, fun _ => this⟩
      · have he := encode_decode _ hne (by rw [hdec]; exact hv)
        rw [hdec] at he
        have : (Utf8.encode ((Utf8.decode s q).1 : Int)).size = (Utf8.decode s q).2 := by
          rw [← hel, he, List.length_take, List.length_drop, qeN9]; omega
        exact ⟨by omega, fun _ => by rw [qvb9, he], by omega, fun h => absurd h hv⟩
    obtain ⟨hs1, hs2, hs3, hs4⟩ := hsz
    have hround : qdt9 s s (acc, q) = some (.inl (acc ++ Utf8.encode ((Utf8.decode s q).1 : Int), q + (Utf8.decode s q).2)) := by
      simp only [qdt9]
      rw [if_pos hlt, if_pos (by omega)]
    rw [qE9 hround]
    have hsa : (acc ++ Utf8.encode ((Utf8.decode s q).1 : Int)).size = acc.size + (Utf8.encode ((Utf8.decode s q).1 : Int)).size := by rw [← qeN9, qug9, List.length_append, qeN9, qeN9]
    refine ih _ _ (by omega) (by omega) (by rw [hsa]; omega) ?_
    rw [hsa]
    rcases hI with ⟨h1, h2⟩ | ⟨h1, h2⟩
    · by_cases hv : (Utf8.decode s q).1 = 65533 ∧ (Utf8.decode s q).2 = 1
      · right
        rw [if_pos hv] at hstep
        refine ⟨h2.trans hstep, ?_⟩
        have := congrArg List.length h1
        rw [List.length_take, qeN9, qeN9] at this
        have := hs4 hv
        omega
      · left
        rw [if_neg hv, List.drop_drop] at hstep
        refine ⟨?_, h2.trans hstep⟩
        rw [qug9, h1, hs2 hv, ← List.take_add]
    · right; exact ⟨h1, by omega⟩
theorem qxJ9 {s : ByteArray} (hS : s.size < 1152921504606846976) : qid9 s = some (validD s.data.toList) := by
  obtain ⟨a, q, h1, h2⟩ := qub9 hS s.size { data := #[] } 0 (by omega) (by omega) (by simp [ByteArray.size]) (.inl ⟨rfl, rfl⟩)
  simp only [qid9, h1, Option.bind_some]
  congr 1
  by_cases h : validD s.data.toList = true
  · rw [h, decide_eq_true (h2.2 h)]
  · rw [decide_eq_false (fun e => h (h2.1 e))]
    exact (Bool.eq_false_iff.2 h).symm
theorem quS9 (c : Int) : qgq9 c = qdT9 c := rfl
theorem qlX9 (c : Int) : ∃ b, qdT9 c = some b := by
  unfold qdT9
  split <;> split <;> (try split) <;> (try split) <;> exact ⟨_, rfl⟩
theorem quI9 (s t : ByteArray) : qbe9 s t = qfx9 s t := by
  funext q
  obtain ⟨b, hb⟩ := qlX9 ((Utf8.decode t q).1 : Int)
  simp only [qbe9, qfx9, qin9, quS9, hb, Option.bind_some]
  by_cases h0 : q < t.size
  rotate_left
  · rw [if_neg h0, if_neg h0]
  rw [if_pos h0, if_pos h0]
  cases b with
  | true => by_cases hq : (q : Int) = 0 <;> simp [hq]
  | false =>
    by_cases hq : (q : Int) = 0
    · rw [if_pos hq, if_neg (show ¬ 0 < (q : Int) by omega)]
      simp
    · rw [if_neg hq, if_pos (show 0 < (q : Int) by omega)]
      simp only [Bool.false_eq_true, if_false]
      generalize ((Utf8.decode t q).1 : Int) = c
      by_cases h1 : 48 ≤ c <;> by_cases h2 : c ≤ 57 <;> by_cases h3 : c = 95 <;> by_cases h4 : c = 39 <;> simp [h1, h2, h3, h4]
theorem qkA9 (s : ByteArray) : qgI9 s = qX9 s := by
  simp only [qgI9, qX9]
  by_cases h0 : s = { data := #[] }
  · rw [if_pos h0, if_pos h0]
  rw [if_neg h0, if_neg h0]
  by_cases h1 : 32 < (s.size : Int)
  · rw [if_pos h1, if_pos h1]
  rw [if_neg h1, if_neg h1, qxJ9 (by omega), qbg9, if_pos (by omega), quI9]
  all_goals rfl
theorem qeF9 {α ρ : Type} (p : α → Bool) (f : Nat → ρ) (g : Nat → α → Option ρ) (hg : ∀ i a, g i a = if p a = true then some (f i) else none) : ∀ (l : List α) (k : Nat), qbU9 g k l = (l.findIdx? p).map fun j => f (k + j) := by
  intro l
  induction l with
  | nil => intro k; rfl
  | cons a r ih =>
    intro k
    simp only [qbU9, hg, List.findIdx?_cons]
    by_cases h : p a = true
    · simp [h]
    · simp only [h, if_false, Bool.false_eq_true]
      rw [ih]
      cases r.findIdx? p <;> simp [Nat.add_assoc, Nat.add_comm 1]
theorem qhc9 {l : List Symbol} {x : Symbol} (hL : l.length < 4611686018427387904) : qk9 l x = some ((l.findIdx? fun a => decide (a.Name = x.Name)).isSome) := by
  have h1 : wh (qj9 l x (l.length : Int)) 0 = _ := qda9 (l := l) (g := fun i a => if decide (a.Name = x.Name) = true then some (Sum.inl (i : Int) : Int ⊕ Int) else none) (fin := .inr (l.length : Int)) (fun i a ha => ?_) ?_
  · simp only [qk9, qA9, h1]
    rw [qeF9 (fun a : Symbol => decide (a.Name = x.Name)) (fun i => (Sum.inl (i : Int) : Int ⊕ Int)) _ (fun i a => rfl)]
    cases l.findIdx? fun a => decide (a.Name = x.Name) <;> simp
  · have hlt := (List.getElem?_eq_some_iff.1 ha).1
    simp only [qj9, qel9]
    rw [if_pos (by omega), qu9 ha]
    simp only [Option.bind_some]
    by_cases h : a.Name = x.Name
    · simp [h]
    · simp [h, qf9 (n := (i : Int) + 1) (by omega) (by omega)]
  · simp only [qj9]
    rw [if_neg (by omega)]
theorem qtW9 {l : List Symbol} {x : Symbol} {i : Nat} (hx : l[i]? = some x) (hL : l.length < 4611686018427387904) : ∃ y, wh (qca9 l (i : Int)) 0 = some (if ((l.take i).findIdx? fun a => decide (a.Name = x.Name)).isSome = true then .inl 36 else .inr y) := by
  have hi := (List.getElem?_eq_some_iff.1 hx).1
  have hlen : (l.take i).length = i := by rw [List.length_take]; omega
  have h1 : wh (qca9 l (i : Int)) 0 = _ := qda9 (l := l.take i) (g := fun _ a => if decide (a.Name = x.Name) = true then some (Sum.inl 36 : Int ⊕ Unit) else none) (fin := .inr ()) (fun j a ha => ?_) ?_
  · refine ⟨(), ?_⟩
    rw [h1, qeF9 (fun a : Symbol => decide (a.Name = x.Name)) (fun _ => (Sum.inl 36 : Int ⊕ Unit)) _ (fun i a => rfl)]
    cases (l.take i).findIdx? fun a => decide (a.Name = x.Name) <;> simp
  · have hlt := (List.getElem?_eq_some_iff.1 ha).1
    rw [hlen] at hlt
    have ha' : l[j]? = some a := by rw [List.getElem?_take, if_pos hlt] at ha; exact ha
    simp only [qca9]
    rw [if_pos (by omega), qu9 ha', qu9 hx]
    simp only [Option.bind_some]
    by_cases h : a.Name = x.Name
    · simp [h]
    · simp [h, qf9 (n := (j : Int) + 1) (by omega) (by omega)]
  · rw [hlen]
    simp only [qca9]
    rw [if_neg (by omega)]
theorem qwq9 {l : List Symbol} (hL : l.length < 4611686018427387904) : qD9 l l (l.length : Int) = qbZ9 l := by
  funext i
  simp only [qD9, qbZ9]
  by_cases hi : i < (l.length : Int)
  rotate_left
  · rw [if_neg hi, if_neg hi]
  rw [if_pos hi, if_pos hi]
  by_cases h0 : 0 ≤ i
  rotate_left
  · unfold idx; rw [if_neg h0]; rfl
  obtain ⟨k, rfl⟩ : ∃ k : Nat, i = (k : Int) := ⟨i.toNat, by omega⟩
  have hk : k < l.length := by omega
  have hx : l[k]? = some l[k] := List.getElem?_eq_getElem hk
  rw [qu9 hx]
  obtain ⟨y, hd⟩ := qtW9 hx hL
  have hcut : cutL l 0 (k : Int) = some (l.take k) := by
    unfold cutL
    rw [if_pos (by omega)]
    simp
  have hc := qhc9 (l := l.take k) (x := l[k]) (by rw [List.length_take]; omega)
  simp only [Option.bind_some, qkA9, hcut, hc, hd, qdm9]
  cases qX9 l[k].Name with
  | none => rfl
  | some b =>
    simp only [Option.bind_some]
    cases b with
    | true =>
      simp only [if_true]
      by_cases a1 : l[k].Arity < 0
      · simp [a1]
      by_cases a2 : 8 < l[k].Arity
      · simp [a1, a2]
      simp only [a1, a2, if_false]
      by_cases hf : ((l.take k).findIdx? fun a => decide (a.Name = l[k].Name)).isSome = true
      · rw [if_pos hf, if_pos hf]
      · rw [if_neg hf, if_neg hf]
    | false =>
      simp only [Bool.false_eq_true, if_false]
      by_cases hz : (l[k].Name.size : Int) = 0
      · rw [if_pos hz, if_neg (show ¬ 0 < (l[k].Name.size : Int) by omega)]
        simp
      rw [if_neg hz, if_pos (show 0 < (l[k].Name.size : Int) by omega)]
      cases sidx l[k].Name (w64 ((l[k].Name.size : Int) - 1)) with
      | none => rfl
      | some c =>
        simp only [Option.bind_some]
        by_cases hc : c = 35
        rotate_left
        · rw [if_neg hc, if_neg hc]; simp
        rw [if_pos hc, if_pos hc]
        cases cutBA l[k].Name 0 (w64 ((l[k].Name.size : Int) - 1)) with
        | none => rfl
        | some n =>
          simp only [Option.bind_some]
          cases qX9 n with
          | none => rfl
          | some b =>
            simp only [Option.bind_some]
            cases b with
            | false => simp
            | true =>
              simp only [if_true]
              by_cases a1 : l[k].Arity < 0
              · simp [a1]
              by_cases a2 : 8 < l[k].Arity
              · simp [a1, a2]
              simp only [a1, a2, if_false]
              by_cases hf : ((l.take k).findIdx? fun a => decide (a.Name = l[k].Name)).isSome = true
              · rw [if_pos hf, if_pos hf]
              · rw [if_neg hf, if_neg hf]
theorem qiz9 (l : List Symbol) : qdH9 l = qr9 l := by
  simp only [qdH9, qr9]
  by_cases h : 128 < (l.length : Int)
  · rw [if_pos h, if_pos h]
  · rw [if_neg h, if_neg h, qwq9 (by omega)]
    all_goals rfl
theorem qqb9 {sig : List Symbol} {t : List Int} (hL : t.length < 17179869184) : qeO9 sig t = qbJ9 sig t := by
  simp only [qeO9, qbJ9, qiz9]
  cases h : qr9 sig with
  | none => rfl
  | some e =>
    simp only [Option.bind_some]
    by_cases he : e = 0
    · subst he
      rw [if_pos rfl, if_pos rfl, qmj9 (qdv9 h) hL, if_pos (by omega)]; rfl
    · rw [if_neg he, if_neg he]
end Ld.Law
namespace Ld.Law
open Go Go.Abs Go.Lib
theorem qzy9 {ρ : Type} {step : Int → Option (Int ⊕ ρ)} {n : Nat} (hs : ∀ i : Nat, i < n → step (i : Int) = some (.inl ((i + 1 : Nat) : Int)) ∨ ∃ r, step (i : Int) = some (.inr r)) (he : ∃ r, step (n : Int) = some (.inr r)) : ∀ (k i : Nat), i + k = n → ∃ r, wh step (i : Int) = some r := by
  intro k
  induction k with
  | zero => intro i h; obtain ⟨r, hr⟩ := he; have : i = n := by omega
            subst this; exact ⟨r, qe9 hr⟩
  | succ k ih =>
    intro i h
    rcases hs i (by omega) with h1 | ⟨r, h1⟩
    · rw [qE9 h1]; exact ih (i + 1) (by omega)
    · exact ⟨r, qe9 h1⟩
theorem qsn9 (s : ByteArray) : ∀ (n q : Nat), s.size - q ≤ n → ∃ r, wh (qbe9 s s) q = some r := by
  intro n
  induction n with
  | zero => intro q h; exact ⟨_, qe9 (by simp only [qbe9]; rw [if_neg (by omega)])⟩
  | succ n ih =>
    intro q h
    by_cases hq : q < s.size
    · obtain ⟨b, hb⟩ := qlX9 ((Utf8.decode s q).1 : Int)
      have hw := decodeL_width (s.data.toList.drop q)
      rw [decodeL_drop] at hw
      have : qbe9 s s q = some (.inl (q + (Utf8.decode s q).2)) ∨ ∃ r, qbe9 s s q = some (.inr r) := by
        simp only [qbe9, if_pos hq, hb, Option.bind_some]
        split
        · exact .inl rfl
        split
        · split
          · split
            · exact .inl rfl
            split
            · exact .inl rfl
            split
            · exact .inl rfl
            · exact .inr ⟨_, rfl⟩
          · split
            · exact .inl rfl
            split
            · exact .inl rfl
            · exact .inr ⟨_, rfl⟩
        · exact .inr ⟨_, rfl⟩
      rcases this with h1 | ⟨r, h1⟩
      · rw [qE9 h1]; exact ih _ (by omega)
      · exact ⟨_, qe9 h1⟩
    · exact ⟨_, qe9 (by simp only [qbe9]; rw [if_neg (by omega)])⟩
theorem qnA9 (s : ByteArray) : ∃ b, qX9 s = some b := by
  simp only [qX9]
  split
  · exact ⟨_, rfl⟩
  split
  · exact ⟨_, rfl⟩
  rename_i h
  rw [qbg9, if_pos (by omega)]
  simp only [Option.bind_some]
  split
  · obtain ⟨r, hr⟩ := qsn9 s s.size 0 (by omega)
    rw [hr]
    cases r <;> exact ⟨_, rfl⟩
  · exact ⟨_, rfl⟩
theorem qrZ9 (s : ByteArray) : s.size < 4611686018427387904 → ∃ b, qdm9 s = some b := by
  intro hS
  simp only [qdm9]
  split
  · rename_i h
    have h1 : w64 ((s.size : Int) - 1) = ((s.size - 1 : Nat) : Int) := by rw [qf9 (by omega) (by omega)]; omega
    have h2 : sidx s (w64 ((s.size : Int) - 1)) = some ((s[s.size - 1]'(by omega)).toNat : Int) := by
      rw [h1]; unfold sidx; rw [if_pos (by omega)]
      simp only [Int.toNat_natCast]
      rw [getElem?_pos s (s.size - 1) (by omega)]; rfl
    rw [h2]
    simp only [Option.bind_some]
    split
    · have h3 : cutBA s 0 (w64 ((s.size : Int) - 1)) = some (s.extract 0 (s.size - 1)) := by
        rw [h1]; unfold cutBA; rw [if_pos (by omega)]; simp
      rw [h3]
      simp only [Option.bind_some, qkA9]
      obtain ⟨b, hb⟩ := qnA9 (s.extract 0 (s.size - 1))
      rw [hb]; exact ⟨_, rfl⟩
    · exact ⟨_, rfl⟩
  · exact ⟨_, rfl⟩
theorem qgA9 (l : List Symbol) (hN : ∀ s ∈ l, s.Name.size < 4611686018427387904) : ∃ e, qr9 l = some e := by
  rw [← qiz9]
  simp only [qdH9]
  split
  · exact ⟨_, rfl⟩
  rename_i hlen
  have := qzy9 (step := qbZ9 l) (n := l.length) (fun i hi => ?_) ⟨.inr (l.length : Int), by simp only [qbZ9]; rw [if_neg (by omega)]⟩ l.length 0 (by omega)
  · obtain ⟨r, hr⟩ := this
    simp only [Int.natCast_zero] at hr
    rw [hr]
    cases r <;> exact ⟨_, rfl⟩
  · have hx : l[i]? = some l[i] := List.getElem?_eq_getElem hi
    obtain ⟨y, hd⟩ := qtW9 hx (by omega)
    simp only [qbZ9]
    rw [if_pos (by omega), qu9 hx]
    obtain ⟨b, hb⟩ := qnA9 l[i].Name
    obtain ⟨b', hb'⟩ := qrZ9 l[i].Name (hN _ (List.getElem_mem hi))
    have hw : w64 ((i : Int) + 1) = ((i + 1 : Nat) : Int) := by rw [qf9 (by omega) (by omega)]; omega
    simp only [Option.bind_some, qkA9, hb, hb', hd, hw]
    split
    · split
      · exact .inr ⟨_, rfl⟩
      split
      · exact .inr ⟨_, rfl⟩
      split <;> simp
    · split
      · split
        · exact .inr ⟨_, rfl⟩
        split
        · exact .inr ⟨_, rfl⟩
        split <;> simp
      · exact .inr ⟨_, rfl⟩
def SigOK (l : List Symbol) : Prop := ∀ s ∈ l, s.Name.size < 4611686018427387904
noncomputable def chk (sig : List Symbol) (t : List Int) : Int := (qbJ9 sig t).getD 0
theorem qja9 {sig : List Symbol} {t : List Int} (hS : SigOK sig) (hL : t.length < 17179869184) : qbJ9 sig t = some (chk sig t) := by
  unfold chk
  obtain ⟨e, he⟩ := qgA9 sig hS
  simp only [qbJ9, he, Option.bind_some]
  split
  · rw [if_pos (by omega)]; rfl
  · rfl
theorem qju9 {sig : List Symbol} {t : List Int} (hS : SigOK sig) (hL : t.length < 17179869184) (h : chk sig t = 0) : qr9 sig = some 0 ∧ qo9 sig t = 0 := by
  have h1 := qja9 hS hL
  rw [h] at h1
  obtain ⟨e, he⟩ := qgA9 sig hS
  simp only [qbJ9, he, Option.bind_some] at h1
  split at h1
  · rename_i h0
    subst h0
    rw [if_pos (by omega)] at h1
    exact ⟨he, oiA h1⟩
  · rename_i h0; exact absurd (oiA h1) h0
theorem qlR9 {sig : List Symbol} {t : List Int} (hL : t.length < 17179869184) (h : qr9 sig = some 0) (h2 : qo9 sig t = 0) : chk sig t = 0 := by
  unfold chk
  simp only [qbJ9, h, Option.bind_some, if_true]
  rw [if_pos (by omega), h2]; rfl
def Small (t : List Int) : Prop := t.length ≤ 1048576
theorem quK9 {sig : List Symbol} : ∀ (l : List Int) (k : Nat), (rdT sig l k).2 = 0 → (rdT sig l k).1 = [] → ∀ c ∈ l, -1048576 ≤ c := by
  intro l
  induction l with
  | nil => intro k _ _ c hc; cases hc
  | cons a r ih =>
    intro k h h2 c hc
    cases k with
    | zero => simp [rdT] at h2
    | succ k =>
      simp only [rdT] at h h2
      by_cases hx : (sig.length : Int) ≤ a ∨ a < -1048576
      · rw [if_pos hx] at h; simp at h
      · rw [if_neg hx] at h h2
        rcases List.mem_cons.1 hc with rfl | hc
        · omega
        · exact ih _ h h2 c hc
theorem qdS9 {sig : List Symbol} {t : List Int} (h : qo9 sig t = 0) : ∀ c ∈ t, -1048576 ≤ c := by
  have e : qo9 sig t = outc (rdT sig t 1) := rfl
  rw [e] at h
  unfold outc at h
  split at h
  · rename_i h0
    refine quK9 t 1 h0 ?_
    unfold stop at h
    split at h
    · assumption
    · cases h
  · rename_i h0; exact absurd h h0
end Ld.Law
namespace Ld.Law
open Go Go.Abs Go.Lib
theorem qeY9 (sig : List Symbol) (l : List Int) : rdT sig l 0 = (l, 0) := by cases l <;> rfl
theorem qrz9 (sig : List Symbol) : ∀ (l : List Int) (k : Nat), ∃ f, l = f ++ (rdT sig l k).1 := by
  intro l
  induction l with
  | nil => intro k; cases k <;> exact ⟨[], rfl⟩
  | cons c r ih =>
    intro k
    cases k with
    | zero => exact ⟨[], rfl⟩
    | succ k =>
      simp only [rdT]
      split
      · exact ⟨[], rfl⟩
      · obtain ⟨f, hf⟩ := ih (k + arOf sig c)
        exact ⟨c :: f, by rw [List.cons_append, ← hf]⟩
theorem qhU9 (sig : List Symbol) : ∀ (l : List Int) (a b : Nat), (rdT sig l (a + b)).2 = 0 → (rdT sig l a).2 = 0 ∧ rdT sig (rdT sig l a).1 b = rdT sig l (a + b) := by
  intro l
  induction l with
  | nil =>
    intro a b h
    cases a with
    | zero => rw [Nat.zero_add] at h ⊢; exact ⟨rfl, by rw [qeY9]⟩
    | succ a => rw [Nat.succ_add] at h; simp [rdT] at h
  | cons c r ih =>
    intro a b h
    cases a with
    | zero => rw [qeY9, Nat.zero_add]; exact ⟨rfl, rfl⟩
    | succ a =>
      rw [Nat.succ_add] at h ⊢
      simp only [rdT] at h ⊢
      by_cases hc : (sig.length : Int) ≤ c ∨ c < -1048576
      · rw [if_pos hc] at h; simp at h
      · rw [if_neg hc] at h
        rw [if_neg hc, if_neg hc]
        rw [show a + b + arOf sig c = (a + arOf sig c) + b by omega] at h ⊢
        exact ih _ _ h
def rest (sig : List Symbol) (s : List Int) : List Int := (rdT sig s 1).1
def first (sig : List Symbol) (s : List Int) : List Int := s.take (s.length - (rest sig s).length)
theorem qhF9 (sig : List Symbol) (s : List Int) : first sig s ++ rest sig s = s := by
  obtain ⟨f, hf⟩ := qrz9 sig s 1
  have hl := congrArg List.length hf
  rw [List.length_append] at hl
  unfold first rest
  have e : s.length - (rdT sig s 1).1.length = f.length := by omega
  rw [e]
  conv => lhs; arg 1; rw [hf]
  rw [List.take_left]
  exact hf.symm
theorem quk9 (sig : List Symbol) (s : List Int) : s.drop (s.length - (rest sig s).length) = rest sig s := by
  have h := qhF9 sig s
  have hl := congrArg List.length h
  rw [List.length_append] at hl
  have e : s.length - (rest sig s).length = (first sig s).length := by omega
  rw [e]
  conv => lhs; arg 2; rw [← h]
  rw [List.drop_left]
theorem qsW9 {sig : List Symbol} {t : List Int} (hA : Ars sig) (hL : t.length < 17179869184) : ∀ (n i k : Nat), i + n = t.length → k ≤ 8 * t.length + 1 - 8 * n + 8 → k ≤ 8 * i + 9 → (rdT sig (t.drop i) k).2 = 0 → ∃ k', wh (qcs9 sig t) ((i : Int), (k : Int)) = some (((t.length - (rdT sig (t.drop i) k).1.length : Nat) : Int), k') := by
  intro n
  induction n with
  | zero =>
    intro i k hi hk1 hk h
    rw [List.drop_eq_nil_of_le (by omega)] at h ⊢
    cases k with
    | zero => exact ⟨0, qe9 (by simp only [qcs9]; rw [if_neg (by omega)]; simp [rdT]; omega)⟩
    | succ k => simp [rdT] at h
  | succ n ih =>
    intro i k hi hk1 hk h
    have hlt : i < t.length := by omega
    have hx : t[i]? = some t[i] := List.getElem?_eq_getElem hlt
    cases k with
    | zero => exact ⟨0, qe9 (by simp only [qcs9]; rw [if_neg (by omega), qeY9]; simp; omega)⟩
    | succ k =>
      have hw2 : w64 ((i : Int) + 1) = ((i + 1 : Nat) : Int) := by rw [qf9 (by omega) (by omega)]; omega
      rw [List.drop_eq_getElem_cons hlt] at h ⊢
      have hc : ¬ ((sig.length : Int) ≤ t[i] ∨ t[i] < -1048576) := by
        intro hc; simp [rdT, hc] at h
      have hr : rdT sig (t[i] :: t.drop (i + 1)) (k + 1) = rdT sig (t.drop (i + 1)) (k + arOf sig t[i]) := by simp [rdT, hc]
      rw [hr] at h ⊢
      have har := ar_le hA t[i]
      have round : qcs9 sig t ((i : Int), ((k + 1 : Nat) : Int)) = some (.inl (((i + 1 : Nat) : Int), ((k + arOf sig t[i] : Nat) : Int))) := by
        simp only [qcs9]
        rw [if_pos (by omega), qu9 hx]
        simp only [Option.bind_some, hw2]
        by_cases hn : 0 ≤ t[i]
        · obtain ⟨c, hcn⟩ : ∃ c : Nat, t[i] = (c : Int) := ⟨t[i].toNat, by omega⟩
          have hcs : c < sig.length := by rw [hcn] at hc; omega
          have hs : sig[c]? = some sig[c] := List.getElem?_eq_getElem hcs
          have hra := hA _ (List.getElem_mem hcs)
          have hao : arOf sig t[i] = sig[c].Arity.toNat := by unfold arOf; rw [if_pos hn, hcn]; simp [hs]
          rw [if_pos hn, hao, hcn, qu9 hs]
          simp only [Option.bind_some]
          rw [qf9 (n := ((k + 1 : Nat) : Int) + sig[c].Arity) (by omega) (by omega), qf9 (by omega) (by omega)]
          congr 3
          omega
        · have hao : arOf sig t[i] = 0 := by unfold arOf; rw [if_neg hn]
          rw [if_neg hn, hao, qf9 (by omega) (by omega)]
          congr 3
          omega
      rw [qE9 round]
      exact ih (i + 1) _ (by omega) (by omega) (by omega) h
theorem qvv9 {sig : List Symbol} {t : List Int} (hA : Ars sig) (hL : t.length < 17179869184) (h : (rdT sig t 1).2 = 0) : qfp9 sig t = some ((t.length - (rest sig t).length : Nat) : Int) := by
  obtain ⟨k', hk⟩ := qsW9 hA hL t.length 0 1 (by omega) (by omega) (by omega) (by rw [List.drop_zero]; exact h)
  simp only [qfp9]
  simp only [Int.natCast_zero, Int.natCast_one, List.drop_zero] at hk
  rw [hk]; rfl
def bnd? (o : List Bind) (v : Int) : Option (List Int) := (o.find? fun b => decide (b.Var = v)).map (·.T)
def mat (sig : List Symbol) : List Int → List Int → List Bind → Option (List Bind)
  | [], _, o => some o
  | c :: p, s, o => if 0 ≤ c then (match s with
      | [] => none
      | a :: r => if a = c then mat sig p r o else none)
    else match bnd? o (-1 - c) with
      | some u => if u = first sig s then mat sig p (rest sig s) o else none
      | none => mat sig p (rest sig s) (o ++ [Bind.mk (-1 - c) (first sig s)])
theorem qpt9 (v : Int) : ∀ o : List Bind, mget (o.map fun b => (b.Var, b.T)) v = bnd? o v := by
  intro o
  induction o with
  | nil => rfl
  | cons b r ih =>
    simp only [List.map_cons, mget, bnd?, List.find?_cons]
    by_cases h : v = b.Var
    · rw [if_pos h, decide_eq_true h.symm]; rfl
    · rw [if_neg h, decide_eq_false (fun e => h e.symm), ih]; rfl
theorem qvp9 {v : Int} {t : List Int} : ∀ (m : List (Int × List Int)), mget m v = none → mset m v t = m ++ [(v, t)] := by
  intro m
  induction m with
  | nil => intro _; rfl
  | cons p r ih =>
    intro h
    simp only [mget] at h
    simp only [mset]
    by_cases e : v = p.1
    · rw [if_pos e] at h; cases h
    · rw [if_neg e] at h ⊢; rw [ih h]; rfl
theorem qpa9 {o : List Bind} {v : Int} (h : bnd? o v = none) : v ∉ o.map (·.Var) := by
  intro hm
  obtain ⟨b, hb, e⟩ := List.mem_map.1 hm
  have : (o.find? fun b => decide (b.Var = v)) = none := by
    unfold bnd? at h
    cases hf : o.find? (fun b => decide (b.Var = v)) with
    | none => rfl
    | some x => rw [hf] at h; cases h
  have := List.find?_eq_none.1 this b hb
  simp [e] at this
theorem qfV9 {α : Type} {l : List α} {i k : Nat} (h1 : i ≤ k) (h2 : k ≤ l.length) : cutL l (i : Int) (k : Int) = some ((l.drop i).take (k - i)) := by
  unfold cutL
  rw [if_pos (by omega)]
  simp
theorem qsF9 {sig : List Symbol} {p : List Int} (hA : Ars sig) (hp : Small p) (s6 : List Bind) : ∀ (n i k : Nat) (s : List Int) (o : List Bind), i + n = p.length → s.length ≤ 1048576 → (o.map (·.Var)).Nodup → o.length ≤ i →
    rdT sig (p.drop i) k = ([], 0) → rdT sig s k = ([], 0) →
    ∃ x, wh (qbd9 sig p s6 p (p.length : Int)) (s, (i : Int), o.map (fun b => (b.Var, b.T)), o) = some x ∧
      (match mat sig (p.drop i) s o with
        | none => x = .inl (([] : List Bind), false)
        | some o' => (o'.map (·.Var)).Nodup ∧ o'.length ≤ p.length ∧ ∃ a b m, x = .inr (a, b, m, o')) := by
  unfold Small at hp
  intro n
  induction n with
  | zero =>
    intro i k s o hi hs hnd hlen h1 h2
    rw [List.drop_eq_nil_of_le (by omega)]
    exact ⟨.inr (s, (i : Int), _, o), qe9 (by simp only [qbd9]; rw [if_neg (by omega)]), hnd, by omega, _, _, _, rfl⟩
  | succ n ih =>
    intro i k s o hi hs hnd hlen h1 h2
    have hlt : i < p.length := by omega
    have hx : p[i]? = some p[i] := List.getElem?_eq_getElem hlt
    have hw2 : w64 ((i : Int) + 1) = ((i + 1 : Nat) : Int) := by rw [qf9 (by omega) (by omega)]; omega
    rw [List.drop_eq_getElem_cons hlt] at h1 ⊢
    cases k with
    | zero => rw [qeY9] at h1; cases h1
    | succ k =>
      have hc : ¬ ((sig.length : Int) ≤ p[i] ∨ p[i] < -1048576) := by
        intro hc; simp [rdT, hc] at h1
      simp only [rdT, if_neg hc] at h1
      simp only [mat]
      by_cases hn : 0 ≤ p[i]
      · rw [if_pos hn]
        cases s with
        | nil => simp [rdT] at h2
        | cons a r =>
          have hca : ¬ ((sig.length : Int) ≤ a ∨ a < -1048576) := by
            intro hc; simp [rdT, hc] at h2
          simp only [rdT, if_neg hca] at h2
          have hpart : qeq9 p[i] = some (.ifc 128 (.v (.int .i64 p[i]))) := by simp only [qeq9]; rw [if_neg (by omega)]
          have i0 : idx (a :: r) 0 = some a := rfl
          by_cases hac : a = p[i]
          · simp only [if_pos hac]
            have round : qbd9 sig p s6 p (p.length : Int) (a :: r, (i : Int), o.map (fun b => (b.Var, b.T)), o) = some (.inl (r, ((i + 1 : Nat) : Int), o.map (fun b => (b.Var, b.T)), o)) := by
              have hcut : cutL (a :: r) 1 ((a :: r).length : Int) = some r := by
                have := qfV9 (l := a :: r) (i := 1) (k := (a :: r).length) (by simp) (by simp)
                simp only [Int.natCast_one, List.drop_succ_cons, List.drop_zero, List.length_cons, Nat.add_sub_cancel, List.take_length] at this
                exact this
              simp only [qbd9]
              rw [if_pos (by omega), qu9 hx]
              simp only [Option.bind_some, hpart, ifInt, asI, if_true, and_self, i0, hw2]
              rw [if_pos hac, hcut]
              rfl
            rw [qE9 round]
            have hr : r.length ≤ 1048576 := by simp only [List.length_cons] at hs; omega
            exact ih (i + 1) (k + arOf sig p[i]) r o (by omega) hr hnd (by omega) h1 (by rw [← hac]; exact h2)
          · simp only [if_neg hac]
            refine ⟨_, qe9 ?_, rfl⟩
            simp only [qbd9]
            rw [if_pos (by omega), qu9 hx]
            simp only [Option.bind_some, hpart, ifInt, asI, if_true, and_self, i0]
            rw [if_neg hac]
      · rw [if_neg hn]
        have hao : arOf sig p[i] = 0 := by unfold arOf; rw [if_neg hn]
        rw [hao, Nat.add_zero] at h1
        have hpart : qeq9 p[i] = some (.ifc 130 (.v (.int .i64 (-1 - p[i])))) := by
          simp only [qeq9]; rw [if_pos (by omega), qf9 (by omega) (by omega)]
        have hadd := qhU9 sig s 1 k (by rw [Nat.add_comm, h2])
        rw [Nat.add_comm 1 k, h2] at hadd
        have hreach := qvv9 hA (by omega : s.length < 17179869184) hadd.1
        have hrl : (rest sig s).length ≤ s.length := by
          have := congrArg List.length (qhF9 sig s); rw [List.length_append] at this; omega
        have hcut1 : cutL s 0 ((s.length - (rest sig s).length : Nat) : Int) = some (first sig s) := by
          have := qfV9 (l := s) (i := 0) (k := s.length - (rest sig s).length) (by omega) (by omega)
          simpa [first] using this
        have hcut2 : cutL s ((s.length - (rest sig s).length : Nat) : Int) (s.length : Int) = some (rest sig s) := by
          rw [qfV9 (by omega) (Nat.le_refl _), quk9, List.take_of_length_le (by omega)]
        have hfl : (first sig s).length ≤ s.length := by
          have := congrArg List.length (qhF9 sig s); rw [List.length_append] at this; omega
        have a57 : asI 128 .i64 (.ifc 130 (.v (.int .i64 (-1 - p[i])))) = none := rfl
        have a59 : asI 130 .i64 (.ifc 130 (.v (.int .i64 (-1 - p[i])))) = some (-1 - p[i]) := rfl
        have aif : ifInt (.ifc 130 (.v (.int .i64 (-1 - p[i])))) = true := rfl
        cases hb : bnd? o (-1 - p[i]) with
        | some u =>
          simp only
          have hm := qpt9 (-1 - p[i]) o
          rw [hb] at hm
          by_cases hu : u = first sig s
          · rw [if_pos hu]
            have round : qbd9 sig p s6 p (p.length : Int) (s, (i : Int), o.map (fun b => (b.Var, b.T)), o) = some (.inl (rest sig s, ((i + 1 : Nat) : Int), o.map (fun b => (b.Var, b.T)), o)) := by
              simp only [qbd9]
              rw [if_pos (by omega), qu9 hx]
              simp only [Option.bind_some, hpart, aif, a57, a59, if_true, hreach, hm, hcut1, hcut2, hw2]
              rw [qqn9 (by rw [hu]; omega), decide_eq_true hu]
              simp
            rw [qE9 round]
            exact ih (i + 1) k (rest sig s) o (by omega) (by omega) hnd (by omega) h1 hadd.2
          · rw [if_neg hu]
            refine ⟨_, qe9 ?_, rfl⟩
            simp only [qbd9]
            rw [if_pos (by omega), qu9 hx]
            simp only [Option.bind_some, hpart, aif, a57, a59, if_true, hreach, hm, hcut1, hcut2, hw2]
            by_cases hul : u.length = (first sig s).length
            · rw [qqn9 (by omega), decide_eq_false hu]
              simp
            · simp only [qbF9]
              rw [if_neg (by omega)]
              simp
        | none =>
          simp only
          have hm := qpt9 (-1 - p[i]) o
          rw [hb] at hm
          have hnew : mset (o.map fun b => (b.Var, b.T)) (-1 - p[i]) (first sig s) = (o ++ [Bind.mk (-1 - p[i]) (first sig s)]).map fun b => (b.Var, b.T) := by
            rw [qvp9 _ hm, List.map_append]; rfl
          have round : qbd9 sig p s6 p (p.length : Int) (s, (i : Int), o.map (fun b => (b.Var, b.T)), o) = some (.inl (rest sig s, ((i + 1 : Nat) : Int), (o ++ [Bind.mk (-1 - p[i]) (first sig s)]).map (fun b => (b.Var, b.T)), o ++ [Bind.mk (-1 - p[i]) (first sig s)])) := by
            simp only [qbd9]
            rw [if_pos (by omega), qu9 hx]
            simp only [Option.bind_some, hpart, aif, a57, a59, if_true, hreach, hm, hcut1, hcut2, hw2]
            rw [if_pos (by omega), if_pos (by omega), hnew]
          rw [qE9 round]
          refine ih (i + 1) k (rest sig s) _ (by omega) (by omega) ?_ (by simp; omega) h1 hadd.2
          rw [List.map_append, List.nodup_append]
          refine ⟨hnd, by simp, ?_⟩
          intro x hx y hy e
          simp at hy
          subst hy
          subst e
          exact qpa9 hb hx
theorem qgN9 {sig : List Symbol} {t : List Int} (h : qo9 sig t = 0) : rdT sig t 1 = ([], 0) := by
  have e : qo9 sig t = outc (rdT sig t 1) := rfl
  rw [e] at h
  unfold outc at h
  split at h
  · rename_i h0
    unfold stop at h
    split at h
    · rename_i h1; exact Prod.ext h1 h0
    · cases h
  · rename_i h0; exact absurd h h0
def insB (b : Bind) : List Bind → List Bind
  | [] => [b]
  | c :: r => if b.Var < c.Var then b :: c :: r else c :: insB b r
def sortB : List Bind → List Bind
  | [] => []
  | b :: r => insB b (sortB r)
theorem qnl9 (b : Bind) : ∀ l, (insB b l).Perm (b :: l) := by
  intro l
  induction l with
  | nil => exact List.Perm.refl _
  | cons c r ih =>
    simp only [insB]
    split
    · exact List.Perm.refl _
    · exact (List.Perm.cons c ih).trans (List.Perm.swap b c r)
theorem qhK9 : ∀ l, (sortB l).Perm l := by
  intro l
  induction l with
  | nil => exact List.Perm.refl _
  | cons b r ih => exact (qnl9 b _).trans (List.Perm.cons b ih)
def Rise (l : List Bind) : Prop := l.Pairwise fun a b => a.Var < b.Var
theorem qul9 {b : Bind} : ∀ {l : List Bind}, Rise l → b.Var ∉ l.map (·.Var) → Rise (insB b l) := by
  intro l
  induction l with
  | nil => intro _ _; exact List.pairwise_singleton _ _
  | cons c r ih =>
    intro h hn
    simp only [insB]
    have hc := List.pairwise_cons.1 h
    split
    · rename_i hlt
      refine List.pairwise_cons.2 ⟨fun x hx => ?_, h⟩
      rcases List.mem_cons.1 hx with rfl | hx
      · exact hlt
      · have := hc.1 x hx; omega
    · rename_i hlt
      have hne : b.Var ≠ c.Var := fun e => hn (by simp [e])
      refine List.pairwise_cons.2 ⟨fun x hx => ?_, ih hc.2 (fun hm => hn (by simp at hm ⊢; exact .inr hm))⟩
      rcases List.mem_cons.1 ((qnl9 b r).mem_iff.1 hx) with rfl | hx
      · omega
      · exact hc.1 x hx
theorem qtt9 : ∀ {l : List Bind}, (l.map (·.Var)).Nodup → Rise (sortB l) := by
  intro l
  induction l with
  | nil => intro _; exact List.Pairwise.nil
  | cons b r ih =>
    intro h
    have hc := List.nodup_cons.1 (show (b.Var :: r.map (·.Var)).Nodup from h)
    refine qul9 (ih hc.2) (fun hm => hc.1 ?_)
    exact ((qhK9 r).map (·.Var)).mem_iff.1 hm
theorem qqP9 : ∀ {l m : List Bind}, l.Perm m → Rise l → Rise m → l = m := by
  intro l
  induction l with
  | nil => intro m hp _ _; exact (List.nil_perm.1 hp).symm ▸ rfl
  | cons a r ih =>
    intro m hp hl hm
    cases m with
    | nil => exact absurd (List.perm_nil.1 hp) (by simp)
    | cons b s =>
      have ha := List.pairwise_cons.1 hl
      have hb := List.pairwise_cons.1 hm
      have e : a = b := by
        have h1 : a ∈ b :: s := hp.mem_iff.1 (List.mem_cons_self ..)
        have h2 : b ∈ a :: r := hp.mem_iff.2 (List.mem_cons_self ..)
        rcases List.mem_cons.1 h1 with h1 | h1
        · exact h1
        rcases List.mem_cons.1 h2 with h2 | h2
        · exact h2.symm
        have x1 := hb.1 a h1
        have x2 := ha.1 b h2
        omega
      subst e
      rw [ih ((List.perm_cons a).1 hp) ha.2 hb.2]
abbrev ltB (a b : Bind) : Bool := decide (a.Var < b.Var)
theorem qxz9 : Go.Sort.SWO ltB where
  irrefl := fun x => by simp [ltB]
  trans := fun x y z h1 h2 => by simp [ltB] at *; omega
  ntrans := fun x y z h1 h2 => by simp [ltB] at *; omega
theorem qwW9 (a b : Bind) : ∃ n, qi9 a b = some n ∧ (n < 0 ↔ ltB a b = true) := by
  have hn : ∀ n : Int, qdM9 n = some false := fun n => by simp [qdM9]
  simp only [qi9, qeI9, hn, Option.bind_some, Bool.false_eq_true, if_false]
  by_cases h1 : a.Var < b.Var
  · rw [if_pos h1]; exact ⟨_, rfl, by simp [ltB, h1]⟩
  · rw [if_neg h1]
    by_cases h2 : b.Var < a.Var
    · rw [if_pos h2]; exact ⟨_, rfl, by simp [ltB, h1]⟩
    · rw [if_neg h2]; exact ⟨_, rfl, by simp [ltB, h1]⟩
theorem qqr9 {l : List Bind} (hn : (l.map (·.Var)).Nodup) (R : Array Bind) (hp : @Go.Sort.PermIn Bind SoB.inhE 0 l.length l.toArray R) (hs : @Go.Sort.SortedIn Bind SoB.inhE ltB 0 l.length R) : R.toList = sortB l := by
  have hsz : R.size = l.length := by have := hp.1; simpa using this
  have hperm : R.toList.Perm l := by
    have := hp.2.2
    have e1 : R.extract 0 l.length = R := by rw [← hsz]; exact Array.extract_size
    have e2 : l.toArray.extract 0 l.length = l.toArray := by
      have h : l.length = l.toArray.size := by simp
      rw [h]; exact Array.extract_size
    rw [e1, e2] at this
    simpa using this
  refine qqP9 (hperm.trans (qhK9 l).symm) ?_ (qtt9 hn)
  have hnR : (R.toList.map (·.Var)).Nodup := (hperm.map (·.Var)).nodup_iff.2 hn
  refine List.pairwise_iff_getElem.2 fun i j hi hj hij => ?_
  have h1 := hs i j (Nat.zero_le _) hij (by simpa [hsz] using hj)
  have hi' : i < R.size := by simpa using hi
  have hj' : j < R.size := by simpa using hj
  have hne : R.toList[i].Var ≠ R.toList[j].Var := by
    intro e
    have := (List.pairwise_iff_getElem.1 hnR) i j (by simpa using hi) (by simpa using hj) hij
    apply this
    rw [List.getElem_map, List.getElem_map]
    exact e
  have e1 : R[i]! = R.toList[i] := by simp [hi']
  have e2 : R[j]! = R.toList[j] := by simp [hj']
  rw [e1, e2] at h1
  simp only [ltB, decide_eq_false_iff_not] at h1
  omega
theorem qxM9 {l : List Bind} (hn : (l.map (·.Var)).Nodup) (hl : l.length ≤ 1048576) : qcy9 l = some (sortB l) :=
  SoB.SortFunc_eq qwW9 qxz9 (by show _ < _; omega) (fun R hp hs => qqr9 hn R hp hs)
noncomputable def matR (sig : List Symbol) (p s : List Int) : List Bind × Bool :=
  if chk sig p = 0 ∧ chk sig s = 0 then (match mat sig p s [] with | none => ([], false) | some o => (sortB o, true)) else ([], false)
theorem qkZ9 {sig : List Symbol} {p s : List Int} (hS : SigOK sig) (hp : Small p) (hs : Small s) : qeE9 sig p s = some (matR sig p s) := by
  have sm : ∀ t : List Int, Small t → t.length < 17179869184 := fun t h => by unfold Small at h; omega
  simp only [qeE9, matR, qja9 hS (sm _ hp), qja9 hS (sm _ hs), Option.bind_some]
  by_cases c1 : chk sig p = 0
  rotate_left
  · rw [if_neg c1, if_neg (fun h => c1 h.1)]
  by_cases c2 : chk sig s = 0
  rotate_left
  · rw [if_pos c1, if_neg c2, if_neg (fun h => c2 h.2)]
  rw [if_pos c1, if_pos c2, if_pos ⟨c1, c2⟩]
  obtain ⟨k0, r1⟩ := qju9 hS (sm _ hp) c1
  obtain ⟨_, r2⟩ := qju9 hS (sm _ hs) c2
  obtain ⟨x, hx, h⟩ := qsF9 (qdv9 k0) hp [] p.length 0 1 s [] (by omega) hs (by simp) (by simp) (by rw [List.drop_zero]; exact qgN9 r1) (qgN9 r2)
  simp only [Int.natCast_zero, List.map_nil, List.drop_zero] at hx h
  rw [hx]
  unfold Small at hp
  cases hm : mat sig p s [] with
  | none => rw [hm] at h; simp only at h; subst h; rfl
  | some o =>
    rw [hm] at h
    obtain ⟨hnd, hlen, a, b, m, rfl⟩ := h
    simp only [Option.bind_some, qxM9 hnd (by omega)]
end Ld.Law
namespace Ld.Law
open Go Go.Abs Go.Lib
set_option maxRecDepth 8000
theorem wh_of {σ ρ : Type} {step : σ → Option (σ ⊕ ρ)} : ∀ (n : Nat) {s : σ} {r : ρ}, itW step n s = some r → wh step s = some r := by
  intro n
  induction n with
  | zero => intro s r h; cases h
  | succ n ih =>
    intro s r h
    simp only [itW] at h
    rw [wh_eq]
    cases hs : step s with
    | none => rw [hs] at h; cases h
    | some x =>
      rw [hs] at h
      cases x with
      | inl s' => exact ih h
      | inr q => exact h
def three : List Symbol := [⟨{ data := #[122, 101, 114, 111] }, 0⟩, ⟨{ data := #[115] }, 1⟩, ⟨{ data := #[112, 108, 117, 115] }, 2⟩]
theorem qwv9 : SigOK three := by
  intro s hs
  simp only [three, List.mem_cons, List.not_mem_nil, or_false] at hs
  rcases hs with rfl | rfl | rfl <;> decide
theorem qlo9 {s : ByteArray} (h0 : ¬ s = { data := #[] }) (h1 : ¬ 32 < (s.size : Int)) (h2 : validD s.data.toList = true) (h3 : itW (qbe9 s s) 33 0 = some (.inr s.size)) : qX9 s = some true := by
  simp only [qX9]
  rw [if_neg h0, if_neg h1, qbg9, if_pos (by omega), h2]
  simp only [Option.bind_some, if_true]
  rw [wh_of 33 h3]; rfl
theorem quP9 : qr9 three = some 0 := by
  have n0 : qX9 { data := #[122, 101, 114, 111] } = some true := qlo9 (by decide) (by decide) (by decide +kernel) (by decide +kernel)
  have n1 : qX9 { data := #[115] } = some true := qlo9 (by decide) (by decide) (by decide +kernel) (by decide +kernel)
  have n2 : qX9 { data := #[112, 108, 117, 115] } = some true := qlo9 (by decide) (by decide) (by decide +kernel) (by decide +kernel)
  have s0 : qD9 three three (three.length : Int) 0 = some (.inl 1) := by
    simp only [qD9]
    rw [if_pos (by decide), show idx three 0 = some ⟨{ data := #[122, 101, 114, 111] }, 0⟩ from rfl]
    simp only [Option.bind_some, n0, if_true]
    rw [if_neg (by decide), if_neg (by decide), show cutL three 0 0 = some [] from rfl]
    simp only [Option.bind_some]
    rw [qhc9 (by decide)]
    rfl
  have s1 : qD9 three three (three.length : Int) 1 = some (.inl 2) := by
    simp only [qD9]
    rw [if_pos (by decide), show idx three 1 = some ⟨{ data := #[115] }, 1⟩ from rfl]
    simp only [Option.bind_some, n1, if_true]
    rw [if_neg (by decide), if_neg (by decide), show cutL three 0 1 = some (three.take 1) from rfl]
    simp only [Option.bind_some]
    rw [qhc9 (by decide), show ((three.take 1).findIdx? fun a => decide (a.Name = (⟨{ data := #[115] }, 1⟩ : Symbol).Name)).isSome = false by decide +kernel]
    rfl
  have s2 : qD9 three three (three.length : Int) 2 = some (.inl 3) := by
    simp only [qD9]
    rw [if_pos (by decide), show idx three 2 = some ⟨{ data := #[112, 108, 117, 115] }, 2⟩ from rfl]
    simp only [Option.bind_some, n2, if_true]
    rw [if_neg (by decide), if_neg (by decide), show cutL three 0 2 = some (three.take 2) from rfl]
    simp only [Option.bind_some]
    rw [qhc9 (by decide), show ((three.take 2).findIdx? fun a => decide (a.Name = (⟨{ data := #[112, 108, 117, 115] }, 2⟩ : Symbol).Name)).isSome = false by decide +kernel]
    rfl
  have s3 : qD9 three three (three.length : Int) 3 = some (.inr (.inr 3)) := by
    simp only [qD9]
    rw [if_neg (by decide)]
  simp only [qr9]
  rw [if_neg (by decide), qE9 s0, qE9 s1, qE9 s2, qe9 s3]
  rfl
end Ld.Law

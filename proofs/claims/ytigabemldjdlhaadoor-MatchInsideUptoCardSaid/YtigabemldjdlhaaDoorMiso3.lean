import Derived.Test.YtigabemldjdlhaaDoorMiso2
set_option maxHeartbeats 400000
set_option linter.unusedVariables false
set_option linter.unusedSimpArgs false
namespace Ld.SoB
open Go Go.Abs Go.Sort
variable {lt : Bind → Bind → Bool} (hcmp : ∀ a b, ∃ n, match_Match_c1 a b = some n ∧ (n < 0 ↔ lt a b = true))
section
/-! the pivot -/
include hcmp in
theorem order2_mem {s1 s2 : Nat} {d : Array Bind} (h1 : s1 < d.size) (h2 : s2 < d.size) (n : Int) : ∃ (x y : Nat) (m : Int), slices_order2_Bm (s1 : Int) (s2 : Int) d.toList n = some ((x : Int), (y : Int), m) ∧ ((x = s1 ∧ y = s2) ∨ (x = s2 ∧ y = s1)) := by
  simp only [slices_order2_Bm]
  rw [idxA h1, idxA h2]
  simp only [Option.bind_some, cmpIf hcmp]
  split
  · exact ⟨s2, s1, _, rfl, .inr ⟨rfl, rfl⟩⟩
  · exact ⟨s1, s2, _, rfl, .inl ⟨rfl, rfl⟩⟩
include hcmp in
theorem median_mem {s1 s2 s3 : Nat} {d : Array Bind} (h1 : s1 < d.size) (h2 : s2 < d.size) (h3 : s3 < d.size) (n : Int) : ∃ (x : Nat) (m : Int), slices_median_Bm (s1 : Int) (s2 : Int) (s3 : Int) d.toList n = some ((x : Int), m) ∧ (x = s1 ∨ x = s2 ∨ x = s3) := by
  simp only [slices_median_Bm]
  obtain ⟨x, y, m, e1, c1⟩ := order2_mem hcmp h1 h2 n
  rw [e1]
  simp only [Option.bind_some]
  obtain ⟨x2, y2, m2, e2, c2⟩ := order2_mem hcmp (s1 := y) (s2 := s3) (d := d) (by omega) h3 m
  rw [e2]
  simp only [Option.bind_some]
  obtain ⟨x3, y3, m3, e3, c3⟩ := order2_mem hcmp (s1 := x) (s2 := x2) (d := d) (by omega) (by omega) m2
  rw [e3]
  exact ⟨y3, m3, rfl, by omega⟩
include hcmp in
theorem medianAdj_mem {s1 : Nat} {d : Array Bind} (h0 : 1 ≤ s1) (h1 : s1 + 1 < d.size) (hs : Sm d.size) (n : Int) : ∃ (x : Nat) (m : Int), slices_medianAdjacent_Bm (s1 : Int) d.toList n = some ((x : Int), m) ∧ (x = s1 - 1 ∨ x = s1 ∨ x = s1 + 1) := by
  simp only [slices_medianAdjacent_Bm]
  rw [wN (x := (s1 : Int) - 1) (n := s1 - 1) (by omega) (by omega), wN (x := (s1 : Int) + 1) (n := s1 + 1) (by omega) (by omega)]
  obtain ⟨x, m, e, c⟩ := median_mem hcmp (s1 := s1 - 1) (s2 := s1) (s3 := s1 + 1) (d := d) (by omega) (by omega) (by omega) n
  rw [e]
  exact ⟨x, m, rfl, c⟩
theorem quoN {n k : Nat} (hk : 0 < k) (hn : n < 4611686018427387904) : quoV .i64 (n : Int) (k : Int) = some ((n / k : Nat) : Int) := by
  unfold quoV
  rw [if_neg (by omega)]
  have : ((n : Int)).tdiv (k : Int) = ((n / k : Nat) : Int) := by rw [Int.tdiv_eq_ediv_of_nonneg (by omega)]; exact (Int.natCast_ediv n k).symm
  rw [this]
  have hle : n / k ≤ n := Nat.div_le_self n k
  generalize n / k = q at hle ⊢
  exact congrArg some (wZ (x := (q : Int)) (by omega) (by omega))
include hcmp in
theorem choosePivot_rng {a b : Nat} {d : Array Bind} (hab : a + 12 < b) (hb : b ≤ d.size) (hs : Sm d.size) : ∃ (p : Nat) (h : Int), slices_choosePivot_Bm (a : Int) (b : Int) d.toList = some ((p : Int), h) ∧ a ≤ p ∧ p < b := by
  simp only [slices_choosePivot_Bm]
  rw [wN (x := (b : Int) - (a : Int)) (n := b - a) (by omega) (by omega)]
  have hq := quoN (n := b - a) (k := 4) (by omega) (by omega)
  rw [show ((4 : Nat) : Int) = 4 from rfl] at hq
  rw [hq]
  simp only [Option.bind_some]
  rw [if_pos (by omega)]
  generalize hl : (b - a) / 4 = l at *
  rw [wN (x := (l : Int) * 1) (n := l * 1) (by omega) (by omega), wN (x := (l : Int) * 2) (n := l * 2) (by omega) (by omega), wN (x := (l : Int) * 3) (n := l * 3) (by omega) (by omega),
    wN (x := (a : Int) + ((l * 1 : Nat) : Int)) (n := a + l * 1) (by omega) (by omega), wN (x := (a : Int) + ((l * 2 : Nat) : Int)) (n := a + l * 2) (by omega) (by omega), wN (x := (a : Int) + ((l * 3 : Nat) : Int)) (n := a + l * 3) (by omega) (by omega)]
  have fin : ∀ (x : Nat) (m : Int), a ≤ x → x < b → ∃ (p : Nat) (h : Int), (if m = 0 then some ((x : Int), (1 : Int)) else if m = 12 then some ((x : Int), (2 : Int)) else some ((x : Int), (0 : Int))) = some ((p : Int), h) ∧ a ≤ p ∧ p < b := by
    intro x m h1 h2
    split
    · exact ⟨x, _, rfl, h1, h2⟩
    split
    · exact ⟨x, _, rfl, h1, h2⟩
    · exact ⟨x, _, rfl, h1, h2⟩
  by_cases h50 : 50 ≤ b - a
  · rw [if_pos (by omega)]
    obtain ⟨x2, m2, e2, c2⟩ := medianAdj_mem hcmp (s1 := a + l * 1) (d := d) (by omega) (by omega) hs 0
    rw [e2]
    simp only [Option.bind_some]
    obtain ⟨x3, m3, e3, c3⟩ := medianAdj_mem hcmp (s1 := a + l * 2) (d := d) (by omega) (by omega) hs m2
    rw [e3]
    simp only [Option.bind_some]
    obtain ⟨x4, m4, e4, c4⟩ := medianAdj_mem hcmp (s1 := a + l * 3) (d := d) (by omega) (by omega) hs m3
    rw [e4]
    simp only [Option.bind_some]
    obtain ⟨x5, m5, e5, c5⟩ := median_mem hcmp (s1 := x2) (s2 := x3) (s3 := x4) (d := d) (by omega) (by omega) (by omega) m4
    rw [e5]
    simp only [Option.bind_some]
    exact fin x5 m5 (by omega) (by omega)
  · rw [if_neg (by omega)]
    obtain ⟨x5, m5, e5, c5⟩ := median_mem hcmp (s1 := a + l * 1) (s2 := a + l * 2) (s3 := a + l * 3) (d := d) (by omega) (by omega) (by omega) 0
    rw [e5]
    simp only [Option.bind_some]
    exact fin x5 m5 (by omega) (by omega)
/-! breaking patterns -/
theorem bitLen_two {n : Nat} (hn : 0 < n) (hs : Sm n) : n < 2 ^ Go.Lib.bitLen n ∧ 2 ^ Go.Lib.bitLen n ≤ 2 * n := by
  induction n using Nat.strongRecOn with
  | ind n ih =>
    unfold Sm at hs
    have h := Go.Lib.bitLen_half n (by omega) (by omega)
    by_cases h1 : n = 1
    · subst h1; decide +kernel
    · obtain ⟨i1, i2⟩ := ih (n / 2) (by omega) (by omega) (by unfold Sm; omega)
      rw [h, Nat.pow_add, Nat.pow_one]
      omega
theorem u64N {n : Nat} (h : n < 18446744073709551616) : IntKind.u64.wrap (n : Int) = (n : Int) := by
  have e : IntKind.u64.wrap (n : Int) = (n : Int) % 18446744073709551616 := by simp [IntKind.wrap, IntKind.bits, IntKind.signed]
  rw [e]; omega
theorem nextPow {n : Nat} (hn : 0 < n) (hs : Sm n) : slices_nextPowerOfTwo (n : Int) = some ((2 ^ Go.Lib.bitLen n : Nat) : Int) := by
  have hb := bitLen_two hn hs
  have hle : Go.Lib.bitLen n ≤ 31 := by
    rcases Nat.lt_or_ge 31 (Go.Lib.bitLen n) with h | h
    · have : 2 ^ 32 ≤ 2 ^ Go.Lib.bitLen n := Nat.pow_le_pow_right (by omega) (by omega)
      unfold Sm at hs; omega
    · exact h
  simp only [slices_nextPowerOfTwo]
  rw [u64N (by omega)]
  unfold math_bits_Len
  rw [if_pos (by omega)]
  simp only [Option.bind_some, Int.toNat_natCast]
  unfold shlV
  rw [if_pos (by omega)]
  have e : min ((Go.Lib.bitLen n : Nat) : Int).toNat IntKind.u64.bits = Go.Lib.bitLen n := by
    simp only [Int.toNat_natCast]
    exact Nat.min_eq_left (by show _ ≤ 64; omega)
  rw [e, Int.one_mul]
  have e2 : ((2 : Int) ^ Go.Lib.bitLen n) = ((2 ^ Go.Lib.bitLen n : Nat) : Int) := by push_cast; rfl
  rw [e2]
  simp only [Option.bind_some]
  rw [u64N (by omega)]
theorem next_tot (x : Int) : ∃ r, slices_xorshift_Next x = some (r, r) := by
  simp only [slices_xorshift_Next, shlV, shrV]
  simp only [if_pos (show (0 : Int) ≤ 13 by decide), if_pos (show (0 : Int) ≤ 7 by decide), if_pos (show (0 : Int) ≤ 17 by decide), Option.bind_some]
  exact ⟨_, rfl⟩
theorem and_rng (x : Int) {m : Nat} (hm : 0 < m) (hs : m < 9223372036854775808) : ∃ v : Nat, w64 (andV .u64 x (IntKind.u64.wrap ((m : Int) - 1))) = (v : Int) ∧ v < m := by
  have e1 : (m : Int) - 1 = ((m - 1 : Nat) : Int) := by omega
  rw [e1, u64N (by omega)]
  have hb : (BitVec.ofInt 64 ((m - 1 : Nat) : Int)).toNat = m - 1 := by
    rw [BitVec.toNat_ofInt]; omega
  have hv : (BitVec.ofInt 64 x &&& BitVec.ofInt 64 ((m - 1 : Nat) : Int)).toNat ≤ m - 1 := by
    rw [BitVec.toNat_and, hb]; exact Nat.and_le_right
  refine ⟨(BitVec.ofInt 64 x &&& BitVec.ofInt 64 ((m - 1 : Nat) : Int)).toNat, ?_, by omega⟩
  have e2 : andV .u64 x ((m - 1 : Nat) : Int) = (((BitVec.ofInt 64 x &&& BitVec.ofInt 64 ((m - 1 : Nat) : Int)).toNat : Nat) : Int) := by
    show IntKind.u64.wrap (((BitVec.ofInt 64 x &&& BitVec.ofInt 64 ((m - 1 : Nat) : Int)).toNat : Nat) : Int) = _
    exact u64N (by omega)
  rw [e2]
  unfold w64
  rw [IntKind.wrap_i64]; omega
theorem breakLoop {a b M : Nat} (hab : a + 12 < b) (hM1 : b - a ≤ M) (hM2 : M ≤ 2 * (b - a)) : ∀ (n i : Nat) (d : Array Bind) (x : Int), a + (b - a) / 4 * 2 + 2 - i ≤ n → a ≤ i → b ≤ d.size → Sm d.size → i ≤ a + (b - a) / 4 * 2 + 2 → ∃ y z R, wh (slices_breakPatterns_Bm_l0 (a : Int) (b : Int) ((b - a : Nat) : Int) (M : Int)) ((i : Int), d.toList, x) = some (y, R.toList, z) ∧ PermIn a b d R := by
  have hq := quoN (n := b - a) (k := 4) (by omega)
  rw [show ((4 : Nat) : Int) = 4 from rfl] at hq
  intro n
  induction n with
  | zero =>
    intro i d x hn hi hb hs hie
    refine ⟨_, _, d, wh_done (r := ((i : Int), d.toList, x)) ?_, permIn_refl _ _ _⟩
    unfold Sm at hs
    simp only [slices_breakPatterns_Bm_l0]
    rw [hq (by omega)]
    simp only [Option.bind_some]
    rw [wN (x := (((b - a) / 4 : Nat) : Int) * 2) (n := (b - a) / 4 * 2) (by omega) (by omega), wN (x := (a : Int) + (((b - a) / 4 * 2 : Nat) : Int)) (n := a + (b - a) / 4 * 2) (by omega) (by omega), wN (x := ((a + (b - a) / 4 * 2 : Nat) : Int) + 1) (n := a + (b - a) / 4 * 2 + 1) (by omega) (by omega), if_neg (by omega)]
  | succ n ih =>
    intro i d x hn hi hb hs hie
    by_cases hlt : i ≤ a + (b - a) / 4 * 2 + 1
    · obtain ⟨r, hr⟩ := next_tot x
      obtain ⟨v, hv, hvm⟩ := and_rng r (m := M) (by omega) (by unfold Sm at hs; omega)
      have bi : i < d.size := by omega
      have go : ∀ k : Nat, a ≤ k → k < b → slices_breakPatterns_Bm_l0 (a : Int) (b : Int) ((b - a : Nat) : Int) (M : Int) ((i : Int), d.toList, x) = some (.inl (((i + 1 : Nat) : Int), (swp d i k).toList, r)) →
          ∃ y z R, wh (slices_breakPatterns_Bm_l0 (a : Int) (b : Int) ((b - a : Nat) : Int) (M : Int)) ((i : Int), d.toList, x) = some (y, R.toList, z) ∧ PermIn a b d R := by
        intro k h1 h2 hstep
        rw [wh_next hstep]
        obtain ⟨y, z, R, e, hp⟩ := ih (i + 1) (swp d i k) r (by omega) (by omega) (by rw [swp_sz]; exact hb) (by rw [swp_sz]; exact hs) (by omega)
        exact ⟨y, z, R, e, permIn_trans _ _ _ a b (swp_permIn d a b i k hi (by omega) h1 h2 hb) hp⟩
      unfold Sm at hs
      by_cases hge : b - a ≤ v
      · refine go (a + (v - (b - a))) (by omega) (by omega) ?_
        have bk : a + (v - (b - a)) < d.size := by omega
        simp only [slices_breakPatterns_Bm_l0]
        rw [hq (by omega)]
        simp only [Option.bind_some]
        rw [wN (x := (((b - a) / 4 : Nat) : Int) * 2) (n := (b - a) / 4 * 2) (by omega) (by omega), wN (x := (a : Int) + (((b - a) / 4 * 2 : Nat) : Int)) (n := a + (b - a) / 4 * 2) (by omega) (by omega), wN (x := ((a + (b - a) / 4 * 2 : Nat) : Int) + 1) (n := a + (b - a) / 4 * 2 + 1) (by omega) (by omega), if_pos (by omega), hr]
        simp only [Option.bind_some, hv]
        rw [if_pos (by omega), wN (x := (v : Int) - ((b - a : Nat) : Int)) (n := v - (b - a)) (by omega) (by omega), wN (x := (a : Int) + ((v - (b - a) : Nat) : Int)) (n := a + (v - (b - a))) (by omega) (by omega), wN (x := (i : Int) + 1) (n := i + 1) (by omega) (by omega), idxA bk, idxA bi]
        simp only [Option.bind_some]
        rw [swpB bi bk (k := fun l => some (Sum.inl (((i + 1 : Nat) : Int), l, r)))]
      · refine go (a + v) (by omega) (by omega) ?_
        have bk : a + v < d.size := by omega
        simp only [slices_breakPatterns_Bm_l0]
        rw [hq (by omega)]
        simp only [Option.bind_some]
        rw [wN (x := (((b - a) / 4 : Nat) : Int) * 2) (n := (b - a) / 4 * 2) (by omega) (by omega), wN (x := (a : Int) + (((b - a) / 4 * 2 : Nat) : Int)) (n := a + (b - a) / 4 * 2) (by omega) (by omega), wN (x := ((a + (b - a) / 4 * 2 : Nat) : Int) + 1) (n := a + (b - a) / 4 * 2 + 1) (by omega) (by omega), if_pos (by omega), hr]
        simp only [Option.bind_some, hv]
        rw [if_neg (by omega), wN (x := (a : Int) + (v : Int)) (n := a + v) (by omega) (by omega), wN (x := (i : Int) + 1) (n := i + 1) (by omega) (by omega), idxA bk, idxA bi]
        simp only [Option.bind_some]
        rw [swpB bi bk (k := fun l => some (Sum.inl (((i + 1 : Nat) : Int), l, r)))]
    · refine ⟨_, _, d, wh_done (r := ((i : Int), d.toList, x)) ?_, permIn_refl _ _ _⟩
      unfold Sm at hs
      simp only [slices_breakPatterns_Bm_l0]
      rw [hq (by omega)]
      simp only [Option.bind_some]
      rw [wN (x := (((b - a) / 4 : Nat) : Int) * 2) (n := (b - a) / 4 * 2) (by omega) (by omega), wN (x := (a : Int) + (((b - a) / 4 * 2 : Nat) : Int)) (n := a + (b - a) / 4 * 2) (by omega) (by omega), wN (x := ((a + (b - a) / 4 * 2 : Nat) : Int) + 1) (n := a + (b - a) / 4 * 2 + 1) (by omega) (by omega), if_neg (by omega)]
theorem breakPatterns_perm {a b : Nat} {d : Array Bind} (hab : a + 12 < b) (hb : b ≤ d.size) (hs : Sm d.size) : ∃ R : Array Bind, slices_breakPatterns_Bm (a : Int) (b : Int) d.toList = some R.toList ∧ PermIn a b d R := by
  have hbl := bitLen_two (n := b - a) (by omega) (by unfold Sm at hs ⊢; omega)
  have hs' := hs
  unfold Sm at hs'
  simp only [slices_breakPatterns_Bm]
  rw [wN (x := (b : Int) - (a : Int)) (n := b - a) (by omega) (by omega), if_pos (by omega), nextPow (by omega) (by unfold Sm; omega)]
  have hq := quoN (n := b - a) (k := 4) (by omega) (by omega)
  rw [show ((4 : Nat) : Int) = 4 from rfl] at hq
  rw [hq]
  simp only [Option.bind_some]
  rw [wN (x := (((b - a) / 4 : Nat) : Int) * 2) (n := (b - a) / 4 * 2) (by omega) (by omega), wN (x := (a : Int) + (((b - a) / 4 * 2 : Nat) : Int)) (n := a + (b - a) / 4 * 2) (by omega) (by omega), wN (x := ((a + (b - a) / 4 * 2 : Nat) : Int) - 1) (n := a + (b - a) / 4 * 2 - 1) (by omega) (by omega)]
  obtain ⟨y, z, R, e, hp⟩ := breakLoop (M := 2 ^ Go.Lib.bitLen (b - a)) hab (by omega) (by omega) _ (a + (b - a) / 4 * 2 - 1) d (IntKind.u64.wrap ((b - a : Nat) : Int)) (Nat.le_refl _) (by omega) hb hs (by omega)
  rw [e]
  exact ⟨R, rfl, hp⟩
/-! the recursion -/
/-- what is known of a sort of parts of fewer than m elements, and of whatever it answers at all -/
def Spec (lt : Bind → Bind → Bool) (rec : Int × Int × Int × List Bind → Option (List Bind)) (m : Nat) : Prop := ∀ (a b : Nat) (lim : Int) (d : Array Bind), a ≤ b → b ≤ d.size → Sm d.size → Below lt a b d →
  (rec ((a : Int), (b : Int), lim, d.toList) = none ∧ m ≤ b - a) ∨ ∃ R : Array Bind, rec ((a : Int), (b : Int), lim, d.toList) = some R.toList ∧ PermIn a b d R ∧ SortedIn lt a b R
abbrev PSt := Int × Int × Int × Bool × Bool × List Bind
noncomputable def partP (rec : Int × Int × Int × List Bind → Option (List Bind)) (s1 s2 lim : Int) (pv : Int) (o : List Bind) : Option (PSt ⊕ List Bind) :=
  (slices_partition_Bm s1 s2 pv o).bind fun x13 =>
  (quoV .i64 (w64 (s2 - s1)) 8).bind fun x15 =>
  if (w64 (x13.1 - s1)) < (w64 (s2 - x13.1)) then
    (rec (s1, x13.1, lim, x13.2.2)).bind fun x16 =>
    some (.inl (w64 (x13.1 + 1), s2, lim, decide (x15 ≤ (w64 (x13.1 - s1))), x13.2.1, x16))
  else
  (rec (w64 (x13.1 + 1), s2, lim, x13.2.2)).bind fun x18 =>
  some (.inl (s1, x13.1, lim, decide (x15 ≤ (w64 (s2 - x13.1))), x13.2.1, x18))
noncomputable def tailP (rec : Int × Int × Int × List Bind → Option (List Bind)) (s1 s2 lim : Int) (wb wp : Bool) (pv : Int) (o : List Bind) : Option (PSt ⊕ List Bind) :=
  if 0 < s1 then
    (idx o (w64 (s1 - 1))).bind fun x10 =>
    (idx o pv).bind fun x11 =>
    (match_Match_c1 x10 x11).bind fun x12 =>
    if x12 < 0 then partP rec s1 s2 lim pv o
    else
    (slices_partitionEqual_Bm s1 s2 pv o).bind fun x20 =>
    some (.inl (x20.1, s2, lim, wb, wp, x20.2))
  else partP rec s1 s2 lim pv o
/-- how a round goes on -/
def Goes (lt : Bind → Bind → Bool) (m a b : Nat) (d : Array Bind) (r : Option (PSt ⊕ List Bind)) : Prop :=
  (r = none ∧ m + 1 ≤ b - a) ∨ ∃ (a' b' : Nat) (lim : Int) (wb wp : Bool) (d' : Array Bind), r = some (.inl ((a' : Int), (b' : Int), lim, wb, wp, d'.toList)) ∧ a' ≤ b' ∧ b' ≤ b ∧ b' - a' < b - a ∧ d'.size = d.size ∧ Below lt a' b' d' ∧
    ∀ R, PermIn a' b' d' R → SortedIn lt a' b' R → PermIn a b d R ∧ SortedIn lt a b R
include hcmp in
theorem partP_goes (hw : SWO lt) {rec : Int × Int × Int × List Bind → Option (List Bind)} {m : Nat} (hrec : Spec lt rec m) {a b pv : Nat} {d : Array Bind} (lim : Int) (hab : a + 12 < b) (hb : b ≤ d.size) (hs : Sm d.size) (hB : Below lt a b d) (h1 : a ≤ pv) (h2 : pv < b) :
    Goes lt m a b d (partP rec (a : Int) (b : Int) lim (pv : Int) d.toList) := by
  unfold partP
  rw [partition_eq hcmp h1 h2 hb hs (by omega)]
  rcases hx : Go.Sort.partition lt d a b pv with ⟨mid, ap, d4⟩
  obtain ⟨g1, g2, hs4, hBa, hBr, hleft, hright⟩ := round_part hw (partition_holds lt) h1 h2 hb hB hx
  have hq := quoN (n := b - a) (k := 8) (by omega) (by unfold Sm at hs; omega)
  rw [show ((8 : Nat) : Int) = 8 from rfl] at hq
  unfold Sm at hs
  simp only [Option.bind_some]
  rw [wN (x := (b : Int) - (a : Int)) (n := b - a) (by omega) (by omega), hq, wN (x := (mid : Int) - (a : Int)) (n := mid - a) (by omega) (by omega), wN (x := (b : Int) - (mid : Int)) (n := b - mid) (by omega) (by omega), wN (x := (mid : Int) + 1) (n := mid + 1) (by omega) (by omega)]
  simp only [Option.bind_some]
  by_cases hc : mid - a < b - mid
  · rw [if_pos (by omega)]
    rcases hrec a mid lim d4 g1 (by omega) (by unfold Sm; omega) hBa with ⟨e, hm⟩ | ⟨L, e, p1, p2⟩
    · rw [e]; exact .inl ⟨rfl, by omega⟩
    · rw [e]
      obtain ⟨q1, q2⟩ := hleft L p1 p2
      exact .inr ⟨mid + 1, b, lim, _, ap, L, rfl, by omega, by omega, by omega, by rw [p1.1, hs4], q1, q2⟩
  · rw [if_neg (by omega)]
    rcases hrec (mid + 1) b lim d4 (by omega) (by omega) (by unfold Sm; omega) hBr with ⟨e, hm⟩ | ⟨L, e, p1, p2⟩
    · rw [e]; exact .inl ⟨rfl, by omega⟩
    · rw [e]
      obtain ⟨q1, q2⟩ := hright L p1 p2
      exact .inr ⟨a, mid, lim, _, ap, L, rfl, by omega, by omega, by omega, by rw [p1.1, hs4], q1, q2⟩
include hcmp in
theorem tailP_goes (hw : SWO lt) {rec : Int × Int × Int × List Bind → Option (List Bind)} {m : Nat} (hrec : Spec lt rec m) {a b pv : Nat} {d : Array Bind} (lim : Int) (wb wp : Bool) (hab : a + 12 < b) (hb : b ≤ d.size) (hs : Sm d.size) (hB : Below lt a b d) (h1 : a ≤ pv) (h2 : pv < b) :
    Goes lt m a b d (tailP rec (a : Int) (b : Int) lim wb wp (pv : Int) d.toList) := by
  unfold tailP
  by_cases h0 : 0 < a
  · rw [if_pos (by omega), wN (x := (a : Int) - 1) (n := a - 1) (by omega) (by unfold Sm at hs; omega), idxA (show a - 1 < d.size by omega), idxA (show pv < d.size by omega)]
    simp only [Option.bind_some, cmpIf hcmp]
    by_cases hc : lt d[a - 1]! d[pv]! = true
    · rw [if_pos hc]
      exact partP_goes hcmp hw hrec lim hab hb hs hB h1 h2
    · rw [if_neg hc, partitionEqual_eq hcmp h1 h2 hb hs (by omega)]
      rcases hx : Go.Sort.partitionEqual lt d a b pv with ⟨mid, d4⟩
      obtain ⟨g1, g2, hs4, hB4, hfin⟩ := round_eq hw (partitionEqual_holds lt) h0 h1 h2 hb hB (by simpa using hc) hx
      exact .inr ⟨mid, b, lim, wb, wp, d4, rfl, g2, by omega, by omega, hs4, hB4, hfin⟩
  · rw [if_neg (by omega)]
    exact partP_goes hcmp hw hrec lim hab hb hs hB h1 h2
include hcmp in
/-- the beginning of a round -/
theorem head_goes (hw : SWO lt) {rec : Int × Int × Int × List Bind → Option (List Bind)} {a b : Nat} {d : Array Bind} (lim : Int) (wb wp : Bool) (hab : a ≤ b) (hb : b ≤ d.size) (hs : Sm d.size) (hB : Below lt a b d) :
    (∃ R : Array Bind, slices_pdqsort_Bm_l0 rec ((a : Int), (b : Int), lim, wb, wp, d.toList) = some (.inr R.toList) ∧ PermIn a b d R ∧ SortedIn lt a b R) ∨
    (a + 12 < b ∧ ∃ (d3 : Array Bind) (pv : Nat) (lim' : Int), PermIn a b d d3 ∧ a ≤ pv ∧ pv < b ∧ slices_pdqsort_Bm_l0 rec ((a : Int), (b : Int), lim, wb, wp, d.toList) = tailP rec (a : Int) (b : Int) lim' wb wp (pv : Int) d3.toList) := by
  have hs' := hs
  unfold Sm at hs'
  have e0 : w64 ((b : Int) - (a : Int)) = ((b - a : Nat) : Int) := wN (by omega) (by omega)
  by_cases h12 : b - a ≤ 12
  · refine .inl ⟨insertionSort lt d a b, ?_, insertionSort_holds hw d a b hab hb⟩
    simp only [slices_pdqsort_Bm_l0, e0]
    rw [if_pos (by omega), insertionSort_eq hcmp hb hab hs]; rfl
  by_cases hl : lim = 0
  · refine .inl ⟨heapSort lt d a b, ?_, heapSort_holds hw d a b hab hb⟩
    simp only [slices_pdqsort_Bm_l0, e0]
    rw [if_neg (by omega), if_pos hl, heapSort_eq hcmp hb (by omega) hs]; rfl
  have hpos : a + 12 < b := by omega
  -- where no more is done ahead of the partition
  have pvE : ∀ p : Nat, a ≤ p → p < b → w64 (w64 ((b : Int) - 1) - w64 ((p : Int) - (a : Int))) = (((b - 1) - (p - a) : Nat) : Int) := by
    intro p h1 h2
    rw [wN (x := (b : Int) - 1) (n := b - 1) (by omega) (by omega), wN (x := (p : Int) - (a : Int)) (n := p - a) (by omega) (by omega)]
    exact wN (by omega) (by omega)
  have part : ∀ (e : Array Bind), PermIn a b d e → slices_partialInsertionSort_Bm (a : Int) (b : Int) e.toList = some ((partialInsertionSort lt e a b).2, (partialInsertionSort lt e a b).1.toList) ∧ PermIn a b d (partialInsertionSort lt e a b).1 ∧ ((partialInsertionSort lt e a b).2 = true → SortedIn lt a b (partialInsertionSort lt e a b).1) := by
    intro e hp
    have he : e.size = d.size := hp.1
    have h := partialInsertionSort_holds hw e a b (by omega) (by rw [he]; exact hb) (hB.perm hb hp)
    exact ⟨partialInsertionSort_eq hcmp (by omega) (by rw [he]; exact hb) (by rw [he]; exact hs), permIn_trans _ _ _ a b hp h.1, h.2⟩
  have rev : ∀ (e : Array Bind), PermIn a b d e → slices_reverseRange_Bm (a : Int) (b : Int) e.toList = some (reverseRange e a b).toList ∧ PermIn a b d (reverseRange e a b) := by
    intro e hp
    have he : e.size = d.size := hp.1
    exact ⟨reverseRange_eq (by rw [he]; exact hb) (by omega) (by rw [he]; exact hs), permIn_trans _ _ _ a b hp (reverseRange_holds e a b hab (by rw [he]; exact hb))⟩
  cases wb with
  | true =>
    obtain ⟨p, h, hc, hp1, hp2⟩ := choosePivot_rng hcmp hpos hb hs
    by_cases h2 : h = 2
    · subst h2
      obtain ⟨r1, r2⟩ := rev d (permIn_refl _ _ _)
      cases wp with
      | true =>
        obtain ⟨i1, i2, i3⟩ := part _ r2
        by_cases hdone : (partialInsertionSort lt (reverseRange d a b) a b).2 = true
        · refine .inl ⟨_, ?_, i2, i3 hdone⟩
          simp only [slices_pdqsort_Bm_l0, e0]
          rw [if_neg (by omega), if_neg hl, if_pos trivial, hc]
          simp only [Option.bind_some, if_true, r1, i1, hdone]
        · refine .inr ⟨hpos, (partialInsertionSort lt (reverseRange d a b) a b).1, (b - 1) - (p - a), lim, i2, by omega, by omega, ?_⟩
          simp only [slices_pdqsort_Bm_l0, e0]
          rw [if_neg (by omega), if_neg hl, if_pos trivial, hc]
          simp only [Option.bind_some, if_true, r1, i1, hdone, if_false, pvE p hp1 hp2, Bool.false_eq_true]
          simp only [tailP, partP, e0]
      | false =>
        refine .inr ⟨hpos, reverseRange d a b, (b - 1) - (p - a), lim, r2, by omega, by omega, ?_⟩
        simp only [slices_pdqsort_Bm_l0, e0]
        rw [if_neg (by omega), if_neg hl, if_pos trivial, hc]
        simp only [Option.bind_some, if_true, r1, if_false, pvE p hp1 hp2, Bool.false_eq_true]
        simp only [tailP, partP, e0]
    · cases wp with
      | true =>
        by_cases h1 : h = 1
        · subst h1
          obtain ⟨i1, i2, i3⟩ := part d (permIn_refl _ _ _)
          by_cases hdone : (partialInsertionSort lt d a b).2 = true
          · refine .inl ⟨_, ?_, i2, i3 hdone⟩
            simp only [slices_pdqsort_Bm_l0, e0]
            rw [if_neg (by omega), if_neg hl, if_pos trivial, hc]
            simp only [Option.bind_some, if_true, if_neg h2, i1, hdone]
          · refine .inr ⟨hpos, (partialInsertionSort lt d a b).1, p, lim, i2, hp1, hp2, ?_⟩
            simp only [slices_pdqsort_Bm_l0, e0]
            rw [if_neg (by omega), if_neg hl, if_pos trivial, hc]
            simp only [Option.bind_some, if_true, if_neg h2, i1, hdone, if_false, Bool.false_eq_true]
            simp only [tailP, partP, e0]
        · refine .inr ⟨hpos, d, p, lim, permIn_refl _ _ _, hp1, hp2, ?_⟩
          simp only [slices_pdqsort_Bm_l0, e0]
          rw [if_neg (by omega), if_neg hl, if_pos trivial, hc]
          simp only [Option.bind_some, if_true, if_neg h2, if_neg h1]
          simp only [tailP, partP, e0]
      | false =>
        refine .inr ⟨hpos, d, p, lim, permIn_refl _ _ _, hp1, hp2, ?_⟩
        simp only [slices_pdqsort_Bm_l0, e0]
        rw [if_neg (by omega), if_neg hl, if_pos trivial, hc]
        simp only [Option.bind_some, if_neg h2, Bool.false_eq_true, if_false]
        simp only [tailP, partP, e0]
  | false =>
    obtain ⟨E, b1, b2⟩ := breakPatterns_perm (d := d) hpos hb hs
    have hE : E.size = d.size := b2.1
    obtain ⟨p, h, hc, hp1, hp2⟩ := choosePivot_rng hcmp hpos (d := E) (by rw [hE]; exact hb) (by rw [hE]; exact hs)
    by_cases h2 : h = 2
    · subst h2
      obtain ⟨r1, r2⟩ := rev E b2
      refine .inr ⟨hpos, reverseRange E a b, (b - 1) - (p - a), w64 (lim - 1), r2, by omega, by omega, ?_⟩
      simp only [slices_pdqsort_Bm_l0, e0]
      rw [if_neg (by omega), if_neg hl, if_neg (by simp), b1]
      simp only [Option.bind_some]
      rw [hc]
      simp only [Option.bind_some, if_true, r1, pvE p hp1 hp2]
      simp only [tailP, partP, e0]
    · refine .inr ⟨hpos, E, p, w64 (lim - 1), b2, hp1, hp2, ?_⟩
      simp only [slices_pdqsort_Bm_l0, e0]
      rw [if_neg (by omega), if_neg hl, if_neg (by simp), b1]
      simp only [Option.bind_some]
      rw [hc]
      simp only [Option.bind_some, if_neg h2]
      simp only [tailP, partP, e0]
include hcmp in
theorem pdq_loop (hw : SWO lt) {rec : Int × Int × Int × List Bind → Option (List Bind)} {m : Nat} (hrec : Spec lt rec m) : ∀ (n a b : Nat) (lim : Int) (wb wp : Bool) (d : Array Bind), b - a ≤ n → a ≤ b → b ≤ d.size → Sm d.size → Below lt a b d →
    (wh (slices_pdqsort_Bm_l0 rec) ((a : Int), (b : Int), lim, wb, wp, d.toList) = none ∧ m + 1 ≤ b - a) ∨ ∃ R : Array Bind, wh (slices_pdqsort_Bm_l0 rec) ((a : Int), (b : Int), lim, wb, wp, d.toList) = some R.toList ∧ PermIn a b d R ∧ SortedIn lt a b R := by
  intro n
  induction n with
  | zero =>
    intro a b lim wb wp d hn hab hb hs hB
    rcases head_goes hcmp hw (rec := rec) lim wb wp hab hb hs hB with ⟨R, e, p1, p2⟩ | ⟨h12, _⟩
    · exact .inr ⟨R, wh_done e, p1, p2⟩
    · omega
  | succ n ih =>
    intro a b lim wb wp d hn hab hb hs hB
    rcases head_goes hcmp hw (rec := rec) lim wb wp hab hb hs hB with ⟨R, e, p1, p2⟩ | ⟨h12, d3, pv, lim', hp, h1, h2, e⟩
    · exact .inr ⟨R, wh_done e, p1, p2⟩
    have hz : d3.size = d.size := hp.1
    rcases tailP_goes hcmp hw hrec lim' wb wp h12 (d := d3) (by rw [hz]; exact hb) (by rw [hz]; exact hs) (hB.perm hb hp) h1 h2 with ⟨e2, hm⟩ | ⟨a', b', l', wb', wp', d', e2, q1, q2, q3, q4, q5, q6⟩
    · exact .inl ⟨by rw [wh_eq, e, e2], hm⟩
    · rw [e2] at e
      rw [wh_next e]
      rcases ih a' b' l' wb' wp' d' (by omega) q1 (by rw [q4, hz]; omega) (by rw [q4, hz]; exact hs) q5 with ⟨e3, hm⟩ | ⟨R, e3, r1, r2⟩
      · exact .inl ⟨e3, by omega⟩
      · obtain ⟨t1, t2⟩ := q6 R r1 r2
        exact .inr ⟨R, e3, permIn_trans _ _ _ a b hp t1, t2⟩
include hcmp in
theorem pdq_spec (hw : SWO lt) : ∀ m : Nat, Spec lt (fixN (fun rec (p : Int × Int × Int × List Bind) => slices_pdqsort_Bm_F rec p.1 p.2.1 p.2.2.1 p.2.2.2) m) m := by
  intro m
  induction m with
  | zero => intro a b lim d _ _ _ _; exact .inl ⟨rfl, Nat.zero_le _⟩
  | succ m ih =>
    intro a b lim d hab hb hs hB
    have e1 : fixN (fun rec (p : Int × Int × Int × List Bind) => slices_pdqsort_Bm_F rec p.1 p.2.1 p.2.2.1 p.2.2.2) (m + 1) ((a : Int), (b : Int), lim, d.toList) = (wh (slices_pdqsort_Bm_l0 (fixN (fun rec (p : Int × Int × Int × List Bind) => slices_pdqsort_Bm_F rec p.1 p.2.1 p.2.2.1 p.2.2.2) m)) ((a : Int), (b : Int), lim, true, true, d.toList)).bind fun x => some x := rfl
    rw [e1]
    rcases pdq_loop hcmp hw ih (b - a) a b lim true true d (Nat.le_refl _) hab hb hs hB with ⟨e, hm⟩ | ⟨R, e, p1, p2⟩
    · rw [e]; exact .inl ⟨rfl, hm⟩
    · rw [e]; exact .inr ⟨R, rfl, p1, p2⟩
include hcmp in
/-- the sort answers a sorted permutation, and where there is but one, that -/
theorem SortFunc_eq (hw : SWO lt) {l r : List Bind} (hl : Sm l.length) (hu : ∀ R : Array Bind, PermIn 0 l.length l.toArray R → SortedIn lt 0 l.length R → R.toList = r) : slices_SortFunc_Bm l = some r := by
  have hbits : ∃ x, math_bits_Len (IntKind.u64.wrap (l.length : Int)) = some x := by
    unfold Sm at hl
    rw [u64N (by omega)]
    unfold math_bits_Len
    rw [if_pos (by omega)]
    exact ⟨_, rfl⟩
  obtain ⟨x, hx⟩ := hbits
  have hd : l.toArray.size = l.length := by simp
  have key : ∀ m : Nat, (fixN (fun rec (p : Int × Int × Int × List Bind) => slices_pdqsort_Bm_F rec p.1 p.2.1 p.2.2.1 p.2.2.2) m (0, (l.length : Int), x, l) = none ∧ m ≤ l.length) ∨ fixN (fun rec (p : Int × Int × Int × List Bind) => slices_pdqsort_Bm_F rec p.1 p.2.1 p.2.2.1 p.2.2.2) m (0, (l.length : Int), x, l) = some r := by
    intro m
    rcases pdq_spec hcmp hw m 0 l.length x l.toArray (by omega) (by omega) (by rw [hd]; exact hl) (.inl rfl) with ⟨e, hm⟩ | ⟨R, e, p1, p2⟩
    · exact .inl ⟨e, by omega⟩
    · rw [hu R p1 p2] at e
      exact .inr e
  have hfix : slices_pdqsort_Bm 0 (l.length : Int) x l = some r := by
    unfold slices_pdqsort_Bm
    refine fixO_of ?_ ?_
    · rcases key (l.length + 1) with ⟨_, h⟩ | h
      · omega
      · exact ⟨_, _, h⟩
    · intro n r' hn
      rcases key n with ⟨h, _⟩ | h
      · rw [h] at hn; cases hn
      · rw [h] at hn; exact (Option.some.inj hn).symm
  simp only [slices_SortFunc_Bm, hx, Option.bind_some, hfix]
end
end Ld.SoB

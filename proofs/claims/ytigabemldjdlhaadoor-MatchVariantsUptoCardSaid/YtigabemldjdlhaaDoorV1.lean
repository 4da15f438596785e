import Derived.Test.YtigabemldjdlhaaDoorVq5
set_option maxHeartbeats 400000
set_option linter.unusedVariables false
set_option linter.unusedSimpArgs false
namespace Ld.Law
open Go Go.Abs Go.Lib
/-! ### variants, by the reference -/
theorem wh_up {σ ρ : Type} {step : σ → Option (σ ⊕ ρ)} (S : Nat → σ) {n : Nat} {r : ρ} (h : ∀ i, i < n → step (S i) = some (.inl (S (i + 1)))) (he : step (S n) = some (.inr r)) : ∀ (k i : Nat), i + k = n → wh step (S i) = some r := by
  intro k
  induction k with
  | zero => intro i hi; have : i = n := by omega
            subst this; exact wh_done he
  | succ k ih => intro i hi; rw [wh_next (h i (by omega))]; exact ih (i + 1) (by omega)
theorem wh_up0 {σ ρ : Type} {step : σ → Option (σ ⊕ ρ)} (S : Nat → σ) (n : Nat) {r : ρ} (h : ∀ i, i < n → step (S i) = some (.inl (S (i + 1)))) (he : step (S n) = some (.inr r)) : wh step (S 0) = some r := wh_up S h he n 0 (by omega)
open Classical in
theorem firstG_all {α ρ : Type} {g : Nat → α → Option ρ} {q : ρ} {P : Nat → Prop} : ∀ (l : List α) (k : Nat), (∀ i x, l[i]? = some x → g (k + i) x = if P (k + i) then none else some q) → firstG g k l = if ∀ i, i < l.length → P (k + i) then none else some q := by
  intro l
  induction l with
  | nil => intro k _; rw [if_pos (fun i h => by simp at h)]; rfl
  | cons a r ih =>
    intro k h
    have h0 := h 0 a rfl
    simp only [Nat.add_zero] at h0
    simp only [firstG, h0]
    by_cases hp : P k
    · rw [if_pos hp]
      simp only
      rw [ih (k + 1) (fun i x hi => by have := h (i + 1) x hi; rw [show k + (i + 1) = k + 1 + i by omega] at this; exact this)]
      by_cases hr : ∀ i, i < r.length → P (k + 1 + i)
      · rw [if_pos hr, if_pos (fun i hi => by
          cases i with
          | zero => exact hp
          | succ i => rw [show k + (i + 1) = k + 1 + i by omega]; exact hr i (by simpa using hi))]
      · rw [if_neg hr, if_neg (fun e => hr (fun i hi => by rw [show k + 1 + i = k + (i + 1) by omega]; exact e (i + 1) (by simpa using hi)))]
    · rw [if_neg hp]
      simp only
      rw [if_neg (fun e => hp (e 0 (by simp)))]
/-- the variables' codes, as they are met -/
def met : List Int → List Int → List Int
  | m, [] => m
  | m, c :: r => if 0 ≤ c ∨ c ∈ m then met m r else met (m ++ [c]) r
theorem met_snoc (c : Int) : ∀ (l m : List Int), met m (l ++ [c]) = if 0 ≤ c ∨ c ∈ met m l then met m l else met m l ++ [c] := by
  intro l
  induction l with
  | nil => intro m; rfl
  | cons a r ih => intro m; simp only [List.cons_append, met]; split <;> exact ih _
theorem met_app (l' : List Int) : ∀ (l m : List Int), met m (l ++ l') = met (met m l) l' := by
  intro l
  induction l with
  | nil => intro m; rfl
  | cons a r ih => intro m; simp only [List.cons_append, met]; split <;> exact ih _
theorem met_pre : ∀ (l m : List Int), ∃ e, met m l = m ++ e := by
  intro l
  induction l with
  | nil => intro m; exact ⟨[], by simp [met]⟩
  | cons a r ih =>
    intro m; simp only [met]
    split
    · exact ih m
    · obtain ⟨e, he⟩ := ih (m ++ [a]); exact ⟨a :: e, by rw [he]; simp⟩
theorem met_mem : ∀ (l m : List Int) (c : Int), c ∈ l → c < 0 → c ∈ met m l := by
  intro l
  induction l with
  | nil => intro m c h; cases h
  | cons a r ih =>
    intro m c h hc
    simp only [met]
    rcases List.mem_cons.1 h with rfl | h
    · split
      · rename_i hx
        obtain ⟨e, he⟩ := met_pre r m
        rw [he]
        exact List.mem_append_left _ (hx.resolve_left (by omega))
      · obtain ⟨e, he⟩ := met_pre r (m ++ [c])
        rw [he]; simp
    · split <;> exact ih _ c h hc
theorem met_of : ∀ (l m : List Int) (c : Int), c ∈ met m l → c ∈ m ∨ (c ∈ l ∧ c < 0) := by
  intro l
  induction l with
  | nil => intro m c h; exact .inl h
  | cons a r ih =>
    intro m c h
    simp only [met] at h
    split at h
    · rcases ih _ c h with h | h
      · exact .inl h
      · exact .inr ⟨List.mem_cons_of_mem _ h.1, h.2⟩
    · rename_i hx
      rcases ih _ c h with h | h
      · rcases List.mem_append.1 h with h | h
        · exact .inl h
        · rw [List.mem_singleton] at h; subst h
          exact .inr ⟨List.mem_cons_self, by omega⟩
      · exact .inr ⟨List.mem_cons_of_mem _ h.1, h.2⟩
theorem met_nodup : ∀ (l m : List Int), m.Nodup → (met m l).Nodup := by
  intro l
  induction l with
  | nil => intro m h; exact h
  | cons a r ih =>
    intro m h
    simp only [met]
    split
    · exact ih _ h
    · rename_i hx
      refine ih _ (List.nodup_append.2 ⟨h, by simp, fun x h1 y h2 => ?_⟩)
      rw [List.mem_singleton] at h2
      subst h2
      intro e; subst e; exact hx (.inr h1)
theorem met_len : ∀ (l m : List Int), (met m l).length ≤ m.length + l.length := by
  intro l
  induction l with
  | nil => intro m; simp [met]
  | cons a r ih =>
    intro m; simp only [met, List.length_cons]
    split
    · have := ih m; omega
    · have := ih (m ++ [a]); simp at this; omega
/-- the numbers of variables' codes -/
def nmF : Nat → List Int → List (Int × Int)
  | _, [] => []
  | k, c :: r => (c, (k : Int)) :: nmF (k + 1) r
theorem nmF_len : ∀ (V : List Int) (k : Nat), (nmF k V).length = V.length := by
  intro V; induction V with
  | nil => intro k; rfl
  | cons a r ih => intro k; simp [nmF, ih]
theorem mget_nmF (c : Int) : ∀ (V : List Int) (k : Nat), mget (nmF k V) c = if c ∈ V then some (((k + V.idxOf c : Nat)) : Int) else none := by
  intro V
  induction V with
  | nil => intro k; simp [nmF, mget]
  | cons a r ih =>
    intro k
    simp only [nmF, mget]
    by_cases h : c = a
    · subst h; simp [List.idxOf_cons]
    · rw [if_neg h, ih]
      have hb : (a == c) = false := by simpa using Ne.symm h
      by_cases hm : c ∈ r
      · rw [if_pos hm, if_pos (List.mem_cons_of_mem _ hm), List.idxOf_cons, hb]
        simp only [cond_false]
        congr 1; omega
      · rw [if_neg hm, if_neg (fun e => (List.mem_cons.1 e).elim h hm)]
theorem mset_fresh {K V : Type} [DecidableEq K] {k : K} {v : V} : ∀ {m : List (K × V)}, mget m k = none → mset m k v = m ++ [(k, v)] := by
  intro m
  induction m with
  | nil => intro _; rfl
  | cons p r ih =>
    obtain ⟨k', u⟩ := p
    intro h
    simp only [mget] at h
    split at h
    · cases h
    · rename_i hk
      simp only [mset, if_neg hk, ih h, List.cons_append]
theorem nmF_snoc (c : Int) : ∀ (V : List Int) (k : Nat), nmF k (V ++ [c]) = nmF k V ++ [(c, ((k + V.length : Nat) : Int))] := by
  intro V
  induction V with
  | nil => intro k; rfl
  | cons a r ih => intro k; simp only [List.cons_append, nmF, ih, List.length_cons]; congr 4; omega
theorem canNum_nm (V : List Int) (c : Int) : canNum (nmF 0 V) c = nmF 0 (if c ∈ V then V else V ++ [c]) := by
  unfold canNum
  have hg := mget_nmF c V 0
  by_cases h : c ∈ V
  · rw [if_pos h] at hg ⊢; rw [hg]
  · rw [if_neg h] at hg ⊢; rw [hg]
    simp only
    rw [mset_fresh hg, nmF_snoc, nmF_len, Nat.zero_add]
/-- a code by the numbers of those that were met -/
def cn (V : List Int) (c : Int) : Int := if 0 ≤ c then c else w64 (-1 - ((V.idxOf c : Nat) : Int))
theorem canRow_nm : ∀ (l V : List Int), canRow (nmF 0 V) l = (nmF 0 (met V l), l.map (cn (met V l))) := by
  intro l
  induction l with
  | nil => intro V; rfl
  | cons c r ih =>
    intro V
    simp only [canRow, List.map_cons]
    by_cases h0 : 0 ≤ c
    · rw [if_pos h0, ih V]
      have e : met V (c :: r) = met V r := by simp only [met]; rw [if_pos (.inl h0)]
      rw [e]
      simp only [cn, if_pos h0]
    · rw [if_neg h0, canNum_nm]
      have e : met V (c :: r) = met (if c ∈ V then V else V ++ [c]) r := by
        simp only [met]
        by_cases h : c ∈ V
        · rw [if_pos (.inr h), if_pos h]
        · rw [if_neg (fun x => x.elim h0 h), if_neg h]
      have hin : c ∈ (if c ∈ V then V else V ++ [c]) := by split <;> simp_all
      rw [ih, e, mget_nmF, if_pos hin]
      obtain ⟨ex, hex⟩ := met_pre r (if c ∈ V then V else V ++ [c])
      simp only [cn, if_neg h0, Option.getD_some, Nat.zero_add]
      rw [hex, List.idxOf_append, if_pos hin]
theorem cn_more {V W : List Int} (h : ∃ e, W = V ++ e) {c : Int} (hc : c < 0 → c ∈ V) : cn W c = cn V c := by
  obtain ⟨e, rfl⟩ := h
  unfold cn
  by_cases h0 : 0 ≤ c
  · rw [if_pos h0, if_pos h0]
  · rw [if_neg h0, if_neg h0, List.idxOf_append, if_pos (hc (by omega))]
theorem canRows_two (a b : List Int) : canRows [] [a, b] = [a.map (cn (met [] (a ++ b))), b.map (cn (met [] (a ++ b)))] := by
  have h1 := canRow_nm a []
  simp only [nmF] at h1
  simp only [canRows, h1, canRow_nm, ← met_app]
  congr 1
  refine List.map_congr_left fun c hc => ?_
  rw [met_app]
  exact (cn_more (met_pre b _) (fun h => met_mem a [] c hc h)).symm
/-- two rows alike but for their variables' numbers -/
def Alike (x y : List Int) : Prop := (∀ i, i < x.length → ∀ a b, x[i]? = some a → y[i]? = some b → (0 ≤ a ∨ 0 ≤ b) → a = b) ∧ (met [] x).length = (met [] y).length ∧
  ∀ i, i < x.length → ∀ k, k < (met [] x).length → (x[i]? = (met [] x)[k]? ↔ y[i]? = (met [] y)[k]?)
theorem idxOf_iff {V : List Int} (hn : V.Nodup) {c : Int} {k : Nat} (hk : k < V.length) : V[k]? = some c ↔ (c ∈ V ∧ V.idxOf c = k) := by
  constructor
  · intro h
    have hm := List.mem_of_getElem? h
    refine ⟨hm, ?_⟩
    have h1 := List.idxOf_lt_length_of_mem hm
    have h2 : V[V.idxOf c]? = some c := by rw [List.getElem?_eq_getElem h1, List.getElem_idxOf h1]
    exact (List.getElem?_inj h1 hn).1 (by rw [h2, h])
  · rintro ⟨hm, rfl⟩
    have h1 := List.idxOf_lt_length_of_mem hm
    rw [List.getElem?_eq_getElem h1, List.getElem_idxOf h1]
theorem cn_inj {V W : List Int} {a b : Int} (hV : V.length < 4611686018427387904) (hW : W.length < 4611686018427387904) (ha : a < 0 → a ∈ V) (hb : b < 0 → b ∈ W) : cn V a = cn W b ↔ ((0 ≤ a ∨ 0 ≤ b → a = b) ∧ (a < 0 → b < 0 → V.idxOf a = W.idxOf b)) := by
  unfold cn
  have hw : ∀ (U : List Int) (c : Int), U.length < 4611686018427387904 → c ∈ U → w64 (-1 - ((U.idxOf c : Nat) : Int)) = -1 - ((U.idxOf c : Nat) : Int) := fun U c hU hc => by
    have := List.idxOf_lt_length_of_mem hc
    exact w64_small (by omega) (by omega)
  by_cases h1 : 0 ≤ a
  · by_cases h2 : 0 ≤ b
    · rw [if_pos h1, if_pos h2]; exact ⟨fun e => ⟨fun _ => e, fun h => by omega⟩, fun h => h.1 (.inl h1)⟩
    · rw [if_pos h1, if_neg h2, hw W b hW (hb (by omega))]
      exact ⟨fun e => by omega, fun h => by have := h.1 (.inl h1); omega⟩
  · by_cases h2 : 0 ≤ b
    · rw [if_neg h1, if_pos h2, hw V a hV (ha (by omega))]
      exact ⟨fun e => by omega, fun h => by have := h.1 (.inr h2); omega⟩
    · rw [if_neg h1, if_neg h2, hw V a hV (ha (by omega)), hw W b hW (hb (by omega))]
      exact ⟨fun e => ⟨fun h => by omega, fun _ _ => by omega⟩, fun h => by rw [h.2 (by omega) (by omega)]⟩
theorem alike_iff {x y : List Int} (hl : x.length = y.length) (hs : x.length < 4611686018427387904) : x.map (cn (met [] x)) = y.map (cn (met [] y)) ↔ Alike x y := by
  have nx := met_nodup x [] (by simp)
  have ny := met_nodup y [] (by simp)
  have lx := met_len x []
  have ly := met_len y []
  simp only [List.length_nil, Nat.zero_add] at lx ly
  have inj : ∀ (i : Nat) (a b : Int), x[i]? = some a → y[i]? = some b → (cn (met [] x) a = cn (met [] y) b ↔ ((0 ≤ a ∨ 0 ≤ b → a = b) ∧ (a < 0 → b < 0 → (met [] x).idxOf a = (met [] y).idxOf b))) := fun i a b ha hb =>
    cn_inj (by omega) (by omega) (fun h => met_mem x [] a (List.mem_of_getElem? ha) h) (fun h => met_mem y [] b (List.mem_of_getElem? hb) h)
  constructor
  · intro h
    have pt : ∀ (i : Nat) (a b : Int), x[i]? = some a → y[i]? = some b → ((0 ≤ a ∨ 0 ≤ b → a = b) ∧ (a < 0 → b < 0 → (met [] x).idxOf a = (met [] y).idxOf b)) := fun i a b ha hb => by
      refine (inj i a b ha hb).1 ?_
      have := congrArg (·[i]?) h
      simpa [ha, hb] using this
    have sgn : ∀ (i : Nat) (a b : Int), x[i]? = some a → y[i]? = some b → (a < 0 ↔ b < 0) := fun i a b ha hb => by
      have := (pt i a b ha hb).1
      constructor
      · intro h; rcases Int.lt_or_le b 0 with c | c
        · exact c
        · have := this (.inr c); omega
      · intro h; rcases Int.lt_or_le a 0 with c | c
        · exact c
        · have := this (.inl c); omega
    have le : ∀ {x y : List Int}, x.length = y.length → (met [] x).Nodup → (met [] y).Nodup → (∀ (i : Nat) (a b : Int), x[i]? = some a → y[i]? = some b → (a < 0 → b < 0 → (met [] x).idxOf a = (met [] y).idxOf b)) → (∀ (i : Nat) (a b : Int), x[i]? = some a → y[i]? = some b → (a < 0 ↔ b < 0)) → (met [] x).length ≤ (met [] y).length := by
      intro x y hl nx ny pt sgn
      rcases Nat.lt_or_ge (met [] y).length (met [] x).length with c | c
      · exfalso
        have hk : (met [] x)[(met [] y).length]? = some _ := List.getElem?_eq_getElem c
        have hm := List.mem_of_getElem? hk
        obtain ⟨hx, hneg⟩ := (met_of x [] _ hm).resolve_left (by simp)
        obtain ⟨i, hi⟩ := List.getElem?_of_mem hx
        have hlt := (List.getElem?_eq_some_iff.1 hi).1
        have hy : y[i]? = some (y[i]'(by omega)) := List.getElem?_eq_getElem (by omega)
        have h1 := pt i _ _ hi hy hneg ((sgn i _ _ hi hy).1 hneg)
        rw [((idxOf_iff nx c).1 hk).2] at h1
        have h2 := List.idxOf_lt_length_of_mem (met_mem y [] _ (List.mem_of_getElem? hy) ((sgn i _ _ hi hy).1 hneg))
        omega
      · exact c
    have hlen : (met [] x).length = (met [] y).length := Nat.le_antisymm (le hl nx ny (fun i a b ha hb => (pt i a b ha hb).2) sgn)
      (le hl.symm ny nx (fun i a b ha hb h1 h2 => ((pt i b a hb ha).2 h2 h1).symm) (fun i a b ha hb => (sgn i b a hb ha).symm))
    refine ⟨fun i hi a b ha hb h => (pt i a b ha hb).1 h, hlen, fun i hi k hk => ?_⟩
    have ha : x[i]? = some x[i] := List.getElem?_eq_getElem hi
    have hb : y[i]? = some (y[i]'(by omega)) := List.getElem?_eq_getElem (by omega)
    rw [ha, hb]
    have hk' : k < (met [] y).length := by omega
    rw [eq_comm (a := some x[i]), eq_comm (a := some (y[i]'(by omega))), idxOf_iff nx hk, idxOf_iff ny hk']
    have hp := pt i _ _ ha hb
    have hsg := sgn i _ _ ha hb
    constructor
    · rintro ⟨h1, h2⟩
      have hn := ((met_of x [] _ h1).resolve_left (by simp)).2
      exact ⟨met_mem y [] _ (List.mem_of_getElem? hb) (hsg.1 hn), by rw [← hp.2 hn (hsg.1 hn), h2]⟩
    · rintro ⟨h1, h2⟩
      have hn := ((met_of y [] _ h1).resolve_left (by simp)).2
      exact ⟨met_mem x [] _ (List.mem_of_getElem? ha) (hsg.2 hn), by rw [hp.2 (hsg.2 hn) hn, h2]⟩
  · rintro ⟨h1, h2, h3⟩
    apply List.ext_getElem?
    intro i
    rw [List.getElem?_map, List.getElem?_map]
    rcases Nat.lt_or_ge i x.length with hi | hi
    · have ha : x[i]? = some x[i] := List.getElem?_eq_getElem hi
      have hb : y[i]? = some (y[i]'(by omega)) := List.getElem?_eq_getElem (by omega)
      rw [ha, hb]
      simp only [Option.map_some, Option.some.injEq]
      rw [inj i _ _ ha hb]
      refine ⟨h1 i hi _ _ ha hb, fun n1 n2 => ?_⟩
      have hm := met_mem x [] _ (List.mem_of_getElem? ha) n1
      have hk := List.idxOf_lt_length_of_mem hm
      have := (h3 i hi _ hk).1 (by rw [ha, ((idxOf_iff nx hk).2 ⟨hm, rfl⟩)])
      have hk' : (met [] x).idxOf x[i] < (met [] y).length := by omega
      rw [hb, eq_comm (a := some (y[i]'(by omega))), idxOf_iff ny hk'] at this
      exact this.2.symm
    · rw [List.getElem?_eq_none hi, List.getElem?_eq_none (show y.length ≤ i by omega)]; rfl
/-! ### the reference's loops -/
theorem Vars_eq {x : List Int} (hL : x.length ≤ 4194304) (hlow : ∀ c ∈ x, -1048576 ≤ c) : r03_Vars x = some ((met [] x).map fun c => -1 - c) := by
  have inner : ∀ (o : List Int) (i : Nat) (c : Int), x[i]? = some c → o.length ≤ 4194304 → -1048576 ≤ c → c < 0 → ∀ b : Bool, wh (r03_Vars_l1 x [] (i : Int) o) (b, 0) = some (b || decide ((-1 - c) ∈ o), (o.length : Int)) := by
    intro o i c hc ho hlo hneg b
    have := wh_up0 (step := r03_Vars_l1 x [] (i : Int) o) (fun k => (b || decide ((-1 - c) ∈ o.take k), (k : Int))) o.length (r := (b || decide ((-1 - c) ∈ o), (o.length : Int))) (fun k hk => ?_) ?_
    · simpa using this
    · have hx : o[k]? = some o[k] := List.getElem?_eq_getElem hk
      have hw : w64 ((k : Int) + 1) = ((k + 1 : Nat) : Int) := by rw [w64_small (by omega) (by omega)]; omega
      have hw2 : w64 (-1 - c) = -1 - c := w64_small (by omega) (by omega)
      have htk : o.take (k + 1) = o.take k ++ [o[k]] := by rw [List.take_add_one, hx]; rfl
      simp only [r03_Vars_l1]
      rw [if_pos (by omega), idx_nat hx, idx_nat hc]
      simp only [Option.bind_some, hw, hw2, htk, List.mem_append, List.mem_singleton]
      by_cases hb : (b || decide ((-1 - c) ∈ o.take k)) = true
      · rw [if_pos hb]
        have : (b || decide ((-1 - c) ∈ o.take k ∨ -1 - c = o[k])) = true := by
          simp only [Bool.or_eq_true, decide_eq_true_eq] at hb ⊢
          rcases hb with hb | hb
          · exact .inl hb
          · exact .inr (.inl hb)
        rw [this]
      · rw [if_neg hb]
        simp only [Bool.or_eq_true, decide_eq_true_eq, not_or] at hb
        have e1 : b = false := by simpa using hb.1
        subst e1
        simp only [Bool.false_or, hb.2, false_or]
        have e2 : decide (o[k] = -1 - c) = decide (-1 - c = o[k]) := decide_eq_decide.2 eq_comm
        rw [e2]
    · simp only [r03_Vars_l1]
      rw [if_neg (by omega), List.take_length]
  have outer := wh_up0 (step := r03_Vars_l0 x []) (fun i => ((i : Int), (met [] (x.take i)).map fun c => -1 - c)) x.length (r := ((x.length : Int), (met [] x).map fun c => -1 - c)) (fun i hi => ?_) ?_
  · simp only [r03_Vars]
    simp only [List.take_zero, met, List.map_nil, Int.natCast_zero] at outer
    rw [outer]; rfl
  · have hx : x[i]? = some x[i] := List.getElem?_eq_getElem hi
    have hlo := hlow _ (List.getElem_mem hi)
    have hw : w64 ((i : Int) + 1) = ((i + 1 : Nat) : Int) := by rw [w64_small (by omega) (by omega)]; omega
    have htk : x.take (i + 1) = x.take i ++ [x[i]] := by rw [List.take_add_one, hx]; rfl
    have hml := met_len (x.take i) []
    simp only [List.length_nil, Nat.zero_add, List.length_take] at hml
    simp only [r03_Vars_l0]
    rw [if_pos (by omega), idx_nat hx]
    simp only [Option.bind_some]
    have hmem : ((-1 - x[i]) ∈ (met [] (x.take i)).map fun c => -1 - c) ↔ x[i] ∈ met [] (x.take i) := by
      simp only [List.mem_map]
      constructor
      · rintro ⟨a, h1, h2⟩; have : a = x[i] := by omega
        rwa [← this]
      · intro h; exact ⟨_, h, rfl⟩
    by_cases h0 : 0 ≤ x[i]
    · have hdone : wh (r03_Vars_l1 x [] (i : Int) ((met [] (x.take i)).map fun c => -1 - c)) (decide (0 ≤ x[i]), 0) = some (true, (((met [] (x.take i)).map fun c => -1 - c).length : Int)) := by
        rw [decide_eq_true h0]
        refine wh_up0 (step := r03_Vars_l1 x [] (i : Int) ((met [] (x.take i)).map fun c => -1 - c)) (fun k => (true, (k : Int))) (((met [] (x.take i)).map fun c => -1 - c).length) (fun k hk => ?_) ?_
        · simp only [r03_Vars_l1]
          rw [if_pos (by omega), if_pos trivial, w64_small (n := (k : Int) + 1) (by omega) (by simp at hk; omega)]
          rfl
        · simp only [r03_Vars_l1]; rw [if_neg (by omega)]
      rw [hdone]
      simp only [Option.bind_some, if_true, hw, htk, met_snoc]
      rw [if_pos (.inl h0)]
    · rw [decide_eq_false h0, inner _ i _ hx (by simp; omega) hlo (by omega)]
      simp only [Option.bind_some, Bool.false_or, decide_eq_true_eq, hmem, hw, htk, met_snoc]
      by_cases hm : x[i] ∈ met [] (x.take i)
      · rw [if_pos hm, if_pos (.inr hm)]
      · rw [if_neg hm, if_pos (by simp; omega), if_neg (fun e : 0 ≤ x[i] ∨ x[i] ∈ met [] (x.take i) => e.elim h0 hm), w64_small (n := -1 - x[i]) (by omega) (by omega)]
        simp
  · simp only [r03_Vars_l0]
    rw [if_neg (by omega), List.take_length]
open Classical in
theorem r05_Variant_eq {sig : List Symbol} {a b : Rule} (hS : SigOK sig) (h1 : Small a.L) (h2 : Small a.R) (h3 : Small b.L) (h4 : Small b.R) : r05_Variant sig a b = match_Variant sig a b := by
  have sm : ∀ t : List Int, Small t → t.length < 17179869184 := fun t h => by unfold Small at h; omega
  rw [Variant_eq hS h1 h2 h3 h4]
  simp only [r05_Variant, check_eq (sm _ h1), check_eq (sm _ h2), check_eq (sm _ h3), check_eq (sm _ h4), chk_eq hS (sm _ h1), chk_eq hS (sm _ h2), chk_eq hS (sm _ h3), chk_eq hS (sm _ h4), Option.bind_some]
  by_cases c1 : chk sig a.L = 0
  rotate_left
  · rw [if_neg c1]; simp [c1]
  by_cases c2 : chk sig a.R = 0
  rotate_left
  · rw [if_pos c1, if_neg c2]; simp [c2]
  by_cases c3 : chk sig b.L = 0
  rotate_left
  · rw [if_pos c1, if_pos c2, if_neg c3]; simp [c3]
  by_cases c4 : chk sig b.R = 0
  rotate_left
  · rw [if_pos c1, if_pos c2, if_pos c3, if_neg c4]; simp [c4]
  rw [if_pos c1, if_pos c2, if_pos c3, if_pos c4]
  simp only [c1, c2, c3, c4, true_and, canRows_two]
  by_cases l1 : a.L.length = b.L.length
  rotate_left
  · rw [if_neg (by omega), decide_eq_false]
    intro e
    have := congrArg List.length (List.cons.inj e).1
    simp at this; exact l1 this
  by_cases l2 : a.R.length = b.R.length
  rotate_left
  · rw [if_pos (by omega), if_neg (by omega), decide_eq_false]
    intro e
    have := congrArg List.length (List.cons.inj (List.cons.inj e).2).1
    simp at this; exact l2 this
  have lows : ∀ c ∈ a.L ++ a.R, -1048576 ≤ c := fun c hc => by
    rcases List.mem_append.1 hc with h | h
    · exact right_codes (chk_zero hS (sm _ h1) c1).2 c h
    · exact right_codes (chk_zero hS (sm _ h2) c2).2 c h
  have lows' : ∀ c ∈ b.L ++ b.R, -1048576 ≤ c := fun c hc => by
    rcases List.mem_append.1 hc with h | h
    · exact right_codes (chk_zero hS (sm _ h3) c3).2 c h
    · exact right_codes (chk_zero hS (sm _ h4) c4).2 c h
  have hsplit : ([a.L.map (cn (met [] (a.L ++ a.R))), a.R.map (cn (met [] (a.L ++ a.R)))] = [b.L.map (cn (met [] (b.L ++ b.R))), b.R.map (cn (met [] (b.L ++ b.R)))]) ↔ (a.L ++ a.R).map (cn (met [] (a.L ++ a.R))) = (b.L ++ b.R).map (cn (met [] (b.L ++ b.R))) := by
    rw [List.map_append (l₁ := a.L), List.map_append (l₁ := b.L)]
    constructor
    · intro e
      rw [(List.cons.inj e).1, (List.cons.inj (List.cons.inj e).2).1]
    · intro e
      obtain ⟨e1, e2⟩ := List.append_inj e (by simp [l1])
      rw [e1, e2]
  unfold Small at h1 h2 h3 h4
  have hlen : (a.L ++ a.R).length = (b.L ++ b.R).length := by simp [l1, l2]
  have hbound : (a.L ++ a.R).length ≤ 2097152 := by simp; omega
  rw [if_pos (by omega), if_pos (by omega), if_pos (by omega), if_pos (by omega), if_pos (by omega), if_pos (by omega)]
  rw [Vars_eq (by omega) lows, Vars_eq (by omega) lows', show decide _ = decide _ from decide_eq_decide.2 (hsplit.trans (alike_iff hlen (by omega)))]
  generalize hx : a.L ++ a.R = x at *
  generalize hy : b.L ++ b.R = y at *
  have ml := met_len x []
  have ml' := met_len y []
  simp only [List.length_nil, Nat.zero_add] at ml ml'
  have w1 : wh (r05_Variant_l0 sig a b a b x y) 0 = _ := wh_for0 (l := x) (g := fun i c => if (0 ≤ c ∨ 0 ≤ y.getD i 0 → c = y.getD i 0) then none else some (Sum.inl false : Bool ⊕ Int)) (fin := .inr (x.length : Int)) (fun i c hc => ?_) ?_
  rotate_left
  · have hi := (List.getElem?_eq_some_iff.1 hc).1
    have hyi : y[i]? = some (y[i]'(by omega)) := List.getElem?_eq_getElem (by omega)
    simp only [r05_Variant_l0]
    rw [if_pos (by omega), idx_nat hc, idx_nat hyi, w64_small (n := (i : Int) + 1) (by omega) (by omega)]
    simp only [Option.bind_some, List.getD_eq_getElem?_getD, hyi, Option.getD_some]
    generalize y[i] = d
    by_cases p1 : 0 ≤ c
    · by_cases e : c = d
      · rw [if_pos p1, if_pos e, if_pos (fun _ => e)]; rfl
      · rw [if_pos p1, if_neg e, if_neg (fun h => e (h (.inl p1)))]
    · by_cases p2 : 0 ≤ d
      · by_cases e : c = d
        · rw [if_neg p1, if_pos p2, if_pos e, if_pos (fun _ => e)]; rfl
        · rw [if_neg p1, if_pos p2, if_neg e, if_neg (fun h => e (h (.inr p2)))]
      · rw [if_neg p1, if_neg p2, if_pos (fun h => by omega)]; rfl
  · simp only [r05_Variant_l0]; rw [if_neg (by omega)]
  rw [firstG_all (P := fun i => 0 ≤ x.getD i 0 ∨ 0 ≤ y.getD i 0 → x.getD i 0 = y.getD i 0) (q := .inl false) x 0 (fun i c hc => by simp only [Nat.zero_add, List.getD_eq_getElem?_getD, hc, Option.getD_some])] at w1
  have A1 : (∀ i, i < x.length → (0 ≤ x.getD (0 + i) 0 ∨ 0 ≤ y.getD (0 + i) 0 → x.getD (0 + i) 0 = y.getD (0 + i) 0)) ↔ (∀ i, i < x.length → ∀ a b, x[i]? = some a → y[i]? = some b → (0 ≤ a ∨ 0 ≤ b) → a = b) := by
    constructor
    · intro h i hi a b ha hb hab
      have := h i hi
      simp only [Nat.zero_add, List.getD_eq_getElem?_getD, ha, hb, Option.getD_some] at this
      exact this hab
    · intro h i hi hab
      have ha : x[i]? = some x[i] := List.getElem?_eq_getElem hi
      have hb : y[i]? = some (y[i]'(by omega)) := List.getElem?_eq_getElem (by omega)
      simp only [Nat.zero_add, List.getD_eq_getElem?_getD, ha, hb, Option.getD_some] at hab ⊢
      exact h i hi _ _ ha hb hab
  rw [w1]
  by_cases a1 : (∀ i, i < x.length → ∀ a b, x[i]? = some a → y[i]? = some b → (0 ≤ a ∨ 0 ≤ b) → a = b)
  rotate_left
  · rw [if_neg (fun h => a1 (A1.1 h)), decide_eq_false (fun h : Alike x y => a1 h.1)]
    rfl
  rw [if_pos (A1.2 a1)]
  simp only [Option.getD_none, Option.bind_some, List.length_map]
  by_cases a2 : (met [] x).length = (met [] y).length
  rotate_left
  · rw [if_neg (by omega), decide_eq_false (fun h : Alike x y => a2 h.2.1)]
  rw [if_pos (by omega)]
  -- the last two loops
  have w2 : ∀ (i : Nat) (c : Int), x[i]? = some c → wh (r05_Variant_l2 sig a b a b x y (x.length : Int) ((met [] x).map fun c => -1 - c) ((met [] y).map fun c => -1 - c) (i : Int)) 0 = some (if ∀ k : Nat, k < (met [] x).length → (x[i]? = (met [] x)[k]? ↔ y[i]? = (met [] y)[k]?) then .inr ((met [] x).length : Int) else .inl false) := by
    intro i c hc
    have hi := (List.getElem?_eq_some_iff.1 hc).1
    have hyi : y[i]? = some (y[i]'(by omega)) := List.getElem?_eq_getElem (by omega)
    have := wh_for0 (step := r05_Variant_l2 sig a b a b x y (x.length : Int) ((met [] x).map fun c => -1 - c) ((met [] y).map fun c => -1 - c) (i : Int)) (l := met [] x) (g := fun (k : Nat) (v : Int) => if (x[i]? = (met [] x)[k]? ↔ y[i]? = (met [] y)[k]?) then none else some (Sum.inl false : Bool ⊕ Int)) (fin := .inr ((met [] x).length : Int)) (fun k v hv => ?_) ?_
    · rw [this, firstG_all (P := fun k : Nat => (x[i]? = (met [] x)[k]? ↔ y[i]? = (met [] y)[k]?)) (q := .inl false) _ 0 (fun k v hv => by simp only [Nat.zero_add])]
      simp only [Nat.zero_add]
      split <;> rfl
    · have hk := (List.getElem?_eq_some_iff.1 hv).1
      have hwk : (met [] y)[k]? = some ((met [] y)[k]'(by omega)) := List.getElem?_eq_getElem (by omega)
      have b1 := lows v (((met_of x [] v (List.mem_of_getElem? hv)).resolve_left (by simp)).1)
      have b2 := lows' _ (((met_of y [] _ (List.mem_of_getElem? hwk)).resolve_left (by simp)).1)
      have n1 := ((met_of x [] v (List.mem_of_getElem? hv)).resolve_left (by simp)).2
      have n2 := ((met_of y [] _ (List.mem_of_getElem? hwk)).resolve_left (by simp)).2
      simp only [r05_Variant_l2, List.length_map]
      rw [if_pos (by omega), idx_nat hc, idx_nat (i := k) (a := -1 - v) (by rw [List.getElem?_map, hv]; rfl), idx_nat hyi, idx_nat (i := k) (a := -1 - (met [] y)[k]'(by omega)) (by rw [List.getElem?_map, hwk]; rfl)]
      simp only [Option.bind_some]
      rw [w64_small (n := -1 - (-1 - v)) (by omega) (by omega), w64_small (n := -1 - (-1 - (met [] y)[k]'(by omega))) (by omega) (by omega), w64_small (n := (k : Int) + 1) (by omega) (by omega)]
      rw [show (-1 - (-1 - v)) = v by omega, show (-1 - (-1 - (met [] y)[k]'(by omega))) = (met [] y)[k]'(by omega) by omega]
      simp only [hc, hv, hyi, hwk, Option.some.injEq]
      by_cases p : (c = v ↔ y[i]'(by omega) = (met [] y)[k]'(by omega))
      · rw [if_neg (by simp [p]), if_pos p]; rfl
      · rw [if_pos (by
          by_cases q : c = v
          · by_cases q' : y[i]'(by omega) = (met [] y)[k]'(by omega)
            · exact absurd ⟨fun _ => q', fun _ => q⟩ p
            · simp [q, q']
          · by_cases q' : y[i]'(by omega) = (met [] y)[k]'(by omega)
            · simp [q, q']
            · exact absurd ⟨fun h => absurd h q, fun h => absurd h q'⟩ p), if_neg p]
    · simp only [r05_Variant_l2, List.length_map]; rw [if_neg (by omega)]
  have w3 := wh_for0 (step := r05_Variant_l1 sig a b a b x y (x.length : Int) ((met [] x).map fun c => -1 - c) ((met [] y).map fun c => -1 - c)) (l := x) (g := fun (i : Nat) (c : Int) => if (∀ k : Nat, k < (met [] x).length → (x[i]? = (met [] x)[k]? ↔ y[i]? = (met [] y)[k]?)) then none else some (Sum.inl false : Bool ⊕ Int)) (fin := .inr (x.length : Int)) (fun i c hc => ?_) ?_
  rotate_left
  · have hi := (List.getElem?_eq_some_iff.1 hc).1
    simp only [r05_Variant_l1]
    rw [if_pos (by omega), w2 i c hc, w64_small (n := (i : Int) + 1) (by omega) (by omega)]
    simp only [Option.bind_some]
    by_cases e : ∀ k : Nat, k < (met [] x).length → (x[i]? = (met [] x)[k]? ↔ y[i]? = (met [] y)[k]?)
    · rw [if_pos e, if_pos e]; rfl
    · rw [if_neg e, if_neg e]
  · simp only [r05_Variant_l1]; rw [if_neg (by omega)]
  rw [firstG_all (P := fun i : Nat => ∀ k : Nat, k < (met [] x).length → (x[i]? = (met [] x)[k]? ↔ y[i]? = (met [] y)[k]?)) (q := .inl false) x 0 (fun i c hc => by simp only [Nat.zero_add])] at w3
  simp only [Nat.zero_add] at w3
  rw [w3]
  by_cases a3 : ∀ i : Nat, i < x.length → ∀ k : Nat, k < (met [] x).length → (x[i]? = (met [] x)[k]? ↔ y[i]? = (met [] y)[k]?)
  · rw [if_pos a3, decide_eq_true (show Alike x y from ⟨a1, a2, a3⟩)]; rfl
  · rw [if_neg a3, decide_eq_false (fun h : Alike x y => a3 h.2.2)]; rfl
theorem variants {sig : List Symbol} {a b : Rule} (hsh : l05_shown = some true) (hS : SigOK sig) (h1 : Small a.L) (h2 : Small a.R) (h3 : Small b.L) (h4 : Small b.R) : l05_MatchVariants sig a b = some true := by
  simp only [l05_MatchVariants, hsh, Option.bind_some, r05_Variant_eq hS h1 h2 h3 h4]
  rw [Variant_eq hS h1 h2 h3 h4]
  simp
end Ld.Law

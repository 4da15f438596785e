import Derived.Test.YtfjgfcnhklopdaaDoorSyq3
set_option maxHeartbeats 400000
set_option linter.unusedVariables false
set_option linter.unusedSimpArgs false
namespace Ld.Law
open Go Go.Abs Go.Lib
theorem qdT9 (sig : List Symbol) (l : List Int) : rdT sig l 0 = (l, 0) := by cases l <;> rfl
theorem qrG9 (sig : List Symbol) : ∀ (l : List Int) (k : Nat), ∃ f, l = f ++ (rdT sig l k).1 := by
  intro l
  induction l with
  | nil => intro k; cases k <;> exact ⟨[], rfl⟩
  | cons c r ih =>
    intro k
    cases k with
    | zero => exact ⟨[], rfl⟩
    | succ k =>
      simp only [rdT]
      split
      · exact ⟨[], rfl⟩
      · obtain ⟨f, hf⟩ := ih (k + arOf sig c)
        exact ⟨c :: f, by rw [List.cons_append, ← hf]⟩
theorem qir9 (sig : List Symbol) : ∀ (l : List Int) (a b : Nat), (rdT sig l (a + b)).2 = 0 → (rdT sig l a).2 = 0 ∧ rdT sig (rdT sig l a).1 b = rdT sig l (a + b) := by
  intro l
  induction l with
  | nil =>
    intro a b h
    cases a with
    | zero => rw [Nat.zero_add] at h ⊢; exact ⟨rfl, by rw [qdT9]⟩
    | succ a => rw [Nat.succ_add] at h; simp [rdT] at h
  | cons c r ih =>
    intro a b h
    cases a with
    | zero => rw [qdT9, Nat.zero_add]; exact ⟨rfl, rfl⟩
    | succ a =>
      rw [Nat.succ_add] at h ⊢
      simp only [rdT] at h ⊢
      by_cases hc : (sig.length : Int) ≤ c ∨ c < -1048576
      · rw [if_pos hc] at h; simp at h
      · rw [if_neg hc] at h
        rw [if_neg hc, if_neg hc]
        rw [show a + b + arOf sig c = (a + arOf sig c) + b by omega] at h ⊢
        exact ih _ _ h
def rest (sig : List Symbol) (s : List Int) : List Int := (rdT sig s 1).1
def first (sig : List Symbol) (s : List Int) : List Int := s.take (s.length - (rest sig s).length)
theorem qfm9 (sig : List Symbol) (s : List Int) : first sig s ++ rest sig s = s := by
  obtain ⟨f, hf⟩ := qrG9 sig s 1
  have hl := congrArg List.length hf
  rw [List.length_append] at hl
  unfold first rest
  have e : s.length - (rdT sig s 1).1.length = f.length := by omega
  rw [e]
  conv => lhs; arg 1; rw [hf]
  rw [List.take_left]
  exact hf.symm
theorem quq9 (sig : List Symbol) (s : List Int) : s.drop (s.length - (rest sig s).length) = rest sig s := by
  have h := qfm9 sig s
  have hl := congrArg List.length h
  rw [List.length_append] at hl
  have e : s.length - (rest sig s).length = (first sig s).length := by omega
  rw [e]
  conv => lhs; arg 2; rw [← h]
  rw [List.drop_left]
theorem qsN9 {sig : List Symbol} {t : List Int} (hA : Ars sig) (hL : t.length < 17179869184) : ∀ (n i k : Nat), i + n = t.length → k ≤ 8 * t.length + 1 - 8 * n + 8 → k ≤ 8 * i + 9 → (rdT sig (t.drop i) k).2 = 0 → ∃ k', wh (qcm9 sig t) ((i : Int), (k : Int)) = some (((t.length - (rdT sig (t.drop i) k).1.length : Nat) : Int), k') := by
  intro n
  induction n with
  | zero =>
    intro i k hi hk1 hk h
    rw [List.drop_eq_nil_of_le (by omega)] at h ⊢
    cases k with
    | zero => exact ⟨0, qg9 (by simp only [qcm9]; rw [if_neg (by omega)]; simp [rdT]; omega)⟩
    | succ k => simp [rdT] at h
  | succ n ih =>
    intro i k hi hk1 hk h
    have hlt : i < t.length := by omega
    have hx : t[i]? = some t[i] := List.getElem?_eq_getElem hlt
    cases k with
    | zero => exact ⟨0, qg9 (by simp only [qcm9]; rw [if_neg (by omega), qdT9]; simp; omega)⟩
    | succ k =>
      have hw2 : w64 ((i : Int) + 1) = ((i + 1 : Nat) : Int) := by rw [qe9 (by omega) (by omega)]; omega
      rw [List.drop_eq_getElem_cons hlt] at h ⊢
      have hc : ¬ ((sig.length : Int) ≤ t[i] ∨ t[i] < -1048576) := by
        intro hc; simp [rdT, hc] at h
      have hr : rdT sig (t[i] :: t.drop (i + 1)) (k + 1) = rdT sig (t.drop (i + 1)) (k + arOf sig t[i]) := by simp [rdT, hc]
      rw [hr] at h ⊢
      have har := ar_le hA t[i]
      have round : qcm9 sig t ((i : Int), ((k + 1 : Nat) : Int)) = some (.inl (((i + 1 : Nat) : Int), ((k + arOf sig t[i] : Nat) : Int))) := by
        simp only [qcm9]
        rw [if_pos (by omega), qh9 hx]
        simp only [Option.bind_some, hw2]
        by_cases hn : 0 ≤ t[i]
        · obtain ⟨c, hcn⟩ : ∃ c : Nat, t[i] = (c : Int) := ⟨t[i].toNat, by omega⟩
          have hcs : c < sig.length := by rw [hcn] at hc; omega
          have hs : sig[c]? = some sig[c] := List.getElem?_eq_getElem hcs
          have hra := hA _ (List.getElem_mem hcs)
          have hao : arOf sig t[i] = sig[c].Arity.toNat := by unfold arOf; rw [if_pos hn, hcn]; simp [hs]
          rw [if_pos hn, hao, hcn, qh9 hs]
          simp only [Option.bind_some]
          rw [qe9 (n := ((k + 1 : Nat) : Int) + sig[c].Arity) (by omega) (by omega), qe9 (by omega) (by omega)]
          congr 3
          omega
        · have hao : arOf sig t[i] = 0 := by unfold arOf; rw [if_neg hn]
          rw [if_neg hn, hao, qe9 (by omega) (by omega)]
          congr 3
          omega
      rw [qy9 round]
      exact ih (i + 1) _ (by omega) (by omega) (by omega) h
theorem qvF9 {sig : List Symbol} {t : List Int} (hA : Ars sig) (hL : t.length < 17179869184) (h : (rdT sig t 1).2 = 0) : qfO9 sig t = some ((t.length - (rest sig t).length : Nat) : Int) := by
  obtain ⟨k', hk⟩ := qsN9 hA hL t.length 0 1 (by omega) (by omega) (by omega) (by rw [List.drop_zero]; exact h)
  simp only [qfO9]
  simp only [Int.natCast_zero, Int.natCast_one, List.drop_zero] at hk
  rw [hk]; rfl
def bnd? (o : List Bind) (v : Int) : Option (List Int) := (o.find? fun b => decide (b.Var = v)).map (·.T)
def mat (sig : List Symbol) : List Int → List Int → List Bind → Option (List Bind)
  | [], _, o => some o
  | c :: p, s, o => if 0 ≤ c then (match s with
      | [] => none
      | a :: r => if a = c then mat sig p r o else none)
    else match bnd? o (-1 - c) with
      | some u => if u = first sig s then mat sig p (rest sig s) o else none
      | none => mat sig p (rest sig s) (o ++ [Bind.mk (-1 - c) (first sig s)])
theorem qpR9 (v : Int) : ∀ o : List Bind, mget (o.map fun b => (b.Var, b.T)) v = bnd? o v := by
  intro o
  induction o with
  | nil => rfl
  | cons b r ih =>
    simp only [List.map_cons, mget, bnd?, List.find?_cons]
    by_cases h : v = b.Var
    · rw [if_pos h, decide_eq_true h.symm]; rfl
    · rw [if_neg h, decide_eq_false (fun e => h e.symm), ih]; rfl
theorem qvB9 {v : Int} {t : List Int} : ∀ (m : List (Int × List Int)), mget m v = none → mset m v t = m ++ [(v, t)] := by
  intro m
  induction m with
  | nil => intro _; rfl
  | cons p r ih =>
    intro h
    simp only [mget] at h
    simp only [mset]
    by_cases e : v = p.1
    · rw [if_pos e] at h; cases h
    · rw [if_neg e] at h ⊢; rw [ih h]; rfl
theorem qpF9 {o : List Bind} {v : Int} (h : bnd? o v = none) : v ∉ o.map (·.Var) := by
  intro hm
  obtain ⟨b, hb, e⟩ := List.mem_map.1 hm
  have : (o.find? fun b => decide (b.Var = v)) = none := by
    unfold bnd? at h
    cases hf : o.find? (fun b => decide (b.Var = v)) with
    | none => rfl
    | some x => rw [hf] at h; cases h
  have := List.find?_eq_none.1 this b hb
  simp [e] at this
theorem qcA9 {α : Type} {l : List α} {i k : Nat} (h1 : i ≤ k) (h2 : k ≤ l.length) : cutL l (i : Int) (k : Int) = some ((l.drop i).take (k - i)) := by
  unfold cutL
  rw [if_pos (by omega)]
  simp
theorem qsj9 {sig : List Symbol} {p : List Int} (hA : Ars sig) (hp : Small p) (s6 : List Bind) : ∀ (n i k : Nat) (s : List Int) (o : List Bind), i + n = p.length → s.length ≤ 1048576 → (o.map (·.Var)).Nodup → o.length ≤ i →
    rdT sig (p.drop i) k = ([], 0) → rdT sig s k = ([], 0) →
    ∃ x, wh (qbb9 sig p s6 p (p.length : Int)) (s, (i : Int), o.map (fun b => (b.Var, b.T)), o) = some x ∧
      (match mat sig (p.drop i) s o with
        | none => x = .inl (([] : List Bind), false)
        | some o' => (o'.map (·.Var)).Nodup ∧ o'.length ≤ p.length ∧ ∃ a b m, x = .inr (a, b, m, o')) := by
  unfold Small at hp
  intro n
  induction n with
  | zero =>
    intro i k s o hi hs hnd hlen h1 h2
    rw [List.drop_eq_nil_of_le (by omega)]
    exact ⟨.inr (s, (i : Int), _, o), qg9 (by simp only [qbb9]; rw [if_neg (by omega)]), hnd, by omega, _, _, _, rfl⟩
  | succ n ih =>
    intro i k s o hi hs hnd hlen h1 h2
    have hlt : i < p.length := by omega
    have hx : p[i]? = some p[i] := List.getElem?_eq_getElem hlt
    have hw2 : w64 ((i : Int) + 1) = ((i + 1 : Nat) : Int) := by rw [qe9 (by omega) (by omega)]; omega
    rw [List.drop_eq_getElem_cons hlt] at h1 ⊢
    cases k with
    | zero => rw [qdT9] at h1; cases h1
    | succ k =>
      have hc : ¬ ((sig.length : Int) ≤ p[i] ∨ p[i] < -1048576) := by
        intro hc; simp [rdT, hc] at h1
      simp only [rdT, if_neg hc] at h1
      simp only [mat]
      by_cases hn : 0 ≤ p[i]
      · rw [if_pos hn]
        cases s with
        | nil => simp [rdT] at h2
        | cons a r =>
          have hca : ¬ ((sig.length : Int) ≤ a ∨ a < -1048576) := by
            intro hc; simp [rdT, hc] at h2
          simp only [rdT, if_neg hca] at h2
          have hpart : qen9 p[i] = some (.ifc 128 (.v (.int .i64 p[i]))) := by simp only [qen9]; rw [if_neg (by omega)]
          have i0 : idx (a :: r) 0 = some a := rfl
          by_cases hac : a = p[i]
          · simp only [if_pos hac]
            have round : qbb9 sig p s6 p (p.length : Int) (a :: r, (i : Int), o.map (fun b => (b.Var, b.T)), o) = some (.inl (r, ((i + 1 : Nat) : Int), o.map (fun b => (b.Var, b.T)), o)) := by
              have hcut : cutL (a :: r) 1 ((a :: r).length : Int) = some r := by
                have := qcA9 (l := a :: r) (i := 1) (k := (a :: r).length) (by simp) (by simp)
                simp only [Int.natCast_one, List.drop_succ_cons, List.drop_zero, List.length_cons, Nat.add_sub_cancel, List.take_length] at this
                exact this
              simp only [qbb9]
              rw [if_pos (by omega), qh9 hx]
              simp only [Option.bind_some, hpart, ifInt, asI, if_true, and_self, i0, hw2]
              rw [if_pos hac, hcut]
              rfl
            rw [qy9 round]
            have hr : r.length ≤ 1048576 := by simp only [List.length_cons] at hs; omega
            exact ih (i + 1) (k + arOf sig p[i]) r o (by omega) hr hnd (by omega) h1 (by rw [← hac]; exact h2)
          · simp only [if_neg hac]
            refine ⟨_, qg9 ?_, rfl⟩
            simp only [qbb9]
            rw [if_pos (by omega), qh9 hx]
            simp only [Option.bind_some, hpart, ifInt, asI, if_true, and_self, i0]
            rw [if_neg hac]
      · rw [if_neg hn]
        have hao : arOf sig p[i] = 0 := by unfold arOf; rw [if_neg hn]
        rw [hao, Nat.add_zero] at h1
        have hpart : qen9 p[i] = some (.ifc 130 (.v (.int .i64 (-1 - p[i])))) := by
          simp only [qen9]; rw [if_pos (by omega), qe9 (by omega) (by omega)]
        have hadd := qir9 sig s 1 k (by rw [Nat.add_comm, h2])
        rw [Nat.add_comm 1 k, h2] at hadd
        have hreach := qvF9 hA (by omega : s.length < 17179869184) hadd.1
        have hrl : (rest sig s).length ≤ s.length := by
          have := congrArg List.length (qfm9 sig s); rw [List.length_append] at this; omega
        have hcut1 : cutL s 0 ((s.length - (rest sig s).length : Nat) : Int) = some (first sig s) := by
          have := qcA9 (l := s) (i := 0) (k := s.length - (rest sig s).length) (by omega) (by omega)
          simpa [first] using this
        have hcut2 : cutL s ((s.length - (rest sig s).length : Nat) : Int) (s.length : Int) = some (rest sig s) := by
          rw [qcA9 (by omega) (Nat.le_refl _), quq9, List.take_of_length_le (by omega)]
        have hfl : (first sig s).length ≤ s.length := by
          have := congrArg List.length (qfm9 sig s); rw [List.length_append] at this; omega
        have a57 : asI 128 .i64 (.ifc 130 (.v (.int .i64 (-1 - p[i])))) = none := rfl
        have a59 : asI 130 .i64 (.ifc 130 (.v (.int .i64 (-1 - p[i])))) = some (-1 - p[i]) := rfl
        have aif : ifInt (.ifc 130 (.v (.int .i64 (-1 - p[i])))) = true := rfl
        cases hb : bnd? o (-1 - p[i]) with
        | some u =>
          simp only
          have hm := qpR9 (-1 - p[i]) o
          rw [hb] at hm
          by_cases hu : u = first sig s
          · rw [if_pos hu]
            have round : qbb9 sig p s6 p (p.length : Int) (s, (i : Int), o.map (fun b => (b.Var, b.T)), o) = some (.inl (rest sig s, ((i + 1 : Nat) : Int), o.map (fun b => (b.Var, b.T)), o)) := by
              simp only [qbb9]
              rw [if_pos (by omega), qh9 hx]
              simp only [Option.bind_some, hpart, aif, a57, a59, if_true, hreach, hm, hcut1, hcut2, hw2]
              rw [qpE9 (by rw [hu]; omega), decide_eq_true hu]
              simp
            rw [qy9 round]
            exact ih (i + 1) k (rest sig s) o (by omega) (by omega) hnd (by omega) h1 hadd.2
          · rw [if_neg hu]
            refine ⟨_, qg9 ?_, rfl⟩
            simp only [qbb9]
            rw [if_pos (by omega), qh9 hx]
            simp only [Option.bind_some, hpart, aif, a57, a59, if_true, hreach, hm, hcut1, hcut2, hw2]
            by_cases hul : u.length = (first sig s).length
            · rw [qpE9 (by omega), decide_eq_false hu]
              simp
            · simp only [qbz9]
              rw [if_neg (by omega)]
              simp
        | none =>
          simp only
          have hm := qpR9 (-1 - p[i]) o
          rw [hb] at hm
          have hnew : mset (o.map fun b => (b.Var, b.T)) (-1 - p[i]) (first sig s) = (o ++ [Bind.mk (-1 - p[i]) (first sig s)]).map fun b => (b.Var, b.T) := by
            rw [qvB9 _ hm, List.map_append]; rfl
          have round : qbb9 sig p s6 p (p.length : Int) (s, (i : Int), o.map (fun b => (b.Var, b.T)), o) = some (.inl (rest sig s, ((i + 1 : Nat) : Int), (o ++ [Bind.mk (-1 - p[i]) (first sig s)]).map (fun b => (b.Var, b.T)), o ++ [Bind.mk (-1 - p[i]) (first sig s)])) := by
            simp only [qbb9]
            rw [if_pos (by omega), qh9 hx]
            simp only [Option.bind_some, hpart, aif, a57, a59, if_true, hreach, hm, hcut1, hcut2, hw2]
            rw [if_pos (by omega), if_pos (by omega), hnew]
          rw [qy9 round]
          refine ih (i + 1) k (rest sig s) _ (by omega) (by omega) ?_ (by simp; omega) h1 hadd.2
          rw [List.map_append, List.nodup_append]
          refine ⟨hnd, by simp, ?_⟩
          intro x hx y hy e
          simp at hy
          subst hy
          subst e
          exact qpF9 hb hx
theorem qiD9 {sig : List Symbol} {t : List Int} (h : qo9 sig t = 0) : rdT sig t 1 = ([], 0) := by
  have e : qo9 sig t = outc (rdT sig t 1) := rfl
  rw [e] at h
  unfold outc at h
  split at h
  · rename_i h0
    unfold stop at h
    split at h
    · rename_i h1; exact Prod.ext h1 h0
    · cases h
  · rename_i h0; exact absurd h h0
def insB (b : Bind) : List Bind → List Bind
  | [] => [b]
  | c :: r => if b.Var < c.Var then b :: c :: r else c :: insB b r
def sortB : List Bind → List Bind
  | [] => []
  | b :: r => insB b (sortB r)
theorem qnb9 (b : Bind) : ∀ l, (insB b l).Perm (b :: l) := by
  intro l
  induction l with
  | nil => exact List.Perm.refl _
  | cons c r ih =>
    simp only [insB]
    split
    · exact List.Perm.refl _
    · exact (List.Perm.cons c ih).trans (List.Perm.swap b c r)
theorem qij9 : ∀ l, (sortB l).Perm l := by
  intro l
  induction l with
  | nil => exact List.Perm.refl _
  | cons b r ih => exact (qnb9 b _).trans (List.Perm.cons b ih)
def Rise (l : List Bind) : Prop := l.Pairwise fun a b => a.Var < b.Var
theorem quQ9 {b : Bind} : ∀ {l : List Bind}, Rise l → b.Var ∉ l.map (·.Var) → Rise (insB b l) := by
  intro l
  induction l with
  | nil => intro _ _; exact List.pairwise_singleton _ _
  | cons c r ih =>
    intro h hn
    simp only [insB]
    have hc := List.pairwise_cons.1 h
    split
    · rename_i hlt
      refine List.pairwise_cons.2 ⟨fun x hx => ?_, h⟩
      rcases List.mem_cons.1 hx with rfl | hx
      · exact hlt
      · have := hc.1 x hx; omega
    · rename_i hlt
      have hne : b.Var ≠ c.Var := fun e => hn (by simp [e])
      refine List.pairwise_cons.2 ⟨fun x hx => ?_, ih hc.2 (fun hm => hn (by simp at hm ⊢; exact .inr hm))⟩
      rcases List.mem_cons.1 ((qnb9 b r).mem_iff.1 hx) with rfl | hx
      · omega
      · exact hc.1 x hx
theorem qmi9 : ∀ {l : List Bind}, (l.map (·.Var)).Nodup → Rise (sortB l) := by
  intro l
  induction l with
  | nil => intro _; exact List.Pairwise.nil
  | cons b r ih =>
    intro h
    have hc := List.nodup_cons.1 (show (b.Var :: r.map (·.Var)).Nodup from h)
    refine quQ9 (ih hc.2) (fun hm => hc.1 ?_)
    exact ((qij9 r).map (·.Var)).mem_iff.1 hm
theorem qrn9 : ∀ {l m : List Bind}, l.Perm m → Rise l → Rise m → l = m := by
  intro l
  induction l with
  | nil => intro m hp _ _; exact (List.nil_perm.1 hp).symm ▸ rfl
  | cons a r ih =>
    intro m hp hl hm
    cases m with
    | nil => exact absurd (List.perm_nil.1 hp) (by simp)
    | cons b s =>
      have ha := List.pairwise_cons.1 hl
      have hb := List.pairwise_cons.1 hm
      have e : a = b := by
        have h1 : a ∈ b :: s := hp.mem_iff.1 (List.mem_cons_self ..)
        have h2 : b ∈ a :: r := hp.mem_iff.2 (List.mem_cons_self ..)
        rcases List.mem_cons.1 h1 with h1 | h1
        · exact h1
        rcases List.mem_cons.1 h2 with h2 | h2
        · exact h2.symm
        have x1 := hb.1 a h1
        have x2 := ha.1 b h2
        omega
      subst e
      rw [ih ((List.perm_cons a).1 hp) ha.2 hb.2]
abbrev ltB (a b : Bind) : Bool := decide (a.Var < b.Var)
theorem qxr9 : Go.Sort.SWO ltB where
  irrefl := fun x => by simp [ltB]
  trans := fun x y z h1 h2 => by simp [ltB] at *; omega
  ntrans := fun x y z h1 h2 => by simp [ltB] at *; omega
theorem qxU9 (a b : Bind) : ∃ n, qj9 a b = some n ∧ (n < 0 ↔ ltB a b = true) := by
  have hn : ∀ n : Int, qdC9 n = some false := fun n => by simp [qdC9]
  simp only [qj9, qeF9, hn, Option.bind_some, Bool.false_eq_true, if_false]
  by_cases h1 : a.Var < b.Var
  · rw [if_pos h1]; exact ⟨_, rfl, by simp [ltB, h1]⟩
  · rw [if_neg h1]
    by_cases h2 : b.Var < a.Var
    · rw [if_pos h2]; exact ⟨_, rfl, by simp [ltB, h1]⟩
    · rw [if_neg h2]; exact ⟨_, rfl, by simp [ltB, h1]⟩
theorem qqA9 {l : List Bind} (hn : (l.map (·.Var)).Nodup) (R : Array Bind) (hp : @Go.Sort.PermIn Bind SoB.inhE 0 l.length l.toArray R) (hs : @Go.Sort.SortedIn Bind SoB.inhE ltB 0 l.length R) : R.toList = sortB l := by
  have hsz : R.size = l.length := by have := hp.1; simpa using this
  have hperm : R.toList.Perm l := by
    have := hp.2.2
    have e1 : R.extract 0 l.length = R := by rw [← hsz]; exact Array.extract_size
    have e2 : l.toArray.extract 0 l.length = l.toArray := by
      have h : l.length = l.toArray.size := by simp
      rw [h]; exact Array.extract_size
    rw [e1, e2] at this
    simpa using this
  refine qrn9 (hperm.trans (qij9 l).symm) ?_ (qmi9 hn)
  have hnR : (R.toList.map (·.Var)).Nodup := (hperm.map (·.Var)).nodup_iff.2 hn
  refine List.pairwise_iff_getElem.2 fun i j hi hj hij => ?_
  have h1 := hs i j (Nat.zero_le _) hij (by simpa [hsz] using hj)
  have hi' : i < R.size := by simpa using hi
  have hj' : j < R.size := by simpa using hj
  have hne : R.toList[i].Var ≠ R.toList[j].Var := by
    intro e
    have := (List.pairwise_iff_getElem.1 hnR) i j (by simpa using hi) (by simpa using hj) hij
    apply this
    rw [List.getElem_map, List.getElem_map]
    exact e
  have e1 : R[i]! = R.toList[i] := by simp [hi']
  have e2 : R[j]! = R.toList[j] := by simp [hj']
  rw [e1, e2] at h1
  simp only [ltB, decide_eq_false_iff_not] at h1
  omega
theorem qwR9 {l : List Bind} (hn : (l.map (·.Var)).Nodup) (hl : l.length ≤ 1048576) : qct9 l = some (sortB l) :=
  SoB.SortFunc_eq qxU9 qxr9 (by show _ < _; omega) (fun R hp hs => qqA9 hn R hp hs)
noncomputable def matR (sig : List Symbol) (p s : List Int) : List Bind × Bool :=
  if chk sig p = 0 ∧ chk sig s = 0 then (match mat sig p s [] with | none => ([], false) | some o => (sortB o, true)) else ([], false)
theorem qjJ9 {sig : List Symbol} {p s : List Int} (hS : SigOK sig) (hp : Small p) (hs : Small s) : qdO9 sig p s = some (matR sig p s) := by
  have sm : ∀ t : List Int, Small t → t.length < 17179869184 := fun t h => by unfold Small at h; omega
  simp only [qdO9, matR, qlK9 hS (sm _ hp), qlK9 hS (sm _ hs), Option.bind_some]
  by_cases c1 : chk sig p = 0
  rotate_left
  · rw [if_neg c1, if_neg (fun h => c1 h.1)]
  by_cases c2 : chk sig s = 0
  rotate_left
  · rw [if_pos c1, if_neg c2, if_neg (fun h => c2 h.2)]
  rw [if_pos c1, if_pos c2, if_pos ⟨c1, c2⟩]
  obtain ⟨k0, r1⟩ := qlt9 hS (sm _ hp) c1
  obtain ⟨_, r2⟩ := qlt9 hS (sm _ hs) c2
  obtain ⟨x, hx, h⟩ := qsj9 (qca9 k0) hp [] p.length 0 1 s [] (by omega) hs (by simp) (by simp) (by rw [List.drop_zero]; exact qiD9 r1) (qiD9 r2)
  simp only [Int.natCast_zero, List.map_nil, List.drop_zero] at hx h
  rw [hx]
  unfold Small at hp
  cases hm : mat sig p s [] with
  | none => rw [hm] at h; simp only at h; subst h; rfl
  | some o =>
    rw [hm] at h
    obtain ⟨hnd, hlen, a, b, m, rfl⟩ := h
    simp only [Option.bind_some, qwR9 hnd (by omega)]
end Ld.Law
namespace Ld.Law
open Go Go.Abs Go.Lib
set_option maxRecDepth 8000
theorem wh_of {σ ρ : Type} {step : σ → Option (σ ⊕ ρ)} : ∀ (n : Nat) {s : σ} {r : ρ}, itW step n s = some r → wh step s = some r := by
  intro n
  induction n with
  | zero => intro s r h; cases h
  | succ n ih =>
    intro s r h
    simp only [itW] at h
    rw [wh_eq]
    cases hs : step s with
    | none => rw [hs] at h; cases h
    | some x =>
      rw [hs] at h
      cases x with
      | inl s' => exact ih h
      | inr q => exact h
def three : List Symbol := [⟨{ data := #[122, 101, 114, 111] }, 0⟩, ⟨{ data := #[115] }, 1⟩, ⟨{ data := #[112, 108, 117, 115] }, 2⟩]
theorem qvn9 : SigOK three := by
  intro s hs
  simp only [three, List.mem_cons, List.not_mem_nil, or_false] at hs
  rcases hs with rfl | rfl | rfl <;> decide
theorem qln9 {s : ByteArray} (h0 : ¬ s = { data := #[] }) (h1 : ¬ 32 < (s.size : Int)) (h2 : validD s.data.toList = true) (h3 : itW (qbd9 s s) 33 0 = some (.inr s.size)) : qW9 s = some true := by
  simp only [qW9]
  rw [if_neg h0, if_neg h1, qbe9, if_pos (by omega), h2]
  simp only [Option.bind_some, if_true]
  rw [wh_of 33 h3]; rfl
theorem qub9 : qw9 three = some 0 := by
  have n0 : qW9 { data := #[122, 101, 114, 111] } = some true := qln9 (by decide) (by decide) (by decide +kernel) (by decide +kernel)
  have n1 : qW9 { data := #[115] } = some true := qln9 (by decide) (by decide) (by decide +kernel) (by decide +kernel)
  have n2 : qW9 { data := #[112, 108, 117, 115] } = some true := qln9 (by decide) (by decide) (by decide +kernel) (by decide +kernel)
  have s0 : qE9 three three (three.length : Int) 0 = some (.inl 1) := by
    simp only [qE9]
    rw [if_pos (by decide), show idx three 0 = some ⟨{ data := #[122, 101, 114, 111] }, 0⟩ from rfl]
    simp only [Option.bind_some, n0, if_true]
    rw [if_neg (by decide), if_neg (by decide), show cutL three 0 0 = some [] from rfl]
    simp only [Option.bind_some]
    rw [qhk9 (by decide)]
    rfl
  have s1 : qE9 three three (three.length : Int) 1 = some (.inl 2) := by
    simp only [qE9]
    rw [if_pos (by decide), show idx three 1 = some ⟨{ data := #[115] }, 1⟩ from rfl]
    simp only [Option.bind_some, n1, if_true]
    rw [if_neg (by decide), if_neg (by decide), show cutL three 0 1 = some (three.take 1) from rfl]
    simp only [Option.bind_some]
    rw [qhk9 (by decide), show ((three.take 1).findIdx? fun a => decide (a.Name = (⟨{ data := #[115] }, 1⟩ : Symbol).Name)).isSome = false by decide +kernel]
    rfl
  have s2 : qE9 three three (three.length : Int) 2 = some (.inl 3) := by
    simp only [qE9]
    rw [if_pos (by decide), show idx three 2 = some ⟨{ data := #[112, 108, 117, 115] }, 2⟩ from rfl]
    simp only [Option.bind_some, n2, if_true]
    rw [if_neg (by decide), if_neg (by decide), show cutL three 0 2 = some (three.take 2) from rfl]
    simp only [Option.bind_some]
    rw [qhk9 (by decide), show ((three.take 2).findIdx? fun a => decide (a.Name = (⟨{ data := #[112, 108, 117, 115] }, 2⟩ : Symbol).Name)).isSome = false by decide +kernel]
    rfl
  have s3 : qE9 three three (three.length : Int) 3 = some (.inr (.inr 3)) := by
    simp only [qE9]
    rw [if_neg (by decide)]
  simp only [qw9]
  rw [if_neg (by decide), qy9 s0, qy9 s1, qy9 s2, qg9 s3]
  rfl
end Ld.Law

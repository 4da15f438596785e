import Derived.Test.YtigabemldjdlhaaDoorMiq7
set_option maxHeartbeats 400000
set_option linter.unusedVariables false
set_option linter.unusedSimpArgs false
namespace Ld.Law
open Go Go.Abs Go.Lib
/-! ### inside a match -/
theorem mat_keys {sig : List Symbol} : ∀ (p s : List Int) (o o' : List Bind), mat sig p s o = some o' → ∀ b ∈ o', b ∈ o ∨ ∃ c ∈ p, c < 0 ∧ b.Var = -1 - c := by
  intro p
  induction p with
  | nil =>
    intro s o o' hm b hb
    simp only [mat, Option.some.injEq] at hm
    subst hm; exact .inl hb
  | cons c p ih =>
    intro s o o' hm b hb
    have up : (∃ d ∈ p, d < 0 ∧ b.Var = -1 - d) → ∃ d ∈ c :: p, d < 0 ∧ b.Var = -1 - d := fun ⟨d, h1, h2⟩ => ⟨d, List.mem_cons_of_mem _ h1, h2⟩
    simp only [mat] at hm
    by_cases h0 : 0 ≤ c
    · rw [if_pos h0] at hm
      cases s with
      | nil => cases hm
      | cons a r =>
        simp only at hm
        split at hm
        · exact (ih _ _ _ hm b hb).imp id up
        · cases hm
    · rw [if_neg h0] at hm
      cases hv : bnd? o (-1 - c) with
      | some u =>
        rw [hv] at hm
        simp only at hm
        split at hm
        · exact (ih _ _ _ hm b hb).imp id up
        · cases hm
      | none =>
        rw [hv] at hm
        simp only at hm
        rcases ih _ _ _ hm b hb with h | h
        · rcases List.mem_append.1 h with h | h
          · exact .inl h
          · rw [List.mem_singleton] at h; subst h
            exact .inr ⟨c, List.mem_cons_self .., by omega, rfl⟩
        · exact .inr (up h)
theorem appF_len (β : Int → List Int) : ∀ (p : List Int) (c : Int), c ∈ p → c < 0 → (β (-1 - c)).length ≤ (appF β p).length := by
  intro p
  induction p with
  | nil => intro c h; cases h
  | cons a r ih =>
    intro c h hneg
    rw [appF_cons, List.length_append]
    rcases List.mem_cons.1 h with rfl | h
    · rw [if_neg (by omega)]; omega
    · have := ih c h hneg; omega
/-- what a match of right rows gives -/
structure MatOK (sig : List Symbol) (p t : List Int) (o : List Bind) : Prop where
  eq : t = appF (bf o) p
  has : ∀ c ∈ p, c < 0 → ∃ u, bnd? o (-1 - c) = some u
  ok : ∀ b ∈ o, TOK sig b.T
  rng : ∀ b ∈ o, 0 ≤ b.Var ∧ b.Var < 1048576
  nodup : (o.map (·.Var)).Nodup
  keys : ∀ b ∈ o, ∃ c ∈ p, c < 0 ∧ b.Var = -1 - c
  len : o.length ≤ p.length
theorem matOK {sig : List Symbol} {p t : List Int} {o : List Bind} (hp : TOK sig p) (ht : TOK sig t) (hm : mat sig p t [] = some o) : MatOK sig p t o := by
  obtain ⟨_, h2, h3, h4, h5, h6, h7⟩ := mat_sound p 1 t [] o hm hp ht
  refine ⟨h2, h3, h4 (fun b h => by cases h), h5 (fun b h => by cases h), h6 (by simp), fun b hb => ?_, by simpa using h7⟩
  rcases mat_keys _ _ _ _ hm b hb with h | h
  · cases h
  · exact h
theorem MatOK.tok {sig : List Symbol} {p t : List Int} {o : List Bind} (h : MatOK sig p t o) {c : Int} (hc : c ∈ p) (hneg : c < 0) : TOK sig (bf o (-1 - c)) := by
  obtain ⟨u, hu⟩ := h.has c hc hneg
  obtain ⟨b, hb, _, rfl⟩ := bnd_mem hu
  unfold bf
  rw [hu, Option.getD_some]
  exact h.ok b hb
theorem MatOK.tlen {sig : List Symbol} {p t : List Int} {o : List Bind} (h : MatOK sig p t o) {b : Bind} (hb : b ∈ o) : b.T.length ≤ t.length := by
  obtain ⟨c, hc, hneg, hv⟩ := h.keys b hb
  have := appF_len (bf o) p c hc hneg
  rw [← h.eq] at this
  have e : bf o (-1 - c) = b.T := by unfold bf; rw [← hv, bnd_of_mem h.nodup hb]; rfl
  rwa [e] at this
theorem matR_cases {sig : List Symbol} (p s : List Int) : (∃ o, chk sig p = 0 ∧ chk sig s = 0 ∧ mat sig p s [] = some o ∧ matR sig p s = (sortB o, true)) ∨ matR sig p s = ([], false) := by
  unfold matR
  by_cases h : chk sig p = 0 ∧ chk sig s = 0
  · rw [if_pos h]
    cases hm : mat sig p s [] with
    | none => exact .inr rfl
    | some o => exact .inl ⟨o, h.1, h.2, rfl, rfl⟩
  · rw [if_neg h]; exact .inr rfl
/-- a sub-bind is found -/
theorem found_eq {sig : List Symbol} {p t u v : List Int} {b c : List Bind} {e1 e2 e3 e4 : Int} {x1 x2 x3 : Bool} {d : Bind} {i : Nat} (hd : c[i]? = some d) (hl : d.T.length ≤ 1048576) (hb : b.length ≤ 1048576) (hbl : ∀ a ∈ b, a.T.length ≤ 1048576) (heq : ∀ a ∈ b, a.Var = d.Var → a.T = d.T) (hin : d.Var ∈ b.map (·.Var)) :
    wh (l05_MatchInside_l2 sig p t x1 b x2 e1 e2 e3 e4 u v c x3 (i : Int)) (false, 0) = some true := by
  have := wh_up0 (step := l05_MatchInside_l2 sig p t x1 b x2 e1 e2 e3 e4 u v c x3 (i : Int)) (fun k => (decide (d.Var ∈ (b.take k).map (·.Var)), (k : Int))) b.length (r := true) (fun k hk => ?_) ?_
  · simpa using this
  · have hx : b[k]? = some b[k] := List.getElem?_eq_getElem hk
    have hm := List.mem_of_getElem? hx
    have htk : b.take (k + 1) = b.take k ++ [b[k]] := by rw [List.take_add_one, hx]; rfl
    have hw : w64 ((k : Int) + 1) = ((k + 1 : Nat) : Int) := by rw [w64_small (by omega) (by omega)]; omega
    simp only [l05_MatchInside_l2]
    rw [if_pos (by omega), idx_nat hx, idx_nat hd]
    simp only [Option.bind_some, hw, htk, List.map_append, List.map_cons, List.map_nil, List.mem_append, List.mem_singleton]
    by_cases hv : b[k].Var = d.Var
    · have hl2 := hbl _ hm
      rw [if_pos hv, sameRow_eq (by omega), decide_eq_true (heq _ hm hv), decide_eq_true (Or.inr hv.symm)]
      rfl
    · rw [if_neg hv]
      have e : (d.Var ∈ List.map (fun x => x.Var) (List.take k b) ∨ d.Var = b[k].Var) ↔ d.Var ∈ List.map (fun x => x.Var) (List.take k b) := ⟨fun h => h.resolve_right (fun e => hv e.symm), .inl⟩
      rw [decide_eq_decide.2 e]
  · simp only [l05_MatchInside_l2]
    rw [if_neg (by omega), List.take_length, decide_eq_true hin]
theorem inside_loop {sig : List Symbol} {p t : List Int} {o : List Bind} (hS : SigOK sig) (hk0 : term_CheckSig sig = some 0) (hp : Small p) (ht : Small t) (hO : MatOK sig p t o) : ∀ (n i h k : Nat), i + n = p.length → h ≤ t.length → rdT sig (p.drop i) k = ([], 0) → t.drop h = appF (bf o) (p.drop i) →
    ∃ x : Int × Int, wh (l05_MatchInside_l0 sig p t true (sortB o) true 0 0) ((h : Int), (i : Int)) = some (.inr x) := by
  have hA := checkSig_ar hk0
  unfold Small at hp ht
  intro n
  induction n with
  | zero =>
    intro i h k hi hh hr he
    exact ⟨((h : Int), (i : Int)), wh_done (r := Sum.inr ((h : Int), (i : Int))) (by simp only [l05_MatchInside_l0]; rw [if_neg (by omega)])⟩
  | succ n ih =>
    intro i h k hi hh hr he
    have hlt : i < p.length := by omega
    have hx : p[i]? = some p[i] := List.getElem?_eq_getElem hlt
    have hcons : p.drop i = p[i] :: p.drop (i + 1) := List.drop_eq_getElem_cons hlt
    have hne : p.drop i ≠ [] := fun e => by rw [e] at hcons; cases hcons
    obtain ⟨j, rfl, h1, h2⟩ := rdT_head hr hne
    have hsub : ∀ c ∈ p.drop i, c ∈ p := fun c hc => List.mem_of_mem_drop hc
    have hβ : ∀ c ∈ p.drop i, c < 0 → TOK sig (bf o (-1 - c)) := fun c hc hneg => hO.tok (hsub c hc) hneg
    have hs := appF_ok (β := bf o) (p.drop i) (j + 1) hr hβ
    rw [← he] at hs
    have hsl := rdT_len _ _ hs
    rw [List.length_drop] at hsl
    have hfr := first_rest sig (p.drop i)
    have hfu := first_ok h1
    have hfin : ∀ c ∈ first sig (p.drop i), c ∈ p.drop i := fun c hc => by rw [← hfr]; exact List.mem_append_left _ hc
    have hv : TOK sig (appF (bf o) (first sig (p.drop i))) := appF_ok _ 1 hfu (fun c hc => hβ c (hfin c hc))
    have hsp : t.drop h = appF (bf o) (first sig (p.drop i)) ++ appF (bf o) (rest sig (p.drop i)) := by rw [he, ← appF_app, hfr]
    obtain ⟨f1, f2⟩ := first_app hv (appF (bf o) (rest sig (p.drop i)))
    rw [← hsp] at f1 f2
    have hs1 : (rdT sig (t.drop h) 1).2 = 0 := by rw [hsp]; have := rdT_app (appF (bf o) (rest sig (p.drop i))) _ 1 0 hv; rw [Nat.add_zero, rdT_zero] at this; rw [this]
    have e1 := End_eq hA (show p.length < 17179869184 by omega) (by omega) h1
    have e2 := End_eq hA (show t.length < 17179869184 by omega) hh hs1
    have lp := congrArg List.length hfr
    rw [List.length_append, List.length_drop] at lp
    have ls := congrArg List.length hsp
    rw [List.length_append, List.length_drop] at ls
    have c1 : cutL p (i : Int) ((i + (first sig (p.drop i)).length : Nat) : Int) = some (first sig (p.drop i)) := by
      rw [cutL_nat (by omega) (by omega), Nat.add_sub_cancel_left]
      have := congrArg (List.take (first sig (p.drop i)).length) hfr
      rw [List.take_left] at this
      rw [← this]
    rw [f1] at e2
    have c2 : cutL t (h : Int) ((h + (appF (bf o) (first sig (p.drop i))).length : Nat) : Int) = some (appF (bf o) (first sig (p.drop i))) := by
      rw [cutL_nat (by omega) (by omega), Nat.add_sub_cancel_left, hsp, List.take_left]
    obtain ⟨c', m1, m2⟩ := mat_complete (sig := sig) (β := bf o) (first sig (p.drop i)) 1 [] hfu (fun c hc => hβ c (hfin c hc)) (fun v u hvu => by simp [bnd?] at hvu)
    have hC := matOK hfu hv m1
    have su : Small (first sig (p.drop i)) := by unfold Small; omega
    have sv : Small (appF (bf o) (first sig (p.drop i))) := by unfold Small; omega
    have hmm : match_Match sig (first sig (p.drop i)) (appF (bf o) (first sig (p.drop i))) = some (sortB c', true) := by
      rw [Match_eq hS su sv]
      unfold matR
      rw [if_pos ⟨chk_of (by omega) hk0 (TOK_right hfu), chk_of (by omega) hk0 (TOK_right hv)⟩, m1]
    have hperm := sortB_perm o
    have hpermc := sortB_perm c'
    have nd : ((sortB o).map (·.Var)).Nodup := (hperm.map (·.Var)).nodup_iff.2 hO.nodup
    have inner : wh (l05_MatchInside_l1 sig p t true (sortB o) true 0 0 (h : Int) (i : Int) (first sig (p.drop i)) (appF (bf o) (first sig (p.drop i))) (sortB c') true) 0 = some (.inr ()) := by
      have hcl : (sortB c').length ≤ 1048576 := by rw [hpermc.length_eq]; have := hC.len; omega
      have := wh_up0 (step := l05_MatchInside_l1 sig p t true (sortB o) true 0 0 (h : Int) (i : Int) (first sig (p.drop i)) (appF (bf o) (first sig (p.drop i))) (sortB c') true) (fun k => (k : Int)) (sortB c').length (r := .inr ()) (fun k hk => ?_) (by simp only [l05_MatchInside_l1]; rw [if_neg (by omega)])
      · simpa using this
      · have hd : (sortB c')[k]? = some (sortB c')[k] := List.getElem?_eq_getElem hk
        have hdm := hpermc.mem_iff.1 (List.mem_of_getElem? hd)
        obtain ⟨q, hq, hneg, hqv⟩ := hC.keys _ hdm
        have hbd := bnd_of_mem hC.nodup hdm
        have hT := m2 _ _ hbd
        obtain ⟨w, hw⟩ := hO.has q (hsub q (hfin q hq)) hneg
        rw [← hqv] at hw
        have hTw : w = (sortB c')[k].T := by rw [← hT]; unfold bf; rw [hw]; rfl
        obtain ⟨a0, ha0, hav, haT⟩ := bnd_mem hw
        have hf := found_eq (sig := sig) (p := p) (t := t) (u := first sig (p.drop i)) (v := appF (bf o) (first sig (p.drop i))) (b := sortB o) (c := sortB c') (e1 := 0) (e2 := 0) (e3 := (h : Int)) (e4 := (i : Int)) (x1 := true) (x2 := true) (x3 := true) hd
          (by have := hC.tlen hdm; omega) (by rw [hperm.length_eq]; have := hO.len; omega) (fun a ha => by have := hO.tlen (hperm.mem_iff.1 ha); omega)
          (fun a ha hv => by
            have h3 := bnd_of_mem hO.nodup (hperm.mem_iff.1 ha)
            rw [hv, hw] at h3
            rw [← Option.some.inj h3, hTw])
          (List.mem_map.2 ⟨a0, hperm.mem_iff.2 ha0, hav⟩)
        have hw2 : w64 ((k : Int) + 1) = ((k + 1 : Nat) : Int) := by rw [w64_small (by omega) (by omega)]; omega
        simp only [l05_MatchInside_l1]
        rw [if_pos (by omega), hf, hw2]
        rfl
    have hw3 : w64 ((i : Int) + 1) = ((i + 1 : Nat) : Int) := by rw [w64_small (by omega) (by omega)]; omega
    have hw4 : w64 ((h : Int) + 1) = ((h + 1 : Nat) : Int) := by rw [w64_small (by omega) (by omega)]; omega
    have step : l05_MatchInside_l0 sig p t true (sortB o) true 0 0 ((h : Int), (i : Int)) = if p[i] < 0 then some (.inl (((h + (appF (bf o) (first sig (p.drop i))).length : Nat) : Int), ((i + 1 : Nat) : Int))) else some (.inl (((h + 1 : Nat) : Int), ((i + 1 : Nat) : Int))) := by
      simp only [l05_MatchInside_l0]
      rw [if_pos (by omega), if_neg (by omega), e1]
      simp only [Option.bind_some, c1, e2, c2, hmm, if_true, inner, idx_nat hx, hw3, hw4]
    -- the round's end
    rw [hcons] at hr
    simp only [rdT] at hr
    have hc : ¬ ((sig.length : Int) ≤ p[i] ∨ p[i] < -1048576) := fun hc => by rw [if_pos hc] at hr; simp at hr
    rw [if_neg hc] at hr
    by_cases hneg : p[i] < 0
    · rw [if_pos hneg] at step
      rw [wh_next step]
      have ha : arOf sig p[i] = 0 := by unfold arOf; rw [if_neg (by omega)]
      have htk : TOK sig [p[i]] := by unfold TOK; simp only [rdT]; rw [if_neg hc, ha]; rfl
      obtain ⟨g1, g2⟩ := first_app htk (p.drop (i + 1))
      rw [List.singleton_append, ← hcons] at g1 g2
      rw [ha, Nat.add_zero] at hr
      refine ih (i + 1) _ j (by omega) (by omega) hr ?_
      rw [← List.drop_drop, hsp, List.drop_left, g2]
    · rw [if_neg hneg] at step
      rw [wh_next step]
      refine ih (i + 1) (h + 1) _ (by omega) (by omega) hr ?_
      rw [← List.drop_drop, he, hcons, appF_cons, if_pos (by omega)]
      rfl
theorem inside {sig : List Symbol} {p t : List Int} (hS : SigOK sig) (hp : Small p) (ht : Small t) : l05_MatchInside sig p t = some true := by
  have sm : ∀ t : List Int, Small t → t.length < 17179869184 := fun t h => by unfold Small at h; omega
  simp only [l05_MatchInside, shown, Option.bind_some, Match_eq hS hp ht, check_eq (sm _ hp), check_eq (sm _ ht), chk_eq hS (sm _ hp), chk_eq hS (sm _ ht), if_true]
  rcases matR_cases (sig := sig) p t with ⟨o, c1, c2, hm, e⟩ | e
  · obtain ⟨k0, r1⟩ := chk_zero hS (sm _ hp) c1
    obtain ⟨_, r2⟩ := chk_zero hS (sm _ ht) c2
    have hO := matOK (right_rd r1) (right_rd r2) hm
    rw [e, c1, c2]
    simp only [if_true]
    obtain ⟨x, hx⟩ := inside_loop hS k0 hp ht hO p.length 0 0 1 (by omega) (by omega) (by rw [List.drop_zero]; exact right_rd r1) (by rw [List.drop_zero, List.drop_zero]; exact hO.eq)
    rw [Int.natCast_zero] at hx
    rw [hx]
    rfl
  · rw [e]
    rfl
theorem szL_intsI (l : List Int) : l.length ≤ szLL (l.map intD) := by
  have := len_szLL (xs := l.map intD) (fun a ha => by obtain ⟨n, _, rfl⟩ := List.mem_map.1 ha; simp [intD])
  simpa using this
theorem small_ints {l : List Int} {n : Nat} (h : szL ((lsD intD) l) + n ≤ 1048576) : Small l := by
  have h1 := szL_intsI l
  simp only [lsD, szL, szD] at h
  unfold Small
  omega
theorem small_sigI {l : List Symbol} {n : Nat} (h : szL ((lsD encSymbol) l) + n ≤ 1048576) : SigOK l := by
  intro s hs
  have h1 := szL_map (f := encSymbol) hs
  simp only [lsD, encSymbol, szL, szD] at h h1
  omega
theorem inside_law {a0 : List Symbol} {a1 a2 : List Int} (_ : okL okSymbol a0) (_ : okL (okI .i64) a1) (_ : okL (okI .i64) a2) (hs : szL ((lsD encSymbol) a0) + szL ((lsD intD) a1) + szL ((lsD intD) a2) ≤ 1048576) : l05_MatchInside a0 a1 a2 = some true :=
  inside (small_sigI (n := 0) (by omega)) (small_ints (n := 0) (by omega)) (small_ints (n := 0) (by omega))
end Ld.Law

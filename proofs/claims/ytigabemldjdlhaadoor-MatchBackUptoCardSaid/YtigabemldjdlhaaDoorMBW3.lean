import Derived.Test.YtigabemldjdlhaaDoorMBW2
set_option maxHeartbeats 400000
set_option linter.unusedVariables false
set_option linter.unusedSimpArgs false
namespace Ld
open Go Go.Proofs Go.Abs
set_option maxRecDepth 8000
def b23_0 : ACode := .seq (.seq (.reg [] [] [.M 8 7, .K 9 (.bin .gtr (.tmp 8) (cI 0))]) (.cond (.tmp 9) (some 9) (.skip) (.exit 0))) (.block 1 66048 (.seq (.reg [] [] [.M 10 7, .T 11 (.bin .sub (.tmp 10) (cI 1)), .N 7 11]) (.seq (.seq (.reg [] [] [.M 12 1, .M 13 2, .T 14 (.ix 1 (.tmp 12) (.tmp 13)), .T 15 (.load none (.tmp 14)), .K 16 (.bin .geq (.tmp 15) (cI 0))]) (.cond (.tmp 16) (some 16) (.reg [] [] [.M 17 7, .M 18 0, .M 19 1, .M 20 2, .T 21 (.ix 1 (.tmp 19) (.tmp 20)), .T 22 (.load none (.tmp 21)), .T 23 (.ix 2 (.tmp 18) (.tmp 22)), .T 24 (.fa 1 (.tmp 23)), .T 25 (.load none (.tmp 24)), .T 26 (.bin .add (.tmp 17) (.tmp 25)), .N 7 26]) (.skip))) (.reg [] [] [.M 27 2, .T 28 (.bin .add (.tmp 27) (cI 1)), .N 2 28]))))
def c23 : ACode := .seq (.reg [] [] [.K 6 (.mv (cI 0))]) (.seq (.reg [] [] [.K 7 (.mv (cI 1))]) (.seq (.block 0 66048 (.loop b23_0)) (.seq (.reg [] [] [.M 29 2, .N 6 29]) (.ret))))
theorem is23 : IsF C 23 30 66247 c23 [.tmp 6] := ⟨⟨Tryd.f23, _, C_P ▸ Tryd.func23, rfl, rfl, rfl, by kernel_rfl, rfl⟩⟩
def r03_End_S0 (s0 : List Symbol) (s1 : List Int) : Int × Int → Unit → St := fun (s2, s7) _ => ⟨[(0, .d (.rd (s0.map encSymbol))), (1, .d (.rd (s1.map intD))), (2, PI s2), (6, PI 0), (7, PI s7)], []⟩
def r03_End_X0 (s0 : List Symbol) (s1 : List Int) : (Int × Int) → AExit × St → Prop := fun (s2, s7) q => q = (.exit 0, ⟨[(0, .d (.rd (s0.map encSymbol))), (1, .d (.rd (s1.map intD))), (2, PI s2), (6, PI 0), (7, PI s7)], []⟩)
set_option maxHeartbeats 4000000 in
theorem r03_End_R0 (s0 : List Symbol) (s1 : List Int) : ∀ (s : Int × Int) (g : Unit) r, r03_End_l0 s0 s1 s = some r → Sum.elim (fun s' => ∃ g', semA C (Lim C) 66247 b23_0 (r03_End_S0 s0 s1 s g) = some (.normal, r03_End_S0 s0 s1 s' g')) (fun x => ∃ q, semA C (Lim C) 66247 b23_0 (r03_End_S0 s0 s1 s g) = some q ∧ q.1 ≠ .normal ∧ r03_End_X0 s0 s1 x q) r := by
  intro s g r hr
  obtain ⟨s2, s7⟩ := s
  simp only [r03_End_l0] at hr
  rcases Classical.propComplete (0 < s7) with h1 | h1
  simp only [h1, if_true] at hr
  obtain ⟨x1, h2, hr⟩ := bsome hr
  rcases Classical.propComplete (0 ≤ x1) with h3 | h3
  simp only [h3, if_true] at hr
  obtain ⟨x2, h4, hr⟩ := bsome hr
  obtain rfl := Option.some.inj hr
  refine ⟨(), ?_⟩
  rotate_left
  simp only [h3, if_false] at hr
  obtain rfl := Option.some.inj hr
  refine ⟨(), ?_⟩
  rotate_left
  simp only [h1, if_false] at hr
  obtain rfl := Option.some.inj hr
  refine ⟨(.exit 0, ⟨[(0, .d (.rd (s0.map encSymbol))), (1, .d (.rd (s1.map intD))), (2, PI s2), (6, PI 0), (7, PI s7)], []⟩), ?_, nofun, rfl⟩
  rotate_left
  all_goals (simp (config := {decide := true}) only [go_sem, Int.reduceToNat, Nat.reduceAdd, Nat.reduceLT, Nat.reduceMul, Nat.reducePow, reduceCtorEq, r03_End_S0, b23_0, *])
theorem r03_End_L0 {s0 : List Symbol} {s1 : List Int} {s : Int × Int} {g : Unit} {x} (h : wh (r03_End_l0 s0 s1) s = some x) : ∃ q, loopLim (semA C (Lim C) 66247 b23_0) (r03_End_S0 s0 s1 s g) = some q ∧ r03_End_X0 s0 s1 x q := wh_sim (r03_End_R0 s0 s1) h
set_option maxHeartbeats 4000000 in
theorem r03_End_R {a0 : List Symbol} {a1 : List Int} {a2 : Int} {r : Int} (hr : r03_End a0 a1 a2 = some r) : ∃ p hp, Lim C 23 [.d (.rd (a0.map encSymbol)), .d (.rd (a1.map intD)), PI a2] [] = some (p, hp) ∧ rsT hp p = some (PI r) := by
  simp only [r03_End] at hr
  obtain ⟨x3, h1, hr⟩ := bsome hr
  obtain ⟨q1, h1L, h1X⟩ := r03_End_L0 (g := ()) h1
  obtain ⟨x4, x5⟩ := x3
  simp only [r03_End_X0, r03_End_S0] at h1X h1L
  subst h1X
  try simp only [go_sem, Nat.reduceAdd] at h1L
  obtain rfl := Option.some.inj hr
  refine run_ok is23 (Nat.le_of_ble_eq_true rfl) (q := (.ret, ⟨[(0, .d (.rd (a0.map encSymbol))), (1, .d (.rd (a1.map intD))), (2, PI x4), (6, PI x4), (7, PI x5)], []⟩)) ?_ (.inr rfl) ⟨[PI x4], rfl, ?_⟩
  rotate_left 2
  all_goals (simp (config := {decide := true}) only [go_sem, Int.reduceToNat, Nat.reduceAdd, Nat.reduceLT, Nat.reduceMul, Nat.reducePow, reduceCtorEq, callEnv, c23, *])
theorem r03_End_k {a0 : List Symbol} {a1 : List Int} {a2 : Int} {r : Int} (hr : r03_End a0 a1 a2 = some r) {h : AHeap} : callP C (Lim C) 23 [.d (.rd (a0.map encSymbol)), .d (.rd (a1.map intD)), PI a2] h = some (PI r, h) := call_of (ds := [.rd (a0.map encSymbol), .rd (a1.map intD), .v (.int .i64 a2)]) rfl rfl rfl (r03_End_R hr) h
def b67_0 : ACode := .seq (.seq (.reg [] [] [.M 6 5, .M 7 0, .T 8 (.len (.tmp 7)), .K 9 (.bin .lss (.tmp 6) (.tmp 8))]) (.cond (.tmp 9) (some 9) (.skip) (.exit 0))) (.seq (.block 1 262656 (.seq (.reg [] [] [.M 12 0, .M 13 5, .T 14 (.ix 2 (.tmp 12) (.tmp 13)), .T 15 (.fa 0 (.tmp 14)), .T 16 (.load none (.tmp 15)), .M 17 1, .K 18 (.bin .eql (.tmp 16) (.tmp 17))]) (.cond (.tmp 18) (some 18) (.seq (.reg [] [] [.M 19 5, .N 4 19]) (.ret)) (.skip)))) (.reg [] [] [.M 10 5, .T 11 (.bin .add (.tmp 10) (cI 1)), .N 5 11]))
def c67 : ACode := .seq (.reg [] [] [.K 4 (.mv (cI 0))]) (.seq (.seq (.reg [] [] [.K 5 (.mv (cI 0))]) (.block 0 262656 (.loop b67_0))) (.seq (.reg [] [] [.K 4 (.mv (cI (-1)))]) (.ret)))
theorem is67 : IsF C 67 20 262707 c67 [.tmp 4] := ⟨⟨Tryd.f67, _, C_P ▸ Tryd.func67, rfl, rfl, rfl, by kernel_rfl, rfl⟩⟩
def r05_bound_S0 (s0 : List Bind) (s1 : Int) : Int → Unit → St := fun s5 _ => ⟨[(0, .d (.rd (s0.map encBind))), (1, PI s1), (4, PI 0), (5, PI s5)], []⟩
def r05_bound_X0 (s0 : List Bind) (s1 : Int) : (Int ⊕ Int) → AExit × St → Prop
  | .inl r, q => q.1 = .ret ∧ RetOK C [.tmp 4] q.2 (PI r)
  | .inr s5, q => q = (.exit 0, ⟨[(0, .d (.rd (s0.map encBind))), (1, PI s1), (4, PI 0), (5, PI s5)], []⟩)
set_option maxHeartbeats 4000000 in
theorem r05_bound_R0 (s0 : List Bind) (s1 : Int) : ∀ (s : Int) (g : Unit) r, r05_bound_l0 s0 s1 s = some r → Sum.elim (fun s' => ∃ g', semA C (Lim C) 262707 b67_0 (r05_bound_S0 s0 s1 s g) = some (.normal, r05_bound_S0 s0 s1 s' g')) (fun x => ∃ q, semA C (Lim C) 262707 b67_0 (r05_bound_S0 s0 s1 s g) = some q ∧ q.1 ≠ .normal ∧ r05_bound_X0 s0 s1 x q) r := by
  intro s g r hr
  have ⟨s5, hs0⟩ : ∃ y, y = s := ⟨_, rfl⟩
  subst hs0
  simp only [r05_bound_l0] at hr
  rcases Classical.propComplete (s5 < (s0.length : Int)) with h1 | h1
  simp only [h1, if_true] at hr
  obtain ⟨x1, h2, hr⟩ := bsome hr
  rcases Classical.propComplete (x1.Var = s1) with h3 | h3
  simp only [h3, if_true] at hr
  obtain rfl := Option.some.inj hr
  refine ⟨(.ret, ⟨[(0, .d (.rd (s0.map encBind))), (1, PI s1), (4, PI s5), (5, PI s5)], []⟩), ?_, nofun, rfl, [PI s5], rfl, ?_⟩
  rotate_left 2
  simp only [h3, if_false] at hr
  obtain rfl := Option.some.inj hr
  refine ⟨(), ?_⟩
  rotate_left
  simp only [h1, if_false] at hr
  obtain rfl := Option.some.inj hr
  refine ⟨(.exit 0, ⟨[(0, .d (.rd (s0.map encBind))), (1, PI s1), (4, PI 0), (5, PI s5)], []⟩), ?_, nofun, rfl⟩
  rotate_left
  all_goals (simp (config := {decide := true}) only [go_sem, Int.reduceToNat, Nat.reduceAdd, Nat.reduceLT, Nat.reduceMul, Nat.reducePow, reduceCtorEq, r05_bound_S0, b67_0, *])
theorem r05_bound_L0 {s0 : List Bind} {s1 : Int} {s : Int} {g : Unit} {x} (h : wh (r05_bound_l0 s0 s1) s = some x) : ∃ q, loopLim (semA C (Lim C) 262707 b67_0) (r05_bound_S0 s0 s1 s g) = some q ∧ r05_bound_X0 s0 s1 x q := wh_sim (r05_bound_R0 s0 s1) h
set_option maxHeartbeats 4000000 in
theorem r05_bound_R {a0 : List Bind} {a1 : Int} {r : Int} (hr : r05_bound a0 a1 = some r) : ∃ p hp, Lim C 67 [.d (.rd (a0.map encBind)), PI a1] [] = some (p, hp) ∧ rsT hp p = some (PI r) := by
  simp only [r05_bound] at hr
  obtain ⟨x2, h1, hr⟩ := bsome hr
  obtain ⟨q1, h1L, h1X⟩ := r05_bound_L0 (g := ()) h1
  rcases x2 with x3 | x4
  simp only [r05_bound_X0, r05_bound_S0] at h1X h1L
  obtain ⟨e1, st1⟩ := q1
  obtain ⟨rfl, h1R⟩ := h1X
  try simp only [go_sem, Nat.reduceAdd] at h1L
  obtain rfl := Option.some.inj hr
  refine run_ok is67 (Nat.le_of_ble_eq_true rfl) ?_ (.inr rfl) h1R
  rotate_left
  simp only [r05_bound_X0, r05_bound_S0] at h1X h1L
  subst h1X
  try simp only [go_sem, Nat.reduceAdd] at h1L
  obtain rfl := Option.some.inj hr
  refine run_ok is67 (Nat.le_of_ble_eq_true rfl) (q := (.ret, ⟨[(0, .d (.rd (a0.map encBind))), (1, PI a1), (4, PI (-1)), (5, PI x4)], []⟩)) ?_ (.inr rfl) ⟨[PI (-1)], rfl, ?_⟩
  rotate_left 2
  all_goals (simp (config := {decide := true}) only [go_sem, Int.reduceToNat, Nat.reduceAdd, Nat.reduceLT, Nat.reduceMul, Nat.reducePow, reduceCtorEq, callEnv, c67, *])
theorem r05_bound_o {a0 : List Bind} {a1 : Int} {r : Int} (hr : r05_bound a0 a1 = some r) {h : AHeap} {args : List PV} (ha : mapO (rs h depth) args = some [.rd (a0.map encBind), .v (.int .i64 a1)]) : callP C (Lim C) 67 args h = some (PI r, if scalar (PI r) = true then h else freezeAll (args.flatMap (reach h depth)) h) := call_own rfl rfl rfl (r05_bound_R hr) ha
def b68_0 : ACode := .seq (.seq (.reg [] [] [.M 11 5, .M 12 0, .T 13 (.len (.tmp 12)), .K 14 (.bin .lss (.tmp 11) (.tmp 13))]) (.cond (.tmp 14) (some 14) (.skip) (.exit 0))) (.seq (.block 1 33570816 (.seq (.reg [] [] [.M 17 0, .M 18 5, ⟨some (19, false), .ix 1 (.tmp 17) (.tmp 18), none, true, false⟩, ⟨some (20, false), .load none (.tmp 19), none, true, false⟩, .M 21 1, .M 22 5, ⟨some (23, false), .ix 1 (.tmp 21) (.tmp 22), none, true, false⟩, ⟨some (24, false), .load none (.tmp 23), none, true, false⟩, .K 25 (.bin .neq (.tmp 20) (.tmp 24))]) (.cond (.tmp 25) (some 25) (.seq (.reg [] [] [.K 4 (.mv (.const (.bool false)))]) (.ret)) (.skip)))) (.reg [] [] [.M 15 5, .T 16 (.bin .add (.tmp 15) (cI 1)), .N 5 16]))
def c68 : ACode := .seq (.reg [] [] [.K 4 (.mv (.const (.bool false)))]) (.seq (.seq (.reg [] [] [.M 6 0, .T 7 (.len (.tmp 6)), .M 8 1, .T 9 (.len (.tmp 8)), .K 10 (.bin .neq (.tmp 7) (.tmp 9))]) (.cond (.tmp 10) (some 10) (.seq (.reg [] [] [.K 4 (.mv (.const (.bool false)))]) (.ret)) (.skip))) (.seq (.seq (.reg [] [] [.K 5 (.mv (cI 0))]) (.block 0 33570816 (.loop b68_0))) (.seq (.reg [] [] [.K 4 (.mv (.const (.bool true)))]) (.ret))))
theorem is68 : IsF C 68 26 33571891 c68 [.tmp 4] := ⟨⟨Tryd.f68, _, C_P ▸ Tryd.func68, rfl, rfl, rfl, by kernel_rfl, rfl⟩⟩
def r05_sameRow_S0 (s0 : List Int) (s1 : List Int) : Int → Unit → St := fun s5 _ => ⟨[(0, .d (.rd (s0.map intD))), (1, .d (.rd (s1.map intD))), (4, PB false), (5, PI s5)], []⟩
def r05_sameRow_X0 (s0 : List Int) (s1 : List Int) : (Bool ⊕ Int) → AExit × St → Prop
  | .inl r, q => q.1 = .ret ∧ RetOK C [.tmp 4] q.2 (PB r)
  | .inr s5, q => q = (.exit 0, ⟨[(0, .d (.rd (s0.map intD))), (1, .d (.rd (s1.map intD))), (4, PB false), (5, PI s5)], []⟩)
set_option maxHeartbeats 4000000 in
theorem r05_sameRow_R0 (s0 : List Int) (s1 : List Int) : ∀ (s : Int) (g : Unit) r, r05_sameRow_l0 s0 s1 s = some r → Sum.elim (fun s' => ∃ g', semA C (Lim C) 33571891 b68_0 (r05_sameRow_S0 s0 s1 s g) = some (.normal, r05_sameRow_S0 s0 s1 s' g')) (fun x => ∃ q, semA C (Lim C) 33571891 b68_0 (r05_sameRow_S0 s0 s1 s g) = some q ∧ q.1 ≠ .normal ∧ r05_sameRow_X0 s0 s1 x q) r := by
  intro s g r hr
  have ⟨s5, hs0⟩ : ∃ y, y = s := ⟨_, rfl⟩
  subst hs0
  simp only [r05_sameRow_l0] at hr
  rcases Classical.propComplete (s5 < (s0.length : Int)) with h1 | h1
  simp only [h1, if_true] at hr
  obtain ⟨x1, h2, hr⟩ := bsome hr
  obtain ⟨x2, h3, hr⟩ := bsome hr
  rcases Classical.propComplete (x1 = x2) with h4 | h4
  simp only [h4, if_true] at hr
  obtain rfl := Option.some.inj hr
  refine ⟨(), ?_⟩
  rotate_left
  simp only [h4, if_false] at hr
  obtain rfl := Option.some.inj hr
  refine ⟨(.ret, ⟨[(0, .d (.rd (s0.map intD))), (1, .d (.rd (s1.map intD))), (4, PB false), (5, PI s5)], []⟩), ?_, nofun, rfl, [PB false], rfl, ?_⟩
  rotate_left 2
  simp only [h1, if_false] at hr
  obtain rfl := Option.some.inj hr
  refine ⟨(.exit 0, ⟨[(0, .d (.rd (s0.map intD))), (1, .d (.rd (s1.map intD))), (4, PB false), (5, PI s5)], []⟩), ?_, nofun, rfl⟩
  rotate_left
  all_goals (simp (config := {decide := true}) only [go_sem, Int.reduceToNat, Nat.reduceAdd, Nat.reduceLT, Nat.reduceMul, Nat.reducePow, reduceCtorEq, r05_sameRow_S0, b68_0, *])
theorem r05_sameRow_L0 {s0 : List Int} {s1 : List Int} {s : Int} {g : Unit} {x} (h : wh (r05_sameRow_l0 s0 s1) s = some x) : ∃ q, loopLim (semA C (Lim C) 33571891 b68_0) (r05_sameRow_S0 s0 s1 s g) = some q ∧ r05_sameRow_X0 s0 s1 x q := wh_sim (r05_sameRow_R0 s0 s1) h
set_option maxHeartbeats 4000000 in
theorem r05_sameRow_R {a0 : List Int} {a1 : List Int} {r : Bool} (hr : r05_sameRow a0 a1 = some r) : ∃ p hp, Lim C 68 [.d (.rd (a0.map intD)), .d (.rd (a1.map intD))] [] = some (p, hp) ∧ rsT hp p = some (PB r) := by
  simp only [r05_sameRow] at hr
  rcases Classical.propComplete ((a0.length : Int) = (a1.length : Int)) with h1 | h1
  simp only [h1, if_true] at hr
  obtain ⟨x3, h2, hr⟩ := bsome hr
  obtain ⟨q2, h2L, h2X⟩ := r05_sameRow_L0 (g := ()) h2
  rcases x3 with x4 | x5
  simp only [r05_sameRow_X0, r05_sameRow_S0] at h2X h2L
  obtain ⟨e2, st2⟩ := q2
  obtain ⟨rfl, h2R⟩ := h2X
  try simp only [go_sem, Nat.reduceAdd] at h2L
  obtain rfl := Option.some.inj hr
  refine run_ok is68 (Nat.le_of_ble_eq_true rfl) ?_ (.inr rfl) h2R
  rotate_left
  simp only [r05_sameRow_X0, r05_sameRow_S0] at h2X h2L
  subst h2X
  try simp only [go_sem, Nat.reduceAdd] at h2L
  obtain rfl := Option.some.inj hr
  refine run_ok is68 (Nat.le_of_ble_eq_true rfl) (q := (.ret, ⟨[(0, .d (.rd (a0.map intD))), (1, .d (.rd (a1.map intD))), (4, PB true), (5, PI x5)], []⟩)) ?_ (.inr rfl) ⟨[PB true], rfl, ?_⟩
  rotate_left 2
  simp only [h1, if_false] at hr
  obtain rfl := Option.some.inj hr
  refine run_ok is68 (Nat.le_of_ble_eq_true rfl) (q := (.ret, ⟨[(0, .d (.rd (a0.map intD))), (1, .d (.rd (a1.map intD))), (4, PB false)], []⟩)) ?_ (.inr rfl) ⟨[PB false], rfl, ?_⟩
  rotate_left 2
  all_goals (simp (config := {decide := true}) only [go_sem, Int.reduceToNat, Nat.reduceAdd, Nat.reduceLT, Nat.reduceMul, Nat.reducePow, reduceCtorEq, callEnv, c68, *])
theorem r05_sameRow_k {a0 : List Int} {a1 : List Int} {r : Bool} (hr : r05_sameRow a0 a1 = some r) {h : AHeap} : callP C (Lim C) 68 [.d (.rd (a0.map intD)), .d (.rd (a1.map intD))] h = some (PB r, h) := call_of (ds := [.rd (a0.map intD), .rd (a1.map intD)]) rfl rfl rfl (r05_sameRow_R hr) h
def b69_1 : ACode := .seq (.seq (.reg [] [] [.M 12 5, .M 13 0, .T 14 (.len (.tmp 13)), .K 15 (.bin .lss (.tmp 12) (.tmp 14))]) (.cond (.tmp 15) (some 15) (.skip) (.exit 2))) (.seq (.block 3 9007199254773824 (.seq (.reg [] [] [.M 18 3, ⟨some (19, false), .len (.tmp 18), none, true, false⟩, .T 20 (.bin .eql (.tmp 19) (cI 0)), .M 21 20, .MG 22 21 false 0, .MG 23 21 false 5, ⟨some (24, false), .ix 2 (.tmp 22) (.tmp 23), some (21, false), true, false⟩, .TG 25 21 false (.fa 0 (.tmp 24)), ⟨some (26, false), .load none (.tmp 25), some (21, false), true, false⟩, .MG 27 21 false 3, .MG 28 21 false 3, ⟨some (29, false), .len (.tmp 28), some (21, false), true, false⟩, .TG 30 21 false (.bin .sub (.tmp 29) (cI 1)), ⟨some (31, false), .ix 2 (.tmp 27) (.tmp 30), some (21, false), true, false⟩, .TG 32 21 false (.fa 0 (.tmp 31)), ⟨some (33, false), .load none (.tmp 32), some (21, false), true, false⟩, .TG 34 21 false (.bin .gtr (.tmp 26) (.tmp 33)), .T 35 (.pick (.tmp 21) (.const (.bool true)) (.tmp 34)), .N 6 35]) (.seq (.reg [] [] [.M 36 6, .M 37 36, .MG 38 37 true 4, .TG 39 37 true (.bin .lss (.tmp 38) (cI 0)), .MG 40 37 true 39, .MG 41 40 false 0, .MG 42 40 false 5, ⟨some (43, false), .ix 2 (.tmp 41) (.tmp 42), some (40, false), true, false⟩, .TG 44 40 false (.fa 0 (.tmp 43)), ⟨some (45, false), .load none (.tmp 44), some (40, false), true, false⟩, .MG 46 40 false 0, .MG 47 40 false 4, ⟨some (48, false), .ix 2 (.tmp 46) (.tmp 47), some (40, false), true, false⟩, .TG 49 40 false (.fa 0 (.tmp 48)), ⟨some (50, false), .load none (.tmp 49), some (40, false), true, false⟩, .TG 51 40 false (.bin .lss (.tmp 45) (.tmp 50)), .TG 52 37 true (.pick (.tmp 40) (.const (.bool true)) (.tmp 51)), .K 53 (.pick (.tmp 37) (.tmp 52) (.const (.bool false)))]) (.cond (.tmp 53) (some 53) (.reg [] [] [.M 54 5, .N 4 54]) (.skip))))) (.reg [] [] [.M 16 5, .T 17 (.bin .add (.tmp 16) (cI 1)), .N 5 17]))
def b69_0 : ACode := .seq (.seq (.reg [] [] [.M 7 3, .T 8 (.len (.tmp 7)), .M 9 0, .T 10 (.len (.tmp 9)), .K 11 (.bin .lss (.tmp 8) (.tmp 10))]) (.cond (.tmp 11) (some 11) (.skip) (.exit 0))) (.block 1 9007199254775920 (.seq (.reg [] [] [.K 4 (.mv (cI (-1)))]) (.seq (.seq (.reg [] [] [.K 5 (.mv (cI 0))]) (.block 2 9007199254775904 (.loop b69_1))) (.reg [] [] [.M 55 3, .M 56 0, .M 57 4, .T 58 (.ix 2 (.tmp 56) (.tmp 57)), .T 59 (.load (some 2) (.tmp 58)), .T 60 (.lit 2 [(0, .tmp 59)]), .T 61 (.app 2 32 (.tmp 55) (.tmp 60)), .N 3 61]))))
def c69 : ACode := .seq (.reg [] [(2, 0)] [.K 2 (.mv (.const (.slice none 0 0)))]) (.seq (.reg [] [(3, 2)] [.K 3 (.mv (.const (.slice none 0 0)))]) (.seq (.block 0 9007199254775920 (.loop b69_0)) (.seq (.reg [] [(2, 0)] [.M 62 3, .N 2 62]) (.ret))))
theorem is69 : IsF C 69 63 9007199254775933 c69 [.tmp 2] := ⟨⟨Tryd.f69, _, C_P ▸ Tryd.func69, rfl, rfl, rfl, by kernel_rfl, rfl⟩⟩
def r05_sorted_S1 (s0 : List Bind) (s2 : List Bind) (o3 : List Bind) (v3 : Nat) : Int × Int → Unit → St := fun (s4, s5) _ => ⟨[(0, .d (.rd (s0.map encBind))), (2, .d (.rd (s2.map encBind))), (3, .ref 0 v3 0 o3.length), (4, PI s4), (5, PI s5)], (.row false v3 2 (rowP encBind o3) :: [])⟩
def r05_sorted_X1 (s0 : List Bind) (s2 : List Bind) (o3 : List Bind) (v3 : Nat) : Int → AExit × St → Prop := fun s4 q => ∃ d5 : PV, q = (.exit 2, ⟨[(0, .d (.rd (s0.map encBind))), (2, .d (.rd (s2.map encBind))), (3, .ref 0 v3 0 o3.length), (4, PI s4), (5, d5)], (.row false v3 2 (rowP encBind o3) :: [])⟩)
set_option maxHeartbeats 4000000 in
theorem r05_sorted_R1 (s0 : List Bind) (s2 : List Bind) (o3 : List Bind) (v3 : Nat) : ∀ (s : Int × Int) (g : Unit) r, r05_sorted_l1 s0 s2 o3 s = some r → Sum.elim (fun s' => ∃ g', semA C (Lim C) 9007199254775933 b69_1 (r05_sorted_S1 s0 s2 o3 v3 s g) = some (.normal, r05_sorted_S1 s0 s2 o3 v3 s' g')) (fun x => ∃ q, semA C (Lim C) 9007199254775933 b69_1 (r05_sorted_S1 s0 s2 o3 v3 s g) = some q ∧ q.1 ≠ .normal ∧ r05_sorted_X1 s0 s2 o3 v3 x q) r := by
  intro s g r hr
  obtain ⟨s4, s5⟩ := s
  simp only [r05_sorted_l1] at hr
  rcases Classical.propComplete (s5 < (s0.length : Int)) with h1 | h1
  simp only [h1, if_true] at hr
  rcases Classical.propComplete ((o3.length : Int) = 0) with h2 | h2
  simp only [h2, if_true] at hr
  rcases Classical.propComplete (s4 < 0) with h3 | h3
  simp only [h3, if_true] at hr
  obtain rfl := Option.some.inj hr
  refine ⟨(), ?_⟩
  rotate_left
  simp only [h3, if_false] at hr
  obtain ⟨x1, h4, hr⟩ := bsome hr
  obtain ⟨x2, h5, hr⟩ := bsome hr
  rcases Classical.propComplete (x1.Var < x2.Var) with h6 | h6
  simp only [h6, if_true] at hr
  obtain rfl := Option.some.inj hr
  refine ⟨(), ?_⟩
  rotate_left
  simp only [h6, if_false] at hr
  obtain rfl := Option.some.inj hr
  refine ⟨(), ?_⟩
  rotate_left
  simp only [h2, if_false] at hr
  obtain ⟨x3, h7, hr⟩ := bsome hr
  obtain ⟨x4, h8, hr⟩ := bsome hr
  have h8a := eq_true (idx_some h8).1
  have h8b := eq_true (idx_some h8).2.1
  have h8c := (idx_some h8).2.2
  rcases Classical.propComplete (x4.Var < x3.Var) with h9 | h9
  simp only [h9, if_true] at hr
  rcases Classical.propComplete (s4 < 0) with h10 | h10
  simp only [h10, if_true] at hr
  obtain rfl := Option.some.inj hr
  refine ⟨(), ?_⟩
  rotate_left
  simp only [h10, if_false] at hr
  obtain ⟨x5, h11, hr⟩ := bsome hr
  rcases Classical.propComplete (x3.Var < x5.Var) with h12 | h12
  simp only [h12, if_true] at hr
  obtain rfl := Option.some.inj hr
  refine ⟨(), ?_⟩
  rotate_left
  simp only [h12, if_false] at hr
  obtain rfl := Option.some.inj hr
  refine ⟨(), ?_⟩
  rotate_left
  simp only [h9, if_false] at hr
  obtain rfl := Option.some.inj hr
  refine ⟨(), ?_⟩
  rotate_left
  simp only [h1, if_false] at hr
  obtain rfl := Option.some.inj hr
  refine ⟨(.exit 2, ⟨[(0, .d (.rd (s0.map encBind))), (2, .d (.rd (s2.map encBind))), (3, .ref 0 v3 0 o3.length), (4, PI s4), (5, (PI s5))], (.row false v3 2 (rowP encBind o3) :: [])⟩), ?_, nofun, PI s5, rfl⟩
  rotate_left
  all_goals (simp (config := {decide := true}) only [go_sem, Int.reduceToNat, Nat.reduceAdd, Nat.reduceLT, Nat.reduceMul, Nat.reducePow, reduceCtorEq, r05_sorted_S1, b69_1, *])
theorem r05_sorted_L1 {s0 : List Bind} {s2 : List Bind} {o3 : List Bind} {v3 : Nat} {s : Int × Int} {g : Unit} {x} (h : wh (r05_sorted_l1 s0 s2 o3) s = some x) : ∃ q, loopLim (semA C (Lim C) 9007199254775933 b69_1) (r05_sorted_S1 s0 s2 o3 v3 s g) = some q ∧ r05_sorted_X1 s0 s2 o3 v3 x q := wh_sim (r05_sorted_R1 s0 s2 o3 v3) h
def r05_sorted_S0 (s0 : List Bind) (s2 : List Bind) : (List Bind) → Nat → St := fun o3 v3 => ⟨[(0, .d (.rd (s0.map encBind))), (2, .d (.rd (s2.map encBind))), (3, .ref 0 v3 0 o3.length)], (.row false v3 2 (rowP encBind o3) :: [])⟩
def r05_sorted_X0 (s0 : List Bind) (s2 : List Bind) : ((List Bind)) → AExit × St → Prop := fun o3 q => ∃ v3 : Nat, q = (.exit 0, ⟨[(0, .d (.rd (s0.map encBind))), (2, .d (.rd (s2.map encBind))), (3, .ref 0 v3 0 o3.length)], (.row false v3 2 (rowP encBind o3) :: [])⟩)
set_option maxHeartbeats 4000000 in
theorem r05_sorted_R0 (s0 : List Bind) (s2 : List Bind) : ∀ (s : (List Bind)) (g : Nat) r, r05_sorted_l0 s0 s2 s = some r → Sum.elim (fun s' => ∃ g', semA C (Lim C) 9007199254775933 b69_0 (r05_sorted_S0 s0 s2 s g) = some (.normal, r05_sorted_S0 s0 s2 s' g')) (fun x => ∃ q, semA C (Lim C) 9007199254775933 b69_0 (r05_sorted_S0 s0 s2 s g) = some q ∧ q.1 ≠ .normal ∧ r05_sorted_X0 s0 s2 x q) r := by
  intro s g r hr
  have ⟨o3, hs0⟩ : ∃ y, y = s := ⟨_, rfl⟩
  subst hs0
  have ⟨v3, hg0⟩ : ∃ y, y = g := ⟨_, rfl⟩
  subst hg0
  simp only [r05_sorted_l0] at hr
  rcases Classical.propComplete ((o3.length : Int) < (s0.length : Int)) with h1 | h1
  simp only [h1, if_true] at hr
  obtain ⟨x6, h2, hr⟩ := bsome hr
  obtain ⟨q2, h2L, h2X⟩ := r05_sorted_L1 (v3 := v3) (g := ()) h2
  have ⟨x7, hq2⟩ : ∃ y, y = x6 := ⟨_, rfl⟩
  subst hq2
  simp only [r05_sorted_X1, r05_sorted_S1] at h2X h2L
  obtain ⟨z8, rfl⟩ := h2X
  try simp only [go_sem, Nat.reduceAdd] at h2L
  obtain ⟨x9, h3, hr⟩ := bsome hr
  obtain ⟨h4, hr⟩ := gsome hr
  obtain rfl := Option.some.inj hr
  refine ⟨(v3 + 1), ?_⟩
  rotate_left
  simp only [h1, if_false] at hr
  obtain rfl := Option.some.inj hr
  refine ⟨(.exit 0, ⟨[(0, .d (.rd (s0.map encBind))), (2, .d (.rd (s2.map encBind))), (3, .ref 0 v3 0 o3.length)], (.row false v3 2 (rowP encBind o3) :: [])⟩), ?_, nofun, v3, rfl⟩
  rotate_left
  all_goals (simp (config := {decide := true}) only [go_sem, Int.reduceToNat, Nat.reduceAdd, Nat.reduceLT, Nat.reduceMul, Nat.reducePow, reduceCtorEq, r05_sorted_S0, b69_0, *])
theorem r05_sorted_L0 {s0 : List Bind} {s2 : List Bind} {s : (List Bind)} {g : Nat} {x} (h : wh (r05_sorted_l0 s0 s2) s = some x) : ∃ q, loopLim (semA C (Lim C) 9007199254775933 b69_0) (r05_sorted_S0 s0 s2 s g) = some q ∧ r05_sorted_X0 s0 s2 x q := wh_sim (r05_sorted_R0 s0 s2) h
set_option maxHeartbeats 4000000 in
theorem r05_sorted_R {a0 : List Bind} {r : (List Bind)} (hr : r05_sorted a0 = some r) : ∃ p hp, Lim C 69 [.d (.rd (a0.map encBind))] [] = some (p, hp) ∧ rsT hp p = some (.d (.rd (r.map encBind))) := by
  simp only [r05_sorted] at hr
  obtain ⟨x10, h1, hr⟩ := bsome hr
  obtain ⟨q1, h1L, h1X⟩ := r05_sorted_L0 (g := 0) h1
  have ⟨x11, hq1⟩ : ∃ y, y = x10 := ⟨_, rfl⟩
  subst hq1
  simp only [r05_sorted_X0, r05_sorted_S0] at h1X h1L
  obtain ⟨z12, rfl⟩ := h1X
  try simp only [go_sem, Nat.reduceAdd] at h1L
  obtain rfl := Option.some.inj hr
  refine run_ok is69 (Nat.le_of_ble_eq_true rfl) (q := (.ret, ⟨[(0, .d (.rd (a0.map encBind))), (2, .d (.rd (x11.map encBind))), (3, .ref 0 z12 0 x11.length)], (.row true z12 2 (rowP encBind x11) :: [])⟩)) ?_ (.inr rfl) ⟨[.d (.rd (x11.map encBind))], rfl, ?_⟩
  rotate_left 2
  all_goals (simp (config := {decide := true}) only [go_sem, Int.reduceToNat, Nat.reduceAdd, Nat.reduceLT, Nat.reduceMul, Nat.reducePow, reduceCtorEq, callEnv, c69, *])
theorem r05_sorted_o {a0 : List Bind} {r : (List Bind)} (hr : r05_sorted a0 = some r) {h : AHeap} {args : List PV} (ha : mapO (rs h depth) args = some [.rd (a0.map encBind)]) : callP C (Lim C) 69 args h = some (.d (.rd (r.map encBind)), if scalar (.d (.rd (r.map encBind))) = true then h else freezeAll (args.flatMap (reach h depth)) h) := call_own rfl rfl rfl (r05_sorted_R hr) ha
def b45_0 : ACode := .seq (.seq (.reg [] [] [.M 14 10, .M 15 1, .T 16 (.len (.tmp 15)), .K 17 (.bin .lss (.tmp 14) (.tmp 16))]) (.cond (.tmp 17) (some 17) (.skip) (.exit 0))) (.seq (.block 1 4722384497276761552896 (.seq (.seq (.reg [] [] [.M 20 1, .M 21 10, .T 22 (.ix 1 (.tmp 20) (.tmp 21)), .T 23 (.load none (.tmp 22)), .K 24 (.bin .geq (.tmp 23) (cI 0))]) (.cond (.tmp 24) (some 24) (.seq (.seq (.reg [] [] [.M 25 2, .M 26 9, ⟨some (27, false), .ix 1 (.tmp 25) (.tmp 26), none, true, false⟩, ⟨some (28, false), .load none (.tmp 27), none, true, false⟩, .M 29 1, .M 30 10, ⟨some (31, false), .ix 1 (.tmp 29) (.tmp 30), none, true, false⟩, ⟨some (32, false), .load none (.tmp 31), none, true, false⟩, .K 33 (.bin .neq (.tmp 28) (.tmp 32))]) (.cond (.tmp 33) (some 33) (.seq (.reg [] [(6, 0)] [.K 6 (.mv (.const (.slice none 0 0))), .K 7 (.mv (.const (.bool false)))]) (.ret)) (.skip))) (.seq (.reg [] [] [.M 34 9, .T 35 (.bin .add (.tmp 34) (cI 1)), .N 9 35]) (.exit 1))) (.skip))) (.seq (.reg [] [] [.M 36 0, .M 37 2, .M 38 9, .T 39 (.call 23 [.tmp 36, .tmp 37, .tmp 38]), .N 11 39]) (.seq (.reg [] [(12, 0)] [.T 40 (.lit 1 []), .M 41 2, .M 42 9, .M 43 11, .T 44 (.cut 1 (.tmp 41) (some (.tmp 42)) (some (.tmp 43))), .T 45 (.app 1 8 (.tmp 40) (.tmp 44)), .N 12 45]) (.seq (.reg [] [] [.M 46 8, .M 47 1, .M 48 10, .T 49 (.ix 1 (.tmp 47) (.tmp 48)), .T 50 (.load none (.tmp 49)), .T 51 (.bin .sub (cI (-1)) (.tmp 50)), .T 52 (.call 67 [.tmp 46, .tmp 51]), .N 13 52]) (.seq (.seq (.reg [] [] [.M 53 13, .K 54 (.bin .lss (.tmp 53) (cI 0))]) (.cond (.tmp 54) (some 54) (.reg [] [] [.M 55 8, .M 56 1, .M 57 10, .T 58 (.ix 1 (.tmp 56) (.tmp 57)), .T 59 (.load none (.tmp 58)), .T 60 (.bin .sub (cI (-1)) (.tmp 59)), .M 61 12, .T 62 (.build [(0, 1), (1, 1)] [.d (.v (.int .i64 0)), .im true []] [(0, .tmp 60), (1, .tmp 61)]), .T 63 (.lit 2 [(0, .tmp 62)]), .T 64 (.app 2 32 (.tmp 55) (.tmp 63)), .N 8 64]) (.seq (.reg [] [] [.M 65 8, .M 66 13, .T 67 (.ix 2 (.tmp 65) (.tmp 66)), .T 68 (.fa 1 (.tmp 67)), .T 69 (.load none (.tmp 68)), .M 70 12, .T 71 (.call 68 [.tmp 69, .tmp 70]), .K 72 (.not (.tmp 71))]) (.cond (.tmp 72) (some 72) (.seq (.reg [] [(6, 0)] [.K 6 (.mv (.const (.slice none 0 0))), .K 7 (.mv (.const (.bool false)))]) (.ret)) (.skip))))) (.reg [] [] [.M 73 11, .N 9 73]))))))) (.reg [] [] [.M 18 10, .T 19 (.bin .add (.tmp 18) (cI 1)), .N 10 19]))
def c45 : ACode := .seq (.reg [] [(6, 0)] [.K 6 (.mv (.const (.slice none 0 0))), .K 7 (.mv (.const (.bool false)))]) (.seq (.reg [] [(8, 2)] [.K 8 (.mv (.const (.slice none 0 0)))]) (.seq (.reg [] [] [.K 9 (.mv (cI 0))]) (.seq (.seq (.reg [] [] [.K 10 (.mv (cI 0))]) (.block 0 4722384497276761552896 (.loop b45_0))) (.seq (.reg [] [] [.M 74 8, .T 75 (.call 69 [.tmp 74]), .N 6 75, .K 7 (.mv (.const (.bool true)))]) (.ret)))))
theorem is45 : IsF C 45 76 4722384497276761554887 c45 [.tmp 6, .tmp 7] := ⟨⟨Tryd.f45, _, C_P ▸ Tryd.func45, rfl, rfl, rfl, by kernel_rfl, rfl⟩⟩
def r05_Inner_S0 (s0 : List Symbol) (s1 : List Int) (s2 : List Int) (s6 : List Bind) : Int × Int × (List Bind) → Nat × AHeap → St := fun (s9, s10, o8) (v8, gt) => ⟨[(0, .d (.rd (s0.map encSymbol))), (1, .d (.rd (s1.map intD))), (2, .d (.rd (s2.map intD))), (6, .d (.rd (s6.map encBind))), (7, PB false), (8, .ref 0 v8 0 o8.length), (9, PI s9), (10, PI s10)], (.row false v8 2 (rowP encBind o8) :: gt)⟩
def r05_Inner_X0 (s0 : List Symbol) (s1 : List Int) (s2 : List Int) (s6 : List Bind) : (((List Bind) × Bool) ⊕ (Int × Int × (List Bind))) → AExit × St → Prop
  | .inl r, q => q.1 = .ret ∧ RetOK C [.tmp 6, .tmp 7] q.2 (.tp [.d (.rd (r.1.map encBind)), PB r.2])
  | .inr (s9, s10, o8), q => ∃ v8 : Nat, ∃ h1 : AHeap, q = (.exit 0, ⟨[(0, .d (.rd (s0.map encSymbol))), (1, .d (.rd (s1.map intD))), (2, .d (.rd (s2.map intD))), (6, .d (.rd (s6.map encBind))), (7, PB false), (8, .ref 0 v8 0 o8.length), (9, PI s9), (10, PI s10)], (.row false v8 2 (rowP encBind o8) :: h1)⟩)
set_option maxHeartbeats 4000000 in
theorem r05_Inner_R0 (s0 : List Symbol) (s1 : List Int) (s2 : List Int) (s6 : List Bind) : ∀ (s : Int × Int × (List Bind)) (g : Nat × AHeap) r, r05_Inner_l0 s0 s1 s2 s6 s = some r → Sum.elim (fun s' => ∃ g', semA C (Lim C) 4722384497276761554887 b45_0 (r05_Inner_S0 s0 s1 s2 s6 s g) = some (.normal, r05_Inner_S0 s0 s1 s2 s6 s' g')) (fun x => ∃ q, semA C (Lim C) 4722384497276761554887 b45_0 (r05_Inner_S0 s0 s1 s2 s6 s g) = some q ∧ q.1 ≠ .normal ∧ r05_Inner_X0 s0 s1 s2 s6 x q) r := by
  intro s g r hr
  obtain ⟨s9, s10, o8⟩ := s
  obtain ⟨v8, gt⟩ := g
  simp only [r05_Inner_l0] at hr
  rcases Classical.propComplete (s10 < (s1.length : Int)) with h1 | h1
  simp only [h1, if_true] at hr
  obtain ⟨x1, h2, hr⟩ := bsome hr
  rcases Classical.propComplete (0 ≤ x1) with h3 | h3
  simp only [h3, if_true] at hr
  obtain ⟨x2, h4, hr⟩ := bsome hr
  rcases Classical.propComplete (x2 = x1) with h5 | h5
  simp only [h5, if_true] at hr
  obtain rfl := Option.some.inj hr
  refine ⟨(v8, gt), ?_⟩
  rotate_left
  simp only [h5, if_false] at hr
  obtain rfl := Option.some.inj hr
  refine ⟨(.ret, ⟨[(0, .d (.rd (s0.map encSymbol))), (1, .d (.rd (s1.map intD))), (2, .d (.rd (s2.map intD))), (6, .d (.rd (([] : List Bind).map encBind))), (7, PB false), (8, .ref 0 v8 0 o8.length), (9, PI s9), (10, PI s10)], (.row false v8 2 (rowP encBind o8) :: gt)⟩), ?_, nofun, rfl, [.d (.rd (([] : List Bind).map encBind)), PB false], rfl, ?_⟩
  rotate_left 2
  simp only [h3, if_false] at hr
  obtain ⟨x3, h6, hr⟩ := bsome hr
  have h6k := fun h => r03_End_k (h := h) h6
  try simp only [go_sem] at h6k
  obtain ⟨x4, h7, hr⟩ := bsome hr
  obtain ⟨h8, hr⟩ := gsome hr
  obtain ⟨x5, h9, hr⟩ := bsome hr
  have h9k := fun h args ha => r05_bound_o (h := h) (args := args) h9 ha
  try simp only [go_sem] at h9k
  rcases Classical.propComplete (x5 < 0) with h10 | h10
  simp only [h10, if_true] at hr
  obtain ⟨h11, hr⟩ := gsome hr
  obtain rfl := Option.some.inj hr
  refine ⟨((v8 + 1), (gt ++ (.row true 0 1 (rowP intD x4) :: []))), ?_⟩
  rotate_left
  simp only [h10, if_false] at hr
  obtain ⟨x6, h12, hr⟩ := bsome hr
  have h12a := eq_true (idx_some h12).1
  have h12b := eq_true (idx_some h12).2.1
  have h12c := (idx_some h12).2.2
  obtain ⟨x7, h13, hr⟩ := bsome hr
  have h13k := fun h => r05_sameRow_k (h := h) h13
  try simp only [go_sem] at h13k
  cases h14 : x7
  simp only [h14, Bool.false_eq_true, if_false] at hr
  obtain rfl := Option.some.inj hr
  refine ⟨(.ret, ⟨[(0, .d (.rd (s0.map encSymbol))), (1, .d (.rd (s1.map intD))), (2, .d (.rd (s2.map intD))), (6, .d (.rd (([] : List Bind).map encBind))), (7, PB false), (8, .ref 0 v8 0 o8.length), (9, PI s9), (10, PI s10), (11, PI x3), (12, .d (.rd (x4.map intD))), (13, PI x5)], (.row false v8 2 (rowP encBind o8) :: (gt ++ (.row true 0 1 (rowP intD x4) :: [])))⟩), ?_, nofun, rfl, [.d (.rd (([] : List Bind).map encBind)), PB false], rfl, ?_⟩
  rotate_left 2
  simp only [h14, if_true] at hr
  obtain rfl := Option.some.inj hr
  refine ⟨(v8, (gt ++ (.row true 0 1 (rowP intD x4) :: []))), ?_⟩
  rotate_left
  simp only [h1, if_false] at hr
  obtain rfl := Option.some.inj hr
  refine ⟨(.exit 0, ⟨[(0, .d (.rd (s0.map encSymbol))), (1, .d (.rd (s1.map intD))), (2, .d (.rd (s2.map intD))), (6, .d (.rd (s6.map encBind))), (7, PB false), (8, .ref 0 v8 0 o8.length), (9, PI s9), (10, PI s10)], (.row false v8 2 (rowP encBind o8) :: gt)⟩), ?_, nofun, v8, gt, rfl⟩
  rotate_left
  all_goals (simp (config := {decide := true}) only [go_sem, Int.reduceToNat, Nat.reduceAdd, Nat.reduceLT, Nat.reduceMul, Nat.reducePow, reduceCtorEq, r05_Inner_S0, b45_0, *])
theorem r05_Inner_L0 {s0 : List Symbol} {s1 : List Int} {s2 : List Int} {s6 : List Bind} {s : Int × Int × (List Bind)} {g : Nat × AHeap} {x} (h : wh (r05_Inner_l0 s0 s1 s2 s6) s = some x) : ∃ q, loopLim (semA C (Lim C) 4722384497276761554887 b45_0) (r05_Inner_S0 s0 s1 s2 s6 s g) = some q ∧ r05_Inner_X0 s0 s1 s2 s6 x q := wh_sim (r05_Inner_R0 s0 s1 s2 s6) h
set_option maxHeartbeats 4000000 in
theorem r05_Inner_R {a0 : List Symbol} {a1 : List Int} {a2 : List Int} {r : (List Bind) × Bool} (hr : r05_Inner a0 a1 a2 = some r) : ∃ p hp, Lim C 45 [.d (.rd (a0.map encSymbol)), .d (.rd (a1.map intD)), .d (.rd (a2.map intD))] [] = some (p, hp) ∧ rsT hp p = some (.tp [.d (.rd (r.1.map encBind)), PB r.2]) := by
  simp only [r05_Inner] at hr
  obtain ⟨x8, h1, hr⟩ := bsome hr
  obtain ⟨q1, h1L, h1X⟩ := r05_Inner_L0 (g := (0, [])) h1
  rcases x8 with x9 | ⟨x10, x11, x12⟩
  simp only [r05_Inner_X0, r05_Inner_S0] at h1X h1L
  obtain ⟨e1, st1⟩ := q1
  obtain ⟨rfl, h1R⟩ := h1X
  try simp only [go_sem, Nat.reduceAdd] at h1L
  obtain rfl := Option.some.inj hr
  refine run_ok is45 (Nat.le_of_ble_eq_true rfl) ?_ (.inr rfl) h1R
  rotate_left
  simp only [r05_Inner_X0, r05_Inner_S0] at h1X h1L
  obtain ⟨z13, z14, rfl⟩ := h1X
  try simp only [go_sem, Nat.reduceAdd] at h1L
  obtain ⟨x15, h2, hr⟩ := bsome hr
  have h2k := fun h args ha => r05_sorted_o (h := h) (args := args) h2 ha
  try simp only [go_sem] at h2k
  obtain rfl := Option.some.inj hr
  refine run_ok is45 (Nat.le_of_ble_eq_true rfl) (q := (.ret, ⟨[(0, .d (.rd (a0.map encSymbol))), (1, .d (.rd (a1.map intD))), (2, .d (.rd (a2.map intD))), (6, .d (.rd (x15.map encBind))), (7, PB true), (8, .ref 0 z13 0 x12.length), (9, PI x10), (10, PI x11)], (.row true z13 2 (rowP encBind x12) :: z14)⟩)) ?_ (.inr rfl) ⟨[.d (.rd (x15.map encBind)), PB true], rfl, ?_⟩
  rotate_left 2
  all_goals (simp (config := {decide := true}) only [go_sem, Int.reduceToNat, Nat.reduceAdd, Nat.reduceLT, Nat.reduceMul, Nat.reducePow, reduceCtorEq, callEnv, c45, *])
theorem r05_Inner_k {a0 : List Symbol} {a1 : List Int} {a2 : List Int} {r : (List Bind) × Bool} (hr : r05_Inner a0 a1 a2 = some r) {h : AHeap} : callP C (Lim C) 45 [.d (.rd (a0.map encSymbol)), .d (.rd (a1.map intD)), .d (.rd (a2.map intD))] h = some (.tp [.d (.rd (r.1.map encBind)), PB r.2], h) := call_of (ds := [.rd (a0.map encSymbol), .rd (a1.map intD), .rd (a2.map intD)]) rfl rfl rfl (r05_Inner_R hr) h
def c16 : ACode := .seq (.reg [] [(6, 0)] [.K 6 (.mv (.const (.slice none 0 0))), .K 7 (.mv (.const (.bool false)))]) (.seq (.seq (.reg [] [] [.M 8 0, .M 9 1, .T 10 (.call 21 [.tmp 8, .tmp 9]), .T 11 (.bin .neq (.tmp 10) (cI 0)), .M 12 11, .MG 13 12 false 0, .MG 14 12 false 2, .TG 15 12 false (.call 21 [.tmp 13, .tmp 14]), .TG 16 12 false (.bin .neq (.tmp 15) (cI 0)), .K 17 (.pick (.tmp 12) (.const (.bool true)) (.tmp 16))]) (.cond (.tmp 17) (some 17) (.seq (.reg [] [(6, 0)] [.K 6 (.mv (.const (.slice none 0 0))), .K 7 (.mv (.const (.bool false)))]) (.ret)) (.skip))) (.seq (.reg [] [] [.M 18 0, .M 19 1, .M 20 2, .T 21 (.call 45 [.tmp 18, .tmp 19, .tmp 20]), .T 22 (.ext (.tmp 21) 0), .T 23 (.ext (.tmp 21) 1), .N 6 22, .N 7 23]) (.ret)))
theorem is16 : IsF C 16 24 131271 c16 [.tmp 6, .tmp 7] := ⟨⟨Tryd.f16, _, C_P ▸ Tryd.func16, rfl, rfl, rfl, by kernel_rfl, rfl⟩⟩
set_option maxHeartbeats 4000000 in
theorem r05_Match_R {a0 : List Symbol} {a1 : List Int} {a2 : List Int} {r : (List Bind) × Bool} (hr : r05_Match a0 a1 a2 = some r) : ∃ p hp, Lim C 16 [.d (.rd (a0.map encSymbol)), .d (.rd (a1.map intD)), .d (.rd (a2.map intD))] [] = some (p, hp) ∧ rsT hp p = some (.tp [.d (.rd (r.1.map encBind)), PB r.2]) := by
  simp only [r05_Match] at hr
  obtain ⟨x1, h1, hr⟩ := bsome hr
  have h1k := fun h => r03_Check_k (h := h) h1
  try simp only [go_sem] at h1k
  rcases Classical.propComplete (x1 = 0) with h2 | h2
  simp only [h2, if_true] at hr
  obtain ⟨x2, h3, hr⟩ := bsome hr
  have h3k := fun h => r03_Check_k (h := h) h3
  try simp only [go_sem] at h3k
  rcases Classical.propComplete (x2 = 0) with h4 | h4
  simp only [h4, if_true] at hr
  obtain ⟨x3, h5, hr⟩ := bsome hr
  have h5k := fun h => r05_Inner_k (h := h) h5
  try simp only [go_sem] at h5k
  obtain rfl := Option.some.inj hr
  refine run_ok is16 (Nat.le_of_ble_eq_true rfl) (q := (.ret, ⟨[(0, .d (.rd (a0.map encSymbol))), (1, .d (.rd (a1.map intD))), (2, .d (.rd (a2.map intD))), (6, .d (.rd (x3.1.map encBind))), (7, PB x3.2)], []⟩)) ?_ (.inr rfl) ⟨[.d (.rd (x3.1.map encBind)), PB x3.2], rfl, ?_⟩
  rotate_left 2
  simp only [h4, if_false] at hr
  obtain rfl := Option.some.inj hr
  refine run_ok is16 (Nat.le_of_ble_eq_true rfl) (q := (.ret, ⟨[(0, .d (.rd (a0.map encSymbol))), (1, .d (.rd (a1.map intD))), (2, .d (.rd (a2.map intD))), (6, .d (.rd (([] : List Bind).map encBind))), (7, PB false)], []⟩)) ?_ (.inr rfl) ⟨[.d (.rd (([] : List Bind).map encBind)), PB false], rfl, ?_⟩
  rotate_left 2
  simp only [h2, if_false] at hr
  obtain rfl := Option.some.inj hr
  refine run_ok is16 (Nat.le_of_ble_eq_true rfl) (q := (.ret, ⟨[(0, .d (.rd (a0.map encSymbol))), (1, .d (.rd (a1.map intD))), (2, .d (.rd (a2.map intD))), (6, .d (.rd (([] : List Bind).map encBind))), (7, PB false)], []⟩)) ?_ (.inr rfl) ⟨[.d (.rd (([] : List Bind).map encBind)), PB false], rfl, ?_⟩
  rotate_left 2
  all_goals (simp (config := {decide := true}) only [go_sem, Int.reduceToNat, Nat.reduceAdd, Nat.reduceLT, Nat.reduceMul, Nat.reducePow, reduceCtorEq, callEnv, c16, *])
theorem r05_Match_k {a0 : List Symbol} {a1 : List Int} {a2 : List Int} {r : (List Bind) × Bool} (hr : r05_Match a0 a1 a2 = some r) {h : AHeap} : callP C (Lim C) 16 [.d (.rd (a0.map encSymbol)), .d (.rd (a1.map intD)), .d (.rd (a2.map intD))] h = some (.tp [.d (.rd (r.1.map encBind)), PB r.2], h) := call_of (ds := [.rd (a0.map encSymbol), .rd (a1.map intD), .rd (a2.map intD)]) rfl rfl rfl (r05_Match_R hr) h
def c10 : ACode := .seq (.reg [] [] [.K 4 (.box (.tmp 1)), .K 6 (.mv (.const (.bool false)))]) (.seq (.reg [] [] [⟨some (26, false), .ixArr 2 1 (.tmp 4) (cI 0), none, true, false⟩, ⟨some (27, false), .load none (.tmp 26), none, true, false⟩, ⟨some (28, false), .ixArr 2 1 (.tmp 4) (cI 1), none, true, false⟩, ⟨some (29, false), .load none (.tmp 28), none, true, false⟩, .N 7 27, .N 8 29]) (.seq (.reg [] [] [.T 30 (.call 14 []), .N 9 30]) (.seq (.reg [] [] [.M 31 0, .M 32 7, .T 33 (.call 21 [.tmp 31, .tmp 32]), .N 10 33]) (.seq (.reg [] [] [.M 34 0, .M 35 2, .T 36 (.call 31 [.tmp 34, .tmp 35]), .N 11 36]) (.seq (.seq (.reg [] [] [.M 37 9, .T 38 (.not (.tmp 37)), .M 39 38, .MG 40 39 false 10, .TG 41 39 false (.bin .neq (.tmp 40) (cI 0)), .K 42 (.pick (.tmp 39) (.const (.bool true)) (.tmp 41))]) (.cond (.tmp 42) (some 42) (.seq (.reg [] [] [.M 43 9, .N 6 43]) (.ret)) (.skip))) (.seq (.seq (.reg [] [] [.M 44 11, .K 45 (.bin .eql (.tmp 44) (cI 0))]) (.cond (.tmp 45) (some 45) (.seq (.reg [] [] [.M 47 0, .M 48 2, .M 49 7, .T 50 (.call 32 [.tmp 47, .tmp 48, .tmp 49]), .M 46 50, .T 51 (.ext (.tmp 46) 0), .T 52 (.ext (.tmp 46) 1), .N 12 51, .N 13 52]) (.seq (.reg [] [] [.M 53 13, .K 54 (.bin .eql (.tmp 53) (cI 0))]) (.cond (.tmp 54) (some 54) (.seq (.reg [] [] [.M 56 0, .M 57 7, .M 58 12, .T 59 (.call 15 [.tmp 56, .tmp 57, .tmp 58]), .M 55 59, .T 60 (.ext (.tmp 55) 0), .T 61 (.ext (.tmp 55) 1), .N 14 60, .N 15 61]) (.seq (.reg [] [] [.M 63 0, .M 64 14, .M 65 7, .T 66 (.call 33 [.tmp 63, .tmp 64, .tmp 65]), .M 62 66, .T 67 (.ext (.tmp 62) 0), .T 68 (.ext (.tmp 62) 1), .N 16 67, .N 17 68]) (.seq (.reg [] [] [.M 69 12, .M 70 16, .T 71 (.call 18 [.tmp 69, .tmp 70]), .N 18 71]) (.seq (.reg [] [] [.M 72 15, .T 73 (.not (.tmp 72)), .M 74 73, .MG 75 74 false 17, .TG 76 74 false (.bin .neq (.tmp 75) (cI 0)), .T 77 (.pick (.tmp 74) (.const (.bool true)) (.tmp 76)), .M 78 77, .MG 79 78 false 18, .TG 80 78 false (.not (.tmp 79)), .K 81 (.pick (.tmp 78) (.const (.bool true)) (.tmp 80))]) (.cond (.tmp 81) (some 81) (.seq (.reg [] [] [.K 6 (.mv (.const (.bool false)))]) (.ret)) (.skip)))))) (.skip)))) (.skip))) (.seq (.reg [] [] [.M 83 0, .M 84 7, .M 85 8, .T 86 (.call 15 [.tmp 83, .tmp 84, .tmp 85]), .M 82 86, .T 87 (.ext (.tmp 82) 0), .T 88 (.ext (.tmp 82) 1), .N 19 87, .N 20 88]) (.seq (.reg [] [] [.M 90 0, .M 91 7, .M 92 8, .T 93 (.call 16 [.tmp 90, .tmp 91, .tmp 92]), .M 89 93, .T 94 (.ext (.tmp 89) 0), .T 95 (.ext (.tmp 89) 1), .M 21 94, .N 22 95]) (.seq (.seq (.reg [] [] [.M 96 20, .M 97 22, .K 98 (.binB .neq (.tmp 96) (.tmp 97))]) (.cond (.tmp 98) (some 98) (.seq (.reg [] [] [.K 6 (.mv (.const (.bool false)))]) (.ret)) (.skip))) (.seq (.seq (.reg [] [] [.M 99 20, .T 100 (.not (.tmp 99)), .M 101 100, .MG 102 101 false 8, .TG 103 101 false (.len (.tmp 102)), .TG 104 101 false (.bin .gtr (.tmp 103) (cI 512)), .K 105 (.pick (.tmp 101) (.const (.bool true)) (.tmp 104))]) (.cond (.tmp 105) (some 105) (.seq (.reg [] [] [.K 6 (.mv (.const (.bool true)))]) (.ret)) (.skip))) (.seq (.reg [] [] [.M 107 0, .M 108 19, .M 109 7, .T 110 (.call 32 [.tmp 107, .tmp 108, .tmp 109]), .M 106 110, .T 111 (.ext (.tmp 106) 0), .T 112 (.ext (.tmp 106) 1), .N 23 111, .N 24 112]) (.seq (.reg [] [] [.M 113 23, .M 114 8, .T 115 (.call 18 [.tmp 113, .tmp 114]), .N 25 115]) (.seq (.reg [] [] [.M 116 24, .T 117 (.bin .eql (.tmp 116) (cI 0)), .M 118 117, .MG 119 118 true 25, .T 120 (.pick (.tmp 118) (.tmp 119) (.const (.bool false))), .N 6 120]) (.ret))))))))))))))
theorem is10 : IsF C 10 121 40881734275212055481508020879319 c10 [.tmp 6] := ⟨⟨Tryd.f10, _, C_P ▸ Tryd.func10, rfl, rfl, rfl, by kernel_rfl, rfl⟩⟩
set_option maxHeartbeats 4000000 in
theorem l05_MatchBack_R {a0 : List Symbol} {a1 : (List Int) × (List Int)} {a2 : List Bind} {r : Bool} (hr : l05_MatchBack a0 a1 a2 = some r) : ∃ p hp, Lim C 10 [.d (.rd (a0.map encSymbol)), .d (.ag ((ar2D (lsD intD)) a1)), .d (.rd (a2.map encBind))] [] = some (p, hp) ∧ rsT hp p = some (PB r) := by
  simp only [l05_MatchBack] at hr
  obtain ⟨x1, h1, hr⟩ := bsome hr
  have h1k := fun h => l05_shown_k (h := h) h1
  try simp only [go_sem] at h1k
  obtain ⟨x2, h2, hr⟩ := bsome hr
  have h2k := fun h => r03_Check_k (h := h) h2
  try simp only [go_sem] at h2k
  obtain ⟨x3, h3, hr⟩ := bsome hr
  have h3k := fun h => r04_Check_k (h := h) h3
  try simp only [go_sem] at h3k
  cases h4 : x1
  simp only [h4, Bool.false_eq_true, if_false] at hr
  obtain rfl := Option.some.inj hr
  refine run_ok is10 (Nat.le_of_ble_eq_true rfl) (q := (.ret, ⟨[(0, .d (.rd (a0.map encSymbol))), (1, .d (.ag ((ar2D (lsD intD)) a1))), (2, .d (.rd (a2.map encBind))), (4, .ptr 0 0 0 0), (6, PB x1), (7, .d (.rd (a1.1.map intD))), (8, .d (.rd (a1.2.map intD))), (9, PB x1), (10, PI x2), (11, PI x3)], (.row false 0 2 [[.d (.rd (a1.1.map intD)), .d (.rd (a1.2.map intD))]] :: [])⟩)) ?_ (.inr rfl) ⟨[PB x1], rfl, ?_⟩
  rotate_left 2
  simp only [h4, if_true] at hr
  rcases Classical.propComplete (x2 = 0) with h5 | h5
  simp only [h5, if_true] at hr
  rcases Classical.propComplete (x3 = 0) with h6 | h6
  simp only [h6, if_true] at hr
  obtain ⟨x4, h7, hr⟩ := bsome hr
  have h7k := fun h => r04_Apply_k (h := h) h7
  try simp only [go_sem] at h7k
  rcases Classical.propComplete (x4.2 = 0) with h8 | h8
  simp only [h8, if_true] at hr
  obtain ⟨x5, h9, hr⟩ := bsome hr
  have h9k := fun h => match_Match_k (h := h) h9
  try simp only [go_sem] at h9k
  obtain ⟨x6, h10, hr⟩ := bsome hr
  have h10k := fun h => subst_Apply_k (h := h) h10
  try simp only [go_sem] at h10k
  obtain ⟨x7, h11, hr⟩ := bsome hr
  have h11k := fun h => l05_sameRow_k (h := h) h11
  try simp only [go_sem] at h11k
  cases h12 : x5.2
  simp only [h12, Bool.false_eq_true, if_false] at hr
  obtain rfl := Option.some.inj hr
  refine run_ok is10 (Nat.le_of_ble_eq_true rfl) (q := (.ret, ⟨[(0, .d (.rd (a0.map encSymbol))), (1, .d (.ag ((ar2D (lsD intD)) a1))), (2, .d (.rd (a2.map encBind))), (4, .ptr 0 0 0 0), (6, PB false), (7, .d (.rd (a1.1.map intD))), (8, .d (.rd (a1.2.map intD))), (9, PB x1), (10, PI x2), (11, PI x3), (12, .d (.rd (x4.1.map intD))), (13, PI x4.2), (14, .d (.rd (x5.1.map encBind))), (15, PB x5.2), (16, .d (.rd (x6.1.map intD))), (17, PI x6.2), (18, PB x7)], (.row false 0 2 [[.d (.rd (a1.1.map intD)), .d (.rd (a1.2.map intD))]] :: [])⟩)) ?_ (.inr rfl) ⟨[PB false], rfl, ?_⟩
  rotate_left 2
  simp only [h12, if_true] at hr
  rcases Classical.propComplete (x6.2 = 0) with h13 | h13
  simp only [h13, if_true] at hr
  cases h14 : x7
  simp only [h14, Bool.false_eq_true, if_false] at hr
  obtain rfl := Option.some.inj hr
  refine run_ok is10 (Nat.le_of_ble_eq_true rfl) (q := (.ret, ⟨[(0, .d (.rd (a0.map encSymbol))), (1, .d (.ag ((ar2D (lsD intD)) a1))), (2, .d (.rd (a2.map encBind))), (4, .ptr 0 0 0 0), (6, PB false), (7, .d (.rd (a1.1.map intD))), (8, .d (.rd (a1.2.map intD))), (9, PB x1), (10, PI x2), (11, PI x3), (12, .d (.rd (x4.1.map intD))), (13, PI x4.2), (14, .d (.rd (x5.1.map encBind))), (15, PB x5.2), (16, .d (.rd (x6.1.map intD))), (17, PI x6.2), (18, PB x7)], (.row false 0 2 [[.d (.rd (a1.1.map intD)), .d (.rd (a1.2.map intD))]] :: [])⟩)) ?_ (.inr rfl) ⟨[PB false], rfl, ?_⟩
  rotate_left 2
  simp only [h14, if_true] at hr
  obtain ⟨x8, h15, hr⟩ := bsome hr
  have h15k := fun h => match_Match_k (h := h) h15
  try simp only [go_sem] at h15k
  obtain ⟨x9, h16, hr⟩ := bsome hr
  have h16k := fun h => r05_Match_k (h := h) h16
  try simp only [go_sem] at h16k
  cases h17 : (x8.2 != x9.2)
  simp only [h17, Bool.false_eq_true, if_false] at hr
  cases h18 : x8.2
  simp only [h18, Bool.false_eq_true, if_false] at hr
  try simp only [h18] at h17
  obtain rfl := Option.some.inj hr
  refine run_ok is10 (Nat.le_of_ble_eq_true rfl) (q := (.ret, ⟨[(0, .d (.rd (a0.map encSymbol))), (1, .d (.ag ((ar2D (lsD intD)) a1))), (2, .d (.rd (a2.map encBind))), (4, .ptr 0 0 0 0), (6, PB true), (7, .d (.rd (a1.1.map intD))), (8, .d (.rd (a1.2.map intD))), (9, PB x1), (10, PI x2), (11, PI x3), (12, .d (.rd (x4.1.map intD))), (13, PI x4.2), (14, .d (.rd (x5.1.map encBind))), (15, PB x5.2), (16, .d (.rd (x6.1.map intD))), (17, PI x6.2), (18, PB x7), (19, .d (.rd (x8.1.map encBind))), (20, PB x8.2), (22, PB x9.2)], (.row false 0 2 [[.d (.rd (a1.1.map intD)), .d (.rd (a1.2.map intD))]] :: [])⟩)) ?_ (.inr rfl) ⟨[PB true], rfl, ?_⟩
  rotate_left 2
  simp only [h18, if_true] at hr
  try simp only [h18] at h17
  rcases Classical.propComplete (512 < (a1.2.length : Int)) with h19 | h19
  simp only [h19, if_true] at hr
  obtain rfl := Option.some.inj hr
  refine run_ok is10 (Nat.le_of_ble_eq_true rfl) (q := (.ret, ⟨[(0, .d (.rd (a0.map encSymbol))), (1, .d (.ag ((ar2D (lsD intD)) a1))), (2, .d (.rd (a2.map encBind))), (4, .ptr 0 0 0 0), (6, PB true), (7, .d (.rd (a1.1.map intD))), (8, .d (.rd (a1.2.map intD))), (9, PB x1), (10, PI x2), (11, PI x3), (12, .d (.rd (x4.1.map intD))), (13, PI x4.2), (14, .d (.rd (x5.1.map encBind))), (15, PB x5.2), (16, .d (.rd (x6.1.map intD))), (17, PI x6.2), (18, PB x7), (19, .d (.rd (x8.1.map encBind))), (20, PB x8.2), (22, PB x9.2)], (.row false 0 2 [[.d (.rd (a1.1.map intD)), .d (.rd (a1.2.map intD))]] :: [])⟩)) ?_ (.inr rfl) ⟨[PB true], rfl, ?_⟩
  rotate_left 2
  simp only [h19, if_false] at hr
  obtain ⟨x10, h20, hr⟩ := bsome hr
  have h20k := fun h => r04_Apply_k (h := h) h20
  try simp only [go_sem] at h20k
  obtain ⟨x11, h21, hr⟩ := bsome hr
  have h21k := fun h => l05_sameRow_k (h := h) h21
  try simp only [go_sem] at h21k
  rcases Classical.propComplete (x10.2 = 0) with h22 | h22
  simp only [h22, if_true] at hr
  obtain rfl := Option.some.inj hr
  refine run_ok is10 (Nat.le_of_ble_eq_true rfl) (q := (.ret, ⟨[(0, .d (.rd (a0.map encSymbol))), (1, .d (.ag ((ar2D (lsD intD)) a1))), (2, .d (.rd (a2.map encBind))), (4, .ptr 0 0 0 0), (6, PB x11), (7, .d (.rd (a1.1.map intD))), (8, .d (.rd (a1.2.map intD))), (9, PB x1), (10, PI x2), (11, PI x3), (12, .d (.rd (x4.1.map intD))), (13, PI x4.2), (14, .d (.rd (x5.1.map encBind))), (15, PB x5.2), (16, .d (.rd (x6.1.map intD))), (17, PI x6.2), (18, PB x7), (19, .d (.rd (x8.1.map encBind))), (20, PB x8.2), (22, PB x9.2), (23, .d (.rd (x10.1.map intD))), (24, PI x10.2), (25, PB x11)], (.row false 0 2 [[.d (.rd (a1.1.map intD)), .d (.rd (a1.2.map intD))]] :: [])⟩)) ?_ (.inr rfl) ⟨[PB x11], rfl, ?_⟩
  rotate_left 2
  simp only [h22, if_false] at hr
  obtain rfl := Option.some.inj hr
  refine run_ok is10 (Nat.le_of_ble_eq_true rfl) (q := (.ret, ⟨[(0, .d (.rd (a0.map encSymbol))), (1, .d (.ag ((ar2D (lsD intD)) a1))), (2, .d (.rd (a2.map encBind))), (4, .ptr 0 0 0 0), (6, PB false), (7, .d (.rd (a1.1.map intD))), (8, .d (.rd (a1.2.map intD))), (9, PB x1), (10, PI x2), (11, PI x3), (12, .d (.rd (x4.1.map intD))), (13, PI x4.2), (14, .d (.rd (x5.1.map encBind))), (15, PB x5.2), (16, .d (.rd (x6.1.map intD))), (17, PI x6.2), (18, PB x7), (19, .d (.rd (x8.1.map encBind))), (20, PB x8.2), (22, PB x9.2), (23, .d (.rd (x10.1.map intD))), (24, PI x10.2), (25, PB x11)], (.row false 0 2 [[.d (.rd (a1.1.map intD)), .d (.rd (a1.2.map intD))]] :: [])⟩)) ?_ (.inr rfl) ⟨[PB false], rfl, ?_⟩
  rotate_left 2
  simp only [h17, if_true] at hr
  obtain rfl := Option.some.inj hr
  refine run_ok is10 (Nat.le_of_ble_eq_true rfl) (q := (.ret, ⟨[(0, .d (.rd (a0.map encSymbol))), (1, .d (.ag ((ar2D (lsD intD)) a1))), (2, .d (.rd (a2.map encBind))), (4, .ptr 0 0 0 0), (6, PB false), (7, .d (.rd (a1.1.map intD))), (8, .d (.rd (a1.2.map intD))), (9, PB x1), (10, PI x2), (11, PI x3), (12, .d (.rd (x4.1.map intD))), (13, PI x4.2), (14, .d (.rd (x5.1.map encBind))), (15, PB x5.2), (16, .d (.rd (x6.1.map intD))), (17, PI x6.2), (18, PB x7), (19, .d (.rd (x8.1.map encBind))), (20, PB x8.2), (22, PB x9.2)], (.row false 0 2 [[.d (.rd (a1.1.map intD)), .d (.rd (a1.2.map intD))]] :: [])⟩)) ?_ (.inr rfl) ⟨[PB false], rfl, ?_⟩
  rotate_left 2
  simp only [h13, if_false] at hr
  obtain rfl := Option.some.inj hr
  refine run_ok is10 (Nat.le_of_ble_eq_true rfl) (q := (.ret, ⟨[(0, .d (.rd (a0.map encSymbol))), (1, .d (.ag ((ar2D (lsD intD)) a1))), (2, .d (.rd (a2.map encBind))), (4, .ptr 0 0 0 0), (6, PB false), (7, .d (.rd (a1.1.map intD))), (8, .d (.rd (a1.2.map intD))), (9, PB x1), (10, PI x2), (11, PI x3), (12, .d (.rd (x4.1.map intD))), (13, PI x4.2), (14, .d (.rd (x5.1.map encBind))), (15, PB x5.2), (16, .d (.rd (x6.1.map intD))), (17, PI x6.2), (18, PB x7)], (.row false 0 2 [[.d (.rd (a1.1.map intD)), .d (.rd (a1.2.map intD))]] :: [])⟩)) ?_ (.inr rfl) ⟨[PB false], rfl, ?_⟩
  rotate_left 2
  simp only [h8, if_false] at hr
  obtain ⟨x12, h23, hr⟩ := bsome hr
  have h23k := fun h => match_Match_k (h := h) h23
  try simp only [go_sem] at h23k
  obtain ⟨x13, h24, hr⟩ := bsome hr
  have h24k := fun h => r05_Match_k (h := h) h24
  try simp only [go_sem] at h24k
  cases h25 : (x12.2 != x13.2)
  simp only [h25, Bool.false_eq_true, if_false] at hr
  cases h26 : x12.2
  simp only [h26, Bool.false_eq_true, if_false] at hr
  try simp only [h26] at h25
  obtain rfl := Option.some.inj hr
  refine run_ok is10 (Nat.le_of_ble_eq_true rfl) (q := (.ret, ⟨[(0, .d (.rd (a0.map encSymbol))), (1, .d (.ag ((ar2D (lsD intD)) a1))), (2, .d (.rd (a2.map encBind))), (4, .ptr 0 0 0 0), (6, PB true), (7, .d (.rd (a1.1.map intD))), (8, .d (.rd (a1.2.map intD))), (9, PB x1), (10, PI x2), (11, PI x3), (12, .d (.rd (x4.1.map intD))), (13, PI x4.2), (19, .d (.rd (x12.1.map encBind))), (20, PB x12.2), (22, PB x13.2)], (.row false 0 2 [[.d (.rd (a1.1.map intD)), .d (.rd (a1.2.map intD))]] :: [])⟩)) ?_ (.inr rfl) ⟨[PB true], rfl, ?_⟩
  rotate_left 2
  simp only [h26, if_true] at hr
  try simp only [h26] at h25
  rcases Classical.propComplete (512 < (a1.2.length : Int)) with h27 | h27
  simp only [h27, if_true] at hr
  obtain rfl := Option.some.inj hr
  refine run_ok is10 (Nat.le_of_ble_eq_true rfl) (q := (.ret, ⟨[(0, .d (.rd (a0.map encSymbol))), (1, .d (.ag ((ar2D (lsD intD)) a1))), (2, .d (.rd (a2.map encBind))), (4, .ptr 0 0 0 0), (6, PB true), (7, .d (.rd (a1.1.map intD))), (8, .d (.rd (a1.2.map intD))), (9, PB x1), (10, PI x2), (11, PI x3), (12, .d (.rd (x4.1.map intD))), (13, PI x4.2), (19, .d (.rd (x12.1.map encBind))), (20, PB x12.2), (22, PB x13.2)], (.row false 0 2 [[.d (.rd (a1.1.map intD)), .d (.rd (a1.2.map intD))]] :: [])⟩)) ?_ (.inr rfl) ⟨[PB true], rfl, ?_⟩
  rotate_left 2
  simp only [h27, if_false] at hr
  obtain ⟨x14, h28, hr⟩ := bsome hr
  have h28k := fun h => r04_Apply_k (h := h) h28
  try simp only [go_sem] at h28k
  obtain ⟨x15, h29, hr⟩ := bsome hr
  have h29k := fun h => l05_sameRow_k (h := h) h29
  try simp only [go_sem] at h29k
  rcases Classical.propComplete (x14.2 = 0) with h30 | h30
  simp only [h30, if_true] at hr
  obtain rfl := Option.some.inj hr
  refine run_ok is10 (Nat.le_of_ble_eq_true rfl) (q := (.ret, ⟨[(0, .d (.rd (a0.map encSymbol))), (1, .d (.ag ((ar2D (lsD intD)) a1))), (2, .d (.rd (a2.map encBind))), (4, .ptr 0 0 0 0), (6, PB x15), (7, .d (.rd (a1.1.map intD))), (8, .d (.rd (a1.2.map intD))), (9, PB x1), (10, PI x2), (11, PI x3), (12, .d (.rd (x4.1.map intD))), (13, PI x4.2), (19, .d (.rd (x12.1.map encBind))), (20, PB x12.2), (22, PB x13.2), (23, .d (.rd (x14.1.map intD))), (24, PI x14.2), (25, PB x15)], (.row false 0 2 [[.d (.rd (a1.1.map intD)), .d (.rd (a1.2.map intD))]] :: [])⟩)) ?_ (.inr rfl) ⟨[PB x15], rfl, ?_⟩
  rotate_left 2
  simp only [h30, if_false] at hr
  obtain rfl := Option.some.inj hr
  refine run_ok is10 (Nat.le_of_ble_eq_true rfl) (q := (.ret, ⟨[(0, .d (.rd (a0.map encSymbol))), (1, .d (.ag ((ar2D (lsD intD)) a1))), (2, .d (.rd (a2.map encBind))), (4, .ptr 0 0 0 0), (6, PB false), (7, .d (.rd (a1.1.map intD))), (8, .d (.rd (a1.2.map intD))), (9, PB x1), (10, PI x2), (11, PI x3), (12, .d (.rd (x4.1.map intD))), (13, PI x4.2), (19, .d (.rd (x12.1.map encBind))), (20, PB x12.2), (22, PB x13.2), (23, .d (.rd (x14.1.map intD))), (24, PI x14.2), (25, PB x15)], (.row false 0 2 [[.d (.rd (a1.1.map intD)), .d (.rd (a1.2.map intD))]] :: [])⟩)) ?_ (.inr rfl) ⟨[PB false], rfl, ?_⟩
  rotate_left 2
  simp only [h25, if_true] at hr
  obtain rfl := Option.some.inj hr
  refine run_ok is10 (Nat.le_of_ble_eq_true rfl) (q := (.ret, ⟨[(0, .d (.rd (a0.map encSymbol))), (1, .d (.ag ((ar2D (lsD intD)) a1))), (2, .d (.rd (a2.map encBind))), (4, .ptr 0 0 0 0), (6, PB false), (7, .d (.rd (a1.1.map intD))), (8, .d (.rd (a1.2.map intD))), (9, PB x1), (10, PI x2), (11, PI x3), (12, .d (.rd (x4.1.map intD))), (13, PI x4.2), (19, .d (.rd (x12.1.map encBind))), (20, PB x12.2), (22, PB x13.2)], (.row false 0 2 [[.d (.rd (a1.1.map intD)), .d (.rd (a1.2.map intD))]] :: [])⟩)) ?_ (.inr rfl) ⟨[PB false], rfl, ?_⟩
  rotate_left 2
  simp only [h6, if_false] at hr
  obtain ⟨x16, h31, hr⟩ := bsome hr
  have h31k := fun h => match_Match_k (h := h) h31
  try simp only [go_sem] at h31k
  obtain ⟨x17, h32, hr⟩ := bsome hr
  have h32k := fun h => r05_Match_k (h := h) h32
  try simp only [go_sem] at h32k
  cases h33 : (x16.2 != x17.2)
  simp only [h33, Bool.false_eq_true, if_false] at hr
  cases h34 : x16.2
  simp only [h34, Bool.false_eq_true, if_false] at hr
  try simp only [h34] at h33
  obtain rfl := Option.some.inj hr
  refine run_ok is10 (Nat.le_of_ble_eq_true rfl) (q := (.ret, ⟨[(0, .d (.rd (a0.map encSymbol))), (1, .d (.ag ((ar2D (lsD intD)) a1))), (2, .d (.rd (a2.map encBind))), (4, .ptr 0 0 0 0), (6, PB true), (7, .d (.rd (a1.1.map intD))), (8, .d (.rd (a1.2.map intD))), (9, PB x1), (10, PI x2), (11, PI x3), (19, .d (.rd (x16.1.map encBind))), (20, PB x16.2), (22, PB x17.2)], (.row false 0 2 [[.d (.rd (a1.1.map intD)), .d (.rd (a1.2.map intD))]] :: [])⟩)) ?_ (.inr rfl) ⟨[PB true], rfl, ?_⟩
  rotate_left 2
  simp only [h34, if_true] at hr
  try simp only [h34] at h33
  rcases Classical.propComplete (512 < (a1.2.length : Int)) with h35 | h35
  simp only [h35, if_true] at hr
  obtain rfl := Option.some.inj hr
  refine run_ok is10 (Nat.le_of_ble_eq_true rfl) (q := (.ret, ⟨[(0, .d (.rd (a0.map encSymbol))), (1, .d (.ag ((ar2D (lsD intD)) a1))), (2, .d (.rd (a2.map encBind))), (4, .ptr 0 0 0 0), (6, PB true), (7, .d (.rd (a1.1.map intD))), (8, .d (.rd (a1.2.map intD))), (9, PB x1), (10, PI x2), (11, PI x3), (19, .d (.rd (x16.1.map encBind))), (20, PB x16.2), (22, PB x17.2)], (.row false 0 2 [[.d (.rd (a1.1.map intD)), .d (.rd (a1.2.map intD))]] :: [])⟩)) ?_ (.inr rfl) ⟨[PB true], rfl, ?_⟩
  rotate_left 2
  simp only [h35, if_false] at hr
  obtain ⟨x18, h36, hr⟩ := bsome hr
  have h36k := fun h => r04_Apply_k (h := h) h36
  try simp only [go_sem] at h36k
  obtain ⟨x19, h37, hr⟩ := bsome hr
  have h37k := fun h => l05_sameRow_k (h := h) h37
  try simp only [go_sem] at h37k
  rcases Classical.propComplete (x18.2 = 0) with h38 | h38
  simp only [h38, if_true] at hr
  obtain rfl := Option.some.inj hr
  refine run_ok is10 (Nat.le_of_ble_eq_true rfl) (q := (.ret, ⟨[(0, .d (.rd (a0.map encSymbol))), (1, .d (.ag ((ar2D (lsD intD)) a1))), (2, .d (.rd (a2.map encBind))), (4, .ptr 0 0 0 0), (6, PB x19), (7, .d (.rd (a1.1.map intD))), (8, .d (.rd (a1.2.map intD))), (9, PB x1), (10, PI x2), (11, PI x3), (19, .d (.rd (x16.1.map encBind))), (20, PB x16.2), (22, PB x17.2), (23, .d (.rd (x18.1.map intD))), (24, PI x18.2), (25, PB x19)], (.row false 0 2 [[.d (.rd (a1.1.map intD)), .d (.rd (a1.2.map intD))]] :: [])⟩)) ?_ (.inr rfl) ⟨[PB x19], rfl, ?_⟩
  rotate_left 2
  simp only [h38, if_false] at hr
  obtain rfl := Option.some.inj hr
  refine run_ok is10 (Nat.le_of_ble_eq_true rfl) (q := (.ret, ⟨[(0, .d (.rd (a0.map encSymbol))), (1, .d (.ag ((ar2D (lsD intD)) a1))), (2, .d (.rd (a2.map encBind))), (4, .ptr 0 0 0 0), (6, PB false), (7, .d (.rd (a1.1.map intD))), (8, .d (.rd (a1.2.map intD))), (9, PB x1), (10, PI x2), (11, PI x3), (19, .d (.rd (x16.1.map encBind))), (20, PB x16.2), (22, PB x17.2), (23, .d (.rd (x18.1.map intD))), (24, PI x18.2), (25, PB x19)], (.row false 0 2 [[.d (.rd (a1.1.map intD)), .d (.rd (a1.2.map intD))]] :: [])⟩)) ?_ (.inr rfl) ⟨[PB false], rfl, ?_⟩
  rotate_left 2
  simp only [h33, if_true] at hr
  obtain rfl := Option.some.inj hr
  refine run_ok is10 (Nat.le_of_ble_eq_true rfl) (q := (.ret, ⟨[(0, .d (.rd (a0.map encSymbol))), (1, .d (.ag ((ar2D (lsD intD)) a1))), (2, .d (.rd (a2.map encBind))), (4, .ptr 0 0 0 0), (6, PB false), (7, .d (.rd (a1.1.map intD))), (8, .d (.rd (a1.2.map intD))), (9, PB x1), (10, PI x2), (11, PI x3), (19, .d (.rd (x16.1.map encBind))), (20, PB x16.2), (22, PB x17.2)], (.row false 0 2 [[.d (.rd (a1.1.map intD)), .d (.rd (a1.2.map intD))]] :: [])⟩)) ?_ (.inr rfl) ⟨[PB false], rfl, ?_⟩
  rotate_left 2
  simp only [h5, if_false] at hr
  obtain rfl := Option.some.inj hr
  refine run_ok is10 (Nat.le_of_ble_eq_true rfl) (q := (.ret, ⟨[(0, .d (.rd (a0.map encSymbol))), (1, .d (.ag ((ar2D (lsD intD)) a1))), (2, .d (.rd (a2.map encBind))), (4, .ptr 0 0 0 0), (6, PB x1), (7, .d (.rd (a1.1.map intD))), (8, .d (.rd (a1.2.map intD))), (9, PB x1), (10, PI x2), (11, PI x3)], (.row false 0 2 [[.d (.rd (a1.1.map intD)), .d (.rd (a1.2.map intD))]] :: [])⟩)) ?_ (.inr rfl) ⟨[PB x1], rfl, ?_⟩
  rotate_left 2
  all_goals (simp (config := {decide := true}) only [go_sem, Int.reduceToNat, Nat.reduceAdd, Nat.reduceLT, Nat.reduceMul, Nat.reducePow, reduceCtorEq, callEnv, c10, *])
end Ld

import Derived.Test.YtigabemldjdlhaaDoorMKW2
set_option maxHeartbeats 400000
set_option linter.unusedVariables false
set_option linter.unusedSimpArgs false
namespace Ld
open Go Go.Proofs Go.Abs
set_option maxRecDepth 8000
def b49_0 : ACode := .seq (.seq (.reg [] [] [⟨some (7, false), .mv (.tmp 5), none, false, false⟩, ⟨some (8, true), .bin .gtr (.tmp 7) (.const (.int .i64 0)), none, false, false⟩]) (.cond (.tmp 8) (some 8) (.skip) (.exit 0))) (.seq (.block 1 18014433137672448 (.seq (.seq (.reg [] [] [⟨some (11, false), .mv (.tmp 6), none, false, false⟩, ⟨some (12, false), .mv (.tmp 1), none, false, false⟩, ⟨some (13, false), .len (.tmp 12), none, false, false⟩, ⟨some (14, true), .bin .eql (.tmp 11) (.tmp 13), none, false, false⟩]) (.cond (.tmp 14) (some 14) (.seq (.reg [] [] [⟨some (4, true), .mv (.const (.int .i64 31)), none, false, false⟩]) (.ret)) (.skip))) (.seq (.seq (.reg [] [] [⟨some (15, false), .mv (.tmp 1), none, false, false⟩, ⟨some (16, false), .mv (.tmp 6), none, false, false⟩, ⟨some (17, false), .ix 1 (.tmp 15) (.tmp 16), none, false, false⟩, ⟨some (18, false), .load none (.tmp 17), none, false, false⟩, ⟨some (19, false), .mv (.tmp 0), none, false, false⟩, ⟨some (20, false), .len (.tmp 19), none, false, false⟩, ⟨some (21, false), .bin .geq (.tmp 18) (.tmp 20), none, false, false⟩, ⟨some (22, false), .mv (.tmp 21), none, false, false⟩, ⟨some (23, false), .mv (.tmp 1), some (22, false), false, false⟩, ⟨some (24, false), .mv (.tmp 6), some (22, false), false, false⟩, ⟨some (25, false), .ix 1 (.tmp 23) (.tmp 24), some (22, false), false, false⟩, ⟨some (26, false), .load none (.tmp 25), some (22, false), false, false⟩, ⟨some (27, false), .bin .lss (.tmp 26) (.const (.int .i64 (-1048576))), some (22, false), false, false⟩, ⟨some (28, true), .pick (.tmp 22) (.const (.bool true)) (.tmp 27), none, false, false⟩]) (.cond (.tmp 28) (some 28) (.seq (.reg [] [] [⟨some (4, true), .mv (.const (.int .i64 30)), none, false, false⟩]) (.ret)) (.skip))) (.seq (.reg [] [] [⟨some (29, false), .mv (.tmp 5), none, false, false⟩, ⟨some (30, false), .bin .sub (.tmp 29) (.const (.int .i64 1)), none, false, false⟩, ⟨some (5, true), .mv (.tmp 30), none, false, false⟩]) (.seq (.seq (.reg [] [] [⟨some (31, false), .mv (.tmp 1), none, false, false⟩, ⟨some (32, false), .mv (.tmp 6), none, false, false⟩, ⟨some (33, false), .ix 1 (.tmp 31) (.tmp 32), none, false, false⟩, ⟨some (34, false), .load none (.tmp 33), none, false, false⟩, ⟨some (35, true), .bin .geq (.tmp 34) (.const (.int .i64 0)), none, false, false⟩]) (.cond (.tmp 35) (some 35) (.reg [] [] [⟨some (36, false), .mv (.tmp 5), none, false, false⟩, ⟨some (37, false), .mv (.tmp 0), none, false, false⟩, ⟨some (38, false), .mv (.tmp 1), none, false, false⟩, ⟨some (39, false), .mv (.tmp 6), none, false, false⟩, ⟨some (40, false), .ix 1 (.tmp 38) (.tmp 39), none, false, false⟩, ⟨some (41, false), .load none (.tmp 40), none, false, false⟩, ⟨some (42, false), .ix 2 (.tmp 37) (.tmp 41), none, false, false⟩, ⟨some (43, false), .fa 1 (.tmp 42), none, false, false⟩, ⟨some (44, false), .load none (.tmp 43), none, false, false⟩, ⟨some (45, false), .bin .add (.tmp 36) (.tmp 44), none, false, false⟩, ⟨some (5, true), .mv (.tmp 45), none, false, false⟩]) (.skip))) (.seq (.reg [] [] [⟨some (46, false), .mv (.tmp 5), none, false, false⟩, ⟨some (47, false), .bin .eql (.tmp 46) (.const (.int .i64 0)), none, false, false⟩, ⟨some (48, false), .mv (.tmp 47), none, false, false⟩, ⟨some (49, false), .mv (.tmp 6), some (48, true), false, false⟩, ⟨some (50, false), .bin .add (.tmp 49) (.const (.int .i64 1)), some (48, true), false, false⟩, ⟨some (51, false), .mv (.tmp 1), some (48, true), false, false⟩, ⟨some (52, false), .len (.tmp 51), some (48, true), false, false⟩, ⟨some (53, false), .bin .lss (.tmp 50) (.tmp 52), some (48, true), false, false⟩, ⟨some (54, true), .pick (.tmp 48) (.tmp 53) (.const (.bool false)), none, false, false⟩]) (.cond (.tmp 54) (some 54) (.seq (.reg [] [] [⟨some (4, true), .mv (.const (.int .i64 32)), none, false, false⟩]) (.ret)) (.skip)))))))) (.reg [] [] [⟨some (9, false), .mv (.tmp 6), none, false, false⟩, ⟨some (10, false), .bin .add (.tmp 9) (.const (.int .i64 1)), none, false, false⟩, ⟨some (6, true), .mv (.tmp 10), none, false, false⟩]))
def c49 : ACode := .seq (.reg [] [] [⟨some (4, true), .mv (.const (.int .i64 0)), none, false, false⟩]) (.seq (.reg [] [] [⟨some (5, true), .mv (.const (.int .i64 1)), none, false, false⟩]) (.seq (.seq (.reg [] [] [⟨some (6, true), .mv (.const (.int .i64 0)), none, false, false⟩]) (.block 0 18014433137672448 (.loop b49_0))) (.seq (.reg [] [] [⟨some (4, true), .mv (.const (.int .i64 0)), none, false, false⟩]) (.ret))))
theorem is49 : IsF C 49 55 18014433137672563 c49 [.tmp 4] := ⟨⟨Tryd.f49, _, C_P ▸ Tryd.func49, rfl, rfl, rfl, by kernel_rfl, rfl⟩⟩
def r03_Term_S0 (s0 : List Symbol) (s1 : List Int) : Int × Int → Unit → St := fun (s5, s6) _ => ⟨[(0, .d (.rd (s0.map encSymbol))), (1, .d (.rd (s1.map intD))), (4, .d (.v (.int .i64 0))), (5, .d (.v (.int .i64 s5))), (6, .d (.v (.int .i64 s6)))], []⟩
def r03_Term_X0 (s0 : List Symbol) (s1 : List Int) : (Int ⊕ (Int × Int)) → AExit × St → Prop
  | .inl r, q => q.1 = .ret ∧ RetOK C [.tmp 4] q.2 (.d (.v (.int .i64 r)))
  | .inr (s5, s6), q => q = (.exit 0, ⟨[(0, .d (.rd (s0.map encSymbol))), (1, .d (.rd (s1.map intD))), (4, .d (.v (.int .i64 0))), (5, .d (.v (.int .i64 s5))), (6, .d (.v (.int .i64 s6)))], []⟩)
theorem r03_Term_R0 (s0 : List Symbol) (s1 : List Int) : ∀ (s : Int × Int) (g : Unit) r, r03_Term_l0 s0 s1 s = some r → Sum.elim (fun s' => ∃ g', semA C (Lim C) 18014433137672563 b49_0 (r03_Term_S0 s0 s1 s g) = some (.normal, r03_Term_S0 s0 s1 s' g')) (fun x => ∃ q, semA C (Lim C) 18014433137672563 b49_0 (r03_Term_S0 s0 s1 s g) = some q ∧ q.1 ≠ .normal ∧ r03_Term_X0 s0 s1 x q) r := by
  intro s g r hr
  obtain ⟨s5, s6⟩ := s
  simp only [r03_Term_l0] at hr
  rcases Classical.propComplete (0 < s5) with h1 | h1
  simp only [h1, if_true] at hr
  rcases Classical.propComplete (s6 = (s1.length : Int)) with h2 | h2
  simp only [h2, if_true] at hr
  replace hr := Option.some.inj hr
  subst hr
  refine ⟨(.ret, ⟨[(0, .d (.rd (s0.map encSymbol))), (1, .d (.rd (s1.map intD))), (4, .d (.v (.int .i64 31))), (5, .d (.v (.int .i64 s5))), (6, .d (.v (.int .i64 s6)))], []⟩), ?_, nofun, rfl, [.d (.v (.int .i64 31))], rfl, ?_⟩
  rotate_left 2
  simp only [h2, if_false] at hr
  replace hr := bsome hr
  obtain ⟨x1, h3, hr⟩ := hr
  rcases Classical.propComplete ((s0.length : Int) ≤ x1) with h4 | h4
  simp only [h4, if_true] at hr
  replace hr := Option.some.inj hr
  subst hr
  refine ⟨(.ret, ⟨[(0, .d (.rd (s0.map encSymbol))), (1, .d (.rd (s1.map intD))), (4, .d (.v (.int .i64 30))), (5, .d (.v (.int .i64 s5))), (6, .d (.v (.int .i64 s6)))], []⟩), ?_, nofun, rfl, [.d (.v (.int .i64 30))], rfl, ?_⟩
  rotate_left 2
  simp only [h4, if_false] at hr
  rcases Classical.propComplete (x1 < (-1048576)) with h5 | h5
  simp only [h5, if_true] at hr
  replace hr := Option.some.inj hr
  subst hr
  refine ⟨(.ret, ⟨[(0, .d (.rd (s0.map encSymbol))), (1, .d (.rd (s1.map intD))), (4, .d (.v (.int .i64 30))), (5, .d (.v (.int .i64 s5))), (6, .d (.v (.int .i64 s6)))], []⟩), ?_, nofun, rfl, [.d (.v (.int .i64 30))], rfl, ?_⟩
  rotate_left 2
  simp only [h5, if_false] at hr
  rcases Classical.propComplete (0 ≤ x1) with h6 | h6
  simp only [h6, if_true] at hr
  replace hr := bsome hr
  obtain ⟨x2, h7, hr⟩ := hr
  rcases Classical.propComplete ((w64 ((w64 (s5 - 1)) + x2.Arity)) = 0) with h8 | h8
  simp only [h8, if_true] at hr
  rcases Classical.propComplete ((w64 (s6 + 1)) < (s1.length : Int)) with h9 | h9
  simp only [h9, if_true] at hr
  replace hr := Option.some.inj hr
  subst hr
  refine ⟨(.ret, ⟨[(0, .d (.rd (s0.map encSymbol))), (1, .d (.rd (s1.map intD))), (4, .d (.v (.int .i64 32))), (5, .d (.v (.int .i64 (w64 ((w64 (s5 - 1)) + x2.Arity))))), (6, .d (.v (.int .i64 s6)))], []⟩), ?_, nofun, rfl, [.d (.v (.int .i64 32))], rfl, ?_⟩
  rotate_left 2
  simp only [h9, if_false] at hr
  replace hr := Option.some.inj hr
  subst hr
  refine ⟨(), ?_⟩
  rotate_left
  simp only [h8, if_false] at hr
  replace hr := Option.some.inj hr
  subst hr
  refine ⟨(), ?_⟩
  rotate_left
  simp only [h6, if_false] at hr
  rcases Classical.propComplete ((w64 (s5 - 1)) = 0) with h10 | h10
  simp only [h10, if_true] at hr
  rcases Classical.propComplete ((w64 (s6 + 1)) < (s1.length : Int)) with h11 | h11
  simp only [h11, if_true] at hr
  replace hr := Option.some.inj hr
  subst hr
  refine ⟨(.ret, ⟨[(0, .d (.rd (s0.map encSymbol))), (1, .d (.rd (s1.map intD))), (4, .d (.v (.int .i64 32))), (5, .d (.v (.int .i64 (w64 (s5 - 1))))), (6, .d (.v (.int .i64 s6)))], []⟩), ?_, nofun, rfl, [.d (.v (.int .i64 32))], rfl, ?_⟩
  rotate_left 2
  simp only [h11, if_false] at hr
  replace hr := Option.some.inj hr
  subst hr
  refine ⟨(), ?_⟩
  rotate_left
  simp only [h10, if_false] at hr
  replace hr := Option.some.inj hr
  subst hr
  refine ⟨(), ?_⟩
  rotate_left
  simp only [h1, if_false] at hr
  replace hr := Option.some.inj hr
  subst hr
  refine ⟨(.exit 0, ⟨[(0, .d (.rd (s0.map encSymbol))), (1, .d (.rd (s1.map intD))), (4, .d (.v (.int .i64 0))), (5, .d (.v (.int .i64 s5))), (6, .d (.v (.int .i64 s6)))], []⟩), ?_, nofun, rfl⟩
  rotate_left
  all_goals (simp (config := {decide := true}) only [semA, coA, opsA, opA, guardA, aopA, putA, get2, Env.get, Env.set, Env.del, evO, constPV, cellPV, same, lenA, lenP, slenA, List.length_map, binA, arith, arithS, binB, arithB, fold64, notA, wrapA, cellsAt, cellsB, partA, fldA, agCells, shiftP, List.map_cons, List.map_nil, List.getElem?_cons_zero, List.getElem?_cons_succ, List.drop_succ_cons, List.drop_zero, List.take_succ_cons, List.take_zero, decide_true, decide_false, if_true, if_false, ne_eq, not_true_eq_false, not_false_eq_true, true_or, or_true, or_false, delS, Bool.true_eq_false, Bool.false_eq_true, eq_self, Bool.not_true, Bool.not_false, undefP, undef, opPick, Option.map_some, Option.map_none, Option.bind_some, Option.getD_some, List.length_cons, List.length_nil, Nat.reduceAdd, Nat.reduceLT, Nat.reducePow, Nat.reduceMul, Nat.zero_add, Nat.add_zero, coV, rs_dd, reach_dd, frz_nil, frz_cons, rs_im, rs_ag, rs_fn, reach_fn, rs_ptr, rs_ptr39, reach_ptr, reach_ptr39, rs_ref, rs_ifc, reach_im, reach_ag, reach_ref, reach_ifc, rs_d39, rs_im39, rs_ag39, rs_d38, rs_im38, rs_d37, reach_d39, reach_im39, reach_ag39, reach_d38, reach_im38, reach_d37, mapO, mapO_rowP39, reach_rowP39, List.flatMap_nil, List.flatMap_cons, List.append_nil, List.nil_append, List.cons_append, List.append_assoc, Int.reduceToNat, Nat.zero_mul, Nat.one_mul, buildW, buildRow, okCells, isOne, cellsP, splice, reduceCtorEq, and_self, and_true, true_and, elems_im, elems_ref, elems_rd, appendW, List.all_cons, List.all_nil, beq_self_eq_true, Bool.and_self, Bool.and_true, Bool.true_and, rowP_nil, rowP_cons, rowP_fold, rowP_takeN, rowP_len, rowP_get, Abs.rowAt, storeA, List.set_cons_zero, List.set_cons_succ, gl_get, gl_get0, gl_set, gl_set0, mod_zero, mod_succ, gl_mod, gl_mod0, freeze_row, List.length_append, lookA, mputA, look_int, keyD, toV, okTup, opExtract, scalar, mkMapNA, ixArrA, toStrA, List.length_replicate, List.length_set, Nat.reduceMul, rngA, opNext, ixS_eq, cutS_both, cutS_lo, cutS_hi, mkSlA, bxD, List.set_cons_zero, List.all_cons, opBox, allocA, newRowP, List.take_succ_cons, ix_ref, one_int, one_bool, one_str, one_nilI, asInt', bnd, mapP_nil, mlenA, mapP_len, asr_ok, asr_no, cst0, cst1, cst2, cst3, cst4, cst5, cst6, cst7, cst8, resOf, rsT_d, rsT_tp, rsT_ref, rsT_im, rsT_ag, rsT_ifc, ix_intD, cu_intD, cl_intD, ch_intD, al_intD, sn_intD, pu_intD, pp_intD, mn_intD, ix_boolD, cu_boolD, cl_boolD, ch_boolD, al_boolD, sn_boolD, pu_boolD, pp_boolD, mn_boolD, ix_strD, cu_strD, cl_strD, ch_strD, al_strD, sn_strD, pu_strD, pp_strD, mn_strD, ix_ifD, cu_ifD, cl_ifD, ch_ifD, al_ifD, ix_encSymbol, cu_encSymbol, cl_encSymbol, ch_encSymbol, al_encSymbol, sn_encSymbol, pu_encSymbol, pp_encSymbol, mn_encSymbol, ix_encBind, cu_encBind, cl_encBind, ch_encBind, al_encBind, sn_encBind, pu_encBind, pp_encBind, mn_encBind, ix_encRule, cu_encRule, cl_encRule, ch_encRule, al_encRule, sn_encRule, pu_encRule, pp_encRule, mn_encRule, ix_intu32D, cu_intu32D, cl_intu32D, ch_intu32D, al_intu32D, sn_intu32D, pu_intu32D, pp_intu32D, mn_intu32D, ix_ls, cu_ls, cl_ls, ch_ls, al_ls, sn_ls, pu_ls, pp_ls, ix_lsls, cu_lsls, cl_lsls, ch_lsls, al_lsls, sn_lsls, pu_lsls, pp_lsls, intD, boolD, strD, ifD, lsD, ar2D, ar3D, bxD, encSymbol, encBind, encRule, intu32D, cl_40, primClone, r03_Term_S0, b49_0, *])
theorem r03_Term_L0 {s0 : List Symbol} {s1 : List Int} {s : Int × Int} {g : Unit} {x} (h : wh (r03_Term_l0 s0 s1) s = some x) : ∃ q, loopLim (semA C (Lim C) 18014433137672563 b49_0) (r03_Term_S0 s0 s1 s g) = some q ∧ r03_Term_X0 s0 s1 x q := wh_sim (r03_Term_R0 s0 s1) h
set_option maxHeartbeats 4000000 in
theorem r03_Term_R {a0 : List Symbol} {a1 : List Int} {r : Int} (hr : r03_Term a0 a1 = some r) : ∃ p hp, Lim C 49 [.d (.rd (a0.map encSymbol)), .d (.rd (a1.map intD))] [] = some (p, hp) ∧ rsT hp p = some (.d (.v (.int .i64 r))) := by
  simp only [r03_Term] at hr
  replace hr := bsome hr
  obtain ⟨x3, h1, hr⟩ := hr
  obtain ⟨q1, h1L, h1X⟩ := r03_Term_L0 (g := ()) h1
  rcases x3 with x4 | ⟨x5, x6⟩
  simp only [r03_Term_X0, r03_Term_S0] at h1X h1L
  obtain ⟨e1, st1⟩ := q1
  obtain ⟨rfl, h1R⟩ := h1X
  try simp only [List.map_cons, List.map_nil, List.length_cons, List.length_nil, Nat.reduceAdd, Nat.zero_add, Nat.add_zero, List.nil_append, List.append_nil, rowP_nil, mapP_nil, rowP_cons, decide_true, decide_false, undefP, undef, cst0, cst1, cst2, cst3, cst4, cst5, cst6, cst7, cst8, intD, boolD, strD, ifD, lsD, ar2D, ar3D, bxD, encSymbol, encBind, encRule, intu32D] at h1L
  replace hr := Option.some.inj hr
  subst hr
  refine run_ok is49 (Nat.le_of_ble_eq_true rfl) ?_ (.inr rfl) h1R
  rotate_left
  simp only [r03_Term_X0, r03_Term_S0] at h1X h1L
  subst h1X
  try simp only [List.map_cons, List.map_nil, List.length_cons, List.length_nil, Nat.reduceAdd, Nat.zero_add, Nat.add_zero, List.nil_append, List.append_nil, rowP_nil, mapP_nil, rowP_cons, decide_true, decide_false, undefP, undef, cst0, cst1, cst2, cst3, cst4, cst5, cst6, cst7, cst8, intD, boolD, strD, ifD, lsD, ar2D, ar3D, bxD, encSymbol, encBind, encRule, intu32D] at h1L
  replace hr := Option.some.inj hr
  subst hr
  refine run_ok is49 (Nat.le_of_ble_eq_true rfl) (q := (.ret, ⟨[(0, .d (.rd (a0.map encSymbol))), (1, .d (.rd (a1.map intD))), (4, .d (.v (.int .i64 0))), (5, .d (.v (.int .i64 x5))), (6, .d (.v (.int .i64 x6)))], []⟩)) ?_ (.inr rfl) ⟨[.d (.v (.int .i64 0))], rfl, ?_⟩
  rotate_left 2
  all_goals (simp (config := {decide := true}) only [semA, coA, opsA, opA, guardA, aopA, putA, get2, Env.get, Env.set, Env.del, evO, constPV, cellPV, same, lenA, lenP, slenA, List.length_map, binA, arith, arithS, binB, arithB, fold64, notA, wrapA, cellsAt, cellsB, partA, fldA, agCells, shiftP, List.map_cons, List.map_nil, List.getElem?_cons_zero, List.getElem?_cons_succ, List.drop_succ_cons, List.drop_zero, List.take_succ_cons, List.take_zero, decide_true, decide_false, if_true, if_false, ne_eq, not_true_eq_false, not_false_eq_true, true_or, or_true, or_false, delS, Bool.true_eq_false, Bool.false_eq_true, eq_self, Bool.not_true, Bool.not_false, undefP, undef, opPick, Option.map_some, Option.map_none, Option.bind_some, Option.getD_some, List.length_cons, List.length_nil, Nat.reduceAdd, Nat.reduceLT, Nat.reducePow, Nat.reduceMul, Nat.zero_add, Nat.add_zero, coV, rs_dd, reach_dd, frz_nil, frz_cons, rs_im, rs_ag, rs_fn, reach_fn, rs_ptr, rs_ptr39, reach_ptr, reach_ptr39, rs_ref, rs_ifc, reach_im, reach_ag, reach_ref, reach_ifc, rs_d39, rs_im39, rs_ag39, rs_d38, rs_im38, rs_d37, reach_d39, reach_im39, reach_ag39, reach_d38, reach_im38, reach_d37, mapO, mapO_rowP39, reach_rowP39, List.flatMap_nil, List.flatMap_cons, List.append_nil, List.nil_append, List.cons_append, List.append_assoc, Int.reduceToNat, Nat.zero_mul, Nat.one_mul, buildW, buildRow, okCells, isOne, cellsP, splice, reduceCtorEq, and_self, and_true, true_and, elems_im, elems_ref, elems_rd, appendW, List.all_cons, List.all_nil, beq_self_eq_true, Bool.and_self, Bool.and_true, Bool.true_and, rowP_nil, rowP_cons, rowP_fold, rowP_takeN, rowP_len, rowP_get, Abs.rowAt, storeA, List.set_cons_zero, List.set_cons_succ, gl_get, gl_get0, gl_set, gl_set0, mod_zero, mod_succ, gl_mod, gl_mod0, freeze_row, List.length_append, lookA, mputA, look_int, keyD, toV, okTup, opExtract, scalar, mkMapNA, ixArrA, toStrA, List.length_replicate, List.length_set, Nat.reduceMul, rngA, opNext, ixS_eq, cutS_both, cutS_lo, cutS_hi, mkSlA, bxD, List.set_cons_zero, List.all_cons, opBox, allocA, newRowP, List.take_succ_cons, ix_ref, one_int, one_bool, one_str, one_nilI, asInt', bnd, mapP_nil, mlenA, mapP_len, asr_ok, asr_no, cst0, cst1, cst2, cst3, cst4, cst5, cst6, cst7, cst8, resOf, rsT_d, rsT_tp, rsT_ref, rsT_im, rsT_ag, rsT_ifc, ix_intD, cu_intD, cl_intD, ch_intD, al_intD, sn_intD, pu_intD, pp_intD, mn_intD, ix_boolD, cu_boolD, cl_boolD, ch_boolD, al_boolD, sn_boolD, pu_boolD, pp_boolD, mn_boolD, ix_strD, cu_strD, cl_strD, ch_strD, al_strD, sn_strD, pu_strD, pp_strD, mn_strD, ix_ifD, cu_ifD, cl_ifD, ch_ifD, al_ifD, ix_encSymbol, cu_encSymbol, cl_encSymbol, ch_encSymbol, al_encSymbol, sn_encSymbol, pu_encSymbol, pp_encSymbol, mn_encSymbol, ix_encBind, cu_encBind, cl_encBind, ch_encBind, al_encBind, sn_encBind, pu_encBind, pp_encBind, mn_encBind, ix_encRule, cu_encRule, cl_encRule, ch_encRule, al_encRule, sn_encRule, pu_encRule, pp_encRule, mn_encRule, ix_intu32D, cu_intu32D, cl_intu32D, ch_intu32D, al_intu32D, sn_intu32D, pu_intu32D, pp_intu32D, mn_intu32D, ix_ls, cu_ls, cl_ls, ch_ls, al_ls, sn_ls, pu_ls, pp_ls, ix_lsls, cu_lsls, cl_lsls, ch_lsls, al_lsls, sn_lsls, pu_lsls, pp_lsls, intD, boolD, strD, ifD, lsD, ar2D, ar3D, bxD, encSymbol, encBind, encRule, intu32D, cl_40, primClone, callEnv, c49, *])
theorem r03_Term_k {a0 : List Symbol} {a1 : List Int} {r : Int} (hr : r03_Term a0 a1 = some r) {h : AHeap} : callP C (Lim C) 49 [.d (.rd (a0.map encSymbol)), .d (.rd (a1.map intD))] h = some (.d (.v (.int .i64 r)), h) := call_of (ds := [.rd (a0.map encSymbol), .rd (a1.map intD)]) rfl rfl rfl (r03_Term_R hr) h
theorem r03_Term_o {a0 : List Symbol} {a1 : List Int} {r : Int} (hr : r03_Term a0 a1 = some r) {h : AHeap} {args : List PV} (ha : mapO (rs h depth) args = some [.rd (a0.map encSymbol), .rd (a1.map intD)]) : callP C (Lim C) 49 args h = some (.d (.v (.int .i64 r)), if scalar (.d (.v (.int .i64 r))) = true then h else freezeAll (args.flatMap (reach h depth)) h) := call_own rfl rfl rfl (r03_Term_R hr) ha
def c21 : ACode := .seq (.reg [] [] [⟨some (4, true), .mv (.const (.int .i64 0)), none, false, false⟩]) (.seq (.reg [] [] [⟨some (6, false), .mv (.tmp 0), none, false, false⟩, ⟨some (7, false), .call 48 [.tmp 6], none, false, false⟩, ⟨some (5, true), .mv (.tmp 7), none, false, false⟩]) (.seq (.seq (.reg [] [] [⟨some (8, false), .mv (.tmp 5), none, false, false⟩, ⟨some (9, true), .bin .neq (.tmp 8) (.const (.int .i64 0)), none, false, false⟩]) (.cond (.tmp 9) (some 9) (.seq (.reg [] [] [⟨some (10, false), .mv (.tmp 5), none, false, false⟩, ⟨some (4, true), .mv (.tmp 10), none, false, false⟩]) (.ret)) (.skip))) (.seq (.reg [] [] [⟨some (11, false), .mv (.tmp 0), none, false, false⟩, ⟨some (12, false), .mv (.tmp 1), none, false, false⟩, ⟨some (13, false), .call 49 [.tmp 11, .tmp 12], none, false, false⟩, ⟨some (4, true), .mv (.tmp 13), none, false, false⟩]) (.ret))))
theorem is21 : IsF C 21 14 563 c21 [.tmp 4] := ⟨⟨Tryd.f21, _, C_P ▸ Tryd.func21, rfl, rfl, rfl, by kernel_rfl, rfl⟩⟩
set_option maxHeartbeats 4000000 in
theorem r03_Check_R {a0 : List Symbol} {a1 : List Int} {r : Int} (hr : r03_Check a0 a1 = some r) : ∃ p hp, Lim C 21 [.d (.rd (a0.map encSymbol)), .d (.rd (a1.map intD))] [] = some (p, hp) ∧ rsT hp p = some (.d (.v (.int .i64 r))) := by
  simp only [r03_Check] at hr
  replace hr := bsome hr
  obtain ⟨x1, h1, hr⟩ := hr
  have h1k := fun h => r03_CheckSig_k (h := h) h1
  try simp only [intD, boolD, strD, ifD, lsD, ar2D, ar3D, bxD, encSymbol, encBind, encRule, intu32D, List.map_cons, List.map_nil] at h1k
  rcases Classical.propComplete (x1 = 0) with h2 | h2
  simp only [h2, if_true] at hr
  replace hr := bsome hr
  obtain ⟨x2, h3, hr⟩ := hr
  have h3k := fun h => r03_Term_k (h := h) h3
  try simp only [intD, boolD, strD, ifD, lsD, ar2D, ar3D, bxD, encSymbol, encBind, encRule, intu32D, List.map_cons, List.map_nil] at h3k
  replace hr := Option.some.inj hr
  subst hr
  refine run_ok is21 (Nat.le_of_ble_eq_true rfl) (q := (.ret, ⟨[(0, .d (.rd (a0.map encSymbol))), (1, .d (.rd (a1.map intD))), (4, .d (.v (.int .i64 x2))), (5, .d (.v (.int .i64 x1)))], []⟩)) ?_ (.inr rfl) ⟨[.d (.v (.int .i64 x2))], rfl, ?_⟩
  rotate_left 2
  simp only [h2, if_false] at hr
  replace hr := Option.some.inj hr
  subst hr
  refine run_ok is21 (Nat.le_of_ble_eq_true rfl) (q := (.ret, ⟨[(0, .d (.rd (a0.map encSymbol))), (1, .d (.rd (a1.map intD))), (4, .d (.v (.int .i64 x1))), (5, .d (.v (.int .i64 x1)))], []⟩)) ?_ (.inr rfl) ⟨[.d (.v (.int .i64 x1))], rfl, ?_⟩
  rotate_left 2
  all_goals (simp (config := {decide := true}) only [semA, coA, opsA, opA, guardA, aopA, putA, get2, Env.get, Env.set, Env.del, evO, constPV, cellPV, same, lenA, lenP, slenA, List.length_map, binA, arith, arithS, binB, arithB, fold64, notA, wrapA, cellsAt, cellsB, partA, fldA, agCells, shiftP, List.map_cons, List.map_nil, List.getElem?_cons_zero, List.getElem?_cons_succ, List.drop_succ_cons, List.drop_zero, List.take_succ_cons, List.take_zero, decide_true, decide_false, if_true, if_false, ne_eq, not_true_eq_false, not_false_eq_true, true_or, or_true, or_false, delS, Bool.true_eq_false, Bool.false_eq_true, eq_self, Bool.not_true, Bool.not_false, undefP, undef, opPick, Option.map_some, Option.map_none, Option.bind_some, Option.getD_some, List.length_cons, List.length_nil, Nat.reduceAdd, Nat.reduceLT, Nat.reducePow, Nat.reduceMul, Nat.zero_add, Nat.add_zero, coV, rs_dd, reach_dd, frz_nil, frz_cons, rs_im, rs_ag, rs_fn, reach_fn, rs_ptr, rs_ptr39, reach_ptr, reach_ptr39, rs_ref, rs_ifc, reach_im, reach_ag, reach_ref, reach_ifc, rs_d39, rs_im39, rs_ag39, rs_d38, rs_im38, rs_d37, reach_d39, reach_im39, reach_ag39, reach_d38, reach_im38, reach_d37, mapO, mapO_rowP39, reach_rowP39, List.flatMap_nil, List.flatMap_cons, List.append_nil, List.nil_append, List.cons_append, List.append_assoc, Int.reduceToNat, Nat.zero_mul, Nat.one_mul, buildW, buildRow, okCells, isOne, cellsP, splice, reduceCtorEq, and_self, and_true, true_and, elems_im, elems_ref, elems_rd, appendW, List.all_cons, List.all_nil, beq_self_eq_true, Bool.and_self, Bool.and_true, Bool.true_and, rowP_nil, rowP_cons, rowP_fold, rowP_takeN, rowP_len, rowP_get, Abs.rowAt, storeA, List.set_cons_zero, List.set_cons_succ, gl_get, gl_get0, gl_set, gl_set0, mod_zero, mod_succ, gl_mod, gl_mod0, freeze_row, List.length_append, lookA, mputA, look_int, keyD, toV, okTup, opExtract, scalar, mkMapNA, ixArrA, toStrA, List.length_replicate, List.length_set, Nat.reduceMul, rngA, opNext, ixS_eq, cutS_both, cutS_lo, cutS_hi, mkSlA, bxD, List.set_cons_zero, List.all_cons, opBox, allocA, newRowP, List.take_succ_cons, ix_ref, one_int, one_bool, one_str, one_nilI, asInt', bnd, mapP_nil, mlenA, mapP_len, asr_ok, asr_no, cst0, cst1, cst2, cst3, cst4, cst5, cst6, cst7, cst8, resOf, rsT_d, rsT_tp, rsT_ref, rsT_im, rsT_ag, rsT_ifc, ix_intD, cu_intD, cl_intD, ch_intD, al_intD, sn_intD, pu_intD, pp_intD, mn_intD, ix_boolD, cu_boolD, cl_boolD, ch_boolD, al_boolD, sn_boolD, pu_boolD, pp_boolD, mn_boolD, ix_strD, cu_strD, cl_strD, ch_strD, al_strD, sn_strD, pu_strD, pp_strD, mn_strD, ix_ifD, cu_ifD, cl_ifD, ch_ifD, al_ifD, ix_encSymbol, cu_encSymbol, cl_encSymbol, ch_encSymbol, al_encSymbol, sn_encSymbol, pu_encSymbol, pp_encSymbol, mn_encSymbol, ix_encBind, cu_encBind, cl_encBind, ch_encBind, al_encBind, sn_encBind, pu_encBind, pp_encBind, mn_encBind, ix_encRule, cu_encRule, cl_encRule, ch_encRule, al_encRule, sn_encRule, pu_encRule, pp_encRule, mn_encRule, ix_intu32D, cu_intu32D, cl_intu32D, ch_intu32D, al_intu32D, sn_intu32D, pu_intu32D, pp_intu32D, mn_intu32D, ix_ls, cu_ls, cl_ls, ch_ls, al_ls, sn_ls, pu_ls, pp_ls, ix_lsls, cu_lsls, cl_lsls, ch_lsls, al_lsls, sn_lsls, pu_lsls, pp_lsls, intD, boolD, strD, ifD, lsD, ar2D, ar3D, bxD, encSymbol, encBind, encRule, intu32D, cl_40, primClone, callEnv, c21, *])
theorem r03_Check_k {a0 : List Symbol} {a1 : List Int} {r : Int} (hr : r03_Check a0 a1 = some r) {h : AHeap} : callP C (Lim C) 21 [.d (.rd (a0.map encSymbol)), .d (.rd (a1.map intD))] h = some (.d (.v (.int .i64 r)), h) := call_of (ds := [.rd (a0.map encSymbol), .rd (a1.map intD)]) rfl rfl rfl (r03_Check_R hr) h
theorem r03_Check_o {a0 : List Symbol} {a1 : List Int} {r : Int} (hr : r03_Check a0 a1 = some r) {h : AHeap} {args : List PV} (ha : mapO (rs h depth) args = some [.rd (a0.map encSymbol), .rd (a1.map intD)]) : callP C (Lim C) 21 args h = some (.d (.v (.int .i64 r)), if scalar (.d (.v (.int .i64 r))) = true then h else freezeAll (args.flatMap (reach h depth)) h) := call_own rfl rfl rfl (r03_Check_R hr) ha
def b22_0 : ACode := .seq (.seq (.reg [] [] [⟨some (10, false), .mv (.tmp 7), none, false, false⟩, ⟨some (11, false), .mv (.tmp 0), none, false, false⟩, ⟨some (12, false), .len (.tmp 11), none, false, false⟩, ⟨some (13, true), .bin .lss (.tmp 10) (.tmp 12), none, false, false⟩]) (.cond (.tmp 13) (some 13) (.skip) (.exit 0))) (.seq (.block 1 9024791474348288 (.seq (.reg [] [] [⟨some (16, false), .mv (.tmp 0), none, false, false⟩, ⟨some (17, false), .mv (.tmp 7), none, false, false⟩, ⟨some (18, false), .ix 1 (.tmp 16) (.tmp 17), none, false, false⟩, ⟨some (19, false), .load none (.tmp 18), none, false, false⟩, ⟨some (20, false), .bin .sub (.const (.int .i64 (-1))) (.tmp 19), none, false, false⟩, ⟨some (8, true), .mv (.tmp 20), none, false, false⟩]) (.seq (.seq (.reg [] [] [⟨some (21, false), .mv (.tmp 0), none, false, false⟩, ⟨some (22, false), .mv (.tmp 7), none, false, false⟩, ⟨some (23, false), .ix 1 (.tmp 21) (.tmp 22), none, false, false⟩, ⟨some (24, false), .load none (.tmp 23), none, false, false⟩, ⟨some (25, true), .bin .geq (.tmp 24) (.const (.int .i64 0)), none, false, false⟩]) (.cond (.tmp 25) (some 25) (.seq (.reg [] [] [⟨some (26, false), .mv (.tmp 6), none, false, false⟩, ⟨some (27, false), .mv (.tmp 0), none, false, false⟩, ⟨some (28, false), .mv (.tmp 7), none, false, false⟩, ⟨some (29, false), .ix 1 (.tmp 27) (.tmp 28), none, false, false⟩, ⟨some (30, false), .load none (.tmp 29), none, false, false⟩, ⟨some (31, false), .lit 1 [(0, .tmp 30)], none, false, false⟩, ⟨some (32, false), .app 1 8 (.tmp 26) (.tmp 31), none, false, false⟩, ⟨some (6, true), .mv (.tmp 32), none, false, false⟩]) (.exit 1)) (.skip))) (.seq (.seq (.reg [] [] [⟨some (33, false), .mv (.tmp 1), none, false, false⟩, ⟨some (34, false), .bin .geq (.tmp 33) (.const (.int .i64 1048576)), none, false, false⟩, ⟨some (35, false), .mv (.tmp 34), none, false, false⟩, ⟨some (36, false), .mv (.tmp 1), some (35, false), false, false⟩, ⟨some (37, false), .bin .geq (.tmp 36) (.const (.int .i64 0)), some (35, false), false, false⟩, ⟨some (38, false), .mv (.tmp 37), some (35, false), false, false⟩, ⟨some (39, false), .mv (.tmp 8), some (38, true), false, false⟩, ⟨some (40, false), .mv (.tmp 1), some (38, true), false, false⟩, ⟨some (41, false), .bin .sub (.const (.int .i64 1048576)) (.tmp 40), some (38, true), false, false⟩, ⟨some (42, false), .bin .geq (.tmp 39) (.tmp 41), some (38, true), false, false⟩, ⟨some (43, false), .pick (.tmp 38) (.tmp 42) (.const (.bool false)), some (35, false), false, false⟩, ⟨some (44, true), .pick (.tmp 35) (.const (.bool true)) (.tmp 43), none, false, false⟩]) (.cond (.tmp 44) (some 44) (.seq (.reg [] [(4, 0)] [⟨some (4, true), .mv (.const (.slice none 0 0)), none, false, false⟩, ⟨some (5, true), .mv (.const (.int .i64 40)), none, false, false⟩]) (.ret)) (.skip))) (.seq (.reg [] [] [⟨some (45, false), .mv (.tmp 8), none, false, false⟩, ⟨some (46, false), .mv (.tmp 1), none, false, false⟩, ⟨some (47, false), .bin .add (.tmp 45) (.tmp 46), none, false, false⟩, ⟨some (8, true), .mv (.tmp 47), none, false, false⟩]) (.seq (.seq (.reg [] [] [⟨some (48, false), .mv (.tmp 8), none, false, false⟩, ⟨some (49, false), .bin .lss (.tmp 48) (.const (.int .i64 0)), none, false, false⟩, ⟨some (50, false), .mv (.tmp 49), none, false, false⟩, ⟨some (51, false), .mv (.tmp 8), some (50, false), false, false⟩, ⟨some (52, false), .bin .geq (.tmp 51) (.const (.int .i64 1048576)), some (50, false), false, false⟩, ⟨some (53, true), .pick (.tmp 50) (.const (.bool true)) (.tmp 52), none, false, false⟩]) (.cond (.tmp 53) (some 53) (.seq (.reg [] [(4, 0)] [⟨some (4, true), .mv (.const (.slice none 0 0)), none, false, false⟩, ⟨some (5, true), .mv (.const (.int .i64 40)), none, false, false⟩]) (.ret)) (.skip))) (.reg [] [] [⟨some (54, false), .mv (.tmp 6), none, false, false⟩, ⟨some (55, false), .mv (.tmp 8), none, false, false⟩, ⟨some (56, false), .bin .sub (.const (.int .i64 (-1))) (.tmp 55), none, false, false⟩, ⟨some (57, false), .lit 1 [(0, .tmp 56)], none, false, false⟩, ⟨some (58, false), .app 1 8 (.tmp 54) (.tmp 57), none, false, false⟩, ⟨some (6, true), .mv (.tmp 58), none, false, false⟩]))))))) (.reg [] [] [⟨some (14, false), .mv (.tmp 7), none, false, false⟩, ⟨some (15, false), .bin .add (.tmp 14) (.const (.int .i64 1)), none, false, false⟩, ⟨some (7, true), .mv (.tmp 15), none, false, false⟩]))
def c22 : ACode := .seq (.reg [] [(4, 0)] [⟨some (4, true), .mv (.const (.slice none 0 0)), none, false, false⟩, ⟨some (5, true), .mv (.const (.int .i64 0)), none, false, false⟩]) (.seq (.reg [] [(6, 1)] [⟨some (9, false), .lit 1 [], none, false, false⟩, ⟨some (6, true), .mv (.tmp 9), none, false, false⟩]) (.seq (.seq (.reg [] [] [⟨some (7, true), .mv (.const (.int .i64 0)), none, false, false⟩]) (.block 0 9024791474348288 (.loop b22_0))) (.seq (.reg [] [(4, 0)] [⟨some (59, false), .mv (.tmp 6), none, false, false⟩, ⟨some (4, true), .mv (.tmp 59), none, false, false⟩, ⟨some (5, true), .mv (.const (.int .i64 0)), none, false, false⟩]) (.ret))))
theorem is22 : IsF C 22 60 9024791474348531 c22 [.tmp 4, .tmp 5] := ⟨⟨Tryd.f22, _, C_P ▸ Tryd.func22, rfl, rfl, rfl, by kernel_rfl, rfl⟩⟩
def r04_Shift_S0 (s0 : List Int) (s1 : Int) (s4 : List Int) : Int × (List Int) → Nat → St := fun (s7, o6) v6 => ⟨[(0, .d (.rd (s0.map intD))), (1, .d (.v (.int .i64 s1))), (4, .d (.rd (s4.map intD))), (5, .d (.v (.int .i64 0))), (6, .ref 0 v6 0 o6.length), (7, .d (.v (.int .i64 s7)))], (.row false v6 1 (rowP intD o6) :: [])⟩
def r04_Shift_X0 (s0 : List Int) (s1 : Int) (s4 : List Int) : (((List Int) × Int) ⊕ (Int × (List Int))) → AExit × St → Prop
  | .inl r, q => q.1 = .ret ∧ RetOK C [.tmp 4, .tmp 5] q.2 (.tp [.d (.rd (r.1.map intD)), .d (.v (.int .i64 r.2))])
  | .inr (s7, o6), q => ∃ v6 : Nat, q = (.exit 0, ⟨[(0, .d (.rd (s0.map intD))), (1, .d (.v (.int .i64 s1))), (4, .d (.rd (s4.map intD))), (5, .d (.v (.int .i64 0))), (6, .ref 0 v6 0 o6.length), (7, .d (.v (.int .i64 s7)))], (.row false v6 1 (rowP intD o6) :: [])⟩)
theorem r04_Shift_R0 (s0 : List Int) (s1 : Int) (s4 : List Int) : ∀ (s : Int × (List Int)) (g : Nat) r, r04_Shift_l0 s0 s1 s4 s = some r → Sum.elim (fun s' => ∃ g', semA C (Lim C) 9024791474348531 b22_0 (r04_Shift_S0 s0 s1 s4 s g) = some (.normal, r04_Shift_S0 s0 s1 s4 s' g')) (fun x => ∃ q, semA C (Lim C) 9024791474348531 b22_0 (r04_Shift_S0 s0 s1 s4 s g) = some q ∧ q.1 ≠ .normal ∧ r04_Shift_X0 s0 s1 s4 x q) r := by
  intro s g r hr
  obtain ⟨s7, o6⟩ := s
  have ⟨v6, hg0⟩ : ∃ y, y = g := ⟨_, rfl⟩
  subst hg0
  simp only [r04_Shift_l0] at hr
  rcases Classical.propComplete (s7 < (s0.length : Int)) with h1 | h1
  simp only [h1, if_true] at hr
  replace hr := bsome hr
  obtain ⟨x1, h2, hr⟩ := hr
  rcases Classical.propComplete (0 ≤ x1) with h3 | h3
  simp only [h3, if_true] at hr
  replace hr := gsome hr
  obtain ⟨h4, hr⟩ := hr
  replace hr := Option.some.inj hr
  subst hr
  refine ⟨(v6 + 1), ?_⟩
  rotate_left
  simp only [h3, if_false] at hr
  rcases Classical.propComplete (1048576 ≤ s1) with h5 | h5
  simp only [h5, if_true] at hr
  replace hr := Option.some.inj hr
  subst hr
  refine ⟨(.ret, ⟨[(0, .d (.rd (s0.map intD))), (1, .d (.v (.int .i64 s1))), (4, .d (.rd (([] : List Int).map intD))), (5, .d (.v (.int .i64 40))), (6, .ref 0 v6 0 o6.length), (7, .d (.v (.int .i64 s7))), (8, .d (.v (.int .i64 (w64 ((-1) - x1)))))], (.row false v6 1 (rowP intD o6) :: [])⟩), ?_, nofun, rfl, [.d (.rd (([] : List Int).map intD)), .d (.v (.int .i64 40))], rfl, ?_⟩
  rotate_left 2
  simp only [h5, if_false] at hr
  rcases Classical.propComplete (0 ≤ s1) with h6 | h6
  simp only [h6, if_true] at hr
  rcases Classical.propComplete ((w64 (1048576 - s1)) ≤ (w64 ((-1) - x1))) with h7 | h7
  simp only [h7, if_true] at hr
  replace hr := Option.some.inj hr
  subst hr
  refine ⟨(.ret, ⟨[(0, .d (.rd (s0.map intD))), (1, .d (.v (.int .i64 s1))), (4, .d (.rd (([] : List Int).map intD))), (5, .d (.v (.int .i64 40))), (6, .ref 0 v6 0 o6.length), (7, .d (.v (.int .i64 s7))), (8, .d (.v (.int .i64 (w64 ((-1) - x1)))))], (.row false v6 1 (rowP intD o6) :: [])⟩), ?_, nofun, rfl, [.d (.rd (([] : List Int).map intD)), .d (.v (.int .i64 40))], rfl, ?_⟩
  rotate_left 2
  simp only [h7, if_false] at hr
  rcases Classical.propComplete ((w64 ((w64 ((-1) - x1)) + s1)) < 0) with h8 | h8
  simp only [h8, if_true] at hr
  replace hr := Option.some.inj hr
  subst hr
  refine ⟨(.ret, ⟨[(0, .d (.rd (s0.map intD))), (1, .d (.v (.int .i64 s1))), (4, .d (.rd (([] : List Int).map intD))), (5, .d (.v (.int .i64 40))), (6, .ref 0 v6 0 o6.length), (7, .d (.v (.int .i64 s7))), (8, .d (.v (.int .i64 (w64 ((w64 ((-1) - x1)) + s1)))))], (.row false v6 1 (rowP intD o6) :: [])⟩), ?_, nofun, rfl, [.d (.rd (([] : List Int).map intD)), .d (.v (.int .i64 40))], rfl, ?_⟩
  rotate_left 2
  simp only [h8, if_false] at hr
  rcases Classical.propComplete (1048576 ≤ (w64 ((w64 ((-1) - x1)) + s1))) with h9 | h9
  simp only [h9, if_true] at hr
  replace hr := Option.some.inj hr
  subst hr
  refine ⟨(.ret, ⟨[(0, .d (.rd (s0.map intD))), (1, .d (.v (.int .i64 s1))), (4, .d (.rd (([] : List Int).map intD))), (5, .d (.v (.int .i64 40))), (6, .ref 0 v6 0 o6.length), (7, .d (.v (.int .i64 s7))), (8, .d (.v (.int .i64 (w64 ((w64 ((-1) - x1)) + s1)))))], (.row false v6 1 (rowP intD o6) :: [])⟩), ?_, nofun, rfl, [.d (.rd (([] : List Int).map intD)), .d (.v (.int .i64 40))], rfl, ?_⟩
  rotate_left 2
  simp only [h9, if_false] at hr
  replace hr := gsome hr
  obtain ⟨h10, hr⟩ := hr
  replace hr := Option.some.inj hr
  subst hr
  refine ⟨(v6 + 1), ?_⟩
  rotate_left
  simp only [h6, if_false] at hr
  rcases Classical.propComplete ((w64 ((w64 ((-1) - x1)) + s1)) < 0) with h11 | h11
  simp only [h11, if_true] at hr
  replace hr := Option.some.inj hr
  subst hr
  refine ⟨(.ret, ⟨[(0, .d (.rd (s0.map intD))), (1, .d (.v (.int .i64 s1))), (4, .d (.rd (([] : List Int).map intD))), (5, .d (.v (.int .i64 40))), (6, .ref 0 v6 0 o6.length), (7, .d (.v (.int .i64 s7))), (8, .d (.v (.int .i64 (w64 ((w64 ((-1) - x1)) + s1)))))], (.row false v6 1 (rowP intD o6) :: [])⟩), ?_, nofun, rfl, [.d (.rd (([] : List Int).map intD)), .d (.v (.int .i64 40))], rfl, ?_⟩
  rotate_left 2
  simp only [h11, if_false] at hr
  rcases Classical.propComplete (1048576 ≤ (w64 ((w64 ((-1) - x1)) + s1))) with h12 | h12
  simp only [h12, if_true] at hr
  replace hr := Option.some.inj hr
  subst hr
  refine ⟨(.ret, ⟨[(0, .d (.rd (s0.map intD))), (1, .d (.v (.int .i64 s1))), (4, .d (.rd (([] : List Int).map intD))), (5, .d (.v (.int .i64 40))), (6, .ref 0 v6 0 o6.length), (7, .d (.v (.int .i64 s7))), (8, .d (.v (.int .i64 (w64 ((w64 ((-1) - x1)) + s1)))))], (.row false v6 1 (rowP intD o6) :: [])⟩), ?_, nofun, rfl, [.d (.rd (([] : List Int).map intD)), .d (.v (.int .i64 40))], rfl, ?_⟩
  rotate_left 2
  simp only [h12, if_false] at hr
  replace hr := gsome hr
  obtain ⟨h13, hr⟩ := hr
  replace hr := Option.some.inj hr
  subst hr
  refine ⟨(v6 + 1), ?_⟩
  rotate_left
  simp only [h1, if_false] at hr
  replace hr := Option.some.inj hr
  subst hr
  refine ⟨(.exit 0, ⟨[(0, .d (.rd (s0.map intD))), (1, .d (.v (.int .i64 s1))), (4, .d (.rd (s4.map intD))), (5, .d (.v (.int .i64 0))), (6, .ref 0 v6 0 o6.length), (7, .d (.v (.int .i64 s7)))], (.row false v6 1 (rowP intD o6) :: [])⟩), ?_, nofun, v6, rfl⟩
  rotate_left
  all_goals (simp (config := {decide := true}) only [semA, coA, opsA, opA, guardA, aopA, putA, get2, Env.get, Env.set, Env.del, evO, constPV, cellPV, same, lenA, lenP, slenA, List.length_map, binA, arith, arithS, binB, arithB, fold64, notA, wrapA, cellsAt, cellsB, partA, fldA, agCells, shiftP, List.map_cons, List.map_nil, List.getElem?_cons_zero, List.getElem?_cons_succ, List.drop_succ_cons, List.drop_zero, List.take_succ_cons, List.take_zero, decide_true, decide_false, if_true, if_false, ne_eq, not_true_eq_false, not_false_eq_true, true_or, or_true, or_false, delS, Bool.true_eq_false, Bool.false_eq_true, eq_self, Bool.not_true, Bool.not_false, undefP, undef, opPick, Option.map_some, Option.map_none, Option.bind_some, Option.getD_some, List.length_cons, List.length_nil, Nat.reduceAdd, Nat.reduceLT, Nat.reducePow, Nat.reduceMul, Nat.zero_add, Nat.add_zero, coV, rs_dd, reach_dd, frz_nil, frz_cons, rs_im, rs_ag, rs_fn, reach_fn, rs_ptr, rs_ptr39, reach_ptr, reach_ptr39, rs_ref, rs_ifc, reach_im, reach_ag, reach_ref, reach_ifc, rs_d39, rs_im39, rs_ag39, rs_d38, rs_im38, rs_d37, reach_d39, reach_im39, reach_ag39, reach_d38, reach_im38, reach_d37, mapO, mapO_rowP39, reach_rowP39, List.flatMap_nil, List.flatMap_cons, List.append_nil, List.nil_append, List.cons_append, List.append_assoc, Int.reduceToNat, Nat.zero_mul, Nat.one_mul, buildW, buildRow, okCells, isOne, cellsP, splice, reduceCtorEq, and_self, and_true, true_and, elems_im, elems_ref, elems_rd, appendW, List.all_cons, List.all_nil, beq_self_eq_true, Bool.and_self, Bool.and_true, Bool.true_and, rowP_nil, rowP_cons, rowP_fold, rowP_takeN, rowP_len, rowP_get, Abs.rowAt, storeA, List.set_cons_zero, List.set_cons_succ, gl_get, gl_get0, gl_set, gl_set0, mod_zero, mod_succ, gl_mod, gl_mod0, freeze_row, List.length_append, lookA, mputA, look_int, keyD, toV, okTup, opExtract, scalar, mkMapNA, ixArrA, toStrA, List.length_replicate, List.length_set, Nat.reduceMul, rngA, opNext, ixS_eq, cutS_both, cutS_lo, cutS_hi, mkSlA, bxD, List.set_cons_zero, List.all_cons, opBox, allocA, newRowP, List.take_succ_cons, ix_ref, one_int, one_bool, one_str, one_nilI, asInt', bnd, mapP_nil, mlenA, mapP_len, asr_ok, asr_no, cst0, cst1, cst2, cst3, cst4, cst5, cst6, cst7, cst8, resOf, rsT_d, rsT_tp, rsT_ref, rsT_im, rsT_ag, rsT_ifc, ix_intD, cu_intD, cl_intD, ch_intD, al_intD, sn_intD, pu_intD, pp_intD, mn_intD, ix_boolD, cu_boolD, cl_boolD, ch_boolD, al_boolD, sn_boolD, pu_boolD, pp_boolD, mn_boolD, ix_strD, cu_strD, cl_strD, ch_strD, al_strD, sn_strD, pu_strD, pp_strD, mn_strD, ix_ifD, cu_ifD, cl_ifD, ch_ifD, al_ifD, ix_encSymbol, cu_encSymbol, cl_encSymbol, ch_encSymbol, al_encSymbol, sn_encSymbol, pu_encSymbol, pp_encSymbol, mn_encSymbol, ix_encBind, cu_encBind, cl_encBind, ch_encBind, al_encBind, sn_encBind, pu_encBind, pp_encBind, mn_encBind, ix_encRule, cu_encRule, cl_encRule, ch_encRule, al_encRule, sn_encRule, pu_encRule, pp_encRule, mn_encRule, ix_intu32D, cu_intu32D, cl_intu32D, ch_intu32D, al_intu32D, sn_intu32D, pu_intu32D, pp_intu32D, mn_intu32D, ix_ls, cu_ls, cl_ls, ch_ls, al_ls, sn_ls, pu_ls, pp_ls, ix_lsls, cu_lsls, cl_lsls, ch_lsls, al_lsls, sn_lsls, pu_lsls, pp_lsls, intD, boolD, strD, ifD, lsD, ar2D, ar3D, bxD, encSymbol, encBind, encRule, intu32D, cl_40, primClone, r04_Shift_S0, b22_0, *])
theorem r04_Shift_L0 {s0 : List Int} {s1 : Int} {s4 : List Int} {s : Int × (List Int)} {g : Nat} {x} (h : wh (r04_Shift_l0 s0 s1 s4) s = some x) : ∃ q, loopLim (semA C (Lim C) 9024791474348531 b22_0) (r04_Shift_S0 s0 s1 s4 s g) = some q ∧ r04_Shift_X0 s0 s1 s4 x q := wh_sim (r04_Shift_R0 s0 s1 s4) h
set_option maxHeartbeats 4000000 in
theorem r04_Shift_R {a0 : List Int} {a1 : Int} {r : (List Int) × Int} (hr : r04_Shift a0 a1 = some r) : ∃ p hp, Lim C 22 [.d (.rd (a0.map intD)), .d (.v (.int .i64 a1))] [] = some (p, hp) ∧ rsT hp p = some (.tp [.d (.rd (r.1.map intD)), .d (.v (.int .i64 r.2))]) := by
  simp only [r04_Shift] at hr
  replace hr := bsome hr
  obtain ⟨x2, h1, hr⟩ := hr
  obtain ⟨q1, h1L, h1X⟩ := r04_Shift_L0 (g := 0) h1
  rcases x2 with x3 | ⟨x4, x5⟩
  simp only [r04_Shift_X0, r04_Shift_S0] at h1X h1L
  obtain ⟨e1, st1⟩ := q1
  obtain ⟨rfl, h1R⟩ := h1X
  try simp only [List.map_cons, List.map_nil, List.length_cons, List.length_nil, Nat.reduceAdd, Nat.zero_add, Nat.add_zero, List.nil_append, List.append_nil, rowP_nil, mapP_nil, rowP_cons, decide_true, decide_false, undefP, undef, cst0, cst1, cst2, cst3, cst4, cst5, cst6, cst7, cst8, intD, boolD, strD, ifD, lsD, ar2D, ar3D, bxD, encSymbol, encBind, encRule, intu32D] at h1L
  replace hr := Option.some.inj hr
  subst hr
  refine run_ok is22 (Nat.le_of_ble_eq_true rfl) ?_ (.inr rfl) h1R
  rotate_left
  simp only [r04_Shift_X0, r04_Shift_S0] at h1X h1L
  obtain ⟨z6, rfl⟩ := h1X
  try simp only [List.map_cons, List.map_nil, List.length_cons, List.length_nil, Nat.reduceAdd, Nat.zero_add, Nat.add_zero, List.nil_append, List.append_nil, rowP_nil, mapP_nil, rowP_cons, decide_true, decide_false, undefP, undef, cst0, cst1, cst2, cst3, cst4, cst5, cst6, cst7, cst8, intD, boolD, strD, ifD, lsD, ar2D, ar3D, bxD, encSymbol, encBind, encRule, intu32D] at h1L
  replace hr := Option.some.inj hr
  subst hr
  refine run_ok is22 (Nat.le_of_ble_eq_true rfl) (q := (.ret, ⟨[(0, .d (.rd (a0.map intD))), (1, .d (.v (.int .i64 a1))), (4, .d (.rd (x5.map intD))), (5, .d (.v (.int .i64 0))), (6, .ref 0 z6 0 x5.length), (7, .d (.v (.int .i64 x4)))], (.row true z6 1 (rowP intD x5) :: [])⟩)) ?_ (.inr rfl) ⟨[.d (.rd (x5.map intD)), .d (.v (.int .i64 0))], rfl, ?_⟩
  rotate_left 2
  all_goals (simp (config := {decide := true}) only [semA, coA, opsA, opA, guardA, aopA, putA, get2, Env.get, Env.set, Env.del, evO, constPV, cellPV, same, lenA, lenP, slenA, List.length_map, binA, arith, arithS, binB, arithB, fold64, notA, wrapA, cellsAt, cellsB, partA, fldA, agCells, shiftP, List.map_cons, List.map_nil, List.getElem?_cons_zero, List.getElem?_cons_succ, List.drop_succ_cons, List.drop_zero, List.take_succ_cons, List.take_zero, decide_true, decide_false, if_true, if_false, ne_eq, not_true_eq_false, not_false_eq_true, true_or, or_true, or_false, delS, Bool.true_eq_false, Bool.false_eq_true, eq_self, Bool.not_true, Bool.not_false, undefP, undef, opPick, Option.map_some, Option.map_none, Option.bind_some, Option.getD_some, List.length_cons, List.length_nil, Nat.reduceAdd, Nat.reduceLT, Nat.reducePow, Nat.reduceMul, Nat.zero_add, Nat.add_zero, coV, rs_dd, reach_dd, frz_nil, frz_cons, rs_im, rs_ag, rs_fn, reach_fn, rs_ptr, rs_ptr39, reach_ptr, reach_ptr39, rs_ref, rs_ifc, reach_im, reach_ag, reach_ref, reach_ifc, rs_d39, rs_im39, rs_ag39, rs_d38, rs_im38, rs_d37, reach_d39, reach_im39, reach_ag39, reach_d38, reach_im38, reach_d37, mapO, mapO_rowP39, reach_rowP39, List.flatMap_nil, List.flatMap_cons, List.append_nil, List.nil_append, List.cons_append, List.append_assoc, Int.reduceToNat, Nat.zero_mul, Nat.one_mul, buildW, buildRow, okCells, isOne, cellsP, splice, reduceCtorEq, and_self, and_true, true_and, elems_im, elems_ref, elems_rd, appendW, List.all_cons, List.all_nil, beq_self_eq_true, Bool.and_self, Bool.and_true, Bool.true_and, rowP_nil, rowP_cons, rowP_fold, rowP_takeN, rowP_len, rowP_get, Abs.rowAt, storeA, List.set_cons_zero, List.set_cons_succ, gl_get, gl_get0, gl_set, gl_set0, mod_zero, mod_succ, gl_mod, gl_mod0, freeze_row, List.length_append, lookA, mputA, look_int, keyD, toV, okTup, opExtract, scalar, mkMapNA, ixArrA, toStrA, List.length_replicate, List.length_set, Nat.reduceMul, rngA, opNext, ixS_eq, cutS_both, cutS_lo, cutS_hi, mkSlA, bxD, List.set_cons_zero, List.all_cons, opBox, allocA, newRowP, List.take_succ_cons, ix_ref, one_int, one_bool, one_str, one_nilI, asInt', bnd, mapP_nil, mlenA, mapP_len, asr_ok, asr_no, cst0, cst1, cst2, cst3, cst4, cst5, cst6, cst7, cst8, resOf, rsT_d, rsT_tp, rsT_ref, rsT_im, rsT_ag, rsT_ifc, ix_intD, cu_intD, cl_intD, ch_intD, al_intD, sn_intD, pu_intD, pp_intD, mn_intD, ix_boolD, cu_boolD, cl_boolD, ch_boolD, al_boolD, sn_boolD, pu_boolD, pp_boolD, mn_boolD, ix_strD, cu_strD, cl_strD, ch_strD, al_strD, sn_strD, pu_strD, pp_strD, mn_strD, ix_ifD, cu_ifD, cl_ifD, ch_ifD, al_ifD, ix_encSymbol, cu_encSymbol, cl_encSymbol, ch_encSymbol, al_encSymbol, sn_encSymbol, pu_encSymbol, pp_encSymbol, mn_encSymbol, ix_encBind, cu_encBind, cl_encBind, ch_encBind, al_encBind, sn_encBind, pu_encBind, pp_encBind, mn_encBind, ix_encRule, cu_encRule, cl_encRule, ch_encRule, al_encRule, sn_encRule, pu_encRule, pp_encRule, mn_encRule, ix_intu32D, cu_intu32D, cl_intu32D, ch_intu32D, al_intu32D, sn_intu32D, pu_intu32D, pp_intu32D, mn_intu32D, ix_ls, cu_ls, cl_ls, ch_ls, al_ls, sn_ls, pu_ls, pp_ls, ix_lsls, cu_lsls, cl_lsls, ch_lsls, al_lsls, sn_lsls, pu_lsls, pp_lsls, intD, boolD, strD, ifD, lsD, ar2D, ar3D, bxD, encSymbol, encBind, encRule, intu32D, cl_40, primClone, callEnv, c22, *])
theorem r04_Shift_k {a0 : List Int} {a1 : Int} {r : (List Int) × Int} (hr : r04_Shift a0 a1 = some r) {h : AHeap} : callP C (Lim C) 22 [.d (.rd (a0.map intD)), .d (.v (.int .i64 a1))] h = some (.tp [.d (.rd (r.1.map intD)), .d (.v (.int .i64 r.2))], h) := call_of (ds := [.rd (a0.map intD), .v (.int .i64 a1)]) rfl rfl rfl (r04_Shift_R hr) h
theorem r04_Shift_o {a0 : List Int} {a1 : Int} {r : (List Int) × Int} (hr : r04_Shift a0 a1 = some r) {h : AHeap} {args : List PV} (ha : mapO (rs h depth) args = some [.rd (a0.map intD), .v (.int .i64 a1)]) : callP C (Lim C) 22 args h = some (.tp [.d (.rd (r.1.map intD)), .d (.v (.int .i64 r.2))], if scalar (.tp [.d (.rd (r.1.map intD)), .d (.v (.int .i64 r.2))]) = true then h else freezeAll (args.flatMap (reach h depth)) h) := call_own rfl rfl rfl (r04_Shift_R hr) ha
def c5 : ACode := .seq (.reg [] [] [⟨some (4, true), .box (.tmp 1), none, false, false⟩, ⟨some (6, true), .mv (.const (.bool false)), none, false, false⟩]) (.seq (.reg [] [] [⟨some (21, false), .call 14 [], none, false, false⟩, ⟨some (7, true), .mv (.tmp 21), none, false, false⟩]) (.seq (.reg [] [] [⟨some (22, false), .mv (.tmp 0), none, false, false⟩, ⟨some (23, false), .ixArr 3 2 (.tmp 4) (.const (.int .i64 0)), none, false, false⟩, ⟨some (24, false), .fa 0 (.tmp 23), none, false, false⟩, ⟨some (25, false), .load none (.tmp 24), none, false, false⟩, ⟨some (26, false), .call 21 [.tmp 22, .tmp 25], none, false, false⟩, ⟨some (8, true), .mv (.tmp 26), none, false, false⟩]) (.seq (.reg [] [] [⟨some (27, false), .mv (.tmp 0), none, false, false⟩, ⟨some (28, false), .ixArr 3 2 (.tmp 4) (.const (.int .i64 0)), none, false, false⟩, ⟨some (29, false), .fa 1 (.tmp 28), none, false, false⟩, ⟨some (30, false), .load none (.tmp 29), none, false, false⟩, ⟨some (31, false), .call 21 [.tmp 27, .tmp 30], none, false, false⟩, ⟨some (9, true), .mv (.tmp 31), none, false, false⟩]) (.seq (.seq (.reg [] [] [⟨some (32, false), .mv (.tmp 7), none, false, false⟩, ⟨some (33, false), .not (.tmp 32), none, false, false⟩, ⟨some (34, false), .mv (.tmp 33), none, false, false⟩, ⟨some (35, false), .mv (.tmp 8), some (34, false), false, false⟩, ⟨some (36, false), .bin .neq (.tmp 35) (.const (.int .i64 0)), some (34, false), false, false⟩, ⟨some (37, false), .pick (.tmp 34) (.const (.bool true)) (.tmp 36), none, false, false⟩, ⟨some (38, false), .mv (.tmp 37), none, false, false⟩, ⟨some (39, false), .mv (.tmp 9), some (38, false), false, false⟩, ⟨some (40, false), .bin .neq (.tmp 39) (.const (.int .i64 0)), some (38, false), false, false⟩, ⟨some (41, true), .pick (.tmp 38) (.const (.bool true)) (.tmp 40), none, false, false⟩]) (.cond (.tmp 41) (some 41) (.seq (.reg [] [] [⟨some (42, false), .mv (.tmp 7), none, false, false⟩, ⟨some (6, true), .mv (.tmp 42), none, false, false⟩]) (.ret)) (.skip))) (.seq (.reg [] [] [⟨some (43, false), .mv (.tmp 0), none, false, false⟩, ⟨some (44, false), .ixArr 3 2 (.tmp 4) (.const (.int .i64 0)), none, false, false⟩, ⟨some (45, false), .load (some 2) (.tmp 44), none, false, false⟩, ⟨some (46, false), .ixArr 3 2 (.tmp 4) (.const (.int .i64 0)), none, false, false⟩, ⟨some (47, false), .load (some 2) (.tmp 46), none, false, false⟩, ⟨some (48, false), .call 19 [.tmp 43, .tmp 45, .tmp 47], none, false, false⟩, ⟨some (10, true), .mv (.tmp 48), none, false, false⟩]) (.seq (.seq (.reg [] [] [⟨some (49, false), .mv (.tmp 10), none, false, false⟩, ⟨some (50, true), .not (.tmp 49), none, false, false⟩]) (.cond (.tmp 50) (some 50) (.seq (.reg [] [] [⟨some (6, true), .mv (.const (.bool false)), none, false, false⟩]) (.ret)) (.skip))) (.seq (.reg [] [] [⟨some (52, false), .ixArr 3 2 (.tmp 4) (.const (.int .i64 0)), none, false, false⟩, ⟨some (53, false), .fa 0 (.tmp 52), none, false, false⟩, ⟨some (54, false), .load none (.tmp 53), none, false, false⟩, ⟨some (55, false), .mv (.tmp 2), none, false, false⟩, ⟨some (56, false), .call 22 [.tmp 54, .tmp 55], none, false, false⟩, ⟨some (51, false), .mv (.tmp 56), none, false, false⟩, ⟨some (57, false), .ext (.tmp 51) 0, none, false, false⟩, ⟨some (58, false), .ext (.tmp 51) 1, none, false, false⟩, ⟨some (11, true), .mv (.tmp 57), none, false, false⟩, ⟨some (12, true), .mv (.tmp 58), none, false, false⟩]) (.seq (.reg [] [] [⟨some (60, false), .ixArr 3 2 (.tmp 4) (.const (.int .i64 0)), none, false, false⟩, ⟨some (61, false), .fa 1 (.tmp 60), none, false, false⟩, ⟨some (62, false), .load none (.tmp 61), none, false, false⟩, ⟨some (63, false), .mv (.tmp 2), none, false, false⟩, ⟨some (64, false), .call 22 [.tmp 62, .tmp 63], none, false, false⟩, ⟨some (59, false), .mv (.tmp 64), none, false, false⟩, ⟨some (65, false), .ext (.tmp 59) 0, none, false, false⟩, ⟨some (66, false), .ext (.tmp 59) 1, none, false, false⟩, ⟨some (13, true), .mv (.tmp 65), none, false, false⟩, ⟨some (14, true), .mv (.tmp 66), none, false, false⟩]) (.seq (.seq (.reg [] [] [⟨some (67, false), .mv (.tmp 12), none, false, false⟩, ⟨some (68, false), .bin .eql (.tmp 67) (.const (.int .i64 0)), none, false, false⟩, ⟨some (69, false), .mv (.tmp 68), none, false, false⟩, ⟨some (70, false), .mv (.tmp 14), some (69, true), false, false⟩, ⟨some (71, false), .bin .eql (.tmp 70) (.const (.int .i64 0)), some (69, true), false, false⟩, ⟨some (72, true), .pick (.tmp 69) (.tmp 71) (.const (.bool false)), none, false, false⟩]) (.cond (.tmp 72) (some 72) (.seq (.reg [] [] [⟨some (73, false), .mv (.tmp 0), none, false, false⟩, ⟨some (74, false), .ixArr 3 2 (.tmp 4) (.const (.int .i64 0)), none, false, false⟩, ⟨some (75, false), .load (some 2) (.tmp 74), none, false, false⟩, ⟨some (76, false), .mv (.tmp 11), none, false, false⟩, ⟨some (77, false), .mv (.tmp 13), none, false, false⟩, ⟨some (78, false), .build [(0, 1), (1, 1)] [.im true [], .im true []] [(0, .tmp 76), (1, .tmp 77)], none, false, false⟩, ⟨some (79, false), .call 19 [.tmp 73, .tmp 75, .tmp 78], none, false, false⟩, ⟨some (15, true), .mv (.tmp 79), none, false, false⟩]) (.seq (.reg [] [] [⟨some (80, false), .mv (.tmp 0), none, false, false⟩, ⟨some (81, false), .mv (.tmp 11), none, false, false⟩, ⟨some (82, false), .mv (.tmp 13), none, false, false⟩, ⟨some (83, false), .build [(0, 1), (1, 1)] [.im true [], .im true []] [(0, .tmp 81), (1, .tmp 82)], none, false, false⟩, ⟨some (84, false), .ixArr 3 2 (.tmp 4) (.const (.int .i64 0)), none, false, false⟩, ⟨some (85, false), .load (some 2) (.tmp 84), none, false, false⟩, ⟨some (86, false), .call 19 [.tmp 80, .tmp 83, .tmp 85], none, false, false⟩, ⟨some (16, true), .mv (.tmp 86), none, false, false⟩]) (.seq (.reg [] [] [⟨some (87, false), .mv (.tmp 15), none, false, false⟩, ⟨some (88, false), .not (.tmp 87), none, false, false⟩, ⟨some (89, false), .mv (.tmp 88), none, false, false⟩, ⟨some (90, false), .mv (.tmp 16), some (89, false), false, false⟩, ⟨some (91, false), .not (.tmp 90), some (89, false), false, false⟩, ⟨some (92, true), .pick (.tmp 89) (.const (.bool true)) (.tmp 91), none, false, false⟩]) (.cond (.tmp 92) (some 92) (.seq (.reg [] [] [⟨some (6, true), .mv (.const (.bool false)), none, false, false⟩]) (.ret)) (.skip))))) (.skip))) (.seq (.reg [] [] [⟨some (93, false), .mv (.tmp 0), none, false, false⟩, ⟨some (94, false), .ixArr 3 2 (.tmp 4) (.const (.int .i64 0)), none, false, false⟩, ⟨some (95, false), .load (some 2) (.tmp 94), none, false, false⟩, ⟨some (96, false), .ixArr 3 2 (.tmp 4) (.const (.int .i64 1)), none, false, false⟩, ⟨some (97, false), .load (some 2) (.tmp 96), none, false, false⟩, ⟨some (98, false), .call 19 [.tmp 93, .tmp 95, .tmp 97], none, false, false⟩, ⟨some (17, true), .mv (.tmp 98), none, false, false⟩]) (.seq (.reg [] [] [⟨some (99, false), .mv (.tmp 0), none, false, false⟩, ⟨some (100, false), .ixArr 3 2 (.tmp 4) (.const (.int .i64 1)), none, false, false⟩, ⟨some (101, false), .load (some 2) (.tmp 100), none, false, false⟩, ⟨some (102, false), .ixArr 3 2 (.tmp 4) (.const (.int .i64 0)), none, false, false⟩, ⟨some (103, false), .load (some 2) (.tmp 102), none, false, false⟩, ⟨some (104, false), .call 19 [.tmp 99, .tmp 101, .tmp 103], none, false, false⟩, ⟨some (18, true), .mv (.tmp 104), none, false, false⟩]) (.seq (.reg [] [] [⟨some (105, false), .mv (.tmp 0), none, false, false⟩, ⟨some (106, false), .ixArr 3 2 (.tmp 4) (.const (.int .i64 1)), none, false, false⟩, ⟨some (107, false), .load (some 2) (.tmp 106), none, false, false⟩, ⟨some (108, false), .ixArr 3 2 (.tmp 4) (.const (.int .i64 2)), none, false, false⟩, ⟨some (109, false), .load (some 2) (.tmp 108), none, false, false⟩, ⟨some (110, false), .call 19 [.tmp 105, .tmp 107, .tmp 109], none, false, false⟩, ⟨some (19, true), .mv (.tmp 110), none, false, false⟩]) (.seq (.reg [] [] [⟨some (111, false), .mv (.tmp 0), none, false, false⟩, ⟨some (112, false), .ixArr 3 2 (.tmp 4) (.const (.int .i64 0)), none, false, false⟩, ⟨some (113, false), .load (some 2) (.tmp 112), none, false, false⟩, ⟨some (114, false), .ixArr 3 2 (.tmp 4) (.const (.int .i64 2)), none, false, false⟩, ⟨some (115, false), .load (some 2) (.tmp 114), none, false, false⟩, ⟨some (116, false), .call 19 [.tmp 111, .tmp 113, .tmp 115], none, false, false⟩, ⟨some (20, true), .mv (.tmp 116), none, false, false⟩]) (.seq (.reg [] [] [⟨some (117, false), .mv (.tmp 17), none, false, false⟩, ⟨some (118, false), .mv (.tmp 18), none, false, false⟩, ⟨some (119, false), .binB .eql (.tmp 117) (.tmp 118), none, false, false⟩, ⟨some (120, false), .mv (.tmp 119), none, false, false⟩, ⟨some (121, false), .mv (.tmp 17), some (120, true), false, false⟩, ⟨some (122, false), .not (.tmp 121), some (120, true), false, false⟩, ⟨some (123, false), .mv (.tmp 122), some (120, true), false, false⟩, ⟨some (124, false), .mv (.tmp 19), some (123, false), false, false⟩, ⟨some (125, false), .not (.tmp 124), some (123, false), false, false⟩, ⟨some (126, false), .pick (.tmp 123) (.const (.bool true)) (.tmp 125), some (120, true), false, false⟩, ⟨some (127, false), .mv (.tmp 126), some (120, true), false, false⟩, ⟨some (128, false), .mv (.tmp 20), some (127, false), false, false⟩, ⟨some (129, false), .pick (.tmp 127) (.const (.bool true)) (.tmp 128), some (120, true), false, false⟩, ⟨some (130, false), .pick (.tmp 120) (.tmp 129) (.const (.bool false)), none, false, false⟩, ⟨some (6, true), .mv (.tmp 130), none, false, false⟩]) (.ret)))))))))))))))
theorem is5 : IsF C 5 131 4951764879509132068173905879 c5 [.tmp 6] := ⟨⟨Tryd.f5, _, C_P ▸ Tryd.func5, rfl, rfl, rfl, by kernel_rfl, rfl⟩⟩
set_option maxHeartbeats 4000000 in
theorem l05_MatchKinds_R {a0 : List Symbol} {a1 : Rule × Rule × Rule} {a2 : Int} {r : Bool} (hr : l05_MatchKinds a0 a1 a2 = some r) : ∃ p hp, Lim C 5 [.d (.rd (a0.map encSymbol)), .d (.ag ((ar3D encRule) a1)), .d (.v (.int .i64 a2))] [] = some (p, hp) ∧ rsT hp p = some (.d (.v (.bool r))) := by
  simp only [l05_MatchKinds] at hr
  replace hr := bsome hr
  obtain ⟨x1, h1, hr⟩ := hr
  have h1k := fun h => l05_shown_k (h := h) h1
  try simp only [intD, boolD, strD, ifD, lsD, ar2D, ar3D, bxD, encSymbol, encBind, encRule, intu32D, List.map_cons, List.map_nil] at h1k
  replace hr := bsome hr
  obtain ⟨x2, h2, hr⟩ := hr
  have h2k := fun h => r03_Check_k (h := h) h2
  try simp only [intD, boolD, strD, ifD, lsD, ar2D, ar3D, bxD, encSymbol, encBind, encRule, intu32D, List.map_cons, List.map_nil] at h2k
  replace hr := bsome hr
  obtain ⟨x3, h3, hr⟩ := hr
  have h3k := fun h => r03_Check_k (h := h) h3
  try simp only [intD, boolD, strD, ifD, lsD, ar2D, ar3D, bxD, encSymbol, encBind, encRule, intu32D, List.map_cons, List.map_nil] at h3k
  cases h4 : x1
  simp only [h4, Bool.false_eq_true, if_false] at hr
  replace hr := Option.some.inj hr
  subst hr
  refine run_ok is5 (Nat.le_of_ble_eq_true rfl) (q := (.ret, ⟨[(0, .d (.rd (a0.map encSymbol))), (1, .d (.ag ((ar3D encRule) a1))), (2, .d (.v (.int .i64 a2))), (4, .ptr 0 0 0 0), (6, .d (.v (.bool x1))), (7, .d (.v (.bool x1))), (8, .d (.v (.int .i64 x2))), (9, .d (.v (.int .i64 x3)))], (.row false 0 6 [[.d (.rd (a1.1.L.map intD)), .d (.rd (a1.1.R.map intD)), .d (.rd (a1.2.1.L.map intD)), .d (.rd (a1.2.1.R.map intD)), .d (.rd (a1.2.2.L.map intD)), .d (.rd (a1.2.2.R.map intD))]] :: [])⟩)) ?_ (.inr rfl) ⟨[.d (.v (.bool x1))], rfl, ?_⟩
  rotate_left 2
  simp only [h4, if_true] at hr
  rcases Classical.propComplete (x2 = 0) with h5 | h5
  simp only [h5, if_true] at hr
  rcases Classical.propComplete (x3 = 0) with h6 | h6
  simp only [h6, if_true] at hr
  replace hr := bsome hr
  obtain ⟨x4, h7, hr⟩ := hr
  have h7k := fun h => match_Variant_o (h := h) (args := [.d (.rd (a0.map encSymbol)), .ag [.d (.rd (a1.1.L.map intD)), .d (.rd (a1.1.R.map intD))], .ag [.d (.rd (a1.1.L.map intD)), .d (.rd (a1.1.R.map intD))]]) h7 rfl
  try simp only [intD, boolD, strD, ifD, lsD, ar2D, ar3D, bxD, encSymbol, encBind, encRule, intu32D, List.map_cons, List.map_nil] at h7k
  cases h8 : x4
  simp only [h8, Bool.false_eq_true, if_false] at hr
  replace hr := Option.some.inj hr
  subst hr
  refine run_ok is5 (Nat.le_of_ble_eq_true rfl) (q := (.ret, ⟨[(0, .d (.rd (a0.map encSymbol))), (1, .d (.ag ((ar3D encRule) a1))), (2, .d (.v (.int .i64 a2))), (4, .ptr 0 0 0 0), (6, .d (.v (.bool false))), (7, .d (.v (.bool x1))), (8, .d (.v (.int .i64 x2))), (9, .d (.v (.int .i64 x3))), (10, .d (.v (.bool x4)))], (.row false 0 6 [[.d (.rd (a1.1.L.map intD)), .d (.rd (a1.1.R.map intD)), .d (.rd (a1.2.1.L.map intD)), .d (.rd (a1.2.1.R.map intD)), .d (.rd (a1.2.2.L.map intD)), .d (.rd (a1.2.2.R.map intD))]] :: [])⟩)) ?_ (.inr rfl) ⟨[.d (.v (.bool false))], rfl, ?_⟩
  rotate_left 2
  simp only [h8, if_true] at hr
  replace hr := bsome hr
  obtain ⟨x5, h9, hr⟩ := hr
  have h9k := fun h => r04_Shift_k (h := h) h9
  try simp only [intD, boolD, strD, ifD, lsD, ar2D, ar3D, bxD, encSymbol, encBind, encRule, intu32D, List.map_cons, List.map_nil] at h9k
  replace hr := bsome hr
  obtain ⟨x6, h10, hr⟩ := hr
  have h10k := fun h => r04_Shift_k (h := h) h10
  try simp only [intD, boolD, strD, ifD, lsD, ar2D, ar3D, bxD, encSymbol, encBind, encRule, intu32D, List.map_cons, List.map_nil] at h10k
  rcases Classical.propComplete (x5.2 = 0) with h11 | h11
  simp only [h11, if_true] at hr
  rcases Classical.propComplete (x6.2 = 0) with h12 | h12
  simp only [h12, if_true] at hr
  replace hr := bsome hr
  obtain ⟨x7, h13, hr⟩ := hr
  have h13k := fun h => match_Variant_o (h := h) (args := [.d (.rd (a0.map encSymbol)), .ag [.d (.rd (a1.1.L.map intD)), .d (.rd (a1.1.R.map intD))], .ag [.d (.rd (x5.1.map intD)), .d (.rd (x6.1.map intD))]]) h13 rfl
  try simp only [intD, boolD, strD, ifD, lsD, ar2D, ar3D, bxD, encSymbol, encBind, encRule, intu32D, List.map_cons, List.map_nil] at h13k
  replace hr := bsome hr
  obtain ⟨x8, h14, hr⟩ := hr
  have h14k := fun h => match_Variant_o (h := h) (args := [.d (.rd (a0.map encSymbol)), .ag [.d (.rd (x5.1.map intD)), .d (.rd (x6.1.map intD))], .ag [.d (.rd (a1.1.L.map intD)), .d (.rd (a1.1.R.map intD))]]) h14 rfl
  try simp only [intD, boolD, strD, ifD, lsD, ar2D, ar3D, bxD, encSymbol, encBind, encRule, intu32D, List.map_cons, List.map_nil] at h14k
  cases h15 : x7
  simp only [h15, Bool.false_eq_true, if_false] at hr
  replace hr := Option.some.inj hr
  subst hr
  refine run_ok is5 (Nat.le_of_ble_eq_true rfl) (q := (.ret, ⟨[(0, .d (.rd (a0.map encSymbol))), (1, .d (.ag ((ar3D encRule) a1))), (2, .d (.v (.int .i64 a2))), (4, .ptr 0 0 0 0), (6, .d (.v (.bool false))), (7, .d (.v (.bool x1))), (8, .d (.v (.int .i64 x2))), (9, .d (.v (.int .i64 x3))), (10, .d (.v (.bool x4))), (11, .d (.rd (x5.1.map intD))), (12, .d (.v (.int .i64 x5.2))), (13, .d (.rd (x6.1.map intD))), (14, .d (.v (.int .i64 x6.2))), (15, .d (.v (.bool x7))), (16, .d (.v (.bool x8)))], (.row false 0 6 [[.d (.rd (a1.1.L.map intD)), .d (.rd (a1.1.R.map intD)), .d (.rd (a1.2.1.L.map intD)), .d (.rd (a1.2.1.R.map intD)), .d (.rd (a1.2.2.L.map intD)), .d (.rd (a1.2.2.R.map intD))]] :: [])⟩)) ?_ (.inr rfl) ⟨[.d (.v (.bool false))], rfl, ?_⟩
  rotate_left 2
  simp only [h15, if_true] at hr
  cases h16 : x8
  simp only [h16, Bool.false_eq_true, if_false] at hr
  replace hr := Option.some.inj hr
  subst hr
  refine run_ok is5 (Nat.le_of_ble_eq_true rfl) (q := (.ret, ⟨[(0, .d (.rd (a0.map encSymbol))), (1, .d (.ag ((ar3D encRule) a1))), (2, .d (.v (.int .i64 a2))), (4, .ptr 0 0 0 0), (6, .d (.v (.bool false))), (7, .d (.v (.bool x1))), (8, .d (.v (.int .i64 x2))), (9, .d (.v (.int .i64 x3))), (10, .d (.v (.bool x4))), (11, .d (.rd (x5.1.map intD))), (12, .d (.v (.int .i64 x5.2))), (13, .d (.rd (x6.1.map intD))), (14, .d (.v (.int .i64 x6.2))), (15, .d (.v (.bool x7))), (16, .d (.v (.bool x8)))], (.row false 0 6 [[.d (.rd (a1.1.L.map intD)), .d (.rd (a1.1.R.map intD)), .d (.rd (a1.2.1.L.map intD)), .d (.rd (a1.2.1.R.map intD)), .d (.rd (a1.2.2.L.map intD)), .d (.rd (a1.2.2.R.map intD))]] :: [])⟩)) ?_ (.inr rfl) ⟨[.d (.v (.bool false))], rfl, ?_⟩
  rotate_left 2
  simp only [h16, if_true] at hr
  replace hr := bsome hr
  obtain ⟨x9, h17, hr⟩ := hr
  have h17k := fun h => match_Variant_o (h := h) (args := [.d (.rd (a0.map encSymbol)), .ag [.d (.rd (a1.1.L.map intD)), .d (.rd (a1.1.R.map intD))], .ag [.d (.rd (a1.2.1.L.map intD)), .d (.rd (a1.2.1.R.map intD))]]) h17 rfl
  try simp only [intD, boolD, strD, ifD, lsD, ar2D, ar3D, bxD, encSymbol, encBind, encRule, intu32D, List.map_cons, List.map_nil] at h17k
  replace hr := bsome hr
  obtain ⟨x10, h18, hr⟩ := hr
  have h18k := fun h => match_Variant_o (h := h) (args := [.d (.rd (a0.map encSymbol)), .ag [.d (.rd (a1.2.1.L.map intD)), .d (.rd (a1.2.1.R.map intD))], .ag [.d (.rd (a1.1.L.map intD)), .d (.rd (a1.1.R.map intD))]]) h18 rfl
  try simp only [intD, boolD, strD, ifD, lsD, ar2D, ar3D, bxD, encSymbol, encBind, encRule, intu32D, List.map_cons, List.map_nil] at h18k
  replace hr := bsome hr
  obtain ⟨x11, h19, hr⟩ := hr
  have h19k := fun h => match_Variant_o (h := h) (args := [.d (.rd (a0.map encSymbol)), .ag [.d (.rd (a1.2.1.L.map intD)), .d (.rd (a1.2.1.R.map intD))], .ag [.d (.rd (a1.2.2.L.map intD)), .d (.rd (a1.2.2.R.map intD))]]) h19 rfl
  try simp only [intD, boolD, strD, ifD, lsD, ar2D, ar3D, bxD, encSymbol, encBind, encRule, intu32D, List.map_cons, List.map_nil] at h19k
  replace hr := bsome hr
  obtain ⟨x12, h20, hr⟩ := hr
  have h20k := fun h => match_Variant_o (h := h) (args := [.d (.rd (a0.map encSymbol)), .ag [.d (.rd (a1.1.L.map intD)), .d (.rd (a1.1.R.map intD))], .ag [.d (.rd (a1.2.2.L.map intD)), .d (.rd (a1.2.2.R.map intD))]]) h20 rfl
  try simp only [intD, boolD, strD, ifD, lsD, ar2D, ar3D, bxD, encSymbol, encBind, encRule, intu32D, List.map_cons, List.map_nil] at h20k
  cases h21 : (x9 == x10)
  simp only [h21, Bool.false_eq_true, if_false] at hr
  replace hr := Option.some.inj hr
  subst hr
  refine run_ok is5 (Nat.le_of_ble_eq_true rfl) (q := (.ret, ⟨[(0, .d (.rd (a0.map encSymbol))), (1, .d (.ag ((ar3D encRule) a1))), (2, .d (.v (.int .i64 a2))), (4, .ptr 0 0 0 0), (6, .d (.v (.bool false))), (7, .d (.v (.bool x1))), (8, .d (.v (.int .i64 x2))), (9, .d (.v (.int .i64 x3))), (10, .d (.v (.bool x4))), (11, .d (.rd (x5.1.map intD))), (12, .d (.v (.int .i64 x5.2))), (13, .d (.rd (x6.1.map intD))), (14, .d (.v (.int .i64 x6.2))), (15, .d (.v (.bool x7))), (16, .d (.v (.bool x8))), (17, .d (.v (.bool x9))), (18, .d (.v (.bool x10))), (19, .d (.v (.bool x11))), (20, .d (.v (.bool x12)))], (.row false 0 6 [[.d (.rd (a1.1.L.map intD)), .d (.rd (a1.1.R.map intD)), .d (.rd (a1.2.1.L.map intD)), .d (.rd (a1.2.1.R.map intD)), .d (.rd (a1.2.2.L.map intD)), .d (.rd (a1.2.2.R.map intD))]] :: [])⟩)) ?_ (.inr rfl) ⟨[.d (.v (.bool false))], rfl, ?_⟩
  rotate_left 2
  simp only [h21, if_true] at hr
  cases h22 : x9
  simp only [h22, Bool.false_eq_true, if_false] at hr
  try simp only [h22] at h21
  replace hr := Option.some.inj hr
  subst hr
  refine run_ok is5 (Nat.le_of_ble_eq_true rfl) (q := (.ret, ⟨[(0, .d (.rd (a0.map encSymbol))), (1, .d (.ag ((ar3D encRule) a1))), (2, .d (.v (.int .i64 a2))), (4, .ptr 0 0 0 0), (6, .d (.v (.bool true))), (7, .d (.v (.bool x1))), (8, .d (.v (.int .i64 x2))), (9, .d (.v (.int .i64 x3))), (10, .d (.v (.bool x4))), (11, .d (.rd (x5.1.map intD))), (12, .d (.v (.int .i64 x5.2))), (13, .d (.rd (x6.1.map intD))), (14, .d (.v (.int .i64 x6.2))), (15, .d (.v (.bool x7))), (16, .d (.v (.bool x8))), (17, .d (.v (.bool x9))), (18, .d (.v (.bool x10))), (19, .d (.v (.bool x11))), (20, .d (.v (.bool x12)))], (.row false 0 6 [[.d (.rd (a1.1.L.map intD)), .d (.rd (a1.1.R.map intD)), .d (.rd (a1.2.1.L.map intD)), .d (.rd (a1.2.1.R.map intD)), .d (.rd (a1.2.2.L.map intD)), .d (.rd (a1.2.2.R.map intD))]] :: [])⟩)) ?_ (.inr rfl) ⟨[.d (.v (.bool true))], rfl, ?_⟩
  rotate_left 2
  simp only [h22, if_true] at hr
  try simp only [h22] at h21
  cases h23 : x11
  simp only [h23, Bool.false_eq_true, if_false] at hr
  replace hr := Option.some.inj hr
  subst hr
  refine run_ok is5 (Nat.le_of_ble_eq_true rfl) (q := (.ret, ⟨[(0, .d (.rd (a0.map encSymbol))), (1, .d (.ag ((ar3D encRule) a1))), (2, .d (.v (.int .i64 a2))), (4, .ptr 0 0 0 0), (6, .d (.v (.bool true))), (7, .d (.v (.bool x1))), (8, .d (.v (.int .i64 x2))), (9, .d (.v (.int .i64 x3))), (10, .d (.v (.bool x4))), (11, .d (.rd (x5.1.map intD))), (12, .d (.v (.int .i64 x5.2))), (13, .d (.rd (x6.1.map intD))), (14, .d (.v (.int .i64 x6.2))), (15, .d (.v (.bool x7))), (16, .d (.v (.bool x8))), (17, .d (.v (.bool x9))), (18, .d (.v (.bool x10))), (19, .d (.v (.bool x11))), (20, .d (.v (.bool x12)))], (.row false 0 6 [[.d (.rd (a1.1.L.map intD)), .d (.rd (a1.1.R.map intD)), .d (.rd (a1.2.1.L.map intD)), .d (.rd (a1.2.1.R.map intD)), .d (.rd (a1.2.2.L.map intD)), .d (.rd (a1.2.2.R.map intD))]] :: [])⟩)) ?_ (.inr rfl) ⟨[.d (.v (.bool true))], rfl, ?_⟩
  rotate_left 2
  simp only [h23, if_true] at hr
  replace hr := Option.some.inj hr
  subst hr
  refine run_ok is5 (Nat.le_of_ble_eq_true rfl) (q := (.ret, ⟨[(0, .d (.rd (a0.map encSymbol))), (1, .d (.ag ((ar3D encRule) a1))), (2, .d (.v (.int .i64 a2))), (4, .ptr 0 0 0 0), (6, .d (.v (.bool x12))), (7, .d (.v (.bool x1))), (8, .d (.v (.int .i64 x2))), (9, .d (.v (.int .i64 x3))), (10, .d (.v (.bool x4))), (11, .d (.rd (x5.1.map intD))), (12, .d (.v (.int .i64 x5.2))), (13, .d (.rd (x6.1.map intD))), (14, .d (.v (.int .i64 x6.2))), (15, .d (.v (.bool x7))), (16, .d (.v (.bool x8))), (17, .d (.v (.bool x9))), (18, .d (.v (.bool x10))), (19, .d (.v (.bool x11))), (20, .d (.v (.bool x12)))], (.row false 0 6 [[.d (.rd (a1.1.L.map intD)), .d (.rd (a1.1.R.map intD)), .d (.rd (a1.2.1.L.map intD)), .d (.rd (a1.2.1.R.map intD)), .d (.rd (a1.2.2.L.map intD)), .d (.rd (a1.2.2.R.map intD))]] :: [])⟩)) ?_ (.inr rfl) ⟨[.d (.v (.bool x12))], rfl, ?_⟩
  rotate_left 2
  simp only [h12, if_false] at hr
  replace hr := bsome hr
  obtain ⟨x13, h24, hr⟩ := hr
  have h24k := fun h => match_Variant_o (h := h) (args := [.d (.rd (a0.map encSymbol)), .ag [.d (.rd (a1.1.L.map intD)), .d (.rd (a1.1.R.map intD))], .ag [.d (.rd (a1.2.1.L.map intD)), .d (.rd (a1.2.1.R.map intD))]]) h24 rfl
  try simp only [intD, boolD, strD, ifD, lsD, ar2D, ar3D, bxD, encSymbol, encBind, encRule, intu32D, List.map_cons, List.map_nil] at h24k
  replace hr := bsome hr
  obtain ⟨x14, h25, hr⟩ := hr
  have h25k := fun h => match_Variant_o (h := h) (args := [.d (.rd (a0.map encSymbol)), .ag [.d (.rd (a1.2.1.L.map intD)), .d (.rd (a1.2.1.R.map intD))], .ag [.d (.rd (a1.1.L.map intD)), .d (.rd (a1.1.R.map intD))]]) h25 rfl
  try simp only [intD, boolD, strD, ifD, lsD, ar2D, ar3D, bxD, encSymbol, encBind, encRule, intu32D, List.map_cons, List.map_nil] at h25k
  replace hr := bsome hr
  obtain ⟨x15, h26, hr⟩ := hr
  have h26k := fun h => match_Variant_o (h := h) (args := [.d (.rd (a0.map encSymbol)), .ag [.d (.rd (a1.2.1.L.map intD)), .d (.rd (a1.2.1.R.map intD))], .ag [.d (.rd (a1.2.2.L.map intD)), .d (.rd (a1.2.2.R.map intD))]]) h26 rfl
  try simp only [intD, boolD, strD, ifD, lsD, ar2D, ar3D, bxD, encSymbol, encBind, encRule, intu32D, List.map_cons, List.map_nil] at h26k
  replace hr := bsome hr
  obtain ⟨x16, h27, hr⟩ := hr
  have h27k := fun h => match_Variant_o (h := h) (args := [.d (.rd (a0.map encSymbol)), .ag [.d (.rd (a1.1.L.map intD)), .d (.rd (a1.1.R.map intD))], .ag [.d (.rd (a1.2.2.L.map intD)), .d (.rd (a1.2.2.R.map intD))]]) h27 rfl
  try simp only [intD, boolD, strD, ifD, lsD, ar2D, ar3D, bxD, encSymbol, encBind, encRule, intu32D, List.map_cons, List.map_nil] at h27k
  cases h28 : (x13 == x14)
  simp only [h28, Bool.false_eq_true, if_false] at hr
  replace hr := Option.some.inj hr
  subst hr
  refine run_ok is5 (Nat.le_of_ble_eq_true rfl) (q := (.ret, ⟨[(0, .d (.rd (a0.map encSymbol))), (1, .d (.ag ((ar3D encRule) a1))), (2, .d (.v (.int .i64 a2))), (4, .ptr 0 0 0 0), (6, .d (.v (.bool false))), (7, .d (.v (.bool x1))), (8, .d (.v (.int .i64 x2))), (9, .d (.v (.int .i64 x3))), (10, .d (.v (.bool x4))), (11, .d (.rd (x5.1.map intD))), (12, .d (.v (.int .i64 x5.2))), (13, .d (.rd (x6.1.map intD))), (14, .d (.v (.int .i64 x6.2))), (17, .d (.v (.bool x13))), (18, .d (.v (.bool x14))), (19, .d (.v (.bool x15))), (20, .d (.v (.bool x16)))], (.row false 0 6 [[.d (.rd (a1.1.L.map intD)), .d (.rd (a1.1.R.map intD)), .d (.rd (a1.2.1.L.map intD)), .d (.rd (a1.2.1.R.map intD)), .d (.rd (a1.2.2.L.map intD)), .d (.rd (a1.2.2.R.map intD))]] :: [])⟩)) ?_ (.inr rfl) ⟨[.d (.v (.bool false))], rfl, ?_⟩
  rotate_left 2
  simp only [h28, if_true] at hr
  cases h29 : x13
  simp only [h29, Bool.false_eq_true, if_false] at hr
  try simp only [h29] at h28
  replace hr := Option.some.inj hr
  subst hr
  refine run_ok is5 (Nat.le_of_ble_eq_true rfl) (q := (.ret, ⟨[(0, .d (.rd (a0.map encSymbol))), (1, .d (.ag ((ar3D encRule) a1))), (2, .d (.v (.int .i64 a2))), (4, .ptr 0 0 0 0), (6, .d (.v (.bool true))), (7, .d (.v (.bool x1))), (8, .d (.v (.int .i64 x2))), (9, .d (.v (.int .i64 x3))), (10, .d (.v (.bool x4))), (11, .d (.rd (x5.1.map intD))), (12, .d (.v (.int .i64 x5.2))), (13, .d (.rd (x6.1.map intD))), (14, .d (.v (.int .i64 x6.2))), (17, .d (.v (.bool x13))), (18, .d (.v (.bool x14))), (19, .d (.v (.bool x15))), (20, .d (.v (.bool x16)))], (.row false 0 6 [[.d (.rd (a1.1.L.map intD)), .d (.rd (a1.1.R.map intD)), .d (.rd (a1.2.1.L.map intD)), .d (.rd (a1.2.1.R.map intD)), .d (.rd (a1.2.2.L.map intD)), .d (.rd (a1.2.2.R.map intD))]] :: [])⟩)) ?_ (.inr rfl) ⟨[.d (.v (.bool true))], rfl, ?_⟩
  rotate_left 2
  simp only [h29, if_true] at hr
  try simp only [h29] at h28
  cases h30 : x15
  simp only [h30, Bool.false_eq_true, if_false] at hr
  replace hr := Option.some.inj hr
  subst hr
  refine run_ok is5 (Nat.le_of_ble_eq_true rfl) (q := (.ret, ⟨[(0, .d (.rd (a0.map encSymbol))), (1, .d (.ag ((ar3D encRule) a1))), (2, .d (.v (.int .i64 a2))), (4, .ptr 0 0 0 0), (6, .d (.v (.bool true))), (7, .d (.v (.bool x1))), (8, .d (.v (.int .i64 x2))), (9, .d (.v (.int .i64 x3))), (10, .d (.v (.bool x4))), (11, .d (.rd (x5.1.map intD))), (12, .d (.v (.int .i64 x5.2))), (13, .d (.rd (x6.1.map intD))), (14, .d (.v (.int .i64 x6.2))), (17, .d (.v (.bool x13))), (18, .d (.v (.bool x14))), (19, .d (.v (.bool x15))), (20, .d (.v (.bool x16)))], (.row false 0 6 [[.d (.rd (a1.1.L.map intD)), .d (.rd (a1.1.R.map intD)), .d (.rd (a1.2.1.L.map intD)), .d (.rd (a1.2.1.R.map intD)), .d (.rd (a1.2.2.L.map intD)), .d (.rd (a1.2.2.R.map intD))]] :: [])⟩)) ?_ (.inr rfl) ⟨[.d (.v (.bool true))], rfl, ?_⟩
  rotate_left 2
  simp only [h30, if_true] at hr
  replace hr := Option.some.inj hr
  subst hr
  refine run_ok is5 (Nat.le_of_ble_eq_true rfl) (q := (.ret, ⟨[(0, .d (.rd (a0.map encSymbol))), (1, .d (.ag ((ar3D encRule) a1))), (2, .d (.v (.int .i64 a2))), (4, .ptr 0 0 0 0), (6, .d (.v (.bool x16))), (7, .d (.v (.bool x1))), (8, .d (.v (.int .i64 x2))), (9, .d (.v (.int .i64 x3))), (10, .d (.v (.bool x4))), (11, .d (.rd (x5.1.map intD))), (12, .d (.v (.int .i64 x5.2))), (13, .d (.rd (x6.1.map intD))), (14, .d (.v (.int .i64 x6.2))), (17, .d (.v (.bool x13))), (18, .d (.v (.bool x14))), (19, .d (.v (.bool x15))), (20, .d (.v (.bool x16)))], (.row false 0 6 [[.d (.rd (a1.1.L.map intD)), .d (.rd (a1.1.R.map intD)), .d (.rd (a1.2.1.L.map intD)), .d (.rd (a1.2.1.R.map intD)), .d (.rd (a1.2.2.L.map intD)), .d (.rd (a1.2.2.R.map intD))]] :: [])⟩)) ?_ (.inr rfl) ⟨[.d (.v (.bool x16))], rfl, ?_⟩
  rotate_left 2
  simp only [h11, if_false] at hr
  replace hr := bsome hr
  obtain ⟨x17, h31, hr⟩ := hr
  have h31k := fun h => match_Variant_o (h := h) (args := [.d (.rd (a0.map encSymbol)), .ag [.d (.rd (a1.1.L.map intD)), .d (.rd (a1.1.R.map intD))], .ag [.d (.rd (a1.2.1.L.map intD)), .d (.rd (a1.2.1.R.map intD))]]) h31 rfl
  try simp only [intD, boolD, strD, ifD, lsD, ar2D, ar3D, bxD, encSymbol, encBind, encRule, intu32D, List.map_cons, List.map_nil] at h31k
  replace hr := bsome hr
  obtain ⟨x18, h32, hr⟩ := hr
  have h32k := fun h => match_Variant_o (h := h) (args := [.d (.rd (a0.map encSymbol)), .ag [.d (.rd (a1.2.1.L.map intD)), .d (.rd (a1.2.1.R.map intD))], .ag [.d (.rd (a1.1.L.map intD)), .d (.rd (a1.1.R.map intD))]]) h32 rfl
  try simp only [intD, boolD, strD, ifD, lsD, ar2D, ar3D, bxD, encSymbol, encBind, encRule, intu32D, List.map_cons, List.map_nil] at h32k
  replace hr := bsome hr
  obtain ⟨x19, h33, hr⟩ := hr
  have h33k := fun h => match_Variant_o (h := h) (args := [.d (.rd (a0.map encSymbol)), .ag [.d (.rd (a1.2.1.L.map intD)), .d (.rd (a1.2.1.R.map intD))], .ag [.d (.rd (a1.2.2.L.map intD)), .d (.rd (a1.2.2.R.map intD))]]) h33 rfl
  try simp only [intD, boolD, strD, ifD, lsD, ar2D, ar3D, bxD, encSymbol, encBind, encRule, intu32D, List.map_cons, List.map_nil] at h33k
  replace hr := bsome hr
  obtain ⟨x20, h34, hr⟩ := hr
  have h34k := fun h => match_Variant_o (h := h) (args := [.d (.rd (a0.map encSymbol)), .ag [.d (.rd (a1.1.L.map intD)), .d (.rd (a1.1.R.map intD))], .ag [.d (.rd (a1.2.2.L.map intD)), .d (.rd (a1.2.2.R.map intD))]]) h34 rfl
  try simp only [intD, boolD, strD, ifD, lsD, ar2D, ar3D, bxD, encSymbol, encBind, encRule, intu32D, List.map_cons, List.map_nil] at h34k
  cases h35 : (x17 == x18)
  simp only [h35, Bool.false_eq_true, if_false] at hr
  replace hr := Option.some.inj hr
  subst hr
  refine run_ok is5 (Nat.le_of_ble_eq_true rfl) (q := (.ret, ⟨[(0, .d (.rd (a0.map encSymbol))), (1, .d (.ag ((ar3D encRule) a1))), (2, .d (.v (.int .i64 a2))), (4, .ptr 0 0 0 0), (6, .d (.v (.bool false))), (7, .d (.v (.bool x1))), (8, .d (.v (.int .i64 x2))), (9, .d (.v (.int .i64 x3))), (10, .d (.v (.bool x4))), (11, .d (.rd (x5.1.map intD))), (12, .d (.v (.int .i64 x5.2))), (13, .d (.rd (x6.1.map intD))), (14, .d (.v (.int .i64 x6.2))), (17, .d (.v (.bool x17))), (18, .d (.v (.bool x18))), (19, .d (.v (.bool x19))), (20, .d (.v (.bool x20)))], (.row false 0 6 [[.d (.rd (a1.1.L.map intD)), .d (.rd (a1.1.R.map intD)), .d (.rd (a1.2.1.L.map intD)), .d (.rd (a1.2.1.R.map intD)), .d (.rd (a1.2.2.L.map intD)), .d (.rd (a1.2.2.R.map intD))]] :: [])⟩)) ?_ (.inr rfl) ⟨[.d (.v (.bool false))], rfl, ?_⟩
  rotate_left 2
  simp only [h35, if_true] at hr
  cases h36 : x17
  simp only [h36, Bool.false_eq_true, if_false] at hr
  try simp only [h36] at h35
  replace hr := Option.some.inj hr
  subst hr
  refine run_ok is5 (Nat.le_of_ble_eq_true rfl) (q := (.ret, ⟨[(0, .d (.rd (a0.map encSymbol))), (1, .d (.ag ((ar3D encRule) a1))), (2, .d (.v (.int .i64 a2))), (4, .ptr 0 0 0 0), (6, .d (.v (.bool true))), (7, .d (.v (.bool x1))), (8, .d (.v (.int .i64 x2))), (9, .d (.v (.int .i64 x3))), (10, .d (.v (.bool x4))), (11, .d (.rd (x5.1.map intD))), (12, .d (.v (.int .i64 x5.2))), (13, .d (.rd (x6.1.map intD))), (14, .d (.v (.int .i64 x6.2))), (17, .d (.v (.bool x17))), (18, .d (.v (.bool x18))), (19, .d (.v (.bool x19))), (20, .d (.v (.bool x20)))], (.row false 0 6 [[.d (.rd (a1.1.L.map intD)), .d (.rd (a1.1.R.map intD)), .d (.rd (a1.2.1.L.map intD)), .d (.rd (a1.2.1.R.map intD)), .d (.rd (a1.2.2.L.map intD)), .d (.rd (a1.2.2.R.map intD))]] :: [])⟩)) ?_ (.inr rfl) ⟨[.d (.v (.bool true))], rfl, ?_⟩
  rotate_left 2
  simp only [h36, if_true] at hr
  try simp only [h36] at h35
  cases h37 : x19
  simp only [h37, Bool.false_eq_true, if_false] at hr
  replace hr := Option.some.inj hr
  subst hr
  refine run_ok is5 (Nat.le_of_ble_eq_true rfl) (q := (.ret, ⟨[(0, .d (.rd (a0.map encSymbol))), (1, .d (.ag ((ar3D encRule) a1))), (2, .d (.v (.int .i64 a2))), (4, .ptr 0 0 0 0), (6, .d (.v (.bool true))), (7, .d (.v (.bool x1))), (8, .d (.v (.int .i64 x2))), (9, .d (.v (.int .i64 x3))), (10, .d (.v (.bool x4))), (11, .d (.rd (x5.1.map intD))), (12, .d (.v (.int .i64 x5.2))), (13, .d (.rd (x6.1.map intD))), (14, .d (.v (.int .i64 x6.2))), (17, .d (.v (.bool x17))), (18, .d (.v (.bool x18))), (19, .d (.v (.bool x19))), (20, .d (.v (.bool x20)))], (.row false 0 6 [[.d (.rd (a1.1.L.map intD)), .d (.rd (a1.1.R.map intD)), .d (.rd (a1.2.1.L.map intD)), .d (.rd (a1.2.1.R.map intD)), .d (.rd (a1.2.2.L.map intD)), .d (.rd (a1.2.2.R.map intD))]] :: [])⟩)) ?_ (.inr rfl) ⟨[.d (.v (.bool true))], rfl, ?_⟩
  rotate_left 2
  simp only [h37, if_true] at hr
  replace hr := Option.some.inj hr
  subst hr
  refine run_ok is5 (Nat.le_of_ble_eq_true rfl) (q := (.ret, ⟨[(0, .d (.rd (a0.map encSymbol))), (1, .d (.ag ((ar3D encRule) a1))), (2, .d (.v (.int .i64 a2))), (4, .ptr 0 0 0 0), (6, .d (.v (.bool x20))), (7, .d (.v (.bool x1))), (8, .d (.v (.int .i64 x2))), (9, .d (.v (.int .i64 x3))), (10, .d (.v (.bool x4))), (11, .d (.rd (x5.1.map intD))), (12, .d (.v (.int .i64 x5.2))), (13, .d (.rd (x6.1.map intD))), (14, .d (.v (.int .i64 x6.2))), (17, .d (.v (.bool x17))), (18, .d (.v (.bool x18))), (19, .d (.v (.bool x19))), (20, .d (.v (.bool x20)))], (.row false 0 6 [[.d (.rd (a1.1.L.map intD)), .d (.rd (a1.1.R.map intD)), .d (.rd (a1.2.1.L.map intD)), .d (.rd (a1.2.1.R.map intD)), .d (.rd (a1.2.2.L.map intD)), .d (.rd (a1.2.2.R.map intD))]] :: [])⟩)) ?_ (.inr rfl) ⟨[.d (.v (.bool x20))], rfl, ?_⟩
  rotate_left 2
  simp only [h6, if_false] at hr
  replace hr := Option.some.inj hr
  subst hr
  refine run_ok is5 (Nat.le_of_ble_eq_true rfl) (q := (.ret, ⟨[(0, .d (.rd (a0.map encSymbol))), (1, .d (.ag ((ar3D encRule) a1))), (2, .d (.v (.int .i64 a2))), (4, .ptr 0 0 0 0), (6, .d (.v (.bool x1))), (7, .d (.v (.bool x1))), (8, .d (.v (.int .i64 x2))), (9, .d (.v (.int .i64 x3)))], (.row false 0 6 [[.d (.rd (a1.1.L.map intD)), .d (.rd (a1.1.R.map intD)), .d (.rd (a1.2.1.L.map intD)), .d (.rd (a1.2.1.R.map intD)), .d (.rd (a1.2.2.L.map intD)), .d (.rd (a1.2.2.R.map intD))]] :: [])⟩)) ?_ (.inr rfl) ⟨[.d (.v (.bool x1))], rfl, ?_⟩
  rotate_left 2
  simp only [h5, if_false] at hr
  replace hr := Option.some.inj hr
  subst hr
  refine run_ok is5 (Nat.le_of_ble_eq_true rfl) (q := (.ret, ⟨[(0, .d (.rd (a0.map encSymbol))), (1, .d (.ag ((ar3D encRule) a1))), (2, .d (.v (.int .i64 a2))), (4, .ptr 0 0 0 0), (6, .d (.v (.bool x1))), (7, .d (.v (.bool x1))), (8, .d (.v (.int .i64 x2))), (9, .d (.v (.int .i64 x3)))], (.row false 0 6 [[.d (.rd (a1.1.L.map intD)), .d (.rd (a1.1.R.map intD)), .d (.rd (a1.2.1.L.map intD)), .d (.rd (a1.2.1.R.map intD)), .d (.rd (a1.2.2.L.map intD)), .d (.rd (a1.2.2.R.map intD))]] :: [])⟩)) ?_ (.inr rfl) ⟨[.d (.v (.bool x1))], rfl, ?_⟩
  rotate_left 2
  all_goals (simp (config := {decide := true}) only [semA, coA, opsA, opA, guardA, aopA, putA, get2, Env.get, Env.set, Env.del, evO, constPV, cellPV, same, lenA, lenP, slenA, List.length_map, binA, arith, arithS, binB, arithB, fold64, notA, wrapA, cellsAt, cellsB, partA, fldA, agCells, shiftP, List.map_cons, List.map_nil, List.getElem?_cons_zero, List.getElem?_cons_succ, List.drop_succ_cons, List.drop_zero, List.take_succ_cons, List.take_zero, decide_true, decide_false, if_true, if_false, ne_eq, not_true_eq_false, not_false_eq_true, true_or, or_true, or_false, delS, Bool.true_eq_false, Bool.false_eq_true, eq_self, Bool.not_true, Bool.not_false, undefP, undef, opPick, Option.map_some, Option.map_none, Option.bind_some, Option.getD_some, List.length_cons, List.length_nil, Nat.reduceAdd, Nat.reduceLT, Nat.reducePow, Nat.reduceMul, Nat.zero_add, Nat.add_zero, coV, rs_dd, reach_dd, frz_nil, frz_cons, rs_im, rs_ag, rs_fn, reach_fn, rs_ptr, rs_ptr39, reach_ptr, reach_ptr39, rs_ref, rs_ifc, reach_im, reach_ag, reach_ref, reach_ifc, rs_d39, rs_im39, rs_ag39, rs_d38, rs_im38, rs_d37, reach_d39, reach_im39, reach_ag39, reach_d38, reach_im38, reach_d37, mapO, mapO_rowP39, reach_rowP39, List.flatMap_nil, List.flatMap_cons, List.append_nil, List.nil_append, List.cons_append, List.append_assoc, Int.reduceToNat, Nat.zero_mul, Nat.one_mul, buildW, buildRow, okCells, isOne, cellsP, splice, reduceCtorEq, and_self, and_true, true_and, elems_im, elems_ref, elems_rd, appendW, List.all_cons, List.all_nil, beq_self_eq_true, Bool.and_self, Bool.and_true, Bool.true_and, rowP_nil, rowP_cons, rowP_fold, rowP_takeN, rowP_len, rowP_get, Abs.rowAt, storeA, List.set_cons_zero, List.set_cons_succ, gl_get, gl_get0, gl_set, gl_set0, mod_zero, mod_succ, gl_mod, gl_mod0, freeze_row, List.length_append, lookA, mputA, look_int, keyD, toV, okTup, opExtract, scalar, mkMapNA, ixArrA, toStrA, List.length_replicate, List.length_set, Nat.reduceMul, rngA, opNext, ixS_eq, cutS_both, cutS_lo, cutS_hi, mkSlA, bxD, List.set_cons_zero, List.all_cons, opBox, allocA, newRowP, List.take_succ_cons, ix_ref, one_int, one_bool, one_str, one_nilI, asInt', bnd, mapP_nil, mlenA, mapP_len, asr_ok, asr_no, cst0, cst1, cst2, cst3, cst4, cst5, cst6, cst7, cst8, resOf, rsT_d, rsT_tp, rsT_ref, rsT_im, rsT_ag, rsT_ifc, ix_intD, cu_intD, cl_intD, ch_intD, al_intD, sn_intD, pu_intD, pp_intD, mn_intD, ix_boolD, cu_boolD, cl_boolD, ch_boolD, al_boolD, sn_boolD, pu_boolD, pp_boolD, mn_boolD, ix_strD, cu_strD, cl_strD, ch_strD, al_strD, sn_strD, pu_strD, pp_strD, mn_strD, ix_ifD, cu_ifD, cl_ifD, ch_ifD, al_ifD, ix_encSymbol, cu_encSymbol, cl_encSymbol, ch_encSymbol, al_encSymbol, sn_encSymbol, pu_encSymbol, pp_encSymbol, mn_encSymbol, ix_encBind, cu_encBind, cl_encBind, ch_encBind, al_encBind, sn_encBind, pu_encBind, pp_encBind, mn_encBind, ix_encRule, cu_encRule, cl_encRule, ch_encRule, al_encRule, sn_encRule, pu_encRule, pp_encRule, mn_encRule, ix_intu32D, cu_intu32D, cl_intu32D, ch_intu32D, al_intu32D, sn_intu32D, pu_intu32D, pp_intu32D, mn_intu32D, ix_ls, cu_ls, cl_ls, ch_ls, al_ls, sn_ls, pu_ls, pp_ls, ix_lsls, cu_lsls, cl_lsls, ch_lsls, al_lsls, sn_lsls, pu_lsls, pp_lsls, intD, boolD, strD, ifD, lsD, ar2D, ar3D, bxD, encSymbol, encBind, encRule, intu32D, cl_40, primClone, callEnv, c5, *])
theorem l05_MatchKinds_k {a0 : List Symbol} {a1 : Rule × Rule × Rule} {a2 : Int} {r : Bool} (hr : l05_MatchKinds a0 a1 a2 = some r) {h : AHeap} : callP C (Lim C) 5 [.d (.rd (a0.map encSymbol)), .d (.ag ((ar3D encRule) a1)), .d (.v (.int .i64 a2))] h = some (.d (.v (.bool r)), h) := call_of (ds := [.rd (a0.map encSymbol), .ag ((ar3D encRule) a1), .v (.int .i64 a2)]) rfl rfl rfl (l05_MatchKinds_R hr) h
theorem l05_MatchKinds_o {a0 : List Symbol} {a1 : Rule × Rule × Rule} {a2 : Int} {r : Bool} (hr : l05_MatchKinds a0 a1 a2 = some r) {h : AHeap} {args : List PV} (ha : mapO (rs h depth) args = some [.rd (a0.map encSymbol), .ag ((ar3D encRule) a1), .v (.int .i64 a2)]) : callP C (Lim C) 5 args h = some (.d (.v (.bool r)), if scalar (.d (.v (.bool r))) = true then h else freezeAll (args.flatMap (reach h depth)) h) := call_own rfl rfl rfl (l05_MatchKinds_R hr) ha
end Ld

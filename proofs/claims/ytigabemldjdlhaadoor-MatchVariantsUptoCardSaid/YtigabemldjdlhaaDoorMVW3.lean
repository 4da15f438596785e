import Derived.Test.YtigabemldjdlhaaDoorMVW2
set_option maxHeartbeats 400000
set_option linter.unusedVariables false
set_option linter.unusedSimpArgs false
namespace Ld
open Go Go.Proofs Go.Abs
set_option maxRecDepth 8000
def b49_0 : ACode := .seq (.seq (.reg [] [] [⟨some (7, false), .mv (.tmp 5), none, false, false⟩, ⟨some (8, true), .bin .gtr (.tmp 7) (.const (.int .i64 0)), none, false, false⟩]) (.cond (.tmp 8) (some 8) (.skip) (.exit 0))) (.seq (.block 1 18014433137672448 (.seq (.seq (.reg [] [] [⟨some (11, false), .mv (.tmp 6), none, false, false⟩, ⟨some (12, false), .mv (.tmp 1), none, false, false⟩, ⟨some (13, false), .len (.tmp 12), none, false, false⟩, ⟨some (14, true), .bin .eql (.tmp 11) (.tmp 13), none, false, false⟩]) (.cond (.tmp 14) (some 14) (.seq (.reg [] [] [⟨some (4, true), .mv (.const (.int .i64 31)), none, false, false⟩]) (.ret)) (.skip))) (.seq (.seq (.reg [] [] [⟨some (15, false), .mv (.tmp 1), none, false, false⟩, ⟨some (16, false), .mv (.tmp 6), none, false, false⟩, ⟨some (17, false), .ix 1 (.tmp 15) (.tmp 16), none, false, false⟩, ⟨some (18, false), .load none (.tmp 17), none, false, false⟩, ⟨some (19, false), .mv (.tmp 0), none, false, false⟩, ⟨some (20, false), .len (.tmp 19), none, false, false⟩, ⟨some (21, false), .bin .geq (.tmp 18) (.tmp 20), none, false, false⟩, ⟨some (22, false), .mv (.tmp 21), none, false, false⟩, ⟨some (23, false), .mv (.tmp 1), some (22, false), false, false⟩, ⟨some (24, false), .mv (.tmp 6), some (22, false), false, false⟩, ⟨some (25, false), .ix 1 (.tmp 23) (.tmp 24), some (22, false), false, false⟩, ⟨some (26, false), .load none (.tmp 25), some (22, false), false, false⟩, ⟨some (27, false), .bin .lss (.tmp 26) (.const (.int .i64 (-1048576))), some (22, false), false, false⟩, ⟨some (28, true), .pick (.tmp 22) (.const (.bool true)) (.tmp 27), none, false, false⟩]) (.cond (.tmp 28) (some 28) (.seq (.reg [] [] [⟨some (4, true), .mv (.const (.int .i64 30)), none, false, false⟩]) (.ret)) (.skip))) (.seq (.reg [] [] [⟨some (29, false), .mv (.tmp 5), none, false, false⟩, ⟨some (30, false), .bin .sub (.tmp 29) (.const (.int .i64 1)), none, false, false⟩, ⟨some (5, true), .mv (.tmp 30), none, false, false⟩]) (.seq (.seq (.reg [] [] [⟨some (31, false), .mv (.tmp 1), none, false, false⟩, ⟨some (32, false), .mv (.tmp 6), none, false, false⟩, ⟨some (33, false), .ix 1 (.tmp 31) (.tmp 32), none, false, false⟩, ⟨some (34, false), .load none (.tmp 33), none, false, false⟩, ⟨some (35, true), .bin .geq (.tmp 34) (.const (.int .i64 0)), none, false, false⟩]) (.cond (.tmp 35) (some 35) (.reg [] [] [⟨some (36, false), .mv (.tmp 5), none, false, false⟩, ⟨some (37, false), .mv (.tmp 0), none, false, false⟩, ⟨some (38, false), .mv (.tmp 1), none, false, false⟩, ⟨some (39, false), .mv (.tmp 6), none, false, false⟩, ⟨some (40, false), .ix 1 (.tmp 38) (.tmp 39), none, false, false⟩, ⟨some (41, false), .load none (.tmp 40), none, false, false⟩, ⟨some (42, false), .ix 2 (.tmp 37) (.tmp 41), none, false, false⟩, ⟨some (43, false), .fa 1 (.tmp 42), none, false, false⟩, ⟨some (44, false), .load none (.tmp 43), none, false, false⟩, ⟨some (45, false), .bin .add (.tmp 36) (.tmp 44), none, false, false⟩, ⟨some (5, true), .mv (.tmp 45), none, false, false⟩]) (.skip))) (.seq (.reg [] [] [⟨some (46, false), .mv (.tmp 5), none, false, false⟩, ⟨some (47, false), .bin .eql (.tmp 46) (.const (.int .i64 0)), none, false, false⟩, ⟨some (48, false), .mv (.tmp 47), none, false, false⟩, ⟨some (49, false), .mv (.tmp 6), some (48, true), false, false⟩, ⟨some (50, false), .bin .add (.tmp 49) (.const (.int .i64 1)), some (48, true), false, false⟩, ⟨some (51, false), .mv (.tmp 1), some (48, true), false, false⟩, ⟨some (52, false), .len (.tmp 51), some (48, true), false, false⟩, ⟨some (53, false), .bin .lss (.tmp 50) (.tmp 52), some (48, true), false, false⟩, ⟨some (54, true), .pick (.tmp 48) (.tmp 53) (.const (.bool false)), none, false, false⟩]) (.cond (.tmp 54) (some 54) (.seq (.reg [] [] [⟨some (4, true), .mv (.const (.int .i64 32)), none, false, false⟩]) (.ret)) (.skip)))))))) (.reg [] [] [⟨some (9, false), .mv (.tmp 6), none, false, false⟩, ⟨some (10, false), .bin .add (.tmp 9) (.const (.int .i64 1)), none, false, false⟩, ⟨some (6, true), .mv (.tmp 10), none, false, false⟩]))
def c49 : ACode := .seq (.reg [] [] [⟨some (4, true), .mv (.const (.int .i64 0)), none, false, false⟩]) (.seq (.reg [] [] [⟨some (5, true), .mv (.const (.int .i64 1)), none, false, false⟩]) (.seq (.seq (.reg [] [] [⟨some (6, true), .mv (.const (.int .i64 0)), none, false, false⟩]) (.block 0 18014433137672448 (.loop b49_0))) (.seq (.reg [] [] [⟨some (4, true), .mv (.const (.int .i64 0)), none, false, false⟩]) (.ret))))
theorem is49 : IsF C 49 55 18014433137672563 c49 [.tmp 4] := ⟨⟨Tryd.f49, _, C_P ▸ Tryd.func49, rfl, rfl, rfl, by kernel_rfl, rfl⟩⟩
def r03_Term_S0 (s0 : List Symbol) (s1 : List Int) : Int × Int → Unit → St := fun (s5, s6) _ => ⟨[(0, .d (.rd (s0.map encSymbol))), (1, .d (.rd (s1.map intD))), (4, .d (.v (.int .i64 0))), (5, .d (.v (.int .i64 s5))), (6, .d (.v (.int .i64 s6)))], []⟩
def r03_Term_X0 (s0 : List Symbol) (s1 : List Int) : (Int ⊕ (Int × Int)) → AExit × St → Prop
  | .inl r, q => q.1 = .ret ∧ RetOK C [.tmp 4] q.2 (.d (.v (.int .i64 r)))
  | .inr (s5, s6), q => q = (.exit 0, ⟨[(0, .d (.rd (s0.map encSymbol))), (1, .d (.rd (s1.map intD))), (4, .d (.v (.int .i64 0))), (5, .d (.v (.int .i64 s5))), (6, .d (.v (.int .i64 s6)))], []⟩)
theorem r03_Term_R0 (s0 : List Symbol) (s1 : List Int) : ∀ (s : Int × Int) (g : Unit) r, r03_Term_l0 s0 s1 s = some r → Sum.elim (fun s' => ∃ g', semA C (Lim C) 18014433137672563 b49_0 (r03_Term_S0 s0 s1 s g) = some (.normal, r03_Term_S0 s0 s1 s' g')) (fun x => ∃ q, semA C (Lim C) 18014433137672563 b49_0 (r03_Term_S0 s0 s1 s g) = some q ∧ q.1 ≠ .normal ∧ r03_Term_X0 s0 s1 x q) r := by
  intro s g r hr
  obtain ⟨s5, s6⟩ := s
  simp only [r03_Term_l0] at hr
  rcases Classical.propComplete (0 < s5) with h1 | h1
  simp only [h1, if_true] at hr
  rcases Classical.propComplete (s6 = (s1.length : Int)) with h2 | h2
  simp only [h2, if_true] at hr
  replace hr := Option.some.inj hr
  subst hr
  refine ⟨(.ret, ⟨[(0, .d (.rd (s0.map encSymbol))), (1, .d (.rd (s1.map intD))), (4, .d (.v (.int .i64 31))), (5, .d (.v (.int .i64 s5))), (6, .d (.v (.int .i64 s6)))], []⟩), ?_, nofun, rfl, [.d (.v (.int .i64 31))], rfl, ?_⟩
  rotate_left 2
  simp only [h2, if_false] at hr
  replace hr := bsome hr
  obtain ⟨x1, h3, hr⟩ := hr
  rcases Classical.propComplete ((s0.length : Int) ≤ x1) with h4 | h4
  simp only [h4, if_true] at hr
  replace hr := Option.some.inj hr
  subst hr
  refine ⟨(.ret, ⟨[(0, .d (.rd (s0.map encSymbol))), (1, .d (.rd (s1.map intD))), (4, .d (.v (.int .i64 30))), (5, .d (.v (.int .i64 s5))), (6, .d (.v (.int .i64 s6)))], []⟩), ?_, nofun, rfl, [.d (.v (.int .i64 30))], rfl, ?_⟩
  rotate_left 2
  simp only [h4, if_false] at hr
  rcases Classical.propComplete (x1 < (-1048576)) with h5 | h5
  simp only [h5, if_true] at hr
  replace hr := Option.some.inj hr
  subst hr
  refine ⟨(.ret, ⟨[(0, .d (.rd (s0.map encSymbol))), (1, .d (.rd (s1.map intD))), (4, .d (.v (.int .i64 30))), (5, .d (.v (.int .i64 s5))), (6, .d (.v (.int .i64 s6)))], []⟩), ?_, nofun, rfl, [.d (.v (.int .i64 30))], rfl, ?_⟩
  rotate_left 2
  simp only [h5, if_false] at hr
  rcases Classical.propComplete (0 ≤ x1) with h6 | h6
  simp only [h6, if_true] at hr
  replace hr := bsome hr
  obtain ⟨x2, h7, hr⟩ := hr
  rcases Classical.propComplete ((w64 ((w64 (s5 - 1)) + x2.Arity)) = 0) with h8 | h8
  simp only [h8, if_true] at hr
  rcases Classical.propComplete ((w64 (s6 + 1)) < (s1.length : Int)) with h9 | h9
  simp only [h9, if_true] at hr
  replace hr := Option.some.inj hr
  subst hr
  refine ⟨(.ret, ⟨[(0, .d (.rd (s0.map encSymbol))), (1, .d (.rd (s1.map intD))), (4, .d (.v (.int .i64 32))), (5, .d (.v (.int .i64 (w64 ((w64 (s5 - 1)) + x2.Arity))))), (6, .d (.v (.int .i64 s6)))], []⟩), ?_, nofun, rfl, [.d (.v (.int .i64 32))], rfl, ?_⟩
  rotate_left 2
  simp only [h9, if_false] at hr
  replace hr := Option.some.inj hr
  subst hr
  refine ⟨(), ?_⟩
  rotate_left
  simp only [h8, if_false] at hr
  replace hr := Option.some.inj hr
  subst hr
  refine ⟨(), ?_⟩
  rotate_left
  simp only [h6, if_false] at hr
  rcases Classical.propComplete ((w64 (s5 - 1)) = 0) with h10 | h10
  simp only [h10, if_true] at hr
  rcases Classical.propComplete ((w64 (s6 + 1)) < (s1.length : Int)) with h11 | h11
  simp only [h11, if_true] at hr
  replace hr := Option.some.inj hr
  subst hr
  refine ⟨(.ret, ⟨[(0, .d (.rd (s0.map encSymbol))), (1, .d (.rd (s1.map intD))), (4, .d (.v (.int .i64 32))), (5, .d (.v (.int .i64 (w64 (s5 - 1))))), (6, .d (.v (.int .i64 s6)))], []⟩), ?_, nofun, rfl, [.d (.v (.int .i64 32))], rfl, ?_⟩
  rotate_left 2
  simp only [h11, if_false] at hr
  replace hr := Option.some.inj hr
  subst hr
  refine ⟨(), ?_⟩
  rotate_left
  simp only [h10, if_false] at hr
  replace hr := Option.some.inj hr
  subst hr
  refine ⟨(), ?_⟩
  rotate_left
  simp only [h1, if_false] at hr
  replace hr := Option.some.inj hr
  subst hr
  refine ⟨(.exit 0, ⟨[(0, .d (.rd (s0.map encSymbol))), (1, .d (.rd (s1.map intD))), (4, .d (.v (.int .i64 0))), (5, .d (.v (.int .i64 s5))), (6, .d (.v (.int .i64 s6)))], []⟩), ?_, nofun, rfl⟩
  rotate_left
  all_goals (simp (config := {decide := true}) only [semA, coA, opsA, opA, guardA, aopA, putA, get2, Env.get, Env.set, Env.del, evO, constPV, cellPV, same, lenA, lenP, slenA, List.length_map, binA, arith, arithS, binB, arithB, fold64, notA, wrapA, cellsAt, cellsB, partA, fldA, agCells, shiftP, List.map_cons, List.map_nil, List.getElem?_cons_zero, List.getElem?_cons_succ, List.drop_succ_cons, List.drop_zero, List.take_succ_cons, List.take_zero, decide_true, decide_false, if_true, if_false, ne_eq, not_true_eq_false, not_false_eq_true, true_or, or_true, or_false, delS, Bool.true_eq_false, Bool.false_eq_true, eq_self, Bool.not_true, Bool.not_false, undefP, undef, opPick, Option.map_some, Option.map_none, Option.bind_some, Option.getD_some, List.length_cons, List.length_nil, Nat.reduceAdd, Nat.reduceLT, Nat.reducePow, Nat.reduceMul, Nat.zero_add, Nat.add_zero, coV, rs_dd, reach_dd, frz_nil, frz_cons, rs_im, rs_ag, rs_fn, reach_fn, rs_ptr, rs_ptr39, reach_ptr, reach_ptr39, rs_ref, rs_ifc, reach_im, reach_ag, reach_ref, reach_ifc, rs_d39, rs_im39, rs_ag39, rs_d38, rs_im38, rs_d37, reach_d39, reach_im39, reach_ag39, reach_d38, reach_im38, reach_d37, mapO, mapO_rowP39, reach_rowP39, List.flatMap_nil, List.flatMap_cons, List.append_nil, List.nil_append, List.cons_append, List.append_assoc, Int.reduceToNat, Nat.zero_mul, Nat.one_mul, buildW, buildRow, okCells, isOne, cellsP, splice, reduceCtorEq, and_self, and_true, true_and, elems_im, elems_ref, elems_rd, appendW, List.all_cons, List.all_nil, beq_self_eq_true, Bool.and_self, Bool.and_true, Bool.true_and, rowP_nil, rowP_cons, rowP_fold, rowP_takeN, rowP_len, rowP_get, Abs.rowAt, storeA, List.set_cons_zero, List.set_cons_succ, gl_get, gl_get0, gl_set, gl_set0, mod_zero, mod_succ, gl_mod, gl_mod0, freeze_row, List.length_append, lookA, mputA, look_int, keyD, toV, okTup, opExtract, scalar, mkMapNA, ixArrA, toStrA, List.length_replicate, List.length_set, Nat.reduceMul, rngA, opNext, ixS_eq, cutS_both, cutS_lo, cutS_hi, mkSlA, bxD, List.set_cons_zero, List.all_cons, opBox, allocA, newRowP, List.take_succ_cons, ix_ref, one_int, one_bool, one_str, one_nilI, asInt', bnd, mapP_nil, mlenA, mapP_len, asr_ok, asr_no, cst0, cst1, cst2, cst3, cst4, cst5, cst6, cst7, cst8, resOf, rsT_d, rsT_tp, rsT_ref, rsT_im, rsT_ag, rsT_ifc, ix_intD, cu_intD, cl_intD, ch_intD, al_intD, sn_intD, pu_intD, pp_intD, mn_intD, ix_boolD, cu_boolD, cl_boolD, ch_boolD, al_boolD, sn_boolD, pu_boolD, pp_boolD, mn_boolD, ix_strD, cu_strD, cl_strD, ch_strD, al_strD, sn_strD, pu_strD, pp_strD, mn_strD, ix_ifD, cu_ifD, cl_ifD, ch_ifD, al_ifD, ix_encSymbol, cu_encSymbol, cl_encSymbol, ch_encSymbol, al_encSymbol, sn_encSymbol, pu_encSymbol, pp_encSymbol, mn_encSymbol, ix_encBind, cu_encBind, cl_encBind, ch_encBind, al_encBind, sn_encBind, pu_encBind, pp_encBind, mn_encBind, ix_encRule, cu_encRule, cl_encRule, ch_encRule, al_encRule, sn_encRule, pu_encRule, pp_encRule, mn_encRule, ix_intu32D, cu_intu32D, cl_intu32D, ch_intu32D, al_intu32D, sn_intu32D, pu_intu32D, pp_intu32D, mn_intu32D, ix_ls, cu_ls, cl_ls, ch_ls, al_ls, sn_ls, pu_ls, pp_ls, ix_lsls, cu_lsls, cl_lsls, ch_lsls, al_lsls, sn_lsls, pu_lsls, pp_lsls, intD, boolD, strD, ifD, lsD, ar2D, ar3D, bxD, encSymbol, encBind, encRule, intu32D, cl_40, primClone, r03_Term_S0, b49_0, *])
theorem r03_Term_L0 {s0 : List Symbol} {s1 : List Int} {s : Int × Int} {g : Unit} {x} (h : wh (r03_Term_l0 s0 s1) s = some x) : ∃ q, loopLim (semA C (Lim C) 18014433137672563 b49_0) (r03_Term_S0 s0 s1 s g) = some q ∧ r03_Term_X0 s0 s1 x q := wh_sim (r03_Term_R0 s0 s1) h
set_option maxHeartbeats 4000000 in
theorem r03_Term_R {a0 : List Symbol} {a1 : List Int} {r : Int} (hr : r03_Term a0 a1 = some r) : ∃ p hp, Lim C 49 [.d (.rd (a0.map encSymbol)), .d (.rd (a1.map intD))] [] = some (p, hp) ∧ rsT hp p = some (.d (.v (.int .i64 r))) := by
  simp only [r03_Term] at hr
  replace hr := bsome hr
  obtain ⟨x3, h1, hr⟩ := hr
  obtain ⟨q1, h1L, h1X⟩ := r03_Term_L0 (g := ()) h1
  rcases x3 with x4 | ⟨x5, x6⟩
  simp only [r03_Term_X0, r03_Term_S0] at h1X h1L
  obtain ⟨e1, st1⟩ := q1
  obtain ⟨rfl, h1R⟩ := h1X
  try simp only [List.map_cons, List.map_nil, List.length_cons, List.length_nil, Nat.reduceAdd, Nat.zero_add, Nat.add_zero, List.nil_append, List.append_nil, rowP_nil, mapP_nil, rowP_cons, decide_true, decide_false, undefP, undef, cst0, cst1, cst2, cst3, cst4, cst5, cst6, cst7, cst8, intD, boolD, strD, ifD, lsD, ar2D, ar3D, bxD, encSymbol, encBind, encRule, intu32D] at h1L
  replace hr := Option.some.inj hr
  subst hr
  refine run_ok is49 (Nat.le_of_ble_eq_true rfl) ?_ (.inr rfl) h1R
  rotate_left
  simp only [r03_Term_X0, r03_Term_S0] at h1X h1L
  subst h1X
  try simp only [List.map_cons, List.map_nil, List.length_cons, List.length_nil, Nat.reduceAdd, Nat.zero_add, Nat.add_zero, List.nil_append, List.append_nil, rowP_nil, mapP_nil, rowP_cons, decide_true, decide_false, undefP, undef, cst0, cst1, cst2, cst3, cst4, cst5, cst6, cst7, cst8, intD, boolD, strD, ifD, lsD, ar2D, ar3D, bxD, encSymbol, encBind, encRule, intu32D] at h1L
  replace hr := Option.some.inj hr
  subst hr
  refine run_ok is49 (Nat.le_of_ble_eq_true rfl) (q := (.ret, ⟨[(0, .d (.rd (a0.map encSymbol))), (1, .d (.rd (a1.map intD))), (4, .d (.v (.int .i64 0))), (5, .d (.v (.int .i64 x5))), (6, .d (.v (.int .i64 x6)))], []⟩)) ?_ (.inr rfl) ⟨[.d (.v (.int .i64 0))], rfl, ?_⟩
  rotate_left 2
  all_goals (simp (config := {decide := true}) only [semA, coA, opsA, opA, guardA, aopA, putA, get2, Env.get, Env.set, Env.del, evO, constPV, cellPV, same, lenA, lenP, slenA, List.length_map, binA, arith, arithS, binB, arithB, fold64, notA, wrapA, cellsAt, cellsB, partA, fldA, agCells, shiftP, List.map_cons, List.map_nil, List.getElem?_cons_zero, List.getElem?_cons_succ, List.drop_succ_cons, List.drop_zero, List.take_succ_cons, List.take_zero, decide_true, decide_false, if_true, if_false, ne_eq, not_true_eq_false, not_false_eq_true, true_or, or_true, or_false, delS, Bool.true_eq_false, Bool.false_eq_true, eq_self, Bool.not_true, Bool.not_false, undefP, undef, opPick, Option.map_some, Option.map_none, Option.bind_some, Option.getD_some, List.length_cons, List.length_nil, Nat.reduceAdd, Nat.reduceLT, Nat.reducePow, Nat.reduceMul, Nat.zero_add, Nat.add_zero, coV, rs_dd, reach_dd, frz_nil, frz_cons, rs_im, rs_ag, rs_fn, reach_fn, rs_ptr, rs_ptr39, reach_ptr, reach_ptr39, rs_ref, rs_ifc, reach_im, reach_ag, reach_ref, reach_ifc, rs_d39, rs_im39, rs_ag39, rs_d38, rs_im38, rs_d37, reach_d39, reach_im39, reach_ag39, reach_d38, reach_im38, reach_d37, mapO, mapO_rowP39, reach_rowP39, List.flatMap_nil, List.flatMap_cons, List.append_nil, List.nil_append, List.cons_append, List.append_assoc, Int.reduceToNat, Nat.zero_mul, Nat.one_mul, buildW, buildRow, okCells, isOne, cellsP, splice, reduceCtorEq, and_self, and_true, true_and, elems_im, elems_ref, elems_rd, appendW, List.all_cons, List.all_nil, beq_self_eq_true, Bool.and_self, Bool.and_true, Bool.true_and, rowP_nil, rowP_cons, rowP_fold, rowP_takeN, rowP_len, rowP_get, Abs.rowAt, storeA, List.set_cons_zero, List.set_cons_succ, gl_get, gl_get0, gl_set, gl_set0, mod_zero, mod_succ, gl_mod, gl_mod0, freeze_row, List.length_append, lookA, mputA, look_int, keyD, toV, okTup, opExtract, scalar, mkMapNA, ixArrA, toStrA, List.length_replicate, List.length_set, Nat.reduceMul, rngA, opNext, ixS_eq, cutS_both, cutS_lo, cutS_hi, mkSlA, bxD, List.set_cons_zero, List.all_cons, opBox, allocA, newRowP, List.take_succ_cons, ix_ref, one_int, one_bool, one_str, one_nilI, asInt', bnd, mapP_nil, mlenA, mapP_len, asr_ok, asr_no, cst0, cst1, cst2, cst3, cst4, cst5, cst6, cst7, cst8, resOf, rsT_d, rsT_tp, rsT_ref, rsT_im, rsT_ag, rsT_ifc, ix_intD, cu_intD, cl_intD, ch_intD, al_intD, sn_intD, pu_intD, pp_intD, mn_intD, ix_boolD, cu_boolD, cl_boolD, ch_boolD, al_boolD, sn_boolD, pu_boolD, pp_boolD, mn_boolD, ix_strD, cu_strD, cl_strD, ch_strD, al_strD, sn_strD, pu_strD, pp_strD, mn_strD, ix_ifD, cu_ifD, cl_ifD, ch_ifD, al_ifD, ix_encSymbol, cu_encSymbol, cl_encSymbol, ch_encSymbol, al_encSymbol, sn_encSymbol, pu_encSymbol, pp_encSymbol, mn_encSymbol, ix_encBind, cu_encBind, cl_encBind, ch_encBind, al_encBind, sn_encBind, pu_encBind, pp_encBind, mn_encBind, ix_encRule, cu_encRule, cl_encRule, ch_encRule, al_encRule, sn_encRule, pu_encRule, pp_encRule, mn_encRule, ix_intu32D, cu_intu32D, cl_intu32D, ch_intu32D, al_intu32D, sn_intu32D, pu_intu32D, pp_intu32D, mn_intu32D, ix_ls, cu_ls, cl_ls, ch_ls, al_ls, sn_ls, pu_ls, pp_ls, ix_lsls, cu_lsls, cl_lsls, ch_lsls, al_lsls, sn_lsls, pu_lsls, pp_lsls, intD, boolD, strD, ifD, lsD, ar2D, ar3D, bxD, encSymbol, encBind, encRule, intu32D, cl_40, primClone, callEnv, c49, *])
theorem r03_Term_k {a0 : List Symbol} {a1 : List Int} {r : Int} (hr : r03_Term a0 a1 = some r) {h : AHeap} : callP C (Lim C) 49 [.d (.rd (a0.map encSymbol)), .d (.rd (a1.map intD))] h = some (.d (.v (.int .i64 r)), h) := call_of (ds := [.rd (a0.map encSymbol), .rd (a1.map intD)]) rfl rfl rfl (r03_Term_R hr) h
theorem r03_Term_o {a0 : List Symbol} {a1 : List Int} {r : Int} (hr : r03_Term a0 a1 = some r) {h : AHeap} {args : List PV} (ha : mapO (rs h depth) args = some [.rd (a0.map encSymbol), .rd (a1.map intD)]) : callP C (Lim C) 49 args h = some (.d (.v (.int .i64 r)), if scalar (.d (.v (.int .i64 r))) = true then h else freezeAll (args.flatMap (reach h depth)) h) := call_own rfl rfl rfl (r03_Term_R hr) ha
def c21 : ACode := .seq (.reg [] [] [⟨some (4, true), .mv (.const (.int .i64 0)), none, false, false⟩]) (.seq (.reg [] [] [⟨some (6, false), .mv (.tmp 0), none, false, false⟩, ⟨some (7, false), .call 48 [.tmp 6], none, false, false⟩, ⟨some (5, true), .mv (.tmp 7), none, false, false⟩]) (.seq (.seq (.reg [] [] [⟨some (8, false), .mv (.tmp 5), none, false, false⟩, ⟨some (9, true), .bin .neq (.tmp 8) (.const (.int .i64 0)), none, false, false⟩]) (.cond (.tmp 9) (some 9) (.seq (.reg [] [] [⟨some (10, false), .mv (.tmp 5), none, false, false⟩, ⟨some (4, true), .mv (.tmp 10), none, false, false⟩]) (.ret)) (.skip))) (.seq (.reg [] [] [⟨some (11, false), .mv (.tmp 0), none, false, false⟩, ⟨some (12, false), .mv (.tmp 1), none, false, false⟩, ⟨some (13, false), .call 49 [.tmp 11, .tmp 12], none, false, false⟩, ⟨some (4, true), .mv (.tmp 13), none, false, false⟩]) (.ret))))
theorem is21 : IsF C 21 14 563 c21 [.tmp 4] := ⟨⟨Tryd.f21, _, C_P ▸ Tryd.func21, rfl, rfl, rfl, by kernel_rfl, rfl⟩⟩
set_option maxHeartbeats 4000000 in
theorem r03_Check_R {a0 : List Symbol} {a1 : List Int} {r : Int} (hr : r03_Check a0 a1 = some r) : ∃ p hp, Lim C 21 [.d (.rd (a0.map encSymbol)), .d (.rd (a1.map intD))] [] = some (p, hp) ∧ rsT hp p = some (.d (.v (.int .i64 r))) := by
  simp only [r03_Check] at hr
  replace hr := bsome hr
  obtain ⟨x1, h1, hr⟩ := hr
  have h1k := fun h => r03_CheckSig_k (h := h) h1
  try simp only [intD, boolD, strD, ifD, lsD, ar2D, ar3D, bxD, encSymbol, encBind, encRule, intu32D, List.map_cons, List.map_nil] at h1k
  rcases Classical.propComplete (x1 = 0) with h2 | h2
  simp only [h2, if_true] at hr
  replace hr := bsome hr
  obtain ⟨x2, h3, hr⟩ := hr
  have h3k := fun h => r03_Term_k (h := h) h3
  try simp only [intD, boolD, strD, ifD, lsD, ar2D, ar3D, bxD, encSymbol, encBind, encRule, intu32D, List.map_cons, List.map_nil] at h3k
  replace hr := Option.some.inj hr
  subst hr
  refine run_ok is21 (Nat.le_of_ble_eq_true rfl) (q := (.ret, ⟨[(0, .d (.rd (a0.map encSymbol))), (1, .d (.rd (a1.map intD))), (4, .d (.v (.int .i64 x2))), (5, .d (.v (.int .i64 x1)))], []⟩)) ?_ (.inr rfl) ⟨[.d (.v (.int .i64 x2))], rfl, ?_⟩
  rotate_left 2
  simp only [h2, if_false] at hr
  replace hr := Option.some.inj hr
  subst hr
  refine run_ok is21 (Nat.le_of_ble_eq_true rfl) (q := (.ret, ⟨[(0, .d (.rd (a0.map encSymbol))), (1, .d (.rd (a1.map intD))), (4, .d (.v (.int .i64 x1))), (5, .d (.v (.int .i64 x1)))], []⟩)) ?_ (.inr rfl) ⟨[.d (.v (.int .i64 x1))], rfl, ?_⟩
  rotate_left 2
  all_goals (simp (config := {decide := true}) only [semA, coA, opsA, opA, guardA, aopA, putA, get2, Env.get, Env.set, Env.del, evO, constPV, cellPV, same, lenA, lenP, slenA, List.length_map, binA, arith, arithS, binB, arithB, fold64, notA, wrapA, cellsAt, cellsB, partA, fldA, agCells, shiftP, List.map_cons, List.map_nil, List.getElem?_cons_zero, List.getElem?_cons_succ, List.drop_succ_cons, List.drop_zero, List.take_succ_cons, List.take_zero, decide_true, decide_false, if_true, if_false, ne_eq, not_true_eq_false, not_false_eq_true, true_or, or_true, or_false, delS, Bool.true_eq_false, Bool.false_eq_true, eq_self, Bool.not_true, Bool.not_false, undefP, undef, opPick, Option.map_some, Option.map_none, Option.bind_some, Option.getD_some, List.length_cons, List.length_nil, Nat.reduceAdd, Nat.reduceLT, Nat.reducePow, Nat.reduceMul, Nat.zero_add, Nat.add_zero, coV, rs_dd, reach_dd, frz_nil, frz_cons, rs_im, rs_ag, rs_fn, reach_fn, rs_ptr, rs_ptr39, reach_ptr, reach_ptr39, rs_ref, rs_ifc, reach_im, reach_ag, reach_ref, reach_ifc, rs_d39, rs_im39, rs_ag39, rs_d38, rs_im38, rs_d37, reach_d39, reach_im39, reach_ag39, reach_d38, reach_im38, reach_d37, mapO, mapO_rowP39, reach_rowP39, List.flatMap_nil, List.flatMap_cons, List.append_nil, List.nil_append, List.cons_append, List.append_assoc, Int.reduceToNat, Nat.zero_mul, Nat.one_mul, buildW, buildRow, okCells, isOne, cellsP, splice, reduceCtorEq, and_self, and_true, true_and, elems_im, elems_ref, elems_rd, appendW, List.all_cons, List.all_nil, beq_self_eq_true, Bool.and_self, Bool.and_true, Bool.true_and, rowP_nil, rowP_cons, rowP_fold, rowP_takeN, rowP_len, rowP_get, Abs.rowAt, storeA, List.set_cons_zero, List.set_cons_succ, gl_get, gl_get0, gl_set, gl_set0, mod_zero, mod_succ, gl_mod, gl_mod0, freeze_row, List.length_append, lookA, mputA, look_int, keyD, toV, okTup, opExtract, scalar, mkMapNA, ixArrA, toStrA, List.length_replicate, List.length_set, Nat.reduceMul, rngA, opNext, ixS_eq, cutS_both, cutS_lo, cutS_hi, mkSlA, bxD, List.set_cons_zero, List.all_cons, opBox, allocA, newRowP, List.take_succ_cons, ix_ref, one_int, one_bool, one_str, one_nilI, asInt', bnd, mapP_nil, mlenA, mapP_len, asr_ok, asr_no, cst0, cst1, cst2, cst3, cst4, cst5, cst6, cst7, cst8, resOf, rsT_d, rsT_tp, rsT_ref, rsT_im, rsT_ag, rsT_ifc, ix_intD, cu_intD, cl_intD, ch_intD, al_intD, sn_intD, pu_intD, pp_intD, mn_intD, ix_boolD, cu_boolD, cl_boolD, ch_boolD, al_boolD, sn_boolD, pu_boolD, pp_boolD, mn_boolD, ix_strD, cu_strD, cl_strD, ch_strD, al_strD, sn_strD, pu_strD, pp_strD, mn_strD, ix_ifD, cu_ifD, cl_ifD, ch_ifD, al_ifD, ix_encSymbol, cu_encSymbol, cl_encSymbol, ch_encSymbol, al_encSymbol, sn_encSymbol, pu_encSymbol, pp_encSymbol, mn_encSymbol, ix_encBind, cu_encBind, cl_encBind, ch_encBind, al_encBind, sn_encBind, pu_encBind, pp_encBind, mn_encBind, ix_encRule, cu_encRule, cl_encRule, ch_encRule, al_encRule, sn_encRule, pu_encRule, pp_encRule, mn_encRule, ix_intu32D, cu_intu32D, cl_intu32D, ch_intu32D, al_intu32D, sn_intu32D, pu_intu32D, pp_intu32D, mn_intu32D, ix_ls, cu_ls, cl_ls, ch_ls, al_ls, sn_ls, pu_ls, pp_ls, ix_lsls, cu_lsls, cl_lsls, ch_lsls, al_lsls, sn_lsls, pu_lsls, pp_lsls, intD, boolD, strD, ifD, lsD, ar2D, ar3D, bxD, encSymbol, encBind, encRule, intu32D, cl_40, primClone, callEnv, c21, *])
theorem r03_Check_k {a0 : List Symbol} {a1 : List Int} {r : Int} (hr : r03_Check a0 a1 = some r) {h : AHeap} : callP C (Lim C) 21 [.d (.rd (a0.map encSymbol)), .d (.rd (a1.map intD))] h = some (.d (.v (.int .i64 r)), h) := call_of (ds := [.rd (a0.map encSymbol), .rd (a1.map intD)]) rfl rfl rfl (r03_Check_R hr) h
theorem r03_Check_o {a0 : List Symbol} {a1 : List Int} {r : Int} (hr : r03_Check a0 a1 = some r) {h : AHeap} {args : List PV} (ha : mapO (rs h depth) args = some [.rd (a0.map encSymbol), .rd (a1.map intD)]) : callP C (Lim C) 21 args h = some (.d (.v (.int .i64 r)), if scalar (.d (.v (.int .i64 r))) = true then h else freezeAll (args.flatMap (reach h depth)) h) := call_own rfl rfl rfl (r03_Check_R hr) ha
def b47_1 : ACode := .seq (.seq (.reg [] [] [⟨some (18, false), .mv (.tmp 6), none, false, false⟩, ⟨some (19, false), .mv (.tmp 3), none, false, false⟩, ⟨some (20, false), .len (.tmp 19), none, false, false⟩, ⟨some (21, true), .bin .lss (.tmp 18) (.tmp 20), none, false, false⟩]) (.cond (.tmp 21) (some 21) (.skip) (.exit 2))) (.seq (.block 3 2097152 (.reg [] [] [⟨some (24, false), .mv (.tmp 5), none, false, false⟩, ⟨some (25, false), .mv (.tmp 24), none, false, false⟩, ⟨some (26, false), .mv (.tmp 3), some (25, false), false, false⟩, ⟨some (27, false), .mv (.tmp 6), some (25, false), false, false⟩, ⟨some (28, false), .ix 1 (.tmp 26) (.tmp 27), some (25, false), true, false⟩, ⟨some (29, false), .load none (.tmp 28), some (25, false), true, false⟩, ⟨some (30, false), .mv (.tmp 0), some (25, false), false, false⟩, ⟨some (31, false), .mv (.tmp 4), some (25, false), false, false⟩, ⟨some (32, false), .ix 1 (.tmp 30) (.tmp 31), some (25, false), true, false⟩, ⟨some (33, false), .load none (.tmp 32), some (25, false), true, false⟩, ⟨some (34, false), .bin .sub (.const (.int .i64 (-1))) (.tmp 33), some (25, false), false, false⟩, ⟨some (35, false), .bin .eql (.tmp 29) (.tmp 34), some (25, false), false, false⟩, ⟨some (36, false), .pick (.tmp 25) (.const (.bool true)) (.tmp 35), none, false, false⟩, ⟨some (5, true), .mv (.tmp 36), none, false, false⟩])) (.reg [] [] [⟨some (22, false), .mv (.tmp 6), none, false, false⟩, ⟨some (23, false), .bin .add (.tmp 22) (.const (.int .i64 1)), none, false, false⟩, ⟨some (6, true), .mv (.tmp 23), none, false, false⟩]))
def b47_0 : ACode := .seq (.seq (.reg [] [] [⟨some (7, false), .mv (.tmp 4), none, false, false⟩, ⟨some (8, false), .mv (.tmp 0), none, false, false⟩, ⟨some (9, false), .len (.tmp 8), none, false, false⟩, ⟨some (10, true), .bin .lss (.tmp 7) (.tmp 9), none, false, false⟩]) (.cond (.tmp 10) (some 10) (.skip) (.exit 0))) (.seq (.block 1 274880005216 (.seq (.reg [] [] [⟨some (13, false), .mv (.tmp 0), none, false, false⟩, ⟨some (14, false), .mv (.tmp 4), none, false, false⟩, ⟨some (15, false), .ix 1 (.tmp 13) (.tmp 14), none, false, false⟩, ⟨some (16, false), .load none (.tmp 15), none, false, false⟩, ⟨some (17, false), .bin .geq (.tmp 16) (.const (.int .i64 0)), none, false, false⟩, ⟨some (5, true), .mv (.tmp 17), none, false, false⟩]) (.seq (.seq (.reg [] [] [⟨some (6, true), .mv (.const (.int .i64 0)), none, false, false⟩]) (.block 2 2097152 (.loop b47_1))) (.seq (.reg [] [] [⟨some (37, false), .mv (.tmp 5), none, false, false⟩, ⟨some (38, true), .not (.tmp 37), none, false, false⟩]) (.cond (.tmp 38) (some 38) (.reg [] [] [⟨some (39, false), .mv (.tmp 3), none, false, false⟩, ⟨some (40, false), .mv (.tmp 0), none, false, false⟩, ⟨some (41, false), .mv (.tmp 4), none, false, false⟩, ⟨some (42, false), .ix 1 (.tmp 40) (.tmp 41), none, false, false⟩, ⟨some (43, false), .load none (.tmp 42), none, false, false⟩, ⟨some (44, false), .bin .sub (.const (.int .i64 (-1))) (.tmp 43), none, false, false⟩, ⟨some (45, false), .lit 1 [(0, .tmp 44)], none, false, false⟩, ⟨some (46, false), .app 1 8 (.tmp 39) (.tmp 45), none, false, false⟩, ⟨some (3, true), .mv (.tmp 46), none, false, false⟩]) (.skip)))))) (.reg [] [] [⟨some (11, false), .mv (.tmp 4), none, false, false⟩, ⟨some (12, false), .bin .add (.tmp 11) (.const (.int .i64 1)), none, false, false⟩, ⟨some (4, true), .mv (.tmp 12), none, false, false⟩]))
def c47 : ACode := .seq (.reg [] [(2, 0)] [⟨some (2, true), .mv (.const (.slice none 0 0)), none, false, false⟩]) (.seq (.reg [] [(3, 1)] [⟨some (3, true), .mv (.const (.slice none 0 0)), none, false, false⟩]) (.seq (.seq (.reg [] [] [⟨some (4, true), .mv (.const (.int .i64 0)), none, false, false⟩]) (.block 0 274880005216 (.loop b47_0))) (.seq (.reg [] [(2, 0)] [⟨some (47, false), .mv (.tmp 3), none, false, false⟩, ⟨some (2, true), .mv (.tmp 47), none, false, false⟩]) (.ret))))
theorem is47 : IsF C 47 48 274880005245 c47 [.tmp 2] := ⟨⟨Tryd.f47, _, C_P ▸ Tryd.func47, rfl, rfl, rfl, by kernel_rfl, rfl⟩⟩
def r03_Vars_S1 (s0 : List Int) (s2 : List Int) (s4 : Int) (o3 : List Int) : Bool × Int → Nat → St := fun (s5, s6) v3 => ⟨[(0, .d (.rd (s0.map intD))), (2, .d (.rd (s2.map intD))), (3, .ref 0 v3 0 o3.length), (4, .d (.v (.int .i64 s4))), (5, .d (.v (.bool s5))), (6, .d (.v (.int .i64 s6)))], (.row false v3 1 (rowP intD o3) :: [])⟩
def r03_Vars_X1 (s0 : List Int) (s2 : List Int) (s4 : Int) (o3 : List Int) : (Bool × Int) → AExit × St → Prop := fun (s5, s6) q => ∃ v3 : Nat, q = (.exit 2, ⟨[(0, .d (.rd (s0.map intD))), (2, .d (.rd (s2.map intD))), (3, .ref 0 v3 0 o3.length), (4, .d (.v (.int .i64 s4))), (5, .d (.v (.bool s5))), (6, .d (.v (.int .i64 s6)))], (.row false v3 1 (rowP intD o3) :: [])⟩)
theorem r03_Vars_R1 (s0 : List Int) (s2 : List Int) (s4 : Int) (o3 : List Int) : ∀ (s : Bool × Int) (g : Nat) r, r03_Vars_l1 s0 s2 s4 o3 s = some r → Sum.elim (fun s' => ∃ g', semA C (Lim C) 274880005245 b47_1 (r03_Vars_S1 s0 s2 s4 o3 s g) = some (.normal, r03_Vars_S1 s0 s2 s4 o3 s' g')) (fun x => ∃ q, semA C (Lim C) 274880005245 b47_1 (r03_Vars_S1 s0 s2 s4 o3 s g) = some q ∧ q.1 ≠ .normal ∧ r03_Vars_X1 s0 s2 s4 o3 x q) r := by
  intro s g r hr
  obtain ⟨s5, s6⟩ := s
  have ⟨v3, hg0⟩ : ∃ y, y = g := ⟨_, rfl⟩
  subst hg0
  simp only [r03_Vars_l1] at hr
  rcases Classical.propComplete (s6 < (o3.length : Int)) with h1 | h1
  simp only [h1, if_true] at hr
  cases h2 : s5
  simp only [h2, Bool.false_eq_true, if_false] at hr
  replace hr := bsome hr
  obtain ⟨x2, h3, hr⟩ := hr
  have h3a := eq_true (idx_some h3).1
  have h3b := eq_true (idx_some h3).2.1
  have h3c := (idx_some h3).2.2
  replace hr := bsome hr
  obtain ⟨x3, h4, hr⟩ := hr
  replace hr := Option.some.inj hr
  subst hr
  refine ⟨v3, ?_⟩
  rotate_left
  simp only [h2, if_true] at hr
  replace hr := Option.some.inj hr
  subst hr
  refine ⟨v3, ?_⟩
  rotate_left
  simp only [h1, if_false] at hr
  replace hr := Option.some.inj hr
  subst hr
  refine ⟨(.exit 2, ⟨[(0, .d (.rd (s0.map intD))), (2, .d (.rd (s2.map intD))), (3, .ref 0 v3 0 o3.length), (4, .d (.v (.int .i64 s4))), (5, .d (.v (.bool s5))), (6, .d (.v (.int .i64 s6)))], (.row false v3 1 (rowP intD o3) :: [])⟩), ?_, nofun, v3, rfl⟩
  rotate_left
  all_goals (simp (config := {decide := true}) only [semA, coA, opsA, opA, guardA, aopA, putA, get2, Env.get, Env.set, Env.del, evO, constPV, cellPV, same, lenA, lenP, slenA, List.length_map, binA, arith, arithS, binB, arithB, fold64, notA, wrapA, cellsAt, cellsB, partA, fldA, agCells, shiftP, List.map_cons, List.map_nil, List.getElem?_cons_zero, List.getElem?_cons_succ, List.drop_succ_cons, List.drop_zero, List.take_succ_cons, List.take_zero, decide_true, decide_false, if_true, if_false, ne_eq, not_true_eq_false, not_false_eq_true, true_or, or_true, or_false, delS, Bool.true_eq_false, Bool.false_eq_true, eq_self, Bool.not_true, Bool.not_false, undefP, undef, opPick, Option.map_some, Option.map_none, Option.bind_some, Option.getD_some, List.length_cons, List.length_nil, Nat.reduceAdd, Nat.reduceLT, Nat.reducePow, Nat.reduceMul, Nat.zero_add, Nat.add_zero, coV, rs_dd, reach_dd, frz_nil, frz_cons, rs_im, rs_ag, rs_fn, reach_fn, rs_ptr, rs_ptr39, reach_ptr, reach_ptr39, rs_ref, rs_ifc, reach_im, reach_ag, reach_ref, reach_ifc, rs_d39, rs_im39, rs_ag39, rs_d38, rs_im38, rs_d37, reach_d39, reach_im39, reach_ag39, reach_d38, reach_im38, reach_d37, mapO, mapO_rowP39, reach_rowP39, List.flatMap_nil, List.flatMap_cons, List.append_nil, List.nil_append, List.cons_append, List.append_assoc, Int.reduceToNat, Nat.zero_mul, Nat.one_mul, buildW, buildRow, okCells, isOne, cellsP, splice, reduceCtorEq, and_self, and_true, true_and, elems_im, elems_ref, elems_rd, appendW, List.all_cons, List.all_nil, beq_self_eq_true, Bool.and_self, Bool.and_true, Bool.true_and, rowP_nil, rowP_cons, rowP_fold, rowP_takeN, rowP_len, rowP_get, Abs.rowAt, storeA, List.set_cons_zero, List.set_cons_succ, gl_get, gl_get0, gl_set, gl_set0, mod_zero, mod_succ, gl_mod, gl_mod0, freeze_row, List.length_append, lookA, mputA, look_int, keyD, toV, okTup, opExtract, scalar, mkMapNA, ixArrA, toStrA, List.length_replicate, List.length_set, Nat.reduceMul, rngA, opNext, ixS_eq, cutS_both, cutS_lo, cutS_hi, mkSlA, bxD, List.set_cons_zero, List.all_cons, opBox, allocA, newRowP, List.take_succ_cons, ix_ref, one_int, one_bool, one_str, one_nilI, asInt', bnd, mapP_nil, mlenA, mapP_len, asr_ok, asr_no, cst0, cst1, cst2, cst3, cst4, cst5, cst6, cst7, cst8, resOf, rsT_d, rsT_tp, rsT_ref, rsT_im, rsT_ag, rsT_ifc, ix_intD, cu_intD, cl_intD, ch_intD, al_intD, sn_intD, pu_intD, pp_intD, mn_intD, ix_boolD, cu_boolD, cl_boolD, ch_boolD, al_boolD, sn_boolD, pu_boolD, pp_boolD, mn_boolD, ix_strD, cu_strD, cl_strD, ch_strD, al_strD, sn_strD, pu_strD, pp_strD, mn_strD, ix_ifD, cu_ifD, cl_ifD, ch_ifD, al_ifD, ix_encSymbol, cu_encSymbol, cl_encSymbol, ch_encSymbol, al_encSymbol, sn_encSymbol, pu_encSymbol, pp_encSymbol, mn_encSymbol, ix_encBind, cu_encBind, cl_encBind, ch_encBind, al_encBind, sn_encBind, pu_encBind, pp_encBind, mn_encBind, ix_encRule, cu_encRule, cl_encRule, ch_encRule, al_encRule, sn_encRule, pu_encRule, pp_encRule, mn_encRule, ix_intu32D, cu_intu32D, cl_intu32D, ch_intu32D, al_intu32D, sn_intu32D, pu_intu32D, pp_intu32D, mn_intu32D, ix_ls, cu_ls, cl_ls, ch_ls, al_ls, sn_ls, pu_ls, pp_ls, ix_lsls, cu_lsls, cl_lsls, ch_lsls, al_lsls, sn_lsls, pu_lsls, pp_lsls, intD, boolD, strD, ifD, lsD, ar2D, ar3D, bxD, encSymbol, encBind, encRule, intu32D, cl_40, primClone, r03_Vars_S1, b47_1, *])
theorem r03_Vars_L1 {s0 : List Int} {s2 : List Int} {s4 : Int} {o3 : List Int} {s : Bool × Int} {g : Nat} {x} (h : wh (r03_Vars_l1 s0 s2 s4 o3) s = some x) : ∃ q, loopLim (semA C (Lim C) 274880005245 b47_1) (r03_Vars_S1 s0 s2 s4 o3 s g) = some q ∧ r03_Vars_X1 s0 s2 s4 o3 x q := wh_sim (r03_Vars_R1 s0 s2 s4 o3) h
def r03_Vars_S0 (s0 : List Int) (s2 : List Int) : Int × (List Int) → Nat → St := fun (s4, o3) v3 => ⟨[(0, .d (.rd (s0.map intD))), (2, .d (.rd (s2.map intD))), (3, .ref 0 v3 0 o3.length), (4, .d (.v (.int .i64 s4)))], (.row false v3 1 (rowP intD o3) :: [])⟩
def r03_Vars_X0 (s0 : List Int) (s2 : List Int) : (Int × (List Int)) → AExit × St → Prop := fun (s4, o3) q => ∃ v3 : Nat, q = (.exit 0, ⟨[(0, .d (.rd (s0.map intD))), (2, .d (.rd (s2.map intD))), (3, .ref 0 v3 0 o3.length), (4, .d (.v (.int .i64 s4)))], (.row false v3 1 (rowP intD o3) :: [])⟩)
theorem r03_Vars_R0 (s0 : List Int) (s2 : List Int) : ∀ (s : Int × (List Int)) (g : Nat) r, r03_Vars_l0 s0 s2 s = some r → Sum.elim (fun s' => ∃ g', semA C (Lim C) 274880005245 b47_0 (r03_Vars_S0 s0 s2 s g) = some (.normal, r03_Vars_S0 s0 s2 s' g')) (fun x => ∃ q, semA C (Lim C) 274880005245 b47_0 (r03_Vars_S0 s0 s2 s g) = some q ∧ q.1 ≠ .normal ∧ r03_Vars_X0 s0 s2 x q) r := by
  intro s g r hr
  obtain ⟨s4, o3⟩ := s
  have ⟨v3, hg0⟩ : ∃ y, y = g := ⟨_, rfl⟩
  subst hg0
  simp only [r03_Vars_l0] at hr
  rcases Classical.propComplete (s4 < (s0.length : Int)) with h1 | h1
  simp only [h1, if_true] at hr
  replace hr := bsome hr
  obtain ⟨x1, h2, hr⟩ := hr
  replace hr := bsome hr
  obtain ⟨x4, h3, hr⟩ := hr
  obtain ⟨q3, h3L, h3X⟩ := r03_Vars_L1 (g := v3) h3
  obtain ⟨x5, x6⟩ := x4
  simp only [r03_Vars_X1, r03_Vars_S1] at h3X h3L
  obtain ⟨z7, rfl⟩ := h3X
  try simp only [List.map_cons, List.map_nil, List.length_cons, List.length_nil, Nat.reduceAdd, Nat.zero_add, Nat.add_zero, List.nil_append, List.append_nil, rowP_nil, mapP_nil, rowP_cons, decide_true, decide_false, undefP, undef, cst0, cst1, cst2, cst3, cst4, cst5, cst6, cst7, cst8, intD, boolD, strD, ifD, lsD, ar2D, ar3D, bxD, encSymbol, encBind, encRule, intu32D] at h3L
  cases h4 : x5
  simp only [h4, Bool.false_eq_true, if_false] at hr
  replace hr := gsome hr
  obtain ⟨h5, hr⟩ := hr
  replace hr := Option.some.inj hr
  subst hr
  refine ⟨(z7 + 1), ?_⟩
  rotate_left
  simp only [h4, if_true] at hr
  replace hr := Option.some.inj hr
  subst hr
  refine ⟨z7, ?_⟩
  rotate_left
  simp only [h1, if_false] at hr
  replace hr := Option.some.inj hr
  subst hr
  refine ⟨(.exit 0, ⟨[(0, .d (.rd (s0.map intD))), (2, .d (.rd (s2.map intD))), (3, .ref 0 v3 0 o3.length), (4, .d (.v (.int .i64 s4)))], (.row false v3 1 (rowP intD o3) :: [])⟩), ?_, nofun, v3, rfl⟩
  rotate_left
  all_goals (simp (config := {decide := true}) only [semA, coA, opsA, opA, guardA, aopA, putA, get2, Env.get, Env.set, Env.del, evO, constPV, cellPV, same, lenA, lenP, slenA, List.length_map, binA, arith, arithS, binB, arithB, fold64, notA, wrapA, cellsAt, cellsB, partA, fldA, agCells, shiftP, List.map_cons, List.map_nil, List.getElem?_cons_zero, List.getElem?_cons_succ, List.drop_succ_cons, List.drop_zero, List.take_succ_cons, List.take_zero, decide_true, decide_false, if_true, if_false, ne_eq, not_true_eq_false, not_false_eq_true, true_or, or_true, or_false, delS, Bool.true_eq_false, Bool.false_eq_true, eq_self, Bool.not_true, Bool.not_false, undefP, undef, opPick, Option.map_some, Option.map_none, Option.bind_some, Option.getD_some, List.length_cons, List.length_nil, Nat.reduceAdd, Nat.reduceLT, Nat.reducePow, Nat.reduceMul, Nat.zero_add, Nat.add_zero, coV, rs_dd, reach_dd, frz_nil, frz_cons, rs_im, rs_ag, rs_fn, reach_fn, rs_ptr, rs_ptr39, reach_ptr, reach_ptr39, rs_ref, rs_ifc, reach_im, reach_ag, reach_ref, reach_ifc, rs_d39, rs_im39, rs_ag39, rs_d38, rs_im38, rs_d37, reach_d39, reach_im39, reach_ag39, reach_d38, reach_im38, reach_d37, mapO, mapO_rowP39, reach_rowP39, List.flatMap_nil, List.flatMap_cons, List.append_nil, List.nil_append, List.cons_append, List.append_assoc, Int.reduceToNat, Nat.zero_mul, Nat.one_mul, buildW, buildRow, okCells, isOne, cellsP, splice, reduceCtorEq, and_self, and_true, true_and, elems_im, elems_ref, elems_rd, appendW, List.all_cons, List.all_nil, beq_self_eq_true, Bool.and_self, Bool.and_true, Bool.true_and, rowP_nil, rowP_cons, rowP_fold, rowP_takeN, rowP_len, rowP_get, Abs.rowAt, storeA, List.set_cons_zero, List.set_cons_succ, gl_get, gl_get0, gl_set, gl_set0, mod_zero, mod_succ, gl_mod, gl_mod0, freeze_row, List.length_append, lookA, mputA, look_int, keyD, toV, okTup, opExtract, scalar, mkMapNA, ixArrA, toStrA, List.length_replicate, List.length_set, Nat.reduceMul, rngA, opNext, ixS_eq, cutS_both, cutS_lo, cutS_hi, mkSlA, bxD, List.set_cons_zero, List.all_cons, opBox, allocA, newRowP, List.take_succ_cons, ix_ref, one_int, one_bool, one_str, one_nilI, asInt', bnd, mapP_nil, mlenA, mapP_len, asr_ok, asr_no, cst0, cst1, cst2, cst3, cst4, cst5, cst6, cst7, cst8, resOf, rsT_d, rsT_tp, rsT_ref, rsT_im, rsT_ag, rsT_ifc, ix_intD, cu_intD, cl_intD, ch_intD, al_intD, sn_intD, pu_intD, pp_intD, mn_intD, ix_boolD, cu_boolD, cl_boolD, ch_boolD, al_boolD, sn_boolD, pu_boolD, pp_boolD, mn_boolD, ix_strD, cu_strD, cl_strD, ch_strD, al_strD, sn_strD, pu_strD, pp_strD, mn_strD, ix_ifD, cu_ifD, cl_ifD, ch_ifD, al_ifD, ix_encSymbol, cu_encSymbol, cl_encSymbol, ch_encSymbol, al_encSymbol, sn_encSymbol, pu_encSymbol, pp_encSymbol, mn_encSymbol, ix_encBind, cu_encBind, cl_encBind, ch_encBind, al_encBind, sn_encBind, pu_encBind, pp_encBind, mn_encBind, ix_encRule, cu_encRule, cl_encRule, ch_encRule, al_encRule, sn_encRule, pu_encRule, pp_encRule, mn_encRule, ix_intu32D, cu_intu32D, cl_intu32D, ch_intu32D, al_intu32D, sn_intu32D, pu_intu32D, pp_intu32D, mn_intu32D, ix_ls, cu_ls, cl_ls, ch_ls, al_ls, sn_ls, pu_ls, pp_ls, ix_lsls, cu_lsls, cl_lsls, ch_lsls, al_lsls, sn_lsls, pu_lsls, pp_lsls, intD, boolD, strD, ifD, lsD, ar2D, ar3D, bxD, encSymbol, encBind, encRule, intu32D, cl_40, primClone, r03_Vars_S0, b47_0, *])
theorem r03_Vars_L0 {s0 : List Int} {s2 : List Int} {s : Int × (List Int)} {g : Nat} {x} (h : wh (r03_Vars_l0 s0 s2) s = some x) : ∃ q, loopLim (semA C (Lim C) 274880005245 b47_0) (r03_Vars_S0 s0 s2 s g) = some q ∧ r03_Vars_X0 s0 s2 x q := wh_sim (r03_Vars_R0 s0 s2) h
set_option maxHeartbeats 4000000 in
theorem r03_Vars_R {a0 : List Int} {r : (List Int)} (hr : r03_Vars a0 = some r) : ∃ p hp, Lim C 47 [.d (.rd (a0.map intD))] [] = some (p, hp) ∧ rsT hp p = some (.d (.rd (r.map intD))) := by
  simp only [r03_Vars] at hr
  replace hr := bsome hr
  obtain ⟨x8, h1, hr⟩ := hr
  obtain ⟨q1, h1L, h1X⟩ := r03_Vars_L0 (g := 0) h1
  obtain ⟨x9, x10⟩ := x8
  simp only [r03_Vars_X0, r03_Vars_S0] at h1X h1L
  obtain ⟨z11, rfl⟩ := h1X
  try simp only [List.map_cons, List.map_nil, List.length_cons, List.length_nil, Nat.reduceAdd, Nat.zero_add, Nat.add_zero, List.nil_append, List.append_nil, rowP_nil, mapP_nil, rowP_cons, decide_true, decide_false, undefP, undef, cst0, cst1, cst2, cst3, cst4, cst5, cst6, cst7, cst8, intD, boolD, strD, ifD, lsD, ar2D, ar3D, bxD, encSymbol, encBind, encRule, intu32D] at h1L
  replace hr := Option.some.inj hr
  subst hr
  refine run_ok is47 (Nat.le_of_ble_eq_true rfl) (q := (.ret, ⟨[(0, .d (.rd (a0.map intD))), (2, .d (.rd (x10.map intD))), (3, .ref 0 z11 0 x10.length), (4, .d (.v (.int .i64 x9)))], (.row true z11 1 (rowP intD x10) :: [])⟩)) ?_ (.inr rfl) ⟨[.d (.rd (x10.map intD))], rfl, ?_⟩
  rotate_left 2
  all_goals (simp (config := {decide := true}) only [semA, coA, opsA, opA, guardA, aopA, putA, get2, Env.get, Env.set, Env.del, evO, constPV, cellPV, same, lenA, lenP, slenA, List.length_map, binA, arith, arithS, binB, arithB, fold64, notA, wrapA, cellsAt, cellsB, partA, fldA, agCells, shiftP, List.map_cons, List.map_nil, List.getElem?_cons_zero, List.getElem?_cons_succ, List.drop_succ_cons, List.drop_zero, List.take_succ_cons, List.take_zero, decide_true, decide_false, if_true, if_false, ne_eq, not_true_eq_false, not_false_eq_true, true_or, or_true, or_false, delS, Bool.true_eq_false, Bool.false_eq_true, eq_self, Bool.not_true, Bool.not_false, undefP, undef, opPick, Option.map_some, Option.map_none, Option.bind_some, Option.getD_some, List.length_cons, List.length_nil, Nat.reduceAdd, Nat.reduceLT, Nat.reducePow, Nat.reduceMul, Nat.zero_add, Nat.add_zero, coV, rs_dd, reach_dd, frz_nil, frz_cons, rs_im, rs_ag, rs_fn, reach_fn, rs_ptr, rs_ptr39, reach_ptr, reach_ptr39, rs_ref, rs_ifc, reach_im, reach_ag, reach_ref, reach_ifc, rs_d39, rs_im39, rs_ag39, rs_d38, rs_im38, rs_d37, reach_d39, reach_im39, reach_ag39, reach_d38, reach_im38, reach_d37, mapO, mapO_rowP39, reach_rowP39, List.flatMap_nil, List.flatMap_cons, List.append_nil, List.nil_append, List.cons_append, List.append_assoc, Int.reduceToNat, Nat.zero_mul, Nat.one_mul, buildW, buildRow, okCells, isOne, cellsP, splice, reduceCtorEq, and_self, and_true, true_and, elems_im, elems_ref, elems_rd, appendW, List.all_cons, List.all_nil, beq_self_eq_true, Bool.and_self, Bool.and_true, Bool.true_and, rowP_nil, rowP_cons, rowP_fold, rowP_takeN, rowP_len, rowP_get, Abs.rowAt, storeA, List.set_cons_zero, List.set_cons_succ, gl_get, gl_get0, gl_set, gl_set0, mod_zero, mod_succ, gl_mod, gl_mod0, freeze_row, List.length_append, lookA, mputA, look_int, keyD, toV, okTup, opExtract, scalar, mkMapNA, ixArrA, toStrA, List.length_replicate, List.length_set, Nat.reduceMul, rngA, opNext, ixS_eq, cutS_both, cutS_lo, cutS_hi, mkSlA, bxD, List.set_cons_zero, List.all_cons, opBox, allocA, newRowP, List.take_succ_cons, ix_ref, one_int, one_bool, one_str, one_nilI, asInt', bnd, mapP_nil, mlenA, mapP_len, asr_ok, asr_no, cst0, cst1, cst2, cst3, cst4, cst5, cst6, cst7, cst8, resOf, rsT_d, rsT_tp, rsT_ref, rsT_im, rsT_ag, rsT_ifc, ix_intD, cu_intD, cl_intD, ch_intD, al_intD, sn_intD, pu_intD, pp_intD, mn_intD, ix_boolD, cu_boolD, cl_boolD, ch_boolD, al_boolD, sn_boolD, pu_boolD, pp_boolD, mn_boolD, ix_strD, cu_strD, cl_strD, ch_strD, al_strD, sn_strD, pu_strD, pp_strD, mn_strD, ix_ifD, cu_ifD, cl_ifD, ch_ifD, al_ifD, ix_encSymbol, cu_encSymbol, cl_encSymbol, ch_encSymbol, al_encSymbol, sn_encSymbol, pu_encSymbol, pp_encSymbol, mn_encSymbol, ix_encBind, cu_encBind, cl_encBind, ch_encBind, al_encBind, sn_encBind, pu_encBind, pp_encBind, mn_encBind, ix_encRule, cu_encRule, cl_encRule, ch_encRule, al_encRule, sn_encRule, pu_encRule, pp_encRule, mn_encRule, ix_intu32D, cu_intu32D, cl_intu32D, ch_intu32D, al_intu32D, sn_intu32D, pu_intu32D, pp_intu32D, mn_intu32D, ix_ls, cu_ls, cl_ls, ch_ls, al_ls, sn_ls, pu_ls, pp_ls, ix_lsls, cu_lsls, cl_lsls, ch_lsls, al_lsls, sn_lsls, pu_lsls, pp_lsls, intD, boolD, strD, ifD, lsD, ar2D, ar3D, bxD, encSymbol, encBind, encRule, intu32D, cl_40, primClone, callEnv, c47, *])
theorem r03_Vars_k {a0 : List Int} {r : (List Int)} (hr : r03_Vars a0 = some r) {h : AHeap} : callP C (Lim C) 47 [.d (.rd (a0.map intD))] h = some (.d (.rd (r.map intD)), h) := call_of (ds := [.rd (a0.map intD)]) rfl rfl rfl (r03_Vars_R hr) h
theorem r03_Vars_o {a0 : List Int} {r : (List Int)} (hr : r03_Vars a0 = some r) {h : AHeap} {args : List PV} (ha : mapO (rs h depth) args = some [.rd (a0.map intD)]) : callP C (Lim C) 47 args h = some (.d (.rd (r.map intD)), if scalar (.d (.rd (r.map intD))) = true then h else freezeAll (args.flatMap (reach h depth)) h) := call_own rfl rfl rfl (r03_Vars_R hr) ha
def b20_2 : ACode := .seq (.seq (.reg [] [] [⟨some (114, false), .mv (.tmp 13), none, false, false⟩, ⟨some (115, false), .mv (.tmp 10), none, false, false⟩, ⟨some (116, false), .len (.tmp 115), none, false, false⟩, ⟨some (117, true), .bin .lss (.tmp 114) (.tmp 116), none, false, false⟩]) (.cond (.tmp 117) (some 117) (.skip) (.exit 4))) (.seq (.block 5 1393796741061663419460466505016405129166848 (.seq (.reg [] [] [⟨some (120, false), .mv (.tmp 7), none, false, false⟩, ⟨some (121, false), .mv (.tmp 12), none, false, false⟩, ⟨some (122, false), .ix 1 (.tmp 120) (.tmp 121), none, true, false⟩, ⟨some (123, false), .load none (.tmp 122), none, true, false⟩, ⟨some (124, false), .mv (.tmp 10), none, false, false⟩, ⟨some (125, false), .mv (.tmp 13), none, false, false⟩, ⟨some (126, false), .ix 1 (.tmp 124) (.tmp 125), none, true, false⟩, ⟨some (127, false), .load none (.tmp 126), none, true, false⟩, ⟨some (128, false), .bin .sub (.const (.int .i64 (-1))) (.tmp 127), none, false, false⟩, ⟨some (129, false), .bin .eql (.tmp 123) (.tmp 128), none, false, false⟩, ⟨some (130, false), .mv (.tmp 8), none, false, false⟩, ⟨some (131, false), .mv (.tmp 12), none, false, false⟩, ⟨some (132, false), .ix 1 (.tmp 130) (.tmp 131), none, true, false⟩, ⟨some (133, false), .load none (.tmp 132), none, true, false⟩, ⟨some (134, false), .mv (.tmp 11), none, false, false⟩, ⟨some (135, false), .mv (.tmp 13), none, false, false⟩, ⟨some (136, false), .ix 1 (.tmp 134) (.tmp 135), none, true, false⟩, ⟨some (137, false), .load none (.tmp 136), none, true, false⟩, ⟨some (138, false), .bin .sub (.const (.int .i64 (-1))) (.tmp 137), none, false, false⟩, ⟨some (139, false), .bin .eql (.tmp 133) (.tmp 138), none, false, false⟩, ⟨some (140, true), .binB .neq (.tmp 129) (.tmp 139), none, false, false⟩]) (.cond (.tmp 140) (some 140) (.seq (.reg [] [] [⟨some (6, true), .mv (.const (.bool false)), none, false, false⟩]) (.ret)) (.skip)))) (.reg [] [] [⟨some (118, false), .mv (.tmp 13), none, false, false⟩, ⟨some (119, false), .bin .add (.tmp 118) (.const (.int .i64 1)), none, false, false⟩, ⟨some (13, true), .mv (.tmp 119), none, false, false⟩]))
def b20_1 : ACode := .seq (.seq (.reg [] [] [⟨some (108, false), .mv (.tmp 12), none, false, false⟩, ⟨some (109, false), .mv (.tmp 7), none, false, false⟩, ⟨some (110, false), .len (.tmp 109), none, false, false⟩, ⟨some (111, true), .bin .lss (.tmp 108) (.tmp 110), none, false, false⟩]) (.cond (.tmp 111) (some 111) (.skip) (.exit 2))) (.seq (.block 3 1393796743657811848727880319281653293785088 (.seq (.reg [] [] [⟨some (13, true), .mv (.const (.int .i64 0)), none, false, false⟩]) (.block 4 1393796741061663419460466505016405129166848 (.loop b20_2)))) (.reg [] [] [⟨some (112, false), .mv (.tmp 12), none, false, false⟩, ⟨some (113, false), .bin .add (.tmp 112) (.const (.int .i64 1)), none, false, false⟩, ⟨some (12, true), .mv (.tmp 113), none, false, false⟩]))
def b20_0 : ACode := .seq (.seq (.reg [] [] [⟨some (70, false), .mv (.tmp 9), none, false, false⟩, ⟨some (71, false), .mv (.tmp 7), none, false, false⟩, ⟨some (72, false), .len (.tmp 71), none, false, false⟩, ⟨some (73, true), .bin .lss (.tmp 70) (.tmp 72), none, false, false⟩]) (.cond (.tmp 73) (some 73) (.skip) (.exit 0))) (.seq (.block 1 316912659501790316113466228736 (.seq (.reg [] [] [⟨some (76, false), .mv (.tmp 7), none, false, false⟩, ⟨some (77, false), .mv (.tmp 9), none, false, false⟩, ⟨some (78, false), .ix 1 (.tmp 76) (.tmp 77), none, true, false⟩, ⟨some (79, false), .load none (.tmp 78), none, true, false⟩, ⟨some (80, false), .bin .geq (.tmp 79) (.const (.int .i64 0)), none, false, false⟩, ⟨some (81, false), .mv (.tmp 80), none, false, false⟩, ⟨some (82, false), .mv (.tmp 8), some (81, false), false, false⟩, ⟨some (83, false), .mv (.tmp 9), some (81, false), false, false⟩, ⟨some (84, false), .ix 1 (.tmp 82) (.tmp 83), some (81, false), true, false⟩, ⟨some (85, false), .load none (.tmp 84), some (81, false), true, false⟩, ⟨some (86, false), .bin .geq (.tmp 85) (.const (.int .i64 0)), some (81, false), false, false⟩, ⟨some (87, false), .pick (.tmp 81) (.const (.bool true)) (.tmp 86), none, false, false⟩, ⟨some (88, false), .mv (.tmp 87), none, false, false⟩, ⟨some (89, false), .mv (.tmp 7), some (88, true), false, false⟩, ⟨some (90, false), .mv (.tmp 9), some (88, true), false, false⟩, ⟨some (91, false), .ix 1 (.tmp 89) (.tmp 90), some (88, true), true, false⟩, ⟨some (92, false), .load none (.tmp 91), some (88, true), true, false⟩, ⟨some (93, false), .mv (.tmp 8), some (88, true), false, false⟩, ⟨some (94, false), .mv (.tmp 9), some (88, true), false, false⟩, ⟨some (95, false), .ix 1 (.tmp 93) (.tmp 94), some (88, true), true, false⟩, ⟨some (96, false), .load none (.tmp 95), some (88, true), true, false⟩, ⟨some (97, false), .bin .neq (.tmp 92) (.tmp 96), some (88, true), false, false⟩, ⟨some (98, true), .pick (.tmp 88) (.tmp 97) (.const (.bool false)), none, false, false⟩]) (.cond (.tmp 98) (some 98) (.seq (.reg [] [] [⟨some (6, true), .mv (.const (.bool false)), none, false, false⟩]) (.ret)) (.skip)))) (.reg [] [] [⟨some (74, false), .mv (.tmp 9), none, false, false⟩, ⟨some (75, false), .bin .add (.tmp 74) (.const (.int .i64 1)), none, false, false⟩, ⟨some (9, true), .mv (.tmp 75), none, false, false⟩]))
def c20 : ACode := .seq (.reg [] [] [⟨some (4, true), .box (.tmp 1), none, false, false⟩, ⟨some (5, true), .box (.tmp 2), none, false, false⟩, ⟨some (6, true), .mv (.const (.bool false)), none, false, false⟩]) (.seq (.seq (.reg [] [] [⟨some (14, false), .mv (.tmp 0), none, false, false⟩, ⟨some (15, false), .fa 0 (.tmp 4), none, false, false⟩, ⟨some (16, false), .load none (.tmp 15), none, false, false⟩, ⟨some (17, false), .call 21 [.tmp 14, .tmp 16], none, false, false⟩, ⟨some (18, false), .bin .neq (.tmp 17) (.const (.int .i64 0)), none, false, false⟩, ⟨some (19, false), .mv (.tmp 18), none, false, false⟩, ⟨some (20, false), .mv (.tmp 0), some (19, false), false, false⟩, ⟨some (21, false), .fa 1 (.tmp 4), some (19, false), false, false⟩, ⟨some (22, false), .load none (.tmp 21), some (19, false), false, false⟩, ⟨some (23, false), .call 21 [.tmp 20, .tmp 22], some (19, false), false, false⟩, ⟨some (24, false), .bin .neq (.tmp 23) (.const (.int .i64 0)), some (19, false), false, false⟩, ⟨some (25, false), .pick (.tmp 19) (.const (.bool true)) (.tmp 24), none, false, false⟩, ⟨some (26, false), .mv (.tmp 25), none, false, false⟩, ⟨some (27, false), .mv (.tmp 0), some (26, false), false, false⟩, ⟨some (28, false), .fa 0 (.tmp 5), some (26, false), false, false⟩, ⟨some (29, false), .load none (.tmp 28), some (26, false), false, false⟩, ⟨some (30, false), .call 21 [.tmp 27, .tmp 29], some (26, false), false, false⟩, ⟨some (31, false), .bin .neq (.tmp 30) (.const (.int .i64 0)), some (26, false), false, false⟩, ⟨some (32, false), .pick (.tmp 26) (.const (.bool true)) (.tmp 31), none, false, false⟩, ⟨some (33, false), .mv (.tmp 32), none, false, false⟩, ⟨some (34, false), .mv (.tmp 0), some (33, false), false, false⟩, ⟨some (35, false), .fa 1 (.tmp 5), some (33, false), false, false⟩, ⟨some (36, false), .load none (.tmp 35), some (33, false), false, false⟩, ⟨some (37, false), .call 21 [.tmp 34, .tmp 36], some (33, false), false, false⟩, ⟨some (38, false), .bin .neq (.tmp 37) (.const (.int .i64 0)), some (33, false), false, false⟩, ⟨some (39, true), .pick (.tmp 33) (.const (.bool true)) (.tmp 38), none, false, false⟩]) (.cond (.tmp 39) (some 39) (.seq (.reg [] [] [⟨some (6, true), .mv (.const (.bool false)), none, false, false⟩]) (.ret)) (.skip))) (.seq (.seq (.reg [] [] [⟨some (40, false), .fa 0 (.tmp 4), none, false, false⟩, ⟨some (41, false), .load none (.tmp 40), none, false, false⟩, ⟨some (42, false), .len (.tmp 41), none, false, false⟩, ⟨some (43, false), .fa 0 (.tmp 5), none, false, false⟩, ⟨some (44, false), .load none (.tmp 43), none, false, false⟩, ⟨some (45, false), .len (.tmp 44), none, false, false⟩, ⟨some (46, false), .bin .neq (.tmp 42) (.tmp 45), none, false, false⟩, ⟨some (47, false), .mv (.tmp 46), none, false, false⟩, ⟨some (48, false), .fa 1 (.tmp 4), some (47, false), false, false⟩, ⟨some (49, false), .load none (.tmp 48), some (47, false), false, false⟩, ⟨some (50, false), .len (.tmp 49), some (47, false), false, false⟩, ⟨some (51, false), .fa 1 (.tmp 5), some (47, false), false, false⟩, ⟨some (52, false), .load none (.tmp 51), some (47, false), false, false⟩, ⟨some (53, false), .len (.tmp 52), some (47, false), false, false⟩, ⟨some (54, false), .bin .neq (.tmp 50) (.tmp 53), some (47, false), false, false⟩, ⟨some (55, true), .pick (.tmp 47) (.const (.bool true)) (.tmp 54), none, false, false⟩]) (.cond (.tmp 55) (some 55) (.seq (.reg [] [] [⟨some (6, true), .mv (.const (.bool false)), none, false, false⟩]) (.ret)) (.skip))) (.seq (.reg [(4, 0)] [(7, 0)] [⟨some (56, false), .lit 1 [], none, false, false⟩, ⟨some (57, false), .fa 0 (.tmp 4), none, false, false⟩, ⟨some (58, false), .load none (.tmp 57), none, true, false⟩, ⟨some (59, false), .app 1 8 (.tmp 56) (.tmp 58), none, false, false⟩, ⟨some (60, false), .fa 1 (.tmp 4), none, false, false⟩, ⟨some (61, false), .loadB none (.tmp 60), none, true, false⟩, ⟨some (62, false), .app 1 8 (.tmp 59) (.tmp 61), none, false, false⟩, ⟨some (7, true), .mv (.tmp 62), none, false, false⟩]) (.seq (.reg [(5, 0)] [(8, 0)] [⟨some (63, false), .lit 1 [], none, false, false⟩, ⟨some (64, false), .fa 0 (.tmp 5), none, false, false⟩, ⟨some (65, false), .load none (.tmp 64), none, true, false⟩, ⟨some (66, false), .app 1 8 (.tmp 63) (.tmp 65), none, false, false⟩, ⟨some (67, false), .fa 1 (.tmp 5), none, false, false⟩, ⟨some (68, false), .loadB none (.tmp 67), none, true, false⟩, ⟨some (69, false), .app 1 8 (.tmp 66) (.tmp 68), none, false, false⟩, ⟨some (8, true), .mv (.tmp 69), none, false, false⟩]) (.seq (.seq (.reg [] [] [⟨some (9, true), .mv (.const (.int .i64 0)), none, false, false⟩]) (.block 0 316912659501790316113466228736 (.loop b20_0))) (.seq (.reg [] [] [⟨some (99, false), .mv (.tmp 7), none, false, false⟩, ⟨some (100, false), .call 47 [.tmp 99], none, false, false⟩, ⟨some (10, true), .mv (.tmp 100), none, false, false⟩]) (.seq (.reg [] [] [⟨some (101, false), .mv (.tmp 8), none, false, false⟩, ⟨some (102, false), .call 47 [.tmp 101], none, false, false⟩, ⟨some (11, true), .mv (.tmp 102), none, false, false⟩]) (.seq (.seq (.reg [] [] [⟨some (103, false), .mv (.tmp 10), none, false, false⟩, ⟨some (104, false), .len (.tmp 103), none, false, false⟩, ⟨some (105, false), .mv (.tmp 11), none, false, false⟩, ⟨some (106, false), .len (.tmp 105), none, false, false⟩, ⟨some (107, true), .bin .neq (.tmp 104) (.tmp 106), none, false, false⟩]) (.cond (.tmp 107) (some 107) (.seq (.reg [] [] [⟨some (6, true), .mv (.const (.bool false)), none, false, false⟩]) (.ret)) (.skip))) (.seq (.seq (.reg [] [] [⟨some (12, true), .mv (.const (.int .i64 0)), none, false, false⟩]) (.block 2 1393796743657811848727880319281653293785088 (.loop b20_1))) (.seq (.reg [] [] [⟨some (6, true), .mv (.const (.bool true)), none, false, false⟩]) (.ret)))))))))))
theorem is20 : IsF C 20 141 1393796743820388038216595509018691545087991 c20 [.tmp 6] := ⟨⟨Tryd.f20, _, C_P ▸ Tryd.func20, rfl, rfl, rfl, by kernel_rfl, rfl⟩⟩
def r05_Variant_S2 (s0 : List Symbol) (s1 : Rule) (s2 : Rule) (s4 : Rule) (s5 : Rule) (s7 : List Int) (s8 : List Int) (s9 : Int) (s10 : List Int) (s11 : List Int) (s12 : Int) : Int → AHeap → St := fun s13 g1 => ⟨[(0, .d (.rd (s0.map encSymbol))), (1, .d (.ag (encRule s1))), (2, .d (.ag (encRule s2))), (4, .d (.bx (encRule s4))), (5, .d (.bx (encRule s5))), (6, .d (.v (.bool false))), (7, .d (.rd (s7.map intD))), (8, .d (.rd (s8.map intD))), (9, .d (.v (.int .i64 s9))), (10, .d (.rd (s10.map intD))), (11, .d (.rd (s11.map intD))), (12, .d (.v (.int .i64 s12))), (13, .d (.v (.int .i64 s13)))], g1⟩
def r05_Variant_X2 (s0 : List Symbol) (s1 : Rule) (s2 : Rule) (s4 : Rule) (s5 : Rule) (s7 : List Int) (s8 : List Int) (s9 : Int) (s10 : List Int) (s11 : List Int) (s12 : Int) : (Bool ⊕ Int) → AExit × St → Prop
  | .inl r, q => q.1 = .ret ∧ RetOK C [.tmp 6] q.2 (.d (.v (.bool r)))
  | .inr s13, q => ∃ h1 : AHeap, q = (.exit 4, ⟨[(0, .d (.rd (s0.map encSymbol))), (1, .d (.ag (encRule s1))), (2, .d (.ag (encRule s2))), (4, .d (.bx (encRule s4))), (5, .d (.bx (encRule s5))), (6, .d (.v (.bool false))), (7, .d (.rd (s7.map intD))), (8, .d (.rd (s8.map intD))), (9, .d (.v (.int .i64 s9))), (10, .d (.rd (s10.map intD))), (11, .d (.rd (s11.map intD))), (12, .d (.v (.int .i64 s12))), (13, .d (.v (.int .i64 s13)))], h1⟩)
theorem r05_Variant_R2 (s0 : List Symbol) (s1 : Rule) (s2 : Rule) (s4 : Rule) (s5 : Rule) (s7 : List Int) (s8 : List Int) (s9 : Int) (s10 : List Int) (s11 : List Int) (s12 : Int) : ∀ (s : Int) (g : AHeap) r, r05_Variant_l2 s0 s1 s2 s4 s5 s7 s8 s9 s10 s11 s12 s = some r → Sum.elim (fun s' => ∃ g', semA C (Lim C) 1393796743820388038216595509018691545087991 b20_2 (r05_Variant_S2 s0 s1 s2 s4 s5 s7 s8 s9 s10 s11 s12 s g) = some (.normal, r05_Variant_S2 s0 s1 s2 s4 s5 s7 s8 s9 s10 s11 s12 s' g')) (fun x => ∃ q, semA C (Lim C) 1393796743820388038216595509018691545087991 b20_2 (r05_Variant_S2 s0 s1 s2 s4 s5 s7 s8 s9 s10 s11 s12 s g) = some q ∧ q.1 ≠ .normal ∧ r05_Variant_X2 s0 s1 s2 s4 s5 s7 s8 s9 s10 s11 s12 x q) r := by
  intro s g r hr
  have ⟨s13, hs0⟩ : ∃ y, y = s := ⟨_, rfl⟩
  subst hs0
  have ⟨g1, hg0⟩ : ∃ y, y = g := ⟨_, rfl⟩
  subst hg0
  simp only [r05_Variant_l2] at hr
  rcases Classical.propComplete (s13 < (s10.length : Int)) with h1 | h1
  simp only [h1, if_true] at hr
  replace hr := bsome hr
  obtain ⟨x14, h2, hr⟩ := hr
  replace hr := bsome hr
  obtain ⟨x15, h3, hr⟩ := hr
  replace hr := bsome hr
  obtain ⟨x16, h4, hr⟩ := hr
  replace hr := bsome hr
  obtain ⟨x17, h5, hr⟩ := hr
  cases h6 : ((decide (x14 = (w64 ((-1) - x15)))) != (decide (x16 = (w64 ((-1) - x17)))))
  simp only [h6, Bool.false_eq_true, if_false] at hr
  replace hr := Option.some.inj hr
  subst hr
  refine ⟨g1, ?_⟩
  rotate_left
  simp only [h6, if_true] at hr
  replace hr := Option.some.inj hr
  subst hr
  refine ⟨(.ret, ⟨[(0, .d (.rd (s0.map encSymbol))), (1, .d (.ag (encRule s1))), (2, .d (.ag (encRule s2))), (4, .d (.bx (encRule s4))), (5, .d (.bx (encRule s5))), (6, .d (.v (.bool false))), (7, .d (.rd (s7.map intD))), (8, .d (.rd (s8.map intD))), (9, .d (.v (.int .i64 s9))), (10, .d (.rd (s10.map intD))), (11, .d (.rd (s11.map intD))), (12, .d (.v (.int .i64 s12))), (13, .d (.v (.int .i64 s13)))], g1⟩), ?_, nofun, rfl, [.d (.v (.bool false))], rfl, ?_⟩
  rotate_left 2
  simp only [h1, if_false] at hr
  replace hr := Option.some.inj hr
  subst hr
  refine ⟨(.exit 4, ⟨[(0, .d (.rd (s0.map encSymbol))), (1, .d (.ag (encRule s1))), (2, .d (.ag (encRule s2))), (4, .d (.bx (encRule s4))), (5, .d (.bx (encRule s5))), (6, .d (.v (.bool false))), (7, .d (.rd (s7.map intD))), (8, .d (.rd (s8.map intD))), (9, .d (.v (.int .i64 s9))), (10, .d (.rd (s10.map intD))), (11, .d (.rd (s11.map intD))), (12, .d (.v (.int .i64 s12))), (13, .d (.v (.int .i64 s13)))], g1⟩), ?_, nofun, g1, rfl⟩
  rotate_left
  all_goals (simp (config := {decide := true}) only [semA, coA, opsA, opA, guardA, aopA, putA, get2, Env.get, Env.set, Env.del, evO, constPV, cellPV, same, lenA, lenP, slenA, List.length_map, binA, arith, arithS, binB, arithB, fold64, notA, wrapA, cellsAt, cellsB, partA, fldA, agCells, shiftP, List.map_cons, List.map_nil, List.getElem?_cons_zero, List.getElem?_cons_succ, List.drop_succ_cons, List.drop_zero, List.take_succ_cons, List.take_zero, decide_true, decide_false, if_true, if_false, ne_eq, not_true_eq_false, not_false_eq_true, true_or, or_true, or_false, delS, Bool.true_eq_false, Bool.false_eq_true, eq_self, Bool.not_true, Bool.not_false, undefP, undef, opPick, Option.map_some, Option.map_none, Option.bind_some, Option.getD_some, List.length_cons, List.length_nil, Nat.reduceAdd, Nat.reduceLT, Nat.reducePow, Nat.reduceMul, Nat.zero_add, Nat.add_zero, coV, rs_dd, reach_dd, frz_nil, frz_cons, rs_im, rs_ag, rs_fn, reach_fn, rs_ptr, rs_ptr39, reach_ptr, reach_ptr39, rs_ref, rs_ifc, reach_im, reach_ag, reach_ref, reach_ifc, rs_d39, rs_im39, rs_ag39, rs_d38, rs_im38, rs_d37, reach_d39, reach_im39, reach_ag39, reach_d38, reach_im38, reach_d37, mapO, mapO_rowP39, reach_rowP39, List.flatMap_nil, List.flatMap_cons, List.append_nil, List.nil_append, List.cons_append, List.append_assoc, Int.reduceToNat, Nat.zero_mul, Nat.one_mul, buildW, buildRow, okCells, isOne, cellsP, splice, reduceCtorEq, and_self, and_true, true_and, elems_im, elems_ref, elems_rd, appendW, List.all_cons, List.all_nil, beq_self_eq_true, Bool.and_self, Bool.and_true, Bool.true_and, rowP_nil, rowP_cons, rowP_fold, rowP_takeN, rowP_len, rowP_get, Abs.rowAt, storeA, List.set_cons_zero, List.set_cons_succ, gl_get, gl_get0, gl_set, gl_set0, mod_zero, mod_succ, gl_mod, gl_mod0, freeze_row, List.length_append, lookA, mputA, look_int, keyD, toV, okTup, opExtract, scalar, mkMapNA, ixArrA, toStrA, List.length_replicate, List.length_set, Nat.reduceMul, rngA, opNext, ixS_eq, cutS_both, cutS_lo, cutS_hi, mkSlA, bxD, List.set_cons_zero, List.all_cons, opBox, allocA, newRowP, List.take_succ_cons, ix_ref, one_int, one_bool, one_str, one_nilI, asInt', bnd, mapP_nil, mlenA, mapP_len, asr_ok, asr_no, cst0, cst1, cst2, cst3, cst4, cst5, cst6, cst7, cst8, resOf, rsT_d, rsT_tp, rsT_ref, rsT_im, rsT_ag, rsT_ifc, ix_intD, cu_intD, cl_intD, ch_intD, al_intD, sn_intD, pu_intD, pp_intD, mn_intD, ix_boolD, cu_boolD, cl_boolD, ch_boolD, al_boolD, sn_boolD, pu_boolD, pp_boolD, mn_boolD, ix_strD, cu_strD, cl_strD, ch_strD, al_strD, sn_strD, pu_strD, pp_strD, mn_strD, ix_ifD, cu_ifD, cl_ifD, ch_ifD, al_ifD, ix_encSymbol, cu_encSymbol, cl_encSymbol, ch_encSymbol, al_encSymbol, sn_encSymbol, pu_encSymbol, pp_encSymbol, mn_encSymbol, ix_encBind, cu_encBind, cl_encBind, ch_encBind, al_encBind, sn_encBind, pu_encBind, pp_encBind, mn_encBind, ix_encRule, cu_encRule, cl_encRule, ch_encRule, al_encRule, sn_encRule, pu_encRule, pp_encRule, mn_encRule, ix_intu32D, cu_intu32D, cl_intu32D, ch_intu32D, al_intu32D, sn_intu32D, pu_intu32D, pp_intu32D, mn_intu32D, ix_ls, cu_ls, cl_ls, ch_ls, al_ls, sn_ls, pu_ls, pp_ls, ix_lsls, cu_lsls, cl_lsls, ch_lsls, al_lsls, sn_lsls, pu_lsls, pp_lsls, intD, boolD, strD, ifD, lsD, ar2D, ar3D, bxD, encSymbol, encBind, encRule, intu32D, cl_40, primClone, r05_Variant_S2, b20_2, *])
theorem r05_Variant_L2 {s0 : List Symbol} {s1 : Rule} {s2 : Rule} {s4 : Rule} {s5 : Rule} {s7 : List Int} {s8 : List Int} {s9 : Int} {s10 : List Int} {s11 : List Int} {s12 : Int} {s : Int} {g : AHeap} {x} (h : wh (r05_Variant_l2 s0 s1 s2 s4 s5 s7 s8 s9 s10 s11 s12) s = some x) : ∃ q, loopLim (semA C (Lim C) 1393796743820388038216595509018691545087991 b20_2) (r05_Variant_S2 s0 s1 s2 s4 s5 s7 s8 s9 s10 s11 s12 s g) = some q ∧ r05_Variant_X2 s0 s1 s2 s4 s5 s7 s8 s9 s10 s11 s12 x q := wh_sim (r05_Variant_R2 s0 s1 s2 s4 s5 s7 s8 s9 s10 s11 s12) h
def r05_Variant_S1 (s0 : List Symbol) (s1 : Rule) (s2 : Rule) (s4 : Rule) (s5 : Rule) (s7 : List Int) (s8 : List Int) (s9 : Int) (s10 : List Int) (s11 : List Int) : Int → AHeap → St := fun s12 g1 => ⟨[(0, .d (.rd (s0.map encSymbol))), (1, .d (.ag (encRule s1))), (2, .d (.ag (encRule s2))), (4, .d (.bx (encRule s4))), (5, .d (.bx (encRule s5))), (6, .d (.v (.bool false))), (7, .d (.rd (s7.map intD))), (8, .d (.rd (s8.map intD))), (9, .d (.v (.int .i64 s9))), (10, .d (.rd (s10.map intD))), (11, .d (.rd (s11.map intD))), (12, .d (.v (.int .i64 s12)))], g1⟩
def r05_Variant_X1 (s0 : List Symbol) (s1 : Rule) (s2 : Rule) (s4 : Rule) (s5 : Rule) (s7 : List Int) (s8 : List Int) (s9 : Int) (s10 : List Int) (s11 : List Int) : (Bool ⊕ Int) → AExit × St → Prop
  | .inl r, q => q.1 = .ret ∧ RetOK C [.tmp 6] q.2 (.d (.v (.bool r)))
  | .inr s12, q => ∃ h1 : AHeap, q = (.exit 2, ⟨[(0, .d (.rd (s0.map encSymbol))), (1, .d (.ag (encRule s1))), (2, .d (.ag (encRule s2))), (4, .d (.bx (encRule s4))), (5, .d (.bx (encRule s5))), (6, .d (.v (.bool false))), (7, .d (.rd (s7.map intD))), (8, .d (.rd (s8.map intD))), (9, .d (.v (.int .i64 s9))), (10, .d (.rd (s10.map intD))), (11, .d (.rd (s11.map intD))), (12, .d (.v (.int .i64 s12)))], h1⟩)
theorem r05_Variant_R1 (s0 : List Symbol) (s1 : Rule) (s2 : Rule) (s4 : Rule) (s5 : Rule) (s7 : List Int) (s8 : List Int) (s9 : Int) (s10 : List Int) (s11 : List Int) : ∀ (s : Int) (g : AHeap) r, r05_Variant_l1 s0 s1 s2 s4 s5 s7 s8 s9 s10 s11 s = some r → Sum.elim (fun s' => ∃ g', semA C (Lim C) 1393796743820388038216595509018691545087991 b20_1 (r05_Variant_S1 s0 s1 s2 s4 s5 s7 s8 s9 s10 s11 s g) = some (.normal, r05_Variant_S1 s0 s1 s2 s4 s5 s7 s8 s9 s10 s11 s' g')) (fun x => ∃ q, semA C (Lim C) 1393796743820388038216595509018691545087991 b20_1 (r05_Variant_S1 s0 s1 s2 s4 s5 s7 s8 s9 s10 s11 s g) = some q ∧ q.1 ≠ .normal ∧ r05_Variant_X1 s0 s1 s2 s4 s5 s7 s8 s9 s10 s11 x q) r := by
  intro s g r hr
  have ⟨s12, hs0⟩ : ∃ y, y = s := ⟨_, rfl⟩
  subst hs0
  have ⟨g1, hg0⟩ : ∃ y, y = g := ⟨_, rfl⟩
  subst hg0
  simp only [r05_Variant_l1] at hr
  rcases Classical.propComplete (s12 < (s7.length : Int)) with h1 | h1
  simp only [h1, if_true] at hr
  replace hr := bsome hr
  obtain ⟨x18, h2, hr⟩ := hr
  obtain ⟨q2, h2L, h2X⟩ := r05_Variant_L2 (g := g1) h2
  rcases x18 with x19 | x20
  simp only [r05_Variant_X2, r05_Variant_S2] at h2X h2L
  obtain ⟨e2, st2⟩ := q2
  obtain ⟨rfl, h2R⟩ := h2X
  try simp only [List.map_cons, List.map_nil, List.length_cons, List.length_nil, Nat.reduceAdd, Nat.zero_add, Nat.add_zero, List.nil_append, List.append_nil, rowP_nil, mapP_nil, rowP_cons, decide_true, decide_false, undefP, undef, cst0, cst1, cst2, cst3, cst4, cst5, cst6, cst7, cst8, intD, boolD, strD, ifD, lsD, ar2D, ar3D, bxD, encSymbol, encBind, encRule, intu32D] at h2L
  replace hr := Option.some.inj hr
  subst hr
  refine ⟨(.ret, st2), ?_, nofun, rfl, h2R⟩
  rotate_left
  simp only [r05_Variant_X2, r05_Variant_S2] at h2X h2L
  obtain ⟨z21, rfl⟩ := h2X
  try simp only [List.map_cons, List.map_nil, List.length_cons, List.length_nil, Nat.reduceAdd, Nat.zero_add, Nat.add_zero, List.nil_append, List.append_nil, rowP_nil, mapP_nil, rowP_cons, decide_true, decide_false, undefP, undef, cst0, cst1, cst2, cst3, cst4, cst5, cst6, cst7, cst8, intD, boolD, strD, ifD, lsD, ar2D, ar3D, bxD, encSymbol, encBind, encRule, intu32D] at h2L
  replace hr := Option.some.inj hr
  subst hr
  refine ⟨z21, ?_⟩
  rotate_left
  simp only [h1, if_false] at hr
  replace hr := Option.some.inj hr
  subst hr
  refine ⟨(.exit 2, ⟨[(0, .d (.rd (s0.map encSymbol))), (1, .d (.ag (encRule s1))), (2, .d (.ag (encRule s2))), (4, .d (.bx (encRule s4))), (5, .d (.bx (encRule s5))), (6, .d (.v (.bool false))), (7, .d (.rd (s7.map intD))), (8, .d (.rd (s8.map intD))), (9, .d (.v (.int .i64 s9))), (10, .d (.rd (s10.map intD))), (11, .d (.rd (s11.map intD))), (12, .d (.v (.int .i64 s12)))], g1⟩), ?_, nofun, g1, rfl⟩
  rotate_left
  all_goals (simp (config := {decide := true}) only [semA, coA, opsA, opA, guardA, aopA, putA, get2, Env.get, Env.set, Env.del, evO, constPV, cellPV, same, lenA, lenP, slenA, List.length_map, binA, arith, arithS, binB, arithB, fold64, notA, wrapA, cellsAt, cellsB, partA, fldA, agCells, shiftP, List.map_cons, List.map_nil, List.getElem?_cons_zero, List.getElem?_cons_succ, List.drop_succ_cons, List.drop_zero, List.take_succ_cons, List.take_zero, decide_true, decide_false, if_true, if_false, ne_eq, not_true_eq_false, not_false_eq_true, true_or, or_true, or_false, delS, Bool.true_eq_false, Bool.false_eq_true, eq_self, Bool.not_true, Bool.not_false, undefP, undef, opPick, Option.map_some, Option.map_none, Option.bind_some, Option.getD_some, List.length_cons, List.length_nil, Nat.reduceAdd, Nat.reduceLT, Nat.reducePow, Nat.reduceMul, Nat.zero_add, Nat.add_zero, coV, rs_dd, reach_dd, frz_nil, frz_cons, rs_im, rs_ag, rs_fn, reach_fn, rs_ptr, rs_ptr39, reach_ptr, reach_ptr39, rs_ref, rs_ifc, reach_im, reach_ag, reach_ref, reach_ifc, rs_d39, rs_im39, rs_ag39, rs_d38, rs_im38, rs_d37, reach_d39, reach_im39, reach_ag39, reach_d38, reach_im38, reach_d37, mapO, mapO_rowP39, reach_rowP39, List.flatMap_nil, List.flatMap_cons, List.append_nil, List.nil_append, List.cons_append, List.append_assoc, Int.reduceToNat, Nat.zero_mul, Nat.one_mul, buildW, buildRow, okCells, isOne, cellsP, splice, reduceCtorEq, and_self, and_true, true_and, elems_im, elems_ref, elems_rd, appendW, List.all_cons, List.all_nil, beq_self_eq_true, Bool.and_self, Bool.and_true, Bool.true_and, rowP_nil, rowP_cons, rowP_fold, rowP_takeN, rowP_len, rowP_get, Abs.rowAt, storeA, List.set_cons_zero, List.set_cons_succ, gl_get, gl_get0, gl_set, gl_set0, mod_zero, mod_succ, gl_mod, gl_mod0, freeze_row, List.length_append, lookA, mputA, look_int, keyD, toV, okTup, opExtract, scalar, mkMapNA, ixArrA, toStrA, List.length_replicate, List.length_set, Nat.reduceMul, rngA, opNext, ixS_eq, cutS_both, cutS_lo, cutS_hi, mkSlA, bxD, List.set_cons_zero, List.all_cons, opBox, allocA, newRowP, List.take_succ_cons, ix_ref, one_int, one_bool, one_str, one_nilI, asInt', bnd, mapP_nil, mlenA, mapP_len, asr_ok, asr_no, cst0, cst1, cst2, cst3, cst4, cst5, cst6, cst7, cst8, resOf, rsT_d, rsT_tp, rsT_ref, rsT_im, rsT_ag, rsT_ifc, ix_intD, cu_intD, cl_intD, ch_intD, al_intD, sn_intD, pu_intD, pp_intD, mn_intD, ix_boolD, cu_boolD, cl_boolD, ch_boolD, al_boolD, sn_boolD, pu_boolD, pp_boolD, mn_boolD, ix_strD, cu_strD, cl_strD, ch_strD, al_strD, sn_strD, pu_strD, pp_strD, mn_strD, ix_ifD, cu_ifD, cl_ifD, ch_ifD, al_ifD, ix_encSymbol, cu_encSymbol, cl_encSymbol, ch_encSymbol, al_encSymbol, sn_encSymbol, pu_encSymbol, pp_encSymbol, mn_encSymbol, ix_encBind, cu_encBind, cl_encBind, ch_encBind, al_encBind, sn_encBind, pu_encBind, pp_encBind, mn_encBind, ix_encRule, cu_encRule, cl_encRule, ch_encRule, al_encRule, sn_encRule, pu_encRule, pp_encRule, mn_encRule, ix_intu32D, cu_intu32D, cl_intu32D, ch_intu32D, al_intu32D, sn_intu32D, pu_intu32D, pp_intu32D, mn_intu32D, ix_ls, cu_ls, cl_ls, ch_ls, al_ls, sn_ls, pu_ls, pp_ls, ix_lsls, cu_lsls, cl_lsls, ch_lsls, al_lsls, sn_lsls, pu_lsls, pp_lsls, intD, boolD, strD, ifD, lsD, ar2D, ar3D, bxD, encSymbol, encBind, encRule, intu32D, cl_40, primClone, r05_Variant_S1, b20_1, *])
theorem r05_Variant_L1 {s0 : List Symbol} {s1 : Rule} {s2 : Rule} {s4 : Rule} {s5 : Rule} {s7 : List Int} {s8 : List Int} {s9 : Int} {s10 : List Int} {s11 : List Int} {s : Int} {g : AHeap} {x} (h : wh (r05_Variant_l1 s0 s1 s2 s4 s5 s7 s8 s9 s10 s11) s = some x) : ∃ q, loopLim (semA C (Lim C) 1393796743820388038216595509018691545087991 b20_1) (r05_Variant_S1 s0 s1 s2 s4 s5 s7 s8 s9 s10 s11 s g) = some q ∧ r05_Variant_X1 s0 s1 s2 s4 s5 s7 s8 s9 s10 s11 x q := wh_sim (r05_Variant_R1 s0 s1 s2 s4 s5 s7 s8 s9 s10 s11) h
def r05_Variant_S0 (s0 : List Symbol) (s1 : Rule) (s2 : Rule) (s4 : Rule) (s5 : Rule) (s7 : List Int) (s8 : List Int) : Int → AHeap → St := fun s9 g1 => ⟨[(0, .d (.rd (s0.map encSymbol))), (1, .d (.ag (encRule s1))), (2, .d (.ag (encRule s2))), (4, .d (.bx (encRule s4))), (5, .d (.bx (encRule s5))), (6, .d (.v (.bool false))), (7, .d (.rd (s7.map intD))), (8, .d (.rd (s8.map intD))), (9, .d (.v (.int .i64 s9)))], g1⟩
def r05_Variant_X0 (s0 : List Symbol) (s1 : Rule) (s2 : Rule) (s4 : Rule) (s5 : Rule) (s7 : List Int) (s8 : List Int) : (Bool ⊕ Int) → AExit × St → Prop
  | .inl r, q => q.1 = .ret ∧ RetOK C [.tmp 6] q.2 (.d (.v (.bool r)))
  | .inr s9, q => ∃ h1 : AHeap, q = (.exit 0, ⟨[(0, .d (.rd (s0.map encSymbol))), (1, .d (.ag (encRule s1))), (2, .d (.ag (encRule s2))), (4, .d (.bx (encRule s4))), (5, .d (.bx (encRule s5))), (6, .d (.v (.bool false))), (7, .d (.rd (s7.map intD))), (8, .d (.rd (s8.map intD))), (9, .d (.v (.int .i64 s9)))], h1⟩)
theorem r05_Variant_R0 (s0 : List Symbol) (s1 : Rule) (s2 : Rule) (s4 : Rule) (s5 : Rule) (s7 : List Int) (s8 : List Int) : ∀ (s : Int) (g : AHeap) r, r05_Variant_l0 s0 s1 s2 s4 s5 s7 s8 s = some r → Sum.elim (fun s' => ∃ g', semA C (Lim C) 1393796743820388038216595509018691545087991 b20_0 (r05_Variant_S0 s0 s1 s2 s4 s5 s7 s8 s g) = some (.normal, r05_Variant_S0 s0 s1 s2 s4 s5 s7 s8 s' g')) (fun x => ∃ q, semA C (Lim C) 1393796743820388038216595509018691545087991 b20_0 (r05_Variant_S0 s0 s1 s2 s4 s5 s7 s8 s g) = some q ∧ q.1 ≠ .normal ∧ r05_Variant_X0 s0 s1 s2 s4 s5 s7 s8 x q) r := by
  intro s g r hr
  have ⟨s9, hs0⟩ : ∃ y, y = s := ⟨_, rfl⟩
  subst hs0
  have ⟨g1, hg0⟩ : ∃ y, y = g := ⟨_, rfl⟩
  subst hg0
  simp only [r05_Variant_l0] at hr
  rcases Classical.propComplete (s9 < (s7.length : Int)) with h1 | h1
  simp only [h1, if_true] at hr
  replace hr := bsome hr
  obtain ⟨x5, h2, hr⟩ := hr
  rcases Classical.propComplete (0 ≤ x5) with h3 | h3
  simp only [h3, if_true] at hr
  replace hr := bsome hr
  obtain ⟨x6, h4, hr⟩ := hr
  rcases Classical.propComplete (x5 = x6) with h5 | h5
  simp only [h5, if_true] at hr
  replace hr := Option.some.inj hr
  subst hr
  refine ⟨g1, ?_⟩
  rotate_left
  simp only [h5, if_false] at hr
  replace hr := Option.some.inj hr
  subst hr
  refine ⟨(.ret, ⟨[(0, .d (.rd (s0.map encSymbol))), (1, .d (.ag (encRule s1))), (2, .d (.ag (encRule s2))), (4, .d (.bx (encRule s4))), (5, .d (.bx (encRule s5))), (6, .d (.v (.bool false))), (7, .d (.rd (s7.map intD))), (8, .d (.rd (s8.map intD))), (9, .d (.v (.int .i64 s9)))], g1⟩), ?_, nofun, rfl, [.d (.v (.bool false))], rfl, ?_⟩
  rotate_left 2
  simp only [h3, if_false] at hr
  replace hr := bsome hr
  obtain ⟨x7, h6, hr⟩ := hr
  rcases Classical.propComplete (0 ≤ x7) with h7 | h7
  simp only [h7, if_true] at hr
  rcases Classical.propComplete (x5 = x7) with h8 | h8
  simp only [h8, if_true] at hr
  replace hr := Option.some.inj hr
  subst hr
  refine ⟨g1, ?_⟩
  rotate_left
  simp only [h8, if_false] at hr
  replace hr := Option.some.inj hr
  subst hr
  refine ⟨(.ret, ⟨[(0, .d (.rd (s0.map encSymbol))), (1, .d (.ag (encRule s1))), (2, .d (.ag (encRule s2))), (4, .d (.bx (encRule s4))), (5, .d (.bx (encRule s5))), (6, .d (.v (.bool false))), (7, .d (.rd (s7.map intD))), (8, .d (.rd (s8.map intD))), (9, .d (.v (.int .i64 s9)))], g1⟩), ?_, nofun, rfl, [.d (.v (.bool false))], rfl, ?_⟩
  rotate_left 2
  simp only [h7, if_false] at hr
  replace hr := Option.some.inj hr
  subst hr
  refine ⟨g1, ?_⟩
  rotate_left
  simp only [h1, if_false] at hr
  replace hr := Option.some.inj hr
  subst hr
  refine ⟨(.exit 0, ⟨[(0, .d (.rd (s0.map encSymbol))), (1, .d (.ag (encRule s1))), (2, .d (.ag (encRule s2))), (4, .d (.bx (encRule s4))), (5, .d (.bx (encRule s5))), (6, .d (.v (.bool false))), (7, .d (.rd (s7.map intD))), (8, .d (.rd (s8.map intD))), (9, .d (.v (.int .i64 s9)))], g1⟩), ?_, nofun, g1, rfl⟩
  rotate_left
  all_goals (simp (config := {decide := true}) only [semA, coA, opsA, opA, guardA, aopA, putA, get2, Env.get, Env.set, Env.del, evO, constPV, cellPV, same, lenA, lenP, slenA, List.length_map, binA, arith, arithS, binB, arithB, fold64, notA, wrapA, cellsAt, cellsB, partA, fldA, agCells, shiftP, List.map_cons, List.map_nil, List.getElem?_cons_zero, List.getElem?_cons_succ, List.drop_succ_cons, List.drop_zero, List.take_succ_cons, List.take_zero, decide_true, decide_false, if_true, if_false, ne_eq, not_true_eq_false, not_false_eq_true, true_or, or_true, or_false, delS, Bool.true_eq_false, Bool.false_eq_true, eq_self, Bool.not_true, Bool.not_false, undefP, undef, opPick, Option.map_some, Option.map_none, Option.bind_some, Option.getD_some, List.length_cons, List.length_nil, Nat.reduceAdd, Nat.reduceLT, Nat.reducePow, Nat.reduceMul, Nat.zero_add, Nat.add_zero, coV, rs_dd, reach_dd, frz_nil, frz_cons, rs_im, rs_ag, rs_fn, reach_fn, rs_ptr, rs_ptr39, reach_ptr, reach_ptr39, rs_ref, rs_ifc, reach_im, reach_ag, reach_ref, reach_ifc, rs_d39, rs_im39, rs_ag39, rs_d38, rs_im38, rs_d37, reach_d39, reach_im39, reach_ag39, reach_d38, reach_im38, reach_d37, mapO, mapO_rowP39, reach_rowP39, List.flatMap_nil, List.flatMap_cons, List.append_nil, List.nil_append, List.cons_append, List.append_assoc, Int.reduceToNat, Nat.zero_mul, Nat.one_mul, buildW, buildRow, okCells, isOne, cellsP, splice, reduceCtorEq, and_self, and_true, true_and, elems_im, elems_ref, elems_rd, appendW, List.all_cons, List.all_nil, beq_self_eq_true, Bool.and_self, Bool.and_true, Bool.true_and, rowP_nil, rowP_cons, rowP_fold, rowP_takeN, rowP_len, rowP_get, Abs.rowAt, storeA, List.set_cons_zero, List.set_cons_succ, gl_get, gl_get0, gl_set, gl_set0, mod_zero, mod_succ, gl_mod, gl_mod0, freeze_row, List.length_append, lookA, mputA, look_int, keyD, toV, okTup, opExtract, scalar, mkMapNA, ixArrA, toStrA, List.length_replicate, List.length_set, Nat.reduceMul, rngA, opNext, ixS_eq, cutS_both, cutS_lo, cutS_hi, mkSlA, bxD, List.set_cons_zero, List.all_cons, opBox, allocA, newRowP, List.take_succ_cons, ix_ref, one_int, one_bool, one_str, one_nilI, asInt', bnd, mapP_nil, mlenA, mapP_len, asr_ok, asr_no, cst0, cst1, cst2, cst3, cst4, cst5, cst6, cst7, cst8, resOf, rsT_d, rsT_tp, rsT_ref, rsT_im, rsT_ag, rsT_ifc, ix_intD, cu_intD, cl_intD, ch_intD, al_intD, sn_intD, pu_intD, pp_intD, mn_intD, ix_boolD, cu_boolD, cl_boolD, ch_boolD, al_boolD, sn_boolD, pu_boolD, pp_boolD, mn_boolD, ix_strD, cu_strD, cl_strD, ch_strD, al_strD, sn_strD, pu_strD, pp_strD, mn_strD, ix_ifD, cu_ifD, cl_ifD, ch_ifD, al_ifD, ix_encSymbol, cu_encSymbol, cl_encSymbol, ch_encSymbol, al_encSymbol, sn_encSymbol, pu_encSymbol, pp_encSymbol, mn_encSymbol, ix_encBind, cu_encBind, cl_encBind, ch_encBind, al_encBind, sn_encBind, pu_encBind, pp_encBind, mn_encBind, ix_encRule, cu_encRule, cl_encRule, ch_encRule, al_encRule, sn_encRule, pu_encRule, pp_encRule, mn_encRule, ix_intu32D, cu_intu32D, cl_intu32D, ch_intu32D, al_intu32D, sn_intu32D, pu_intu32D, pp_intu32D, mn_intu32D, ix_ls, cu_ls, cl_ls, ch_ls, al_ls, sn_ls, pu_ls, pp_ls, ix_lsls, cu_lsls, cl_lsls, ch_lsls, al_lsls, sn_lsls, pu_lsls, pp_lsls, intD, boolD, strD, ifD, lsD, ar2D, ar3D, bxD, encSymbol, encBind, encRule, intu32D, cl_40, primClone, r05_Variant_S0, b20_0, *])
theorem r05_Variant_L0 {s0 : List Symbol} {s1 : Rule} {s2 : Rule} {s4 : Rule} {s5 : Rule} {s7 : List Int} {s8 : List Int} {s : Int} {g : AHeap} {x} (h : wh (r05_Variant_l0 s0 s1 s2 s4 s5 s7 s8) s = some x) : ∃ q, loopLim (semA C (Lim C) 1393796743820388038216595509018691545087991 b20_0) (r05_Variant_S0 s0 s1 s2 s4 s5 s7 s8 s g) = some q ∧ r05_Variant_X0 s0 s1 s2 s4 s5 s7 s8 x q := wh_sim (r05_Variant_R0 s0 s1 s2 s4 s5 s7 s8) h
set_option maxHeartbeats 4000000 in
theorem r05_Variant_R {a0 : List Symbol} {a1 : Rule} {a2 : Rule} {r : Bool} (hr : r05_Variant a0 a1 a2 = some r) : ∃ p hp, Lim C 20 [.d (.rd (a0.map encSymbol)), .d (.ag (encRule a1)), .d (.ag (encRule a2))] [] = some (p, hp) ∧ rsT hp p = some (.d (.v (.bool r))) := by
  simp only [r05_Variant] at hr
  replace hr := bsome hr
  obtain ⟨x1, h1, hr⟩ := hr
  have h1k := fun h => r03_Check_k (h := h) h1
  try simp only [intD, boolD, strD, ifD, lsD, ar2D, ar3D, bxD, encSymbol, encBind, encRule, intu32D, List.map_cons, List.map_nil] at h1k
  rcases Classical.propComplete (x1 = 0) with h2 | h2
  simp only [h2, if_true] at hr
  replace hr := bsome hr
  obtain ⟨x2, h3, hr⟩ := hr
  have h3k := fun h => r03_Check_k (h := h) h3
  try simp only [intD, boolD, strD, ifD, lsD, ar2D, ar3D, bxD, encSymbol, encBind, encRule, intu32D, List.map_cons, List.map_nil] at h3k
  rcases Classical.propComplete (x2 = 0) with h4 | h4
  simp only [h4, if_true] at hr
  replace hr := bsome hr
  obtain ⟨x3, h5, hr⟩ := hr
  have h5k := fun h => r03_Check_k (h := h) h5
  try simp only [intD, boolD, strD, ifD, lsD, ar2D, ar3D, bxD, encSymbol, encBind, encRule, intu32D, List.map_cons, List.map_nil] at h5k
  rcases Classical.propComplete (x3 = 0) with h6 | h6
  simp only [h6, if_true] at hr
  replace hr := bsome hr
  obtain ⟨x4, h7, hr⟩ := hr
  have h7k := fun h => r03_Check_k (h := h) h7
  try simp only [intD, boolD, strD, ifD, lsD, ar2D, ar3D, bxD, encSymbol, encBind, encRule, intu32D, List.map_cons, List.map_nil] at h7k
  rcases Classical.propComplete (x4 = 0) with h8 | h8
  simp only [h8, if_true] at hr
  rcases Classical.propComplete ((a1.L.length : Int) = (a2.L.length : Int)) with h9 | h9
  simp only [h9, if_true] at hr
  rcases Classical.propComplete ((a1.R.length : Int) = (a2.R.length : Int)) with h10 | h10
  simp only [h10, if_true] at hr
  replace hr := gsome hr
  obtain ⟨h11, hr⟩ := hr
  replace hr := gsome hr
  obtain ⟨h12, hr⟩ := hr
  replace hr := gsome hr
  obtain ⟨h13, hr⟩ := hr
  replace hr := gsome hr
  obtain ⟨h14, hr⟩ := hr
  replace hr := bsome hr
  obtain ⟨x8, h15, hr⟩ := hr
  obtain ⟨q15, h15L, h15X⟩ := r05_Variant_L0 (g := (.row true 0 2 [[.d (.rd (a1.L.map intD)), .d (.rd (a1.R.map intD))]] :: (.row true 0 2 [[.d (.rd (a2.L.map intD)), .d (.rd (a2.R.map intD))]] :: (.row true 1 1 (rowP intD (a1.L ++ a1.R)) :: (.row true 1 1 (rowP intD (a2.L ++ a2.R)) :: []))))) h15
  rcases x8 with x9 | x10
  simp only [r05_Variant_X0, r05_Variant_S0] at h15X h15L
  obtain ⟨e15, st15⟩ := q15
  obtain ⟨rfl, h15R⟩ := h15X
  try simp only [List.map_cons, List.map_nil, List.length_cons, List.length_nil, Nat.reduceAdd, Nat.zero_add, Nat.add_zero, List.nil_append, List.append_nil, rowP_nil, mapP_nil, rowP_cons, decide_true, decide_false, undefP, undef, cst0, cst1, cst2, cst3, cst4, cst5, cst6, cst7, cst8, intD, boolD, strD, ifD, lsD, ar2D, ar3D, bxD, encSymbol, encBind, encRule, intu32D] at h15L
  replace hr := Option.some.inj hr
  subst hr
  refine run_ok is20 (Nat.le_of_ble_eq_true rfl) ?_ (.inr rfl) h15R
  rotate_left
  simp only [r05_Variant_X0, r05_Variant_S0] at h15X h15L
  obtain ⟨z11, rfl⟩ := h15X
  try simp only [List.map_cons, List.map_nil, List.length_cons, List.length_nil, Nat.reduceAdd, Nat.zero_add, Nat.add_zero, List.nil_append, List.append_nil, rowP_nil, mapP_nil, rowP_cons, decide_true, decide_false, undefP, undef, cst0, cst1, cst2, cst3, cst4, cst5, cst6, cst7, cst8, intD, boolD, strD, ifD, lsD, ar2D, ar3D, bxD, encSymbol, encBind, encRule, intu32D] at h15L
  replace hr := bsome hr
  obtain ⟨x12, h16, hr⟩ := hr
  have h16k := fun h => r03_Vars_k (h := h) h16
  try simp only [intD, boolD, strD, ifD, lsD, ar2D, ar3D, bxD, encSymbol, encBind, encRule, intu32D, List.map_cons, List.map_nil] at h16k
  replace hr := bsome hr
  obtain ⟨x13, h17, hr⟩ := hr
  have h17k := fun h => r03_Vars_k (h := h) h17
  try simp only [intD, boolD, strD, ifD, lsD, ar2D, ar3D, bxD, encSymbol, encBind, encRule, intu32D, List.map_cons, List.map_nil] at h17k
  rcases Classical.propComplete ((x12.length : Int) = (x13.length : Int)) with h18 | h18
  simp only [h18, if_true] at hr
  replace hr := bsome hr
  obtain ⟨x22, h19, hr⟩ := hr
  obtain ⟨q19, h19L, h19X⟩ := r05_Variant_L1 (g := z11) h19
  rcases x22 with x23 | x24
  simp only [r05_Variant_X1, r05_Variant_S1] at h19X h19L
  obtain ⟨e19, st19⟩ := q19
  obtain ⟨rfl, h19R⟩ := h19X
  try simp only [List.map_cons, List.map_nil, List.length_cons, List.length_nil, Nat.reduceAdd, Nat.zero_add, Nat.add_zero, List.nil_append, List.append_nil, rowP_nil, mapP_nil, rowP_cons, decide_true, decide_false, undefP, undef, cst0, cst1, cst2, cst3, cst4, cst5, cst6, cst7, cst8, intD, boolD, strD, ifD, lsD, ar2D, ar3D, bxD, encSymbol, encBind, encRule, intu32D] at h19L
  replace hr := Option.some.inj hr
  subst hr
  refine run_ok is20 (Nat.le_of_ble_eq_true rfl) ?_ (.inr rfl) h19R
  rotate_left
  simp only [r05_Variant_X1, r05_Variant_S1] at h19X h19L
  obtain ⟨z25, rfl⟩ := h19X
  try simp only [List.map_cons, List.map_nil, List.length_cons, List.length_nil, Nat.reduceAdd, Nat.zero_add, Nat.add_zero, List.nil_append, List.append_nil, rowP_nil, mapP_nil, rowP_cons, decide_true, decide_false, undefP, undef, cst0, cst1, cst2, cst3, cst4, cst5, cst6, cst7, cst8, intD, boolD, strD, ifD, lsD, ar2D, ar3D, bxD, encSymbol, encBind, encRule, intu32D] at h19L
  replace hr := Option.some.inj hr
  subst hr
  refine run_ok is20 (Nat.le_of_ble_eq_true rfl) (q := (.ret, ⟨[(0, .d (.rd (a0.map encSymbol))), (1, .d (.ag (encRule a1))), (2, .d (.ag (encRule a2))), (4, .d (.bx (encRule a1))), (5, .d (.bx (encRule a2))), (6, .d (.v (.bool true))), (7, .d (.rd ((a1.L ++ a1.R).map intD))), (8, .d (.rd ((a2.L ++ a2.R).map intD))), (9, .d (.v (.int .i64 x10))), (10, .d (.rd (x12.map intD))), (11, .d (.rd (x13.map intD))), (12, .d (.v (.int .i64 x24)))], z25⟩)) ?_ (.inr rfl) ⟨[.d (.v (.bool true))], rfl, ?_⟩
  rotate_left 2
  simp only [h18, if_false] at hr
  replace hr := Option.some.inj hr
  subst hr
  refine run_ok is20 (Nat.le_of_ble_eq_true rfl) (q := (.ret, ⟨[(0, .d (.rd (a0.map encSymbol))), (1, .d (.ag (encRule a1))), (2, .d (.ag (encRule a2))), (4, .d (.bx (encRule a1))), (5, .d (.bx (encRule a2))), (6, .d (.v (.bool false))), (7, .d (.rd ((a1.L ++ a1.R).map intD))), (8, .d (.rd ((a2.L ++ a2.R).map intD))), (9, .d (.v (.int .i64 x10))), (10, .d (.rd (x12.map intD))), (11, .d (.rd (x13.map intD)))], z11⟩)) ?_ (.inr rfl) ⟨[.d (.v (.bool false))], rfl, ?_⟩
  rotate_left 2
  simp only [h10, if_false] at hr
  replace hr := Option.some.inj hr
  subst hr
  refine run_ok is20 (Nat.le_of_ble_eq_true rfl) (q := (.ret, ⟨[(0, .d (.rd (a0.map encSymbol))), (1, .d (.ag (encRule a1))), (2, .d (.ag (encRule a2))), (4, .ptr 0 0 0 0), (5, .ptr 1 0 0 0), (6, .d (.v (.bool false)))], (.row false 0 2 [[.d (.rd (a1.L.map intD)), .d (.rd (a1.R.map intD))]] :: (.row false 0 2 [[.d (.rd (a2.L.map intD)), .d (.rd (a2.R.map intD))]] :: []))⟩)) ?_ (.inr rfl) ⟨[.d (.v (.bool false))], rfl, ?_⟩
  rotate_left 2
  simp only [h9, if_false] at hr
  replace hr := Option.some.inj hr
  subst hr
  refine run_ok is20 (Nat.le_of_ble_eq_true rfl) (q := (.ret, ⟨[(0, .d (.rd (a0.map encSymbol))), (1, .d (.ag (encRule a1))), (2, .d (.ag (encRule a2))), (4, .ptr 0 0 0 0), (5, .ptr 1 0 0 0), (6, .d (.v (.bool false)))], (.row false 0 2 [[.d (.rd (a1.L.map intD)), .d (.rd (a1.R.map intD))]] :: (.row false 0 2 [[.d (.rd (a2.L.map intD)), .d (.rd (a2.R.map intD))]] :: []))⟩)) ?_ (.inr rfl) ⟨[.d (.v (.bool false))], rfl, ?_⟩
  rotate_left 2
  simp only [h8, if_false] at hr
  replace hr := Option.some.inj hr
  subst hr
  refine run_ok is20 (Nat.le_of_ble_eq_true rfl) (q := (.ret, ⟨[(0, .d (.rd (a0.map encSymbol))), (1, .d (.ag (encRule a1))), (2, .d (.ag (encRule a2))), (4, .ptr 0 0 0 0), (5, .ptr 1 0 0 0), (6, .d (.v (.bool false)))], (.row false 0 2 [[.d (.rd (a1.L.map intD)), .d (.rd (a1.R.map intD))]] :: (.row false 0 2 [[.d (.rd (a2.L.map intD)), .d (.rd (a2.R.map intD))]] :: []))⟩)) ?_ (.inr rfl) ⟨[.d (.v (.bool false))], rfl, ?_⟩
  rotate_left 2
  simp only [h6, if_false] at hr
  replace hr := Option.some.inj hr
  subst hr
  refine run_ok is20 (Nat.le_of_ble_eq_true rfl) (q := (.ret, ⟨[(0, .d (.rd (a0.map encSymbol))), (1, .d (.ag (encRule a1))), (2, .d (.ag (encRule a2))), (4, .ptr 0 0 0 0), (5, .ptr 1 0 0 0), (6, .d (.v (.bool false)))], (.row false 0 2 [[.d (.rd (a1.L.map intD)), .d (.rd (a1.R.map intD))]] :: (.row false 0 2 [[.d (.rd (a2.L.map intD)), .d (.rd (a2.R.map intD))]] :: []))⟩)) ?_ (.inr rfl) ⟨[.d (.v (.bool false))], rfl, ?_⟩
  rotate_left 2
  simp only [h4, if_false] at hr
  replace hr := Option.some.inj hr
  subst hr
  refine run_ok is20 (Nat.le_of_ble_eq_true rfl) (q := (.ret, ⟨[(0, .d (.rd (a0.map encSymbol))), (1, .d (.ag (encRule a1))), (2, .d (.ag (encRule a2))), (4, .ptr 0 0 0 0), (5, .ptr 1 0 0 0), (6, .d (.v (.bool false)))], (.row false 0 2 [[.d (.rd (a1.L.map intD)), .d (.rd (a1.R.map intD))]] :: (.row false 0 2 [[.d (.rd (a2.L.map intD)), .d (.rd (a2.R.map intD))]] :: []))⟩)) ?_ (.inr rfl) ⟨[.d (.v (.bool false))], rfl, ?_⟩
  rotate_left 2
  simp only [h2, if_false] at hr
  replace hr := Option.some.inj hr
  subst hr
  refine run_ok is20 (Nat.le_of_ble_eq_true rfl) (q := (.ret, ⟨[(0, .d (.rd (a0.map encSymbol))), (1, .d (.ag (encRule a1))), (2, .d (.ag (encRule a2))), (4, .ptr 0 0 0 0), (5, .ptr 1 0 0 0), (6, .d (.v (.bool false)))], (.row false 0 2 [[.d (.rd (a1.L.map intD)), .d (.rd (a1.R.map intD))]] :: (.row false 0 2 [[.d (.rd (a2.L.map intD)), .d (.rd (a2.R.map intD))]] :: []))⟩)) ?_ (.inr rfl) ⟨[.d (.v (.bool false))], rfl, ?_⟩
  rotate_left 2
  all_goals (simp (config := {decide := true}) only [semA, coA, opsA, opA, guardA, aopA, putA, get2, Env.get, Env.set, Env.del, evO, constPV, cellPV, same, lenA, lenP, slenA, List.length_map, binA, arith, arithS, binB, arithB, fold64, notA, wrapA, cellsAt, cellsB, partA, fldA, agCells, shiftP, List.map_cons, List.map_nil, List.getElem?_cons_zero, List.getElem?_cons_succ, List.drop_succ_cons, List.drop_zero, List.take_succ_cons, List.take_zero, decide_true, decide_false, if_true, if_false, ne_eq, not_true_eq_false, not_false_eq_true, true_or, or_true, or_false, delS, Bool.true_eq_false, Bool.false_eq_true, eq_self, Bool.not_true, Bool.not_false, undefP, undef, opPick, Option.map_some, Option.map_none, Option.bind_some, Option.getD_some, List.length_cons, List.length_nil, Nat.reduceAdd, Nat.reduceLT, Nat.reducePow, Nat.reduceMul, Nat.zero_add, Nat.add_zero, coV, rs_dd, reach_dd, frz_nil, frz_cons, rs_im, rs_ag, rs_fn, reach_fn, rs_ptr, rs_ptr39, reach_ptr, reach_ptr39, rs_ref, rs_ifc, reach_im, reach_ag, reach_ref, reach_ifc, rs_d39, rs_im39, rs_ag39, rs_d38, rs_im38, rs_d37, reach_d39, reach_im39, reach_ag39, reach_d38, reach_im38, reach_d37, mapO, mapO_rowP39, reach_rowP39, List.flatMap_nil, List.flatMap_cons, List.append_nil, List.nil_append, List.cons_append, List.append_assoc, Int.reduceToNat, Nat.zero_mul, Nat.one_mul, buildW, buildRow, okCells, isOne, cellsP, splice, reduceCtorEq, and_self, and_true, true_and, elems_im, elems_ref, elems_rd, appendW, List.all_cons, List.all_nil, beq_self_eq_true, Bool.and_self, Bool.and_true, Bool.true_and, rowP_nil, rowP_cons, rowP_fold, rowP_takeN, rowP_len, rowP_get, Abs.rowAt, storeA, List.set_cons_zero, List.set_cons_succ, gl_get, gl_get0, gl_set, gl_set0, mod_zero, mod_succ, gl_mod, gl_mod0, freeze_row, List.length_append, lookA, mputA, look_int, keyD, toV, okTup, opExtract, scalar, mkMapNA, ixArrA, toStrA, List.length_replicate, List.length_set, Nat.reduceMul, rngA, opNext, ixS_eq, cutS_both, cutS_lo, cutS_hi, mkSlA, bxD, List.set_cons_zero, List.all_cons, opBox, allocA, newRowP, List.take_succ_cons, ix_ref, one_int, one_bool, one_str, one_nilI, asInt', bnd, mapP_nil, mlenA, mapP_len, asr_ok, asr_no, cst0, cst1, cst2, cst3, cst4, cst5, cst6, cst7, cst8, resOf, rsT_d, rsT_tp, rsT_ref, rsT_im, rsT_ag, rsT_ifc, ix_intD, cu_intD, cl_intD, ch_intD, al_intD, sn_intD, pu_intD, pp_intD, mn_intD, ix_boolD, cu_boolD, cl_boolD, ch_boolD, al_boolD, sn_boolD, pu_boolD, pp_boolD, mn_boolD, ix_strD, cu_strD, cl_strD, ch_strD, al_strD, sn_strD, pu_strD, pp_strD, mn_strD, ix_ifD, cu_ifD, cl_ifD, ch_ifD, al_ifD, ix_encSymbol, cu_encSymbol, cl_encSymbol, ch_encSymbol, al_encSymbol, sn_encSymbol, pu_encSymbol, pp_encSymbol, mn_encSymbol, ix_encBind, cu_encBind, cl_encBind, ch_encBind, al_encBind, sn_encBind, pu_encBind, pp_encBind, mn_encBind, ix_encRule, cu_encRule, cl_encRule, ch_encRule, al_encRule, sn_encRule, pu_encRule, pp_encRule, mn_encRule, ix_intu32D, cu_intu32D, cl_intu32D, ch_intu32D, al_intu32D, sn_intu32D, pu_intu32D, pp_intu32D, mn_intu32D, ix_ls, cu_ls, cl_ls, ch_ls, al_ls, sn_ls, pu_ls, pp_ls, ix_lsls, cu_lsls, cl_lsls, ch_lsls, al_lsls, sn_lsls, pu_lsls, pp_lsls, intD, boolD, strD, ifD, lsD, ar2D, ar3D, bxD, encSymbol, encBind, encRule, intu32D, cl_40, primClone, callEnv, c20, *])
theorem r05_Variant_k {a0 : List Symbol} {a1 : Rule} {a2 : Rule} {r : Bool} (hr : r05_Variant a0 a1 a2 = some r) {h : AHeap} : callP C (Lim C) 20 [.d (.rd (a0.map encSymbol)), .d (.ag (encRule a1)), .d (.ag (encRule a2))] h = some (.d (.v (.bool r)), h) := call_of (ds := [.rd (a0.map encSymbol), .ag (encRule a1), .ag (encRule a2)]) rfl rfl rfl (r05_Variant_R hr) h
theorem r05_Variant_o {a0 : List Symbol} {a1 : Rule} {a2 : Rule} {r : Bool} (hr : r05_Variant a0 a1 a2 = some r) {h : AHeap} {args : List PV} (ha : mapO (rs h depth) args = some [.rd (a0.map encSymbol), .ag (encRule a1), .ag (encRule a2)]) : callP C (Lim C) 20 args h = some (.d (.v (.bool r)), if scalar (.d (.v (.bool r))) = true then h else freezeAll (args.flatMap (reach h depth)) h) := call_own rfl rfl rfl (r05_Variant_R hr) ha
def c4 : ACode := .seq (.reg [] [] [⟨some (4, true), .box (.tmp 1), none, false, false⟩, ⟨some (5, true), .box (.tmp 2), none, false, false⟩, ⟨some (6, true), .mv (.const (.bool false)), none, false, false⟩]) (.seq (.reg [] [] [⟨some (10, false), .call 14 [], none, false, false⟩, ⟨some (7, true), .mv (.tmp 10), none, false, false⟩]) (.seq (.reg [] [] [⟨some (11, false), .mv (.tmp 0), none, false, false⟩, ⟨some (12, false), .load (some 2) (.tmp 4), none, false, false⟩, ⟨some (13, false), .load (some 2) (.tmp 5), none, false, false⟩, ⟨some (14, false), .call 19 [.tmp 11, .tmp 12, .tmp 13], none, false, false⟩, ⟨some (8, true), .mv (.tmp 14), none, false, false⟩]) (.seq (.reg [] [] [⟨some (15, false), .mv (.tmp 0), none, false, false⟩, ⟨some (16, false), .load (some 2) (.tmp 4), none, false, false⟩, ⟨some (17, false), .load (some 2) (.tmp 5), none, false, false⟩, ⟨some (18, false), .call 20 [.tmp 15, .tmp 16, .tmp 17], none, false, false⟩, ⟨some (9, true), .mv (.tmp 18), none, false, false⟩]) (.seq (.reg [] [] [⟨some (19, false), .mv (.tmp 7), none, false, false⟩, ⟨some (20, false), .mv (.tmp 19), none, false, false⟩, ⟨some (21, false), .mv (.tmp 8), some (20, true), false, false⟩, ⟨some (22, false), .mv (.tmp 9), some (20, true), false, false⟩, ⟨some (23, false), .binB .eql (.tmp 21) (.tmp 22), some (20, true), false, false⟩, ⟨some (24, false), .pick (.tmp 20) (.tmp 23) (.const (.bool false)), none, false, false⟩, ⟨some (6, true), .mv (.tmp 24), none, false, false⟩]) (.ret)))))
theorem is4 : IsF C 4 25 1015 c4 [.tmp 6] := ⟨⟨Tryd.f4, _, C_P ▸ Tryd.func4, rfl, rfl, rfl, by kernel_rfl, rfl⟩⟩
set_option maxHeartbeats 4000000 in
theorem l05_MatchVariants_R {a0 : List Symbol} {a1 : Rule} {a2 : Rule} {r : Bool} (hr : l05_MatchVariants a0 a1 a2 = some r) : ∃ p hp, Lim C 4 [.d (.rd (a0.map encSymbol)), .d (.ag (encRule a1)), .d (.ag (encRule a2))] [] = some (p, hp) ∧ rsT hp p = some (.d (.v (.bool r))) := by
  simp only [l05_MatchVariants] at hr
  replace hr := bsome hr
  obtain ⟨x1, h1, hr⟩ := hr
  have h1k := fun h => l05_shown_k (h := h) h1
  try simp only [intD, boolD, strD, ifD, lsD, ar2D, ar3D, bxD, encSymbol, encBind, encRule, intu32D, List.map_cons, List.map_nil] at h1k
  replace hr := bsome hr
  obtain ⟨x2, h2, hr⟩ := hr
  have h2k := fun h => match_Variant_o (h := h) (args := [.d (.rd (a0.map encSymbol)), .ag [.d (.rd (a1.L.map intD)), .d (.rd (a1.R.map intD))], .ag [.d (.rd (a2.L.map intD)), .d (.rd (a2.R.map intD))]]) h2 rfl
  try simp only [intD, boolD, strD, ifD, lsD, ar2D, ar3D, bxD, encSymbol, encBind, encRule, intu32D, List.map_cons, List.map_nil] at h2k
  replace hr := bsome hr
  obtain ⟨x3, h3, hr⟩ := hr
  have h3k := fun h => r05_Variant_o (h := h) (args := [.d (.rd (a0.map encSymbol)), .ag [.d (.rd (a1.L.map intD)), .d (.rd (a1.R.map intD))], .ag [.d (.rd (a2.L.map intD)), .d (.rd (a2.R.map intD))]]) h3 rfl
  try simp only [intD, boolD, strD, ifD, lsD, ar2D, ar3D, bxD, encSymbol, encBind, encRule, intu32D, List.map_cons, List.map_nil] at h3k
  cases h4 : x1
  simp only [h4, Bool.false_eq_true, if_false] at hr
  replace hr := Option.some.inj hr
  subst hr
  refine run_ok is4 (Nat.le_of_ble_eq_true rfl) (q := (.ret, ⟨[(0, .d (.rd (a0.map encSymbol))), (1, .d (.ag (encRule a1))), (2, .d (.ag (encRule a2))), (4, .ptr 0 0 0 0), (5, .ptr 1 0 0 0), (6, .d (.v (.bool false))), (7, .d (.v (.bool x1))), (8, .d (.v (.bool x2))), (9, .d (.v (.bool x3)))], (.row false 0 2 [[.d (.rd (a1.L.map intD)), .d (.rd (a1.R.map intD))]] :: (.row false 0 2 [[.d (.rd (a2.L.map intD)), .d (.rd (a2.R.map intD))]] :: []))⟩)) ?_ (.inr rfl) ⟨[.d (.v (.bool false))], rfl, ?_⟩
  rotate_left 2
  simp only [h4, if_true] at hr
  replace hr := Option.some.inj hr
  subst hr
  refine run_ok is4 (Nat.le_of_ble_eq_true rfl) (q := (.ret, ⟨[(0, .d (.rd (a0.map encSymbol))), (1, .d (.ag (encRule a1))), (2, .d (.ag (encRule a2))), (4, .ptr 0 0 0 0), (5, .ptr 1 0 0 0), (6, .d (.v (.bool (x2 == x3)))), (7, .d (.v (.bool x1))), (8, .d (.v (.bool x2))), (9, .d (.v (.bool x3)))], (.row false 0 2 [[.d (.rd (a1.L.map intD)), .d (.rd (a1.R.map intD))]] :: (.row false 0 2 [[.d (.rd (a2.L.map intD)), .d (.rd (a2.R.map intD))]] :: []))⟩)) ?_ (.inr rfl) ⟨[.d (.v (.bool (x2 == x3)))], rfl, ?_⟩
  rotate_left 2
  all_goals (simp (config := {decide := true}) only [semA, coA, opsA, opA, guardA, aopA, putA, get2, Env.get, Env.set, Env.del, evO, constPV, cellPV, same, lenA, lenP, slenA, List.length_map, binA, arith, arithS, binB, arithB, fold64, notA, wrapA, cellsAt, cellsB, partA, fldA, agCells, shiftP, List.map_cons, List.map_nil, List.getElem?_cons_zero, List.getElem?_cons_succ, List.drop_succ_cons, List.drop_zero, List.take_succ_cons, List.take_zero, decide_true, decide_false, if_true, if_false, ne_eq, not_true_eq_false, not_false_eq_true, true_or, or_true, or_false, delS, Bool.true_eq_false, Bool.false_eq_true, eq_self, Bool.not_true, Bool.not_false, undefP, undef, opPick, Option.map_some, Option.map_none, Option.bind_some, Option.getD_some, List.length_cons, List.length_nil, Nat.reduceAdd, Nat.reduceLT, Nat.reducePow, Nat.reduceMul, Nat.zero_add, Nat.add_zero, coV, rs_dd, reach_dd, frz_nil, frz_cons, rs_im, rs_ag, rs_fn, reach_fn, rs_ptr, rs_ptr39, reach_ptr, reach_ptr39, rs_ref, rs_ifc, reach_im, reach_ag, reach_ref, reach_ifc, rs_d39, rs_im39, rs_ag39, rs_d38, rs_im38, rs_d37, reach_d39, reach_im39, reach_ag39, reach_d38, reach_im38, reach_d37, mapO, mapO_rowP39, reach_rowP39, List.flatMap_nil, List.flatMap_cons, List.append_nil, List.nil_append, List.cons_append, List.append_assoc, Int.reduceToNat, Nat.zero_mul, Nat.one_mul, buildW, buildRow, okCells, isOne, cellsP, splice, reduceCtorEq, and_self, and_true, true_and, elems_im, elems_ref, elems_rd, appendW, List.all_cons, List.all_nil, beq_self_eq_true, Bool.and_self, Bool.and_true, Bool.true_and, rowP_nil, rowP_cons, rowP_fold, rowP_takeN, rowP_len, rowP_get, Abs.rowAt, storeA, List.set_cons_zero, List.set_cons_succ, gl_get, gl_get0, gl_set, gl_set0, mod_zero, mod_succ, gl_mod, gl_mod0, freeze_row, List.length_append, lookA, mputA, look_int, keyD, toV, okTup, opExtract, scalar, mkMapNA, ixArrA, toStrA, List.length_replicate, List.length_set, Nat.reduceMul, rngA, opNext, ixS_eq, cutS_both, cutS_lo, cutS_hi, mkSlA, bxD, List.set_cons_zero, List.all_cons, opBox, allocA, newRowP, List.take_succ_cons, ix_ref, one_int, one_bool, one_str, one_nilI, asInt', bnd, mapP_nil, mlenA, mapP_len, asr_ok, asr_no, cst0, cst1, cst2, cst3, cst4, cst5, cst6, cst7, cst8, resOf, rsT_d, rsT_tp, rsT_ref, rsT_im, rsT_ag, rsT_ifc, ix_intD, cu_intD, cl_intD, ch_intD, al_intD, sn_intD, pu_intD, pp_intD, mn_intD, ix_boolD, cu_boolD, cl_boolD, ch_boolD, al_boolD, sn_boolD, pu_boolD, pp_boolD, mn_boolD, ix_strD, cu_strD, cl_strD, ch_strD, al_strD, sn_strD, pu_strD, pp_strD, mn_strD, ix_ifD, cu_ifD, cl_ifD, ch_ifD, al_ifD, ix_encSymbol, cu_encSymbol, cl_encSymbol, ch_encSymbol, al_encSymbol, sn_encSymbol, pu_encSymbol, pp_encSymbol, mn_encSymbol, ix_encBind, cu_encBind, cl_encBind, ch_encBind, al_encBind, sn_encBind, pu_encBind, pp_encBind, mn_encBind, ix_encRule, cu_encRule, cl_encRule, ch_encRule, al_encRule, sn_encRule, pu_encRule, pp_encRule, mn_encRule, ix_intu32D, cu_intu32D, cl_intu32D, ch_intu32D, al_intu32D, sn_intu32D, pu_intu32D, pp_intu32D, mn_intu32D, ix_ls, cu_ls, cl_ls, ch_ls, al_ls, sn_ls, pu_ls, pp_ls, ix_lsls, cu_lsls, cl_lsls, ch_lsls, al_lsls, sn_lsls, pu_lsls, pp_lsls, intD, boolD, strD, ifD, lsD, ar2D, ar3D, bxD, encSymbol, encBind, encRule, intu32D, cl_40, primClone, callEnv, c4, *])
theorem l05_MatchVariants_k {a0 : List Symbol} {a1 : Rule} {a2 : Rule} {r : Bool} (hr : l05_MatchVariants a0 a1 a2 = some r) {h : AHeap} : callP C (Lim C) 4 [.d (.rd (a0.map encSymbol)), .d (.ag (encRule a1)), .d (.ag (encRule a2))] h = some (.d (.v (.bool r)), h) := call_of (ds := [.rd (a0.map encSymbol), .ag (encRule a1), .ag (encRule a2)]) rfl rfl rfl (l05_MatchVariants_R hr) h
theorem l05_MatchVariants_o {a0 : List Symbol} {a1 : Rule} {a2 : Rule} {r : Bool} (hr : l05_MatchVariants a0 a1 a2 = some r) {h : AHeap} {args : List PV} (ha : mapO (rs h depth) args = some [.rd (a0.map encSymbol), .ag (encRule a1), .ag (encRule a2)]) : callP C (Lim C) 4 args h = some (.d (.v (.bool r)), if scalar (.d (.v (.bool r))) = true then h else freezeAll (args.flatMap (reach h depth)) h) := call_own rfl rfl rfl (l05_MatchVariants_R hr) ha
end Ld

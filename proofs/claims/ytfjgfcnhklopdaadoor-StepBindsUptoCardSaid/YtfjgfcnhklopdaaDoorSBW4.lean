import Derived.Test.YtfjgfcnhklopdaaDoorSBW3
set_option maxHeartbeats 4000000
set_option linter.unusedVariables false
set_option linter.unusedSimpArgs false
namespace Ld
open Go Go.Proofs Go.Abs
set_option maxRecDepth 8000
def c27 : ACode := .seq (.reg [] [] [.K 2 (.box (.tmp 0)), .K 3 (.box (.tmp 1)), .K 4 (.alloc [.d (.v (.int .i64 0)), .d (.v (.int .i64 0))] 2), .K 5 (.mv (.const (.bool false)))]) (.seq (.seq (.reg [] [] [.T 10 (.load (some 2) (.tmp 2)), .T 11 (.load none (.tmp 3)), .T 12 (.call 42 [.tmp 10, .tmp 11]), .K 13 (.bin .neq (.tmp 12) (cI 0))]) (.cond (.tmp 13) (some 13) (.seq (.reg [] [] [.T 14 (.build [(0, 1), (1, 1)] [.d (.v (.int .i64 0)), .d (.v (.int .i64 0))] []), ⟨none, .store 2 (.tmp 4) (.tmp 14), none, false, false⟩, .K 5 (.mv (.const (.bool false)))]) (.ret)) (.skip))) (.seq (.reg [] [] [.T 15 (.fa 0 (.tmp 2)), .T 16 (.load none (.tmp 15)), .T 17 (.load none (.tmp 3)), .T 18 (.call 43 [.tmp 16, .tmp 17]), .K 6 (.alloc [.im true []] 1), ⟨none, .store 1 (.tmp 6) (.tmp 18), none, false, false⟩]) (.seq (.reg [] [] [.K 7 (.alloc [.d (.v (.int .i64 0)), .d (.v (.int .i64 0))] 2)]) (.seq (.reg [] [] [.K 8 (.alloc [.d (.v .nilFunc)] 1)]) (.seq (.reg [] [] [.T 19 (.mkF 59 [.tmp 6, .tmp 8, .tmp 2, .tmp 3, .tmp 7]), ⟨none, .store 1 (.tmp 8) (.tmp 19), none, false, false⟩]) (.seq (.reg [] [] [.T 20 (.load none (.tmp 8)), .T 21 (.callV (.tmp 20) [.const (.int .i64 0)]), .N 9 21]) (.seq (.reg [] [] [.T 22 (.load (some 2) (.tmp 7)), .M 23 9, ⟨none, .store 2 (.tmp 4) (.tmp 22), none, false, false⟩, .N 5 23]) (.ret))))))))
theorem is27 : IsF C 27 24 9215 c27 [.cell 4 33, .tmp 5] := ⟨⟨Tryd.f27, _, C_P ▸ Tryd.func27, rfl, rfl, rfl, by kernel_rfl, rfl⟩⟩
theorem qql9 {a0 : System} {a1 : List Int} {r : Redex × Bool} (hr : qer9 a0 a1 = some r) : ∃ p hp, Lim C 27 [.d (.ag (qf9 a0)), .d (.rd (a1.map intD))] [] = some (p, hp) ∧ rsT hp p = some (.tp [.d (.ag (qe9 r.1)), PB r.2]) := by
  simp only [qer9] at hr
  obtain ⟨x1, h1, hr⟩ := bsome hr
  have h1k := fun h => qje9 (h := h) (args := [.ag [.d (.rd (a0.Sig.map qa9)), .d (.rd (a0.Rules.map qd9))], .d (.rd (a1.map intD))]) h1 rfl
  try simp only [go_sem] at h1k
  rcases pcA (x1 = 0) with h2 | h2
  simp only [h2, if_true] at hr
  obtain ⟨x2, h3, hr⟩ := bsome hr
  have h3k := fun h => qjS9 (h := h) h3
  try simp only [go_sem] at h3k
  obtain ⟨x3, h4, hr⟩ := bsome hr
  obtain ⟨z4, h4k⟩ := qny9 (g1 := []) (g2 := []) (g3 := (.row false 0 2 [[PI 0, PI 0]] :: [])) (g4 := []) (g5 := []) (g6 := []) h4
  try simp only [go_sem, Nat.reduceAdd, la1, la2, la3, la4, la5, la6] at h4k
  obtain rfl := oiA hr
  refine qh9 is27 (nbA rfl) (q := (.ret, ⟨[(0, .d (.ag (qf9 a0))), (1, .d (.rd (a1.map intD))), (2, .ptr 0 0 0 0), (3, .ptr 1 0 0 0), (4, .ptr 2 0 0 0), (5, PB x3.1), (6, .ptr 3 0 0 0), (7, .ptr 4 0 0 0), (8, .ptr 5 0 0 0), (9, PB x3.1)], (.row false 0 2 [[.d (.rd (x3.2.1.map qa9)), .d (.rd (x3.2.2.1.map qd9))]] :: (.row false 0 1 [[.d (.rd (x3.2.2.2.1.map intD))]] :: (.row false 0 2 [[PI x3.2.2.2.2.2.1, PI x3.2.2.2.2.2.2]] :: (.row false 0 1 [[.d (.rd (x3.2.2.2.2.1.map intD))]] :: (.row false 0 2 [[PI x3.2.2.2.2.2.1, PI x3.2.2.2.2.2.2]] :: (.row false 0 1 [[.fn 59 [.ptr 3 0 0 0, .ptr 5 0 0 0, .ptr 0 0 0 0, .ptr 1 0 0 0, .ptr 4 0 0 0]]] :: z4))))))⟩)) ?_ (.inr rfl) ⟨[.ag [PI x3.2.2.2.2.2.1, PI x3.2.2.2.2.2.2], PB x3.1], (qhq9 (qlS9 (cs := [PI x3.2.2.2.2.2.1, PI x3.2.2.2.2.2.2]) (n := 2) (by kernel_rfl) (by kernel_rfl) rfl (nbA rfl)) (qhq9 rfl rfl)), ?_⟩
  rotate_left 2
  simp only [h2, if_false] at hr
  obtain rfl := oiA hr
  refine qh9 is27 (nbA rfl) (q := (.ret, ⟨[(0, .d (.ag (qf9 a0))), (1, .d (.rd (a1.map intD))), (2, .ptr 0 0 0 0), (3, .ptr 1 0 0 0), (4, .ptr 2 0 0 0), (5, PB false)], (.row false 0 2 [[.d (.rd (a0.Sig.map qa9)), .d (.rd (a0.Rules.map qd9))]] :: (.row false 0 1 [[.d (.rd (a1.map intD))]] :: (.row false 0 2 [[PI 0, PI 0]] :: [])))⟩)) ?_ (.inr rfl) ⟨[.ag [PI 0, PI 0], PB false], (qhq9 (qlS9 (cs := [PI 0, PI 0]) (n := 2) (by kernel_rfl) (by kernel_rfl) rfl (nbA rfl)) (qhq9 rfl rfl)), ?_⟩
  rotate_left 2
  all_goals (simp +decide only [go_sem, Int.reduceToNat, Nat.reduceAdd, Nat.reduceLT, Nat.reduceMul, Nat.reducePow, reduceCtorEq, qg9, c27, *])
theorem qlI9 {a0 : System} {a1 : List Int} {r : Redex × Bool} (hr : qer9 a0 a1 = some r) {h : AHeap} {args : List PV} (ha : mapO (rs h depth) args = some [.ag (qf9 a0), .rd (a1.map intD)]) : callP C (Lim C) 27 args h = some (.tp [.d (.ag (qe9 r.1)), PB r.2], if scalar (.tp [.d (.ag (qe9 r.1)), PB r.2]) = true then h else freezeAll (args.flatMap (reach h depth)) h) := qdD9 rfl rfl rfl (qql9 hr) ha
def b50_0 : ACode := .seq (.reg [] [] [.K 10 (.bin .lss (.tmp 9) (.tmp 8))]) (.seq (.cond (.tmp 10) (some 10) (.skip) (.exit 0)) (.seq (.block 1 132160 (.seq (.reg [] [] [.T 11 (.ix 2 (.tmp 7) (.tmp 9)), .T 12 (.load (some 2) (.tmp 11)), .K 6 (.alloc [.d (.v (.int .i64 0)), .im true []] 2), ⟨none, .store 2 (.tmp 6) (.tmp 12), none, false, false⟩]) (.seq (.reg [] [] [.T 13 (.fa 0 (.tmp 6)), .T 14 (.load none (.tmp 13)), .M 15 1, .T 16 (.bin .sub (cI (-1)) (.tmp 15)), .K 17 (.bin .eql (.tmp 14) (.tmp 16))]) (.cond (.tmp 17) (some 17) (.seq (.reg [] [] [.T 18 (.fa 1 (.tmp 6)), .T 19 (.load none (.tmp 18)), .N 4 19]) (.ret)) (.skip))))) (.reg [] [] [.T 20 (.bin .add (.tmp 9) (cI 1)), .N 9 20])))
def c50 : ACode := .seq (.reg [] [(4, 0)] [.K 4 (.mv (.const (.slice none 0 0)))]) (.seq (.seq (.reg [] [] [.N 7 0, .K 8 (.len (.tmp 7)), .K 9 (.mv (cI 0))]) (.block 0 132160 (.loop b50_0))) (.seq (.reg [] [(4, 0)] [.M 21 1, .T 22 (.lit 1 [(0, .tmp 21)]), .N 4 22]) (.ret)))
theorem is50 : IsF C 50 23 133075 c50 [.tmp 4] := ⟨⟨Tryd.f50, _, C_P ▸ Tryd.func50, rfl, rfl, rfl, by kernel_rfl, rfl⟩⟩
def qej9 (s0 : List Bind) (s1 : Int) (s4 : List Int) (s7 : List Bind) (s8 : Int) : Int → AHeap → St := fun s9 gt => ⟨[(0, .d (.rd (s0.map qb9))), (1, PI s1), (4, .d (.rd (s4.map intD))), (7, .d (.rd (s7.map qb9))), (8, PI s8), (9, PI s9)], gt⟩
def qgF9 (s0 : List Bind) (s1 : Int) (s4 : List Int) (s7 : List Bind) (s8 : Int) : (((List Int)) ⊕ Int) → AExit × St → Prop
  | .inl r, q => q.1 = .ret ∧ RetOK C [.tmp 4] q.2 (.d (.rd (r.map intD)))
  | .inr s9, q => ∃ h1 : AHeap, q = (.exit 0, ⟨[(0, .d (.rd (s0.map qb9))), (1, PI s1), (4, .d (.rd (s4.map intD))), (7, .d (.rd (s7.map qb9))), (8, PI s8), (9, PI s9)], h1⟩)
theorem qpf9 (s0 : List Bind) (s1 : Int) (s4 : List Int) (s7 : List Bind) (s8 : Int) : ∀ (s : Int) (g : AHeap) r, qed9 s0 s1 s4 s7 s8 s = some r → Sum.elim (fun s' => ∃ g', semA C (Lim C) 133075 b50_0 (qej9 s0 s1 s4 s7 s8 s g) = some (.normal, qej9 s0 s1 s4 s7 s8 s' g')) (fun x => ∃ q, semA C (Lim C) 133075 b50_0 (qej9 s0 s1 s4 s7 s8 s g) = some q ∧ q.1 ≠ .normal ∧ qgF9 s0 s1 s4 s7 s8 x q) r := by
  intro s g r hr
  have ⟨s9, hs0⟩ : ∃ y, y = s := ⟨_, rfl⟩
  subst hs0
  have ⟨gt, hg0⟩ : ∃ y, y = g := ⟨_, rfl⟩
  subst hg0
  simp only [qed9] at hr
  rcases pcA (s9 < s8) with h1 | h1
  simp only [h1, if_true] at hr
  obtain ⟨x1, h2, hr⟩ := bsome hr
  rcases pcA (x1.Var = (w64 ((-1) - s1))) with h3 | h3
  simp only [h3, if_true] at hr
  obtain rfl := oiA hr
  refine ⟨(.ret, ⟨[(0, .d (.rd (s0.map qb9))), (1, PI s1), (4, .d (.rd (x1.T.map intD))), (6, .ptr gt.length 0 0 0), (7, .d (.rd (s7.map qb9))), (8, PI s8), (9, PI s9)], (gt ++ (.row false 0 2 [[PI x1.Var, .d (.rd (x1.T.map intD))]] :: []))⟩), ?_, nofun, rfl, [.d (.rd (x1.T.map intD))], rfl, ?_⟩
  rotate_left 2
  simp only [h3, if_false] at hr
  obtain rfl := oiA hr
  refine ⟨(gt ++ (.row false 0 2 [[PI x1.Var, .d (.rd (x1.T.map intD))]] :: [])), ?_⟩
  rotate_left
  simp only [h1, if_false] at hr
  obtain rfl := oiA hr
  refine ⟨(.exit 0, ⟨[(0, .d (.rd (s0.map qb9))), (1, PI s1), (4, .d (.rd (s4.map intD))), (7, .d (.rd (s7.map qb9))), (8, PI s8), (9, PI s9)], gt⟩), ?_, nofun, gt, rfl⟩
  rotate_left
  all_goals (simp +decide only [go_sem, Int.reduceToNat, Nat.reduceAdd, Nat.reduceLT, Nat.reduceMul, Nat.reducePow, reduceCtorEq, qej9, b50_0, *])
theorem qpw9 {s0 : List Bind} {s1 : Int} {s4 : List Int} {s7 : List Bind} {s8 : Int} {s : Int} {g : AHeap} {x} (h : wh (qed9 s0 s1 s4 s7 s8) s = some x) : ∃ q, qp9 (semA C (Lim C) 133075 b50_0) (qej9 s0 s1 s4 s7 s8 s g) = some q ∧ qgF9 s0 s1 s4 s7 s8 x q := qcx9 (qpf9 s0 s1 s4 s7 s8) h
theorem qqf9 {a0 : List Bind} {a1 : Int} {r : (List Int)} (hr : qgn9 a0 a1 = some r) : ∃ p hp, Lim C 50 [.d (.rd (a0.map qb9)), PI a1] [] = some (p, hp) ∧ rsT hp p = some (.d (.rd (r.map intD))) := by
  simp only [qgn9] at hr
  obtain ⟨x2, h1, hr⟩ := bsome hr
  obtain ⟨q1, h1L, h1X⟩ := qpw9 (g := []) h1
  rcases x2 with x3 | x4
  simp only [qgF9, qej9] at h1X h1L
  obtain ⟨e1, st1⟩ := q1
  obtain ⟨rfl, h1R⟩ := h1X
  try simp only [go_sem, Nat.reduceAdd, la1, la2, la3, la4, la5, la6] at h1L
  obtain rfl := oiA hr
  refine qh9 is50 (nbA rfl) ?_ (.inr rfl) h1R
  rotate_left
  simp only [qgF9, qej9] at h1X h1L
  obtain ⟨z5, rfl⟩ := h1X
  try simp only [go_sem, Nat.reduceAdd, la1, la2, la3, la4, la5, la6] at h1L
  obtain rfl := oiA hr
  refine qh9 is50 (nbA rfl) (q := (.ret, ⟨[(0, .d (.rd (a0.map qb9))), (1, PI a1), (4, .d (.rd (([a1] : List Int).map intD))), (7, .d (.rd (a0.map qb9))), (8, PI (a0.length : Int)), (9, PI x4)], z5⟩)) ?_ (.inr rfl) ⟨[.d (.rd (([a1] : List Int).map intD))], rfl, ?_⟩
  rotate_left 2
  all_goals (simp +decide only [go_sem, Int.reduceToNat, Nat.reduceAdd, Nat.reduceLT, Nat.reduceMul, Nat.reducePow, reduceCtorEq, qg9, c50, *])
theorem qqW9 {a0 : List Bind} {a1 : Int} {r : (List Int)} (hr : qgn9 a0 a1 = some r) {h : AHeap} : callP C (Lim C) 50 [.d (.rd (a0.map qb9)), PI a1] h = some (.d (.rd (r.map intD)), h) := qbk9 (ds := [.rd (a0.map qb9), .v (.int .i64 a1)]) rfl rfl rfl (qqf9 hr) h
def b18_0 : ACode := .seq (.reg [] [] [.K 90 (.bin .lss (.tmp 89) (.tmp 88))]) (.seq (.cond (.tmp 90) (some 90) (.skip) (.exit 1)) (.seq (.block 2 162339742931766913109446453559296 (.seq (.reg [] [] [.T 91 (.ix 1 (.tmp 87) (.tmp 89)), .T 92 (.load none (.tmp 91)), .N 16 92]) (.seq (.reg [] [(17, 0)] [.M 93 16, .T 94 (.lit 1 [(0, .tmp 93)]), .N 17 94]) (.seq (.seq (.reg [] [] [.M 95 16, .K 96 (.bin .lss (.tmp 95) (cI 0))]) (.cond (.tmp 96) (some 96) (.reg [] [] [.M 97 11, .M 98 16, .T 99 (.call 50 [.tmp 97, .tmp 98]), .N 17 99]) (.skip))) (.seq (.seq (.reg [] [] [.M 100 13, .T 101 (.len (.tmp 100)), .M 102 17, .T 103 (.len (.tmp 102)), .T 104 (.bin .add (.tmp 101) (.tmp 103)), .M 105 14, .T 106 (.bin .add (.tmp 104) (.tmp 105)), .K 107 (.bin .gtr (.tmp 106) (cI 512))]) (.cond (.tmp 107) (some 107) (.seq (.reg [] [(6, 0)] [.K 6 (.mv (.const (.slice none 0 0))), .K 7 (.mv (cI 2))]) (.ret)) (.skip))) (.reg [] [] [.M 108 13, .M 109 17, .T 110 (.app 1 8 (.tmp 108) (.tmp 109)), .N 13 110])))))) (.reg [] [] [.T 111 (.bin .add (.tmp 89) (cI 1)), .N 89 111])))
def c18 : ACode := .seq (.reg [] [(6, 0)] [.K 3 (.box (.tmp 0)), .K 5 (.box (.tmp 2)), .K 6 (.mv (.const (.slice none 0 0))), .K 7 (.mv (cI 0))]) (.seq (.seq (.reg [] [] [.T 18 (.load (some 2) (.tmp 3)), .M 19 1, .T 20 (.call 42 [.tmp 18, .tmp 19]), .N 8 20]) (.seq (.reg [] [] [.M 21 8, .K 22 (.bin .neq (.tmp 21) (cI 0))]) (.cond (.tmp 22) (some 22) (.seq (.reg [] [(6, 0)] [.M 23 8, .K 6 (.mv (.const (.slice none 0 0))), .N 7 23]) (.ret)) (.skip)))) (.seq (.block 0 34376515584 (.seq (.reg [] [] [.T 25 (.fa 0 (.tmp 5)), .T 26 (.load none (.tmp 25)), .T 27 (.bin .lss (.tmp 26) (cI 0)), .M 28 27, .TG 29 28 false (.fa 0 (.tmp 5)), .TG 30 28 false (.load none (.tmp 29)), .MG 31 28 false 1, .TG 32 28 false (.len (.tmp 31)), .TG 33 28 false (.bin .geq (.tmp 30) (.tmp 32)), .T 34 (.pick (.tmp 28) (.const (.bool true)) (.tmp 33)), .N 24 34]) (.cond (.tmp 24) (some 24) (.seq (.reg [] [(6, 0)] [.K 6 (.mv (.const (.slice none 0 0))), .K 7 (.mv (cI 33))]) (.ret)) (.seq (.reg [] [] [.T 36 (.fa 1 (.tmp 5)), .T 37 (.load none (.tmp 36)), .T 38 (.bin .lss (.tmp 37) (cI 0)), .M 39 38, .TG 40 39 false (.fa 1 (.tmp 5)), .TG 41 39 false (.load none (.tmp 40)), .TG 42 39 false (.fa 1 (.tmp 3)), .TG 43 39 false (.load none (.tmp 42)), .TG 44 39 false (.len (.tmp 43)), .TG 45 39 false (.bin .geq (.tmp 41) (.tmp 44)), .T 46 (.pick (.tmp 39) (.const (.bool true)) (.tmp 45)), .N 35 46]) (.cond (.tmp 35) (some 35) (.seq (.reg [] [(6, 0)] [.K 6 (.mv (.const (.slice none 0 0))), .K 7 (.mv (cI 1))]) (.ret)) (.skip)))))) (.seq (.reg [] [] [.T 47 (.fa 0 (.tmp 3)), ⟨some (48, false), .load none (.tmp 47), none, true, false⟩, .M 49 1, ⟨some (50, false), .call 43 [.tmp 48, .tmp 49], none, true, false⟩, .T 51 (.fa 0 (.tmp 5)), ⟨some (52, false), .load none (.tmp 51), none, true, false⟩, ⟨some (53, false), .ix 1 (.tmp 50) (.tmp 52), none, true, false⟩, ⟨some (54, false), .load none (.tmp 53), none, true, false⟩, .N 9 54]) (.seq (.reg [] [] [.T 55 (.fa 1 (.tmp 3)), .T 56 (.load none (.tmp 55)), .T 57 (.fa 1 (.tmp 5)), .T 58 (.load none (.tmp 57)), .T 59 (.ix 2 (.tmp 56) (.tmp 58)), .T 60 (.load (some 2) (.tmp 59)), .K 10 (.alloc [.im true [], .im true []] 2), ⟨none, .store 2 (.tmp 10) (.tmp 60), none, false, false⟩]) (.seq (.reg [] [] [.T 62 (.fa 0 (.tmp 3)), ⟨some (63, false), .load none (.tmp 62), none, true, false⟩, .T 64 (.fa 0 (.tmp 10)), ⟨some (65, false), .load none (.tmp 64), none, true, false⟩, .M 66 1, .T 67 (.fa 0 (.tmp 5)), ⟨some (68, false), .load none (.tmp 67), none, true, false⟩, .M 69 9, ⟨some (70, false), .cut 1 (.tmp 66) (some (.tmp 68)) (some (.tmp 69)), none, true, false⟩, ⟨some (71, false), .call 49 [.tmp 63, .tmp 65, .tmp 70], none, true, false⟩, .M 61 71, .T 72 (.ext (.tmp 61) 0), .T 73 (.ext (.tmp 61) 1), .N 11 72, .N 12 73]) (.seq (.seq (.reg [] [] [.M 74 12, .K 75 (.not (.tmp 74))]) (.cond (.tmp 75) (some 75) (.seq (.reg [] [(6, 0)] [.K 6 (.mv (.const (.slice none 0 0))), .K 7 (.mv (cI 80))]) (.ret)) (.skip))) (.seq (.reg [] [] [.T 76 (.lit 1 []), .M 77 1, .T 78 (.fa 0 (.tmp 5)), .T 79 (.load none (.tmp 78)), .T 80 (.cut 1 (.tmp 77) none (some (.tmp 79))), .T 81 (.app 1 8 (.tmp 76) (.tmp 80)), .N 13 81]) (.seq (.reg [] [] [.M 82 1, .T 83 (.len (.tmp 82)), .M 84 9, .T 85 (.bin .sub (.tmp 83) (.tmp 84)), .N 14 85]) (.seq (.seq (.reg [] [] [.T 86 (.fa 1 (.tmp 10)), .K 87 (.load none (.tmp 86)), .K 88 (.len (.tmp 87)), .K 89 (.mv (cI 0))]) (.block 1 162339742931766913109446453559296 (.loop b18_0))) (.seq (.reg [] [(6, 0)] [.M 112 13, .M 113 1, .M 114 9, .T 115 (.cut 1 (.tmp 113) (some (.tmp 114)) none), .T 116 (.app 1 8 (.tmp 112) (.tmp 115)), .N 6 116, .K 7 (.mv (cI 0))]) (.ret)))))))))))
theorem is18 : IsF C 18 117 162340826167080219680178532745199 c18 [.tmp 6, .tmp 7] := ⟨⟨Tryd.f18, _, C_P ▸ Tryd.func18, rfl, rfl, rfl, by kernel_rfl, rfl⟩⟩
def qfz9 (s0 : System) (s1 : List Int) (s2 : Redex) (s6 : List Int) (s8 : Int) (s9 : Int) (s11 : List Bind) (s12 : Bool) (s14 : Int) (s87 : List Int) (s88 : Int) (b3_0 : List Symbol) (b3_1 : List Rule) (b5_0 : Int) (b5_1 : Int) (b10_0 : List Int) (b10_1 : List Int) : Int × (List Int) → Nat → St := fun (s89, o13) v13 => ⟨[(0, .d (.ag (qf9 s0))), (1, .d (.rd (s1.map intD))), (2, .d (.ag (qe9 s2))), (3, .ptr 0 0 0 0), (5, .ptr 1 0 0 0), (6, .d (.rd (s6.map intD))), (7, PI 0), (8, PI s8), (9, PI s9), (10, .ptr 2 0 0 0), (11, .d (.rd (s11.map qb9))), (12, PB s12), (13, .ref 3 v13 0 o13.length), (14, PI s14), (87, .d (.rd (s87.map intD))), (88, PI s88), (89, PI s89)], (.row false 0 2 [[.d (.rd (b3_0.map qa9)), .d (.rd (b3_1.map qd9))]] :: (.row false 0 2 [[PI b5_0, PI b5_1]] :: (.row false 0 2 [[.d (.rd (b10_0.map intD)), .d (.rd (b10_1.map intD))]] :: (.row false v13 1 (rowP intD o13) :: []))))⟩
def qiG9 (s0 : System) (s1 : List Int) (s2 : Redex) (s6 : List Int) (s8 : Int) (s9 : Int) (s11 : List Bind) (s12 : Bool) (s14 : Int) (s87 : List Int) (s88 : Int) (b3_0 : List Symbol) (b3_1 : List Rule) (b5_0 : Int) (b5_1 : Int) (b10_0 : List Int) (b10_1 : List Int) : (((List Int) × Int) ⊕ (Int × (List Int))) → AExit × St → Prop
  | .inl r, q => q.1 = .ret ∧ RetOK C [.tmp 6, .tmp 7] q.2 (.tp [.d (.rd (r.1.map intD)), PI r.2])
  | .inr (s89, o13), q => ∃ v13 : Nat, q = (.exit 1, ⟨[(0, .d (.ag (qf9 s0))), (1, .d (.rd (s1.map intD))), (2, .d (.ag (qe9 s2))), (3, .ptr 0 0 0 0), (5, .ptr 1 0 0 0), (6, .d (.rd (s6.map intD))), (7, PI 0), (8, PI s8), (9, PI s9), (10, .ptr 2 0 0 0), (11, .d (.rd (s11.map qb9))), (12, PB s12), (13, .ref 3 v13 0 o13.length), (14, PI s14), (87, .d (.rd (s87.map intD))), (88, PI s88), (89, PI s89)], (.row false 0 2 [[.d (.rd (b3_0.map qa9)), .d (.rd (b3_1.map qd9))]] :: (.row false 0 2 [[PI b5_0, PI b5_1]] :: (.row false 0 2 [[.d (.rd (b10_0.map intD)), .d (.rd (b10_1.map intD))]] :: (.row false v13 1 (rowP intD o13) :: []))))⟩)
theorem qsV9 (s0 : System) (s1 : List Int) (s2 : Redex) (s6 : List Int) (s8 : Int) (s9 : Int) (s11 : List Bind) (s12 : Bool) (s14 : Int) (s87 : List Int) (s88 : Int) (b3_0 : List Symbol) (b3_1 : List Rule) (b5_0 : Int) (b5_1 : Int) (b10_0 : List Int) (b10_1 : List Int) : ∀ (s : Int × (List Int)) (g : Nat) r, qeR9 s0 s1 s2 s6 s8 s9 s11 s12 s14 s87 s88 b3_0 b3_1 b5_0 b5_1 b10_0 b10_1 s = some r → Sum.elim (fun s' => ∃ g', semA C (Lim C) 162340826167080219680178532745199 b18_0 (qfz9 s0 s1 s2 s6 s8 s9 s11 s12 s14 s87 s88 b3_0 b3_1 b5_0 b5_1 b10_0 b10_1 s g) = some (.normal, qfz9 s0 s1 s2 s6 s8 s9 s11 s12 s14 s87 s88 b3_0 b3_1 b5_0 b5_1 b10_0 b10_1 s' g')) (fun x => ∃ q, semA C (Lim C) 162340826167080219680178532745199 b18_0 (qfz9 s0 s1 s2 s6 s8 s9 s11 s12 s14 s87 s88 b3_0 b3_1 b5_0 b5_1 b10_0 b10_1 s g) = some q ∧ q.1 ≠ .normal ∧ qiG9 s0 s1 s2 s6 s8 s9 s11 s12 s14 s87 s88 b3_0 b3_1 b5_0 b5_1 b10_0 b10_1 x q) r := by
  intro s g r hr
  obtain ⟨s89, o13⟩ := s
  have ⟨v13, hg0⟩ : ∃ y, y = g := ⟨_, rfl⟩
  subst hg0
  simp only [qeR9] at hr
  rcases pcA (s89 < s88) with h1 | h1
  simp only [h1, if_true] at hr
  obtain ⟨x8, h2, hr⟩ := bsome hr
  rcases pcA (x8 < 0) with h3 | h3
  simp only [h3, if_true] at hr
  obtain ⟨x9, h4, hr⟩ := bsome hr
  have h4k := fun h => qqW9 (h := h) h4
  try simp only [go_sem] at h4k
  rcases pcA (512 < (w64 ((w64 ((o13.length : Int) + (x9.length : Int))) + s14))) with h5 | h5
  simp only [h5, if_true] at hr
  obtain rfl := oiA hr
  refine ⟨(.ret, ⟨[(0, .d (.ag (qf9 s0))), (1, .d (.rd (s1.map intD))), (2, .d (.ag (qe9 s2))), (3, .ptr 0 0 0 0), (5, .ptr 1 0 0 0), (6, .d (.rd (([] : List Int).map intD))), (7, PI 2), (8, PI s8), (9, PI s9), (10, .ptr 2 0 0 0), (11, .d (.rd (s11.map qb9))), (12, PB s12), (13, .ref 3 v13 0 o13.length), (14, PI s14), (16, PI x8), (17, .d (.rd (x9.map intD))), (87, .d (.rd (s87.map intD))), (88, PI s88), (89, PI s89)], (.row false 0 2 [[.d (.rd (b3_0.map qa9)), .d (.rd (b3_1.map qd9))]] :: (.row false 0 2 [[PI b5_0, PI b5_1]] :: (.row false 0 2 [[.d (.rd (b10_0.map intD)), .d (.rd (b10_1.map intD))]] :: (.row false v13 1 (rowP intD o13) :: []))))⟩), ?_, nofun, rfl, [.d (.rd (([] : List Int).map intD)), PI 2], rfl, ?_⟩
  rotate_left 2
  simp only [h5, if_false] at hr
  obtain ⟨h6, hr⟩ := gsome hr
  obtain rfl := oiA hr
  refine ⟨(v13 + 1), ?_⟩
  rotate_left
  simp only [h3, if_false] at hr
  rcases pcA (512 < (w64 ((w64 ((o13.length : Int) + 1)) + s14))) with h7 | h7
  simp only [h7, if_true] at hr
  obtain rfl := oiA hr
  refine ⟨(.ret, ⟨[(0, .d (.ag (qf9 s0))), (1, .d (.rd (s1.map intD))), (2, .d (.ag (qe9 s2))), (3, .ptr 0 0 0 0), (5, .ptr 1 0 0 0), (6, .d (.rd (([] : List Int).map intD))), (7, PI 2), (8, PI s8), (9, PI s9), (10, .ptr 2 0 0 0), (11, .d (.rd (s11.map qb9))), (12, PB s12), (13, .ref 3 v13 0 o13.length), (14, PI s14), (16, PI x8), (17, .d (.rd (([x8] : List Int).map intD))), (87, .d (.rd (s87.map intD))), (88, PI s88), (89, PI s89)], (.row false 0 2 [[.d (.rd (b3_0.map qa9)), .d (.rd (b3_1.map qd9))]] :: (.row false 0 2 [[PI b5_0, PI b5_1]] :: (.row false 0 2 [[.d (.rd (b10_0.map intD)), .d (.rd (b10_1.map intD))]] :: (.row false v13 1 (rowP intD o13) :: []))))⟩), ?_, nofun, rfl, [.d (.rd (([] : List Int).map intD)), PI 2], rfl, ?_⟩
  rotate_left 2
  simp only [h7, if_false] at hr
  obtain ⟨h8, hr⟩ := gsome hr
  obtain rfl := oiA hr
  refine ⟨(v13 + 1), ?_⟩
  rotate_left
  simp only [h1, if_false] at hr
  obtain rfl := oiA hr
  refine ⟨(.exit 1, ⟨[(0, .d (.ag (qf9 s0))), (1, .d (.rd (s1.map intD))), (2, .d (.ag (qe9 s2))), (3, .ptr 0 0 0 0), (5, .ptr 1 0 0 0), (6, .d (.rd (s6.map intD))), (7, PI 0), (8, PI s8), (9, PI s9), (10, .ptr 2 0 0 0), (11, .d (.rd (s11.map qb9))), (12, PB s12), (13, .ref 3 v13 0 o13.length), (14, PI s14), (87, .d (.rd (s87.map intD))), (88, PI s88), (89, PI s89)], (.row false 0 2 [[.d (.rd (b3_0.map qa9)), .d (.rd (b3_1.map qd9))]] :: (.row false 0 2 [[PI b5_0, PI b5_1]] :: (.row false 0 2 [[.d (.rd (b10_0.map intD)), .d (.rd (b10_1.map intD))]] :: (.row false v13 1 (rowP intD o13) :: []))))⟩), ?_, nofun, v13, rfl⟩
  rotate_left
  all_goals (simp +decide only [go_sem, Int.reduceToNat, Nat.reduceAdd, Nat.reduceLT, Nat.reduceMul, Nat.reducePow, reduceCtorEq, qfz9, b18_0, *])
theorem qtv9 {s0 : System} {s1 : List Int} {s2 : Redex} {s6 : List Int} {s8 : Int} {s9 : Int} {s11 : List Bind} {s12 : Bool} {s14 : Int} {s87 : List Int} {s88 : Int} {b3_0 : List Symbol} {b3_1 : List Rule} {b5_0 : Int} {b5_1 : Int} {b10_0 : List Int} {b10_1 : List Int} {s : Int × (List Int)} {g : Nat} {x} (h : wh (qeR9 s0 s1 s2 s6 s8 s9 s11 s12 s14 s87 s88 b3_0 b3_1 b5_0 b5_1 b10_0 b10_1) s = some x) : ∃ q, qp9 (semA C (Lim C) 162340826167080219680178532745199 b18_0) (qfz9 s0 s1 s2 s6 s8 s9 s11 s12 s14 s87 s88 b3_0 b3_1 b5_0 b5_1 b10_0 b10_1 s g) = some q ∧ qiG9 s0 s1 s2 s6 s8 s9 s11 s12 s14 s87 s88 b3_0 b3_1 b5_0 b5_1 b10_0 b10_1 x q := qcx9 (qsV9 s0 s1 s2 s6 s8 s9 s11 s12 s14 s87 s88 b3_0 b3_1 b5_0 b5_1 b10_0 b10_1) h
theorem quT9 {a0 : System} {a1 : List Int} {a2 : Redex} {r : (List Int) × Int} (hr : qcm9 a0 a1 a2 = some r) : ∃ p hp, Lim C 18 [.d (.ag (qf9 a0)), .d (.rd (a1.map intD)), .d (.ag (qe9 a2))] [] = some (p, hp) ∧ rsT hp p = some (.tp [.d (.rd (r.1.map intD)), PI r.2]) := by
  simp only [qcm9] at hr
  obtain ⟨x1, h1, hr⟩ := bsome hr
  have h1k := fun h => qje9 (h := h) (args := [.ag [.d (.rd (a0.Sig.map qa9)), .d (.rd (a0.Rules.map qd9))], .d (.rd (a1.map intD))]) h1 rfl
  try simp only [go_sem] at h1k
  rcases pcA (x1 = 0) with h2 | h2
  simp only [h2, if_true] at hr
  rcases pcA (a2.At < 0) with h3 | h3
  simp only [h3, if_true] at hr
  obtain rfl := oiA hr
  refine qh9 is18 (nbA rfl) (q := (.ret, ⟨[(0, .d (.ag (qf9 a0))), (1, .d (.rd (a1.map intD))), (2, .d (.ag (qe9 a2))), (3, .ptr 0 0 0 0), (5, .ptr 1 0 0 0), (6, .d (.rd (([] : List Int).map intD))), (7, PI 33), (8, PI x1)], (.row false 0 2 [[.d (.rd (a0.Sig.map qa9)), .d (.rd (a0.Rules.map qd9))]] :: (.row false 0 2 [[PI a2.At, PI a2.Rule]] :: []))⟩)) ?_ (.inr rfl) ⟨[.d (.rd (([] : List Int).map intD)), PI 33], rfl, ?_⟩
  rotate_left 2
  simp only [h3, if_false] at hr
  rcases pcA ((a1.length : Int) ≤ a2.At) with h4 | h4
  simp only [h4, if_true] at hr
  obtain rfl := oiA hr
  refine qh9 is18 (nbA rfl) (q := (.ret, ⟨[(0, .d (.ag (qf9 a0))), (1, .d (.rd (a1.map intD))), (2, .d (.ag (qe9 a2))), (3, .ptr 0 0 0 0), (5, .ptr 1 0 0 0), (6, .d (.rd (([] : List Int).map intD))), (7, PI 33), (8, PI x1)], (.row false 0 2 [[.d (.rd (a0.Sig.map qa9)), .d (.rd (a0.Rules.map qd9))]] :: (.row false 0 2 [[PI a2.At, PI a2.Rule]] :: []))⟩)) ?_ (.inr rfl) ⟨[.d (.rd (([] : List Int).map intD)), PI 33], rfl, ?_⟩
  rotate_left 2
  simp only [h4, if_false] at hr
  rcases pcA (a2.Rule < 0) with h5 | h5
  simp only [h5, if_true] at hr
  obtain rfl := oiA hr
  refine qh9 is18 (nbA rfl) (q := (.ret, ⟨[(0, .d (.ag (qf9 a0))), (1, .d (.rd (a1.map intD))), (2, .d (.ag (qe9 a2))), (3, .ptr 0 0 0 0), (5, .ptr 1 0 0 0), (6, .d (.rd (([] : List Int).map intD))), (7, PI 1), (8, PI x1)], (.row false 0 2 [[.d (.rd (a0.Sig.map qa9)), .d (.rd (a0.Rules.map qd9))]] :: (.row false 0 2 [[PI a2.At, PI a2.Rule]] :: []))⟩)) ?_ (.inr rfl) ⟨[.d (.rd (([] : List Int).map intD)), PI 1], rfl, ?_⟩
  rotate_left 2
  simp only [h5, if_false] at hr
  rcases pcA ((a0.Rules.length : Int) ≤ a2.Rule) with h6 | h6
  simp only [h6, if_true] at hr
  obtain rfl := oiA hr
  refine qh9 is18 (nbA rfl) (q := (.ret, ⟨[(0, .d (.ag (qf9 a0))), (1, .d (.rd (a1.map intD))), (2, .d (.ag (qe9 a2))), (3, .ptr 0 0 0 0), (5, .ptr 1 0 0 0), (6, .d (.rd (([] : List Int).map intD))), (7, PI 1), (8, PI x1)], (.row false 0 2 [[.d (.rd (a0.Sig.map qa9)), .d (.rd (a0.Rules.map qd9))]] :: (.row false 0 2 [[PI a2.At, PI a2.Rule]] :: []))⟩)) ?_ (.inr rfl) ⟨[.d (.rd (([] : List Int).map intD)), PI 1], rfl, ?_⟩
  rotate_left 2
  simp only [h6, if_false] at hr
  obtain ⟨x2, h7, hr⟩ := bsome hr
  have h7k := fun h => qjS9 (h := h) h7
  try simp only [go_sem] at h7k
  obtain ⟨x3, h8, hr⟩ := bsome hr
  obtain ⟨x4, h9, hr⟩ := bsome hr
  obtain ⟨x5, h10, hr⟩ := bsome hr
  obtain ⟨x6, h11, hr⟩ := bsome hr
  have h11k := fun h => qiB9 (h := h) h11
  try simp only [go_sem] at h11k
  cases h12 : x6.2
  simp only [h12, Bool.false_eq_true, if_false] at hr
  obtain rfl := oiA hr
  refine qh9 is18 (nbA rfl) (q := (.ret, ⟨[(0, .d (.ag (qf9 a0))), (1, .d (.rd (a1.map intD))), (2, .d (.ag (qe9 a2))), (3, .ptr 0 0 0 0), (5, .ptr 1 0 0 0), (6, .d (.rd (([] : List Int).map intD))), (7, PI 80), (8, PI x1), (9, PI x3), (10, .ptr 2 0 0 0), (11, .d (.rd (x6.1.map qb9))), (12, PB x6.2)], (.row false 0 2 [[.d (.rd (a0.Sig.map qa9)), .d (.rd (a0.Rules.map qd9))]] :: (.row false 0 2 [[PI a2.At, PI a2.Rule]] :: (.row false 0 2 [[.d (.rd (x4.L.map intD)), .d (.rd (x4.R.map intD))]] :: [])))⟩)) ?_ (.inr rfl) ⟨[.d (.rd (([] : List Int).map intD)), PI 80], rfl, ?_⟩
  rotate_left 2
  simp only [h12, if_true] at hr
  obtain ⟨x7, h13, hr⟩ := bsome hr
  obtain ⟨h14, hr⟩ := gsome hr
  obtain ⟨x10, h15, hr⟩ := bsome hr
  obtain ⟨q15, h15L, h15X⟩ := qtv9 (g := 0) h15
  rcases x10 with x11 | ⟨x12, x13⟩
  simp only [qiG9, qfz9] at h15X h15L
  obtain ⟨e15, st15⟩ := q15
  obtain ⟨rfl, h15R⟩ := h15X
  try simp only [go_sem, Nat.reduceAdd, la1, la2, la3, la4, la5, la6] at h15L
  obtain rfl := oiA hr
  refine qh9 is18 (nbA rfl) ?_ (.inr rfl) h15R
  rotate_left
  simp only [qiG9, qfz9] at h15X h15L
  obtain ⟨z14, rfl⟩ := h15X
  try simp only [go_sem, Nat.reduceAdd, la1, la2, la3, la4, la5, la6] at h15L
  obtain ⟨x15, h16, hr⟩ := bsome hr
  obtain ⟨h17, hr⟩ := gsome hr
  obtain rfl := oiA hr
  refine qh9 is18 (nbA rfl) (q := (.ret, ⟨[(0, .d (.ag (qf9 a0))), (1, .d (.rd (a1.map intD))), (2, .d (.ag (qe9 a2))), (3, .ptr 0 0 0 0), (5, .ptr 1 0 0 0), (6, .d (.rd ((x13 ++ x15).map intD))), (7, PI 0), (8, PI x1), (9, PI x3), (10, .ptr 2 0 0 0), (11, .d (.rd (x6.1.map qb9))), (12, PB x6.2), (13, .ref 3 z14 0 x13.length), (14, PI (w64 ((a1.length : Int) - x3))), (87, .d (.rd (x4.R.map intD))), (88, PI (x4.R.length : Int)), (89, PI x12)], (.row false 0 2 [[.d (.rd (a0.Sig.map qa9)), .d (.rd (a0.Rules.map qd9))]] :: (.row false 0 2 [[PI a2.At, PI a2.Rule]] :: (.row false 0 2 [[.d (.rd (x4.L.map intD)), .d (.rd (x4.R.map intD))]] :: (.row true (z14 + 1) 1 (rowP intD (x13 ++ x15)) :: []))))⟩)) ?_ (.inr rfl) ⟨[.d (.rd ((x13 ++ x15).map intD)), PI 0], rfl, ?_⟩
  rotate_left 2
  simp only [h2, if_false] at hr
  obtain rfl := oiA hr
  refine qh9 is18 (nbA rfl) (q := (.ret, ⟨[(0, .d (.ag (qf9 a0))), (1, .d (.rd (a1.map intD))), (2, .d (.ag (qe9 a2))), (3, .ptr 0 0 0 0), (5, .ptr 1 0 0 0), (6, .d (.rd (([] : List Int).map intD))), (7, PI x1), (8, PI x1)], (.row false 0 2 [[.d (.rd (a0.Sig.map qa9)), .d (.rd (a0.Rules.map qd9))]] :: (.row false 0 2 [[PI a2.At, PI a2.Rule]] :: []))⟩)) ?_ (.inr rfl) ⟨[.d (.rd (([] : List Int).map intD)), PI x1], rfl, ?_⟩
  rotate_left 2
  all_goals (simp +decide only [go_sem, Int.reduceToNat, Nat.reduceAdd, Nat.reduceLT, Nat.reduceMul, Nat.reducePow, reduceCtorEq, qg9, c18, *])
theorem qgW9 {a0 : System} {a1 : List Int} {a2 : Redex} {r : (List Int) × Int} (hr : qcm9 a0 a1 a2 = some r) {h : AHeap} {args : List PV} (ha : mapO (rs h depth) args = some [.ag (qf9 a0), .rd (a1.map intD), .ag (qe9 a2)]) : callP C (Lim C) 18 args h = some (.tp [.d (.rd (r.1.map intD)), PI r.2], if scalar (.tp [.d (.rd (r.1.map intD)), PI r.2]) = true then h else freezeAll (args.flatMap (reach h depth)) h) := qdD9 rfl rfl rfl (quT9 hr) ha
def b16_0 : ACode := .seq (.seq (.reg [] [] [.M 11 5, .M 12 0, .T 13 (.len (.tmp 12)), .K 14 (.bin .lss (.tmp 11) (.tmp 13))]) (.cond (.tmp 14) (some 14) (.skip) (.exit 0))) (.seq (.block 1 33570816 (.seq (.reg [] [] [.M 17 0, .M 18 5, ⟨some (19, false), .ix 2 (.tmp 17) (.tmp 18), none, true, false⟩, ⟨some (20, false), .load (some 2) (.tmp 19), none, true, false⟩, .M 21 1, .M 22 5, ⟨some (23, false), .ix 2 (.tmp 21) (.tmp 22), none, true, false⟩, ⟨some (24, false), .load (some 2) (.tmp 23), none, true, false⟩, .K 25 (.raw ({ dst := some 25, op := Go.Op.binOp Go.BinOp.neq 33 (.tmp 20) (.tmp 24) 33, type := 4, pos := "law.go:50", after := #[{ on := 3, ground := Go.Ground.data }, { on := 7, ground := Go.Ground.data }], guard := none }))]) (.cond (.tmp 25) (some 25) (.seq (.reg [] [] [.K 4 (.mv (.const (.bool false)))]) (.ret)) (.skip)))) (.reg [] [] [.M 15 5, .T 16 (.bin .add (.tmp 15) (cI 1)), .N 5 16]))
def c16 : ACode := .seq (.reg [] [] [.K 4 (.mv (.const (.bool false)))]) (.seq (.seq (.reg [] [] [.M 6 0, .T 7 (.len (.tmp 6)), .M 8 1, .T 9 (.len (.tmp 8)), .K 10 (.bin .neq (.tmp 7) (.tmp 9))]) (.cond (.tmp 10) (some 10) (.seq (.reg [] [] [.K 4 (.mv (.const (.bool false)))]) (.ret)) (.skip))) (.seq (.seq (.reg [] [] [.K 5 (.mv (cI 0))]) (.block 0 33570816 (.loop b16_0))) (.seq (.reg [] [] [.K 4 (.mv (.const (.bool true)))]) (.ret))))
theorem is16 : IsF C 16 26 33571891 c16 [.tmp 4] := ⟨⟨Tryd.f16, _, C_P ▸ Tryd.func16, rfl, rfl, rfl, by kernel_rfl, rfl⟩⟩
def qfd9 (s0 : List Redex) (s1 : List Redex) : Int → Unit → St := fun s5 _ => ⟨[(0, .d (.rd (s0.map qe9))), (1, .d (.rd (s1.map qe9))), (4, PB false), (5, PI s5)], []⟩
def qhX9 (s0 : List Redex) (s1 : List Redex) : (Bool ⊕ Int) → AExit × St → Prop
  | .inl r, q => q.1 = .ret ∧ RetOK C [.tmp 4] q.2 (PB r)
  | .inr s5, q => q = (.exit 0, ⟨[(0, .d (.rd (s0.map qe9))), (1, .d (.rd (s1.map qe9))), (4, PB false), (5, PI s5)], []⟩)
theorem qrf9 (s0 : List Redex) (s1 : List Redex) : ∀ (s : Int) (g : Unit) r, qgs9 s0 s1 s = some r → Sum.elim (fun s' => ∃ g', semA C (Lim C) 33571891 b16_0 (qfd9 s0 s1 s g) = some (.normal, qfd9 s0 s1 s' g')) (fun x => ∃ q, semA C (Lim C) 33571891 b16_0 (qfd9 s0 s1 s g) = some q ∧ q.1 ≠ .normal ∧ qhX9 s0 s1 x q) r := by
  intro s g r hr
  have ⟨s5, hs0⟩ : ∃ y, y = s := ⟨_, rfl⟩
  subst hs0
  simp only [qgs9] at hr
  rcases pcA (s5 < (s0.length : Int)) with h1 | h1
  simp only [h1, if_true] at hr
  obtain ⟨x1, h2, hr⟩ := bsome hr
  obtain ⟨x2, h3, hr⟩ := bsome hr
  cases h4 : (decide (x1.At = x2.At) && decide (x1.Rule = x2.Rule))
  simp only [h4, Bool.false_eq_true, if_false] at hr
  obtain rfl := oiA hr
  refine ⟨(.ret, ⟨[(0, .d (.rd (s0.map qe9))), (1, .d (.rd (s1.map qe9))), (4, PB false), (5, PI s5)], []⟩), ?_, nofun, rfl, [PB false], rfl, ?_⟩
  rotate_left 2
  simp only [h4, if_true] at hr
  obtain rfl := oiA hr
  refine ⟨(), ?_⟩
  rotate_left
  simp only [h1, if_false] at hr
  obtain rfl := oiA hr
  refine ⟨(.exit 0, ⟨[(0, .d (.rd (s0.map qe9))), (1, .d (.rd (s1.map qe9))), (4, PB false), (5, PI s5)], []⟩), ?_, nofun, rfl⟩
  rotate_left
  all_goals (simp +decide only [go_sem, Int.reduceToNat, Nat.reduceAdd, Nat.reduceLT, Nat.reduceMul, Nat.reducePow, reduceCtorEq, qfd9, b16_0, *])
theorem qrq9 {s0 : List Redex} {s1 : List Redex} {s : Int} {g : Unit} {x} (h : wh (qgs9 s0 s1) s = some x) : ∃ q, qp9 (semA C (Lim C) 33571891 b16_0) (qfd9 s0 s1 s g) = some q ∧ qhX9 s0 s1 x q := qcx9 (qrf9 s0 s1) h
theorem qst9 {a0 : List Redex} {a1 : List Redex} {r : Bool} (hr : qhv9 a0 a1 = some r) : ∃ p hp, Lim C 16 [.d (.rd (a0.map qe9)), .d (.rd (a1.map qe9))] [] = some (p, hp) ∧ rsT hp p = some (PB r) := by
  simp only [qhv9] at hr
  rcases pcA ((a0.length : Int) = (a1.length : Int)) with h1 | h1
  simp only [h1, if_true] at hr
  obtain ⟨x3, h2, hr⟩ := bsome hr
  obtain ⟨q2, h2L, h2X⟩ := qrq9 (g := ()) h2
  rcases x3 with x4 | x5
  simp only [qhX9, qfd9] at h2X h2L
  obtain ⟨e2, st2⟩ := q2
  obtain ⟨rfl, h2R⟩ := h2X
  try simp only [go_sem, Nat.reduceAdd, la1, la2, la3, la4, la5, la6] at h2L
  obtain rfl := oiA hr
  refine qh9 is16 (nbA rfl) ?_ (.inr rfl) h2R
  rotate_left
  simp only [qhX9, qfd9] at h2X h2L
  subst h2X
  try simp only [go_sem, Nat.reduceAdd, la1, la2, la3, la4, la5, la6] at h2L
  obtain rfl := oiA hr
  refine qh9 is16 (nbA rfl) (q := (.ret, ⟨[(0, .d (.rd (a0.map qe9))), (1, .d (.rd (a1.map qe9))), (4, PB true), (5, PI x5)], []⟩)) ?_ (.inr rfl) ⟨[PB true], rfl, ?_⟩
  rotate_left 2
  simp only [h1, if_false] at hr
  obtain rfl := oiA hr
  refine qh9 is16 (nbA rfl) (q := (.ret, ⟨[(0, .d (.rd (a0.map qe9))), (1, .d (.rd (a1.map qe9))), (4, PB false)], []⟩)) ?_ (.inr rfl) ⟨[PB false], rfl, ?_⟩
  rotate_left 2
  all_goals (simp +decide only [go_sem, Int.reduceToNat, Nat.reduceAdd, Nat.reduceLT, Nat.reduceMul, Nat.reducePow, reduceCtorEq, qg9, c16, *])
theorem qsU9 {a0 : List Redex} {a1 : List Redex} {r : Bool} (hr : qhv9 a0 a1 = some r) {h : AHeap} {args : List PV} (ha : mapO (rs h depth) args = some [.rd (a0.map qe9), .rd (a1.map qe9)]) : callP C (Lim C) 16 args h = some (PB r, if scalar (PB r) = true then h else freezeAll (args.flatMap (reach h depth)) h) := qdD9 rfl rfl rfl (qst9 hr) ha
def b17_0 : ACode := .seq (.seq (.reg [] [] [.M 11 5, .M 12 0, .T 13 (.len (.tmp 12)), .K 14 (.bin .lss (.tmp 11) (.tmp 13))]) (.cond (.tmp 14) (some 14) (.skip) (.exit 0))) (.seq (.block 1 33570816 (.seq (.reg [] [] [.M 17 0, .M 18 5, ⟨some (19, false), .ix 1 (.tmp 17) (.tmp 18), none, true, false⟩, ⟨some (20, false), .load none (.tmp 19), none, true, false⟩, .M 21 1, .M 22 5, ⟨some (23, false), .ix 1 (.tmp 21) (.tmp 22), none, true, false⟩, ⟨some (24, false), .load none (.tmp 23), none, true, false⟩, .K 25 (.bin .neq (.tmp 20) (.tmp 24))]) (.cond (.tmp 25) (some 25) (.seq (.reg [] [] [.K 4 (.mv (.const (.bool false)))]) (.ret)) (.skip)))) (.reg [] [] [.M 15 5, .T 16 (.bin .add (.tmp 15) (cI 1)), .N 5 16]))
def c17 : ACode := .seq (.reg [] [] [.K 4 (.mv (.const (.bool false)))]) (.seq (.seq (.reg [] [] [.M 6 0, .T 7 (.len (.tmp 6)), .M 8 1, .T 9 (.len (.tmp 8)), .K 10 (.bin .neq (.tmp 7) (.tmp 9))]) (.cond (.tmp 10) (some 10) (.seq (.reg [] [] [.K 4 (.mv (.const (.bool false)))]) (.ret)) (.skip))) (.seq (.seq (.reg [] [] [.K 5 (.mv (cI 0))]) (.block 0 33570816 (.loop b17_0))) (.seq (.reg [] [] [.K 4 (.mv (.const (.bool true)))]) (.ret))))
theorem is17 : IsF C 17 26 33571891 c17 [.tmp 4] := ⟨⟨Tryd.f17, _, C_P ▸ Tryd.func17, rfl, rfl, rfl, by kernel_rfl, rfl⟩⟩
def qdB9 (s0 : List Int) (s1 : List Int) : Int → Unit → St := fun s5 _ => ⟨[(0, .d (.rd (s0.map intD))), (1, .d (.rd (s1.map intD))), (4, PB false), (5, PI s5)], []⟩
def qgg9 (s0 : List Int) (s1 : List Int) : (Bool ⊕ Int) → AExit × St → Prop
  | .inl r, q => q.1 = .ret ∧ RetOK C [.tmp 4] q.2 (PB r)
  | .inr s5, q => q = (.exit 0, ⟨[(0, .d (.rd (s0.map intD))), (1, .d (.rd (s1.map intD))), (4, PB false), (5, PI s5)], []⟩)
theorem qof9 (s0 : List Int) (s1 : List Int) : ∀ (s : Int) (g : Unit) r, qfn9 s0 s1 s = some r → Sum.elim (fun s' => ∃ g', semA C (Lim C) 33571891 b17_0 (qdB9 s0 s1 s g) = some (.normal, qdB9 s0 s1 s' g')) (fun x => ∃ q, semA C (Lim C) 33571891 b17_0 (qdB9 s0 s1 s g) = some q ∧ q.1 ≠ .normal ∧ qgg9 s0 s1 x q) r := by
  intro s g r hr
  have ⟨s5, hs0⟩ : ∃ y, y = s := ⟨_, rfl⟩
  subst hs0
  simp only [qfn9] at hr
  rcases pcA (s5 < (s0.length : Int)) with h1 | h1
  simp only [h1, if_true] at hr
  obtain ⟨x1, h2, hr⟩ := bsome hr
  obtain ⟨x2, h3, hr⟩ := bsome hr
  rcases pcA (x1 = x2) with h4 | h4
  simp only [h4, if_true] at hr
  obtain rfl := oiA hr
  refine ⟨(), ?_⟩
  rotate_left
  simp only [h4, if_false] at hr
  obtain rfl := oiA hr
  refine ⟨(.ret, ⟨[(0, .d (.rd (s0.map intD))), (1, .d (.rd (s1.map intD))), (4, PB false), (5, PI s5)], []⟩), ?_, nofun, rfl, [PB false], rfl, ?_⟩
  rotate_left 2
  simp only [h1, if_false] at hr
  obtain rfl := oiA hr
  refine ⟨(.exit 0, ⟨[(0, .d (.rd (s0.map intD))), (1, .d (.rd (s1.map intD))), (4, PB false), (5, PI s5)], []⟩), ?_, nofun, rfl⟩
  rotate_left
  all_goals (simp +decide only [go_sem, Int.reduceToNat, Nat.reduceAdd, Nat.reduceLT, Nat.reduceMul, Nat.reducePow, reduceCtorEq, qdB9, b17_0, *])
theorem qnJ9 {s0 : List Int} {s1 : List Int} {s : Int} {g : Unit} {x} (h : wh (qfn9 s0 s1) s = some x) : ∃ q, qp9 (semA C (Lim C) 33571891 b17_0) (qdB9 s0 s1 s g) = some q ∧ qgg9 s0 s1 x q := qcx9 (qof9 s0 s1) h
theorem qkM9 {a0 : List Int} {a1 : List Int} {r : Bool} (hr : qex9 a0 a1 = some r) : ∃ p hp, Lim C 17 [.d (.rd (a0.map intD)), .d (.rd (a1.map intD))] [] = some (p, hp) ∧ rsT hp p = some (PB r) := by
  simp only [qex9] at hr
  rcases pcA ((a0.length : Int) = (a1.length : Int)) with h1 | h1
  simp only [h1, if_true] at hr
  obtain ⟨x3, h2, hr⟩ := bsome hr
  obtain ⟨q2, h2L, h2X⟩ := qnJ9 (g := ()) h2
  rcases x3 with x4 | x5
  simp only [qgg9, qdB9] at h2X h2L
  obtain ⟨e2, st2⟩ := q2
  obtain ⟨rfl, h2R⟩ := h2X
  try simp only [go_sem, Nat.reduceAdd, la1, la2, la3, la4, la5, la6] at h2L
  obtain rfl := oiA hr
  refine qh9 is17 (nbA rfl) ?_ (.inr rfl) h2R
  rotate_left
  simp only [qgg9, qdB9] at h2X h2L
  subst h2X
  try simp only [go_sem, Nat.reduceAdd, la1, la2, la3, la4, la5, la6] at h2L
  obtain rfl := oiA hr
  refine qh9 is17 (nbA rfl) (q := (.ret, ⟨[(0, .d (.rd (a0.map intD))), (1, .d (.rd (a1.map intD))), (4, PB true), (5, PI x5)], []⟩)) ?_ (.inr rfl) ⟨[PB true], rfl, ?_⟩
  rotate_left 2
  simp only [h1, if_false] at hr
  obtain rfl := oiA hr
  refine qh9 is17 (nbA rfl) (q := (.ret, ⟨[(0, .d (.rd (a0.map intD))), (1, .d (.rd (a1.map intD))), (4, PB false)], []⟩)) ?_ (.inr rfl) ⟨[PB false], rfl, ?_⟩
  rotate_left 2
  all_goals (simp +decide only [go_sem, Int.reduceToNat, Nat.reduceAdd, Nat.reduceLT, Nat.reduceMul, Nat.reducePow, reduceCtorEq, qg9, c17, *])
theorem qpb9 {a0 : List Int} {a1 : List Int} {r : Bool} (hr : qex9 a0 a1 = some r) {h : AHeap} : callP C (Lim C) 17 [.d (.rd (a0.map intD)), .d (.rd (a1.map intD))] h = some (PB r, h) := qbk9 (ds := [.rd (a0.map intD), .rd (a1.map intD)]) rfl rfl rfl (qkM9 hr) h
theorem qpj9 {a0 : List Int} {a1 : List Int} {r : Bool} (hr : qex9 a0 a1 = some r) {h : AHeap} {args : List PV} (ha : mapO (rs h depth) args = some [.rd (a0.map intD), .rd (a1.map intD)]) : callP C (Lim C) 17 args h = some (PB r, if scalar (PB r) = true then h else freezeAll (args.flatMap (reach h depth)) h) := qdD9 rfl rfl rfl (qkM9 hr) ha
def c13 : ACode := .seq (.reg [] [] [.K 0 (.mv (.const (.bool false)))]) (.seq (.reg [] [] [.T 14 (.call 41 []), .T 15 (.lit 1 [(0, .const (.int .i64 2)), (1, .const (.int .i64 2)), (2, .const (.int .i64 0)), (3, .const (.int .i64 0)), (4, .const (.int .i64 2)), (5, .const (.int .i64 0)), (6, .const (.int .i64 0))]), .T 16 (.call 14 [.tmp 14, .tmp 15]), .N 1 16]) (.seq (.reg [] [] [.T 18 (.call 41 []), .T 19 (.lit 1 [(0, .const (.int .i64 2)), (1, .const (.int .i64 0)), (2, .const (.int .i64 2)), (3, .const (.int .i64 1)), (4, .const (.int .i64 0)), (5, .const (.int .i64 0))]), .T 20 (.call 27 [.tmp 18, .tmp 19]), .M 17 20, .T 21 (.ext (.tmp 17) 0), .T 22 (.ext (.tmp 17) 1), .K 2 (.alloc [.d (.v (.int .i64 0)), .d (.v (.int .i64 0))] 2), ⟨none, .store 2 (.tmp 2) (.tmp 21), none, false, false⟩, .N 3 22]) (.seq (.reg [] [] [.T 24 (.call 41 []), .T 25 (.lit 1 [(0, .const (.int .i64 1)), (1, .const (.int .i64 0))]), .T 26 (.call 27 [.tmp 24, .tmp 25]), .M 23 26, .T 27 (.ext (.tmp 23) 0), .T 28 (.ext (.tmp 23) 1), .T 4 (.alloc [.d (.v (.int .i64 0)), .d (.v (.int .i64 0))] 2), ⟨none, .store 2 (.tmp 4) (.tmp 27), none, false, false⟩, .N 5 28]) (.seq (.reg [] [] [.T 30 (.call 41 []), .T 31 (.lit 1 [(0, .const (.int .i64 2)), (1, .const (.int .i64 1)), (2, .const (.int .i64 0)), (3, .const (.int .i64 0))]), .T 32 (.build [(0, 1), (1, 1)] [.d (.v (.int .i64 0)), .d (.v (.int .i64 0))] [(0, .const (.int .i64 0)), (1, .const (.int .i64 1))]), .T 33 (.call 18 [.tmp 30, .tmp 31, .tmp 32]), .M 29 33, .T 34 (.ext (.tmp 29) 0), .T 35 (.ext (.tmp 29) 1), .N 6 34, .N 7 35]) (.seq (.reg [] [] [.T 37 (.call 41 []), .T 38 (.lit 1 [(0, .const (.int .i64 2)), (1, .const (.int .i64 1)), (2, .const (.int .i64 0)), (3, .const (.int .i64 0))]), .T 39 (.build [(0, 1), (1, 1)] [.d (.v (.int .i64 0)), .d (.v (.int .i64 0))] []), .T 40 (.call 18 [.tmp 37, .tmp 38, .tmp 39]), .M 36 40, .T 41 (.ext (.tmp 36) 0), .T 42 (.ext (.tmp 36) 1), .M 8 41, .N 9 42]) (.seq (.reg [] [] [.T 44 (.call 41 []), .T 45 (.lit 1 [(0, .const (.int .i64 2)), (1, .const (.int .i64 1)), (2, .const (.int .i64 0)), (3, .const (.int .i64 0))]), .T 46 (.build [(0, 1), (1, 1)] [.d (.v (.int .i64 0)), .d (.v (.int .i64 0))] [(0, .const (.int .i64 4)), (1, .const (.int .i64 1))]), .T 47 (.call 18 [.tmp 44, .tmp 45, .tmp 46]), .M 43 47, .T 48 (.ext (.tmp 43) 0), .T 49 (.ext (.tmp 43) 1), .M 10 48, .N 11 49]) (.seq (.reg [] [] [.T 51 (.call 41 []), .T 52 (.lit 1 [(0, .const (.int .i64 2)), (1, .const (.int .i64 1)), (2, .const (.int .i64 0)), (3, .const (.int .i64 0))]), .T 53 (.build [(0, 1), (1, 1)] [.d (.v (.int .i64 0)), .d (.v (.int .i64 0))] [(0, .const (.int .i64 0)), (1, .const (.int .i64 2))]), .T 54 (.call 18 [.tmp 51, .tmp 52, .tmp 53]), .M 50 54, .T 55 (.ext (.tmp 50) 0), .T 56 (.ext (.tmp 50) 1), .M 12 55, .N 13 56]) (.seq (.reg [] [] [.M 57 1, .T 58 (.build [(0, 1), (1, 1)] [.d (.v (.int .i64 0)), .d (.v (.int .i64 0))] [(0, .const (.int .i64 1)), (1, .const (.int .i64 0))]), .T 59 (.build [(0, 1), (1, 1)] [.d (.v (.int .i64 0)), .d (.v (.int .i64 0))] [(0, .const (.int .i64 4)), (1, .const (.int .i64 0))]), .T 60 (.lit 2 [(0, .tmp 58), (1, .tmp 59)]), .T 61 (.call 16 [.tmp 57, .tmp 60]), .M 62 61, .TG 63 62 true (.load (some 2) (.tmp 2)), .TG 64 62 true (.build [(0, 1), (1, 1)] [.d (.v (.int .i64 0)), .d (.v (.int .i64 0))] [(0, .const (.int .i64 2)), (1, .const (.int .i64 1))]), .TG 65 62 true (.raw ({ dst := some 65, op := Go.Op.binOp Go.BinOp.eql 33 (.tmp 63) (.tmp 64) 33, type := 4, pos := "law.go:28", after := #[{ on := 6, ground := Go.Ground.data }, { on := 7, ground := Go.Ground.data }, { on := 5, ground := Go.Ground.guard }], guard := some (5, true) })), .T 66 (.pick (.tmp 62) (.tmp 65) (.const (.bool false))), .M 67 66, .MG 68 67 true 3, .T 69 (.pick (.tmp 67) (.tmp 68) (.const (.bool false))), .M 70 69, .MG 71 70 true 5, .TG 72 70 true (.not (.tmp 71)), .T 73 (.pick (.tmp 70) (.tmp 72) (.const (.bool false))), .M 74 73, .MG 75 74 true 6, .TG 76 74 true (.lit 1 [(0, .const (.int .i64 1)), (1, .const (.int .i64 2)), (2, .const (.int .i64 0)), (3, .const (.int .i64 0))]), .TG 77 74 true (.call 17 [.tmp 75, .tmp 76]), .T 78 (.pick (.tmp 74) (.tmp 77) (.const (.bool false))), .M 79 78, .MG 80 79 true 7, .TG 81 79 true (.bin .eql (.tmp 80) (cI 0)), .T 82 (.pick (.tmp 79) (.tmp 81) (.const (.bool false))), .M 83 82, .MG 84 83 true 9, .TG 85 83 true (.bin .eql (.tmp 84) (cI 80)), .T 86 (.pick (.tmp 83) (.tmp 85) (.const (.bool false))), .M 87 86, .MG 88 87 true 11, .TG 89 87 true (.bin .eql (.tmp 88) (cI 33)), .T 90 (.pick (.tmp 87) (.tmp 89) (.const (.bool false))), .M 91 90, .MG 92 91 true 13, .TG 93 91 true (.bin .eql (.tmp 92) (cI 1)), .T 94 (.pick (.tmp 91) (.tmp 93) (.const (.bool false))), .N 0 94]) (.ret)))))))))
theorem is13 : IsF C 13 95 10991 c13 [.tmp 0] := ⟨⟨Tryd.f13, _, C_P ▸ Tryd.func13, rfl, rfl, rfl, by kernel_rfl, rfl⟩⟩
theorem qrm9  {r : Bool} (hr : qfY9 = some r) : ∃ p hp, Lim C 13 [] [] = some (p, hp) ∧ rsT hp p = some (PB r) := by
  simp only [qfY9] at hr
  obtain ⟨x1, h1, hr⟩ := bsome hr
  have h1k := fun h => qtx9 (h := h) h1
  try simp only [go_sem] at h1k
  obtain ⟨x2, h2, hr⟩ := bsome hr
  have h2k := fun h => qkA9 (h := h) (args := [.d (.ag (qf9 x1)), .im true [[PI 2], [PI 2], [PI 0], [PI 0], [PI 2], [PI 0], [PI 0]]]) h2 rfl
  try simp only [go_sem] at h2k
  obtain ⟨x3, h3, hr⟩ := bsome hr
  have h3k := fun h => qlI9 (h := h) (args := [.d (.ag (qf9 x1)), .im true [[PI 2], [PI 0], [PI 2], [PI 1], [PI 0], [PI 0]]]) h3 rfl
  try simp only [go_sem] at h3k
  obtain ⟨x4, h4, hr⟩ := bsome hr
  have h4k := fun h => qlI9 (h := h) (args := [.d (.ag (qf9 x1)), .im true [[PI 1], [PI 0]]]) h4 rfl
  try simp only [go_sem] at h4k
  obtain ⟨x5, h5, hr⟩ := bsome hr
  have h5k := fun h => qgW9 (h := h) (args := [.d (.ag (qf9 x1)), .im true [[PI 2], [PI 1], [PI 0], [PI 0]], .ag [PI 0, PI 1]]) h5 rfl
  try simp only [go_sem] at h5k
  obtain ⟨x6, h6, hr⟩ := bsome hr
  have h6k := fun h => qgW9 (h := h) (args := [.d (.ag (qf9 x1)), .im true [[PI 2], [PI 1], [PI 0], [PI 0]], .ag [PI 0, PI 0]]) h6 rfl
  try simp only [go_sem] at h6k
  obtain ⟨x7, h7, hr⟩ := bsome hr
  have h7k := fun h => qgW9 (h := h) (args := [.d (.ag (qf9 x1)), .im true [[PI 2], [PI 1], [PI 0], [PI 0]], .ag [PI 4, PI 1]]) h7 rfl
  try simp only [go_sem] at h7k
  obtain ⟨x8, h8, hr⟩ := bsome hr
  have h8k := fun h => qgW9 (h := h) (args := [.d (.ag (qf9 x1)), .im true [[PI 2], [PI 1], [PI 0], [PI 0]], .ag [PI 0, PI 2]]) h8 rfl
  try simp only [go_sem] at h8k
  obtain ⟨x9, h9, hr⟩ := bsome hr
  have h9k := fun h => qsU9 (h := h) (args := [.d (.rd (x2.map qe9)), .im true [[PI 1, PI 0], [PI 4, PI 0]]]) h9 rfl
  try simp only [go_sem] at h9k
  cases h10 : x9
  simp only [h10, Bool.false_eq_true, if_false] at hr
  obtain rfl := oiA hr
  refine qh9 is13 (nbA rfl) (q := (.ret, ⟨[(0, PB false), (1, .d (.rd (x2.map qe9))), (2, .ptr 0 0 0 0), (3, PB x3.2), (5, PB x4.2), (6, .d (.rd (x5.1.map intD))), (7, PI x5.2), (9, PI x6.2), (11, PI x7.2), (13, PI x8.2)], (.row false 0 2 [[PI x3.1.At, PI x3.1.Rule]] :: (.row false 0 2 [[PI x4.1.At, PI x4.1.Rule]] :: []))⟩)) ?_ (.inr rfl) ⟨[PB false], rfl, ?_⟩
  rotate_left 2
  simp only [h10, if_true] at hr
  cases h11 : (decide (x3.1.At = 2) && decide (x3.1.Rule = 1))
  simp only [h11, Bool.false_eq_true, if_false] at hr
  obtain rfl := oiA hr
  refine qh9 is13 (nbA rfl) (q := (.ret, ⟨[(0, PB false), (1, .d (.rd (x2.map qe9))), (2, .ptr 0 0 0 0), (3, PB x3.2), (5, PB x4.2), (6, .d (.rd (x5.1.map intD))), (7, PI x5.2), (9, PI x6.2), (11, PI x7.2), (13, PI x8.2)], (.row false 0 2 [[PI x3.1.At, PI x3.1.Rule]] :: (.row false 0 2 [[PI x4.1.At, PI x4.1.Rule]] :: []))⟩)) ?_ (.inr rfl) ⟨[PB false], rfl, ?_⟩
  rotate_left 2
  simp only [h11, if_true] at hr
  cases h12 : x3.2
  simp only [h12, Bool.false_eq_true, if_false] at hr
  obtain rfl := oiA hr
  refine qh9 is13 (nbA rfl) (q := (.ret, ⟨[(0, PB false), (1, .d (.rd (x2.map qe9))), (2, .ptr 0 0 0 0), (3, PB x3.2), (5, PB x4.2), (6, .d (.rd (x5.1.map intD))), (7, PI x5.2), (9, PI x6.2), (11, PI x7.2), (13, PI x8.2)], (.row false 0 2 [[PI x3.1.At, PI x3.1.Rule]] :: (.row false 0 2 [[PI x4.1.At, PI x4.1.Rule]] :: []))⟩)) ?_ (.inr rfl) ⟨[PB false], rfl, ?_⟩
  rotate_left 2
  simp only [h12, if_true] at hr
  cases h13 : x4.2
  simp only [h13, Bool.false_eq_true, if_false] at hr
  obtain ⟨x10, h14, hr⟩ := bsome hr
  have h14k := fun h => qpj9 (h := h) (args := [.d (.rd (x5.1.map intD)), .im true [[PI 1], [PI 2], [PI 0], [PI 0]]]) h14 rfl
  try simp only [go_sem] at h14k
  cases h15 : x10
  simp only [h15, Bool.false_eq_true, if_false] at hr
  obtain rfl := oiA hr
  refine qh9 is13 (nbA rfl) (q := (.ret, ⟨[(0, PB false), (1, .d (.rd (x2.map qe9))), (2, .ptr 0 0 0 0), (3, PB x3.2), (5, PB x4.2), (6, .d (.rd (x5.1.map intD))), (7, PI x5.2), (9, PI x6.2), (11, PI x7.2), (13, PI x8.2)], (.row false 0 2 [[PI x3.1.At, PI x3.1.Rule]] :: (.row false 0 2 [[PI x4.1.At, PI x4.1.Rule]] :: []))⟩)) ?_ (.inr rfl) ⟨[PB false], rfl, ?_⟩
  rotate_left 2
  simp only [h15, if_true] at hr
  rcases pcA (x5.2 = 0) with h16 | h16
  simp only [h16, if_true] at hr
  rcases pcA (x6.2 = 80) with h17 | h17
  simp only [h17, if_true] at hr
  rcases pcA (x7.2 = 33) with h18 | h18
  simp only [h18, if_true] at hr
  obtain rfl := oiA hr
  refine qh9 is13 (nbA rfl) (q := (.ret, ⟨[(0, PB (decide (x8.2 = 1))), (1, .d (.rd (x2.map qe9))), (2, .ptr 0 0 0 0), (3, PB x3.2), (5, PB x4.2), (6, .d (.rd (x5.1.map intD))), (7, PI x5.2), (9, PI x6.2), (11, PI x7.2), (13, PI x8.2)], (.row false 0 2 [[PI x3.1.At, PI x3.1.Rule]] :: (.row false 0 2 [[PI x4.1.At, PI x4.1.Rule]] :: []))⟩)) ?_ (.inr rfl) ⟨[PB (decide (x8.2 = 1))], rfl, ?_⟩
  rotate_left 2
  simp only [h18, if_false] at hr
  obtain rfl := oiA hr
  refine qh9 is13 (nbA rfl) (q := (.ret, ⟨[(0, PB false), (1, .d (.rd (x2.map qe9))), (2, .ptr 0 0 0 0), (3, PB x3.2), (5, PB x4.2), (6, .d (.rd (x5.1.map intD))), (7, PI x5.2), (9, PI x6.2), (11, PI x7.2), (13, PI x8.2)], (.row false 0 2 [[PI x3.1.At, PI x3.1.Rule]] :: (.row false 0 2 [[PI x4.1.At, PI x4.1.Rule]] :: []))⟩)) ?_ (.inr rfl) ⟨[PB false], rfl, ?_⟩
  rotate_left 2
  simp only [h17, if_false] at hr
  obtain rfl := oiA hr
  refine qh9 is13 (nbA rfl) (q := (.ret, ⟨[(0, PB false), (1, .d (.rd (x2.map qe9))), (2, .ptr 0 0 0 0), (3, PB x3.2), (5, PB x4.2), (6, .d (.rd (x5.1.map intD))), (7, PI x5.2), (9, PI x6.2), (11, PI x7.2), (13, PI x8.2)], (.row false 0 2 [[PI x3.1.At, PI x3.1.Rule]] :: (.row false 0 2 [[PI x4.1.At, PI x4.1.Rule]] :: []))⟩)) ?_ (.inr rfl) ⟨[PB false], rfl, ?_⟩
  rotate_left 2
  simp only [h16, if_false] at hr
  obtain rfl := oiA hr
  refine qh9 is13 (nbA rfl) (q := (.ret, ⟨[(0, PB false), (1, .d (.rd (x2.map qe9))), (2, .ptr 0 0 0 0), (3, PB x3.2), (5, PB x4.2), (6, .d (.rd (x5.1.map intD))), (7, PI x5.2), (9, PI x6.2), (11, PI x7.2), (13, PI x8.2)], (.row false 0 2 [[PI x3.1.At, PI x3.1.Rule]] :: (.row false 0 2 [[PI x4.1.At, PI x4.1.Rule]] :: []))⟩)) ?_ (.inr rfl) ⟨[PB false], rfl, ?_⟩
  rotate_left 2
  simp only [h13, if_true] at hr
  obtain rfl := oiA hr
  refine qh9 is13 (nbA rfl) (q := (.ret, ⟨[(0, PB false), (1, .d (.rd (x2.map qe9))), (2, .ptr 0 0 0 0), (3, PB x3.2), (5, PB x4.2), (6, .d (.rd (x5.1.map intD))), (7, PI x5.2), (9, PI x6.2), (11, PI x7.2), (13, PI x8.2)], (.row false 0 2 [[PI x3.1.At, PI x3.1.Rule]] :: (.row false 0 2 [[PI x4.1.At, PI x4.1.Rule]] :: []))⟩)) ?_ (.inr rfl) ⟨[PB false], rfl, ?_⟩
  rotate_left 2
  all_goals (simp +decide only [go_sem, Int.reduceToNat, Nat.reduceAdd, Nat.reduceLT, Nat.reduceMul, Nat.reducePow, reduceCtorEq, qg9, c13, *])
theorem qre9  {r : Bool} (hr : qfY9 = some r) {h : AHeap} : callP C (Lim C) 13 [] h = some (PB r, h) := qbk9 (ds := []) rfl rfl rfl (qrm9 hr) h
def b61_0 : ACode := .seq (.reg [] [] [.K 17 (.bin .lss (.tmp 16) (.tmp 15))]) (.seq (.cond (.tmp 17) (some 17) (.skip) (.exit 0)) (.seq (.block 1 562951029391808 (.seq (.reg [] [] [.M 18 16, .T 19 (.ix 2 (.tmp 14) (.tmp 16)), .T 20 (.load (some 2) (.tmp 19)), .K 7 (.alloc [.d (.v (.int .i64 0)), .im true []] 2), .N 6 18, ⟨none, .store 2 (.tmp 7) (.tmp 20), none, false, false⟩]) (.seq (.block 2 1075970112 (.seq (.reg [] [] [.T 22 (.fa 0 (.tmp 7)), .T 23 (.load none (.tmp 22)), .T 24 (.bin .lss (.tmp 23) (cI 0)), .M 25 24, .TG 26 25 false (.fa 0 (.tmp 7)), .TG 27 25 false (.load none (.tmp 26)), .TG 28 25 false (.bin .geq (.tmp 27) (cI 1048576)), .T 29 (.pick (.tmp 25) (.const (.bool true)) (.tmp 28)), .N 21 29]) (.cond (.tmp 21) (some 21) (.seq (.reg [] [] [.K 4 (.mv (cI 40))]) (.ret)) (.seq (.reg [] [] [.M 31 6, .T 32 (.bin .gtr (.tmp 31) (cI 0)), .M 33 32, .TG 34 33 true (.fa 0 (.tmp 7)), ⟨some (35, false), .load none (.tmp 34), some (33, true), true, false⟩, .MG 36 33 true 1, .MG 37 33 true 6, .TG 38 33 true (.bin .sub (.tmp 37) (cI 1)), ⟨some (39, false), .ix 2 (.tmp 36) (.tmp 38), some (33, true), true, false⟩, .TG 40 33 true (.fa 0 (.tmp 39)), ⟨some (41, false), .load none (.tmp 40), some (33, true), true, false⟩, .TG 42 33 true (.bin .leq (.tmp 35) (.tmp 41)), .T 43 (.pick (.tmp 33) (.tmp 42) (.const (.bool false))), .N 30 43]) (.cond (.tmp 30) (some 30) (.seq (.reg [] [] [.K 4 (.mv (cI 41))]) (.ret)) (.skip)))))) (.seq (.reg [] [] [.M 44 0, .T 45 (.fa 1 (.tmp 7)), .T 46 (.load none (.tmp 45)), .T 47 (.call 62 [.tmp 44, .tmp 46]), .N 8 47]) (.seq (.reg [] [] [.M 48 8, .K 49 (.bin .neq (.tmp 48) (cI 0))]) (.cond (.tmp 49) (some 49) (.seq (.reg [] [] [.M 50 8, .N 4 50]) (.ret)) (.skip))))))) (.reg [] [] [.T 51 (.bin .add (.tmp 16) (cI 1)), .N 16 51])))
def c61 : ACode := .seq (.reg [] [] [.K 4 (.mv (cI 0))]) (.seq (.seq (.reg [] [] [.M 9 0, .T 10 (.call 69 [.tmp 9]), .N 5 10]) (.seq (.reg [] [] [.M 11 5, .K 12 (.bin .neq (.tmp 11) (cI 0))]) (.cond (.tmp 12) (some 12) (.seq (.reg [] [] [.M 13 5, .N 4 13]) (.ret)) (.skip)))) (.seq (.seq (.reg [] [] [.N 14 1, .K 15 (.len (.tmp 14)), .K 16 (.mv (cI 0))]) (.block 0 562951029391808 (.loop b61_0))) (.seq (.reg [] [] [.K 4 (.mv (cI 0))]) (.ret))))
theorem is61 : IsF C 61 52 562951029510643 c61 [.tmp 4] := ⟨⟨Tryd.f61, _, C_P ▸ Tryd.func61, rfl, rfl, rfl, by kernel_rfl, rfl⟩⟩
def qdA9 (s0 : List Symbol) (s1 : List Bind) (s5 : Int) (s14 : List Bind) (s15 : Int) : Int → AHeap → St := fun s16 gt => ⟨[(0, .d (.rd (s0.map qa9))), (1, .d (.rd (s1.map qb9))), (4, PI 0), (5, PI s5), (14, .d (.rd (s14.map qb9))), (15, PI s15), (16, PI s16)], gt⟩
def qgi9 (s0 : List Symbol) (s1 : List Bind) (s5 : Int) (s14 : List Bind) (s15 : Int) : (Int ⊕ Int) → AExit × St → Prop
  | .inl r, q => q.1 = .ret ∧ RetOK C [.tmp 4] q.2 (PI r)
  | .inr s16, q => ∃ h1 : AHeap, q = (.exit 0, ⟨[(0, .d (.rd (s0.map qa9))), (1, .d (.rd (s1.map qb9))), (4, PI 0), (5, PI s5), (14, .d (.rd (s14.map qb9))), (15, PI s15), (16, PI s16)], h1⟩)
theorem qop9 (s0 : List Symbol) (s1 : List Bind) (s5 : Int) (s14 : List Bind) (s15 : Int) : ∀ (s : Int) (g : AHeap) r, qdE9 s0 s1 s5 s14 s15 s = some r → Sum.elim (fun s' => ∃ g', semA C (Lim C) 562951029510643 b61_0 (qdA9 s0 s1 s5 s14 s15 s g) = some (.normal, qdA9 s0 s1 s5 s14 s15 s' g')) (fun x => ∃ q, semA C (Lim C) 562951029510643 b61_0 (qdA9 s0 s1 s5 s14 s15 s g) = some q ∧ q.1 ≠ .normal ∧ qgi9 s0 s1 s5 s14 s15 x q) r := by
  intro s g r hr
  have ⟨s16, hs0⟩ : ∃ y, y = s := ⟨_, rfl⟩
  subst hs0
  have ⟨gt, hg0⟩ : ∃ y, y = g := ⟨_, rfl⟩
  subst hg0
  simp only [qdE9] at hr
  rcases pcA (s16 < s15) with h1 | h1
  simp only [h1, if_true] at hr
  obtain ⟨x2, h2, hr⟩ := bsome hr
  rcases pcA (x2.Var < 0) with h3 | h3
  simp only [h3, if_true] at hr
  obtain rfl := oiA hr
  refine ⟨(.ret, ⟨[(0, .d (.rd (s0.map qa9))), (1, .d (.rd (s1.map qb9))), (4, PI 40), (5, PI s5), (6, PI s16), (7, .ptr gt.length 0 0 0), (14, .d (.rd (s14.map qb9))), (15, PI s15), (16, PI s16)], (gt ++ (.row false 0 2 [[PI x2.Var, .d (.rd (x2.T.map intD))]] :: []))⟩), ?_, nofun, rfl, [PI 40], rfl, ?_⟩
  rotate_left 2
  simp only [h3, if_false] at hr
  rcases pcA (1048576 ≤ x2.Var) with h4 | h4
  simp only [h4, if_true] at hr
  obtain rfl := oiA hr
  refine ⟨(.ret, ⟨[(0, .d (.rd (s0.map qa9))), (1, .d (.rd (s1.map qb9))), (4, PI 40), (5, PI s5), (6, PI s16), (7, .ptr gt.length 0 0 0), (14, .d (.rd (s14.map qb9))), (15, PI s15), (16, PI s16)], (gt ++ (.row false 0 2 [[PI x2.Var, .d (.rd (x2.T.map intD))]] :: []))⟩), ?_, nofun, rfl, [PI 40], rfl, ?_⟩
  rotate_left 2
  simp only [h4, if_false] at hr
  rcases pcA (0 < s16) with h5 | h5
  simp only [h5, if_true] at hr
  obtain ⟨x3, h6, hr⟩ := bsome hr
  rcases pcA (x2.Var ≤ x3.Var) with h7 | h7
  simp only [h7, if_true] at hr
  obtain rfl := oiA hr
  refine ⟨(.ret, ⟨[(0, .d (.rd (s0.map qa9))), (1, .d (.rd (s1.map qb9))), (4, PI 41), (5, PI s5), (6, PI s16), (7, .ptr gt.length 0 0 0), (14, .d (.rd (s14.map qb9))), (15, PI s15), (16, PI s16)], (gt ++ (.row false 0 2 [[PI x2.Var, .d (.rd (x2.T.map intD))]] :: []))⟩), ?_, nofun, rfl, [PI 41], rfl, ?_⟩
  rotate_left 2
  simp only [h7, if_false] at hr
  obtain ⟨x4, h8, hr⟩ := bsome hr
  have h8k := fun h => qfi9 (h := h) h8
  try simp only [go_sem] at h8k
  rcases pcA (x4 = 0) with h9 | h9
  simp only [h9, if_true] at hr
  obtain rfl := oiA hr
  refine ⟨(gt ++ (.row false 0 2 [[PI x2.Var, .d (.rd (x2.T.map intD))]] :: [])), ?_⟩
  rotate_left
  simp only [h9, if_false] at hr
  obtain rfl := oiA hr
  refine ⟨(.ret, ⟨[(0, .d (.rd (s0.map qa9))), (1, .d (.rd (s1.map qb9))), (4, PI x4), (5, PI s5), (7, .ptr gt.length 0 0 0), (8, PI x4), (14, .d (.rd (s14.map qb9))), (15, PI s15), (16, PI s16)], (gt ++ (.row false 0 2 [[PI x2.Var, .d (.rd (x2.T.map intD))]] :: []))⟩), ?_, nofun, rfl, [PI x4], rfl, ?_⟩
  rotate_left 2
  simp only [h5, if_false] at hr
  obtain ⟨x5, h10, hr⟩ := bsome hr
  have h10k := fun h => qfi9 (h := h) h10
  try simp only [go_sem] at h10k
  rcases pcA (x5 = 0) with h11 | h11
  simp only [h11, if_true] at hr
  obtain rfl := oiA hr
  refine ⟨(gt ++ (.row false 0 2 [[PI x2.Var, .d (.rd (x2.T.map intD))]] :: [])), ?_⟩
  rotate_left
  simp only [h11, if_false] at hr
  obtain rfl := oiA hr
  refine ⟨(.ret, ⟨[(0, .d (.rd (s0.map qa9))), (1, .d (.rd (s1.map qb9))), (4, PI x5), (5, PI s5), (7, .ptr gt.length 0 0 0), (8, PI x5), (14, .d (.rd (s14.map qb9))), (15, PI s15), (16, PI s16)], (gt ++ (.row false 0 2 [[PI x2.Var, .d (.rd (x2.T.map intD))]] :: []))⟩), ?_, nofun, rfl, [PI x5], rfl, ?_⟩
  rotate_left 2
  simp only [h1, if_false] at hr
  obtain rfl := oiA hr
  refine ⟨(.exit 0, ⟨[(0, .d (.rd (s0.map qa9))), (1, .d (.rd (s1.map qb9))), (4, PI 0), (5, PI s5), (14, .d (.rd (s14.map qb9))), (15, PI s15), (16, PI s16)], gt⟩), ?_, nofun, gt, rfl⟩
  rotate_left
  all_goals (simp +decide only [go_sem, Int.reduceToNat, Nat.reduceAdd, Nat.reduceLT, Nat.reduceMul, Nat.reducePow, reduceCtorEq, qdA9, b61_0, *])
theorem qoh9 {s0 : List Symbol} {s1 : List Bind} {s5 : Int} {s14 : List Bind} {s15 : Int} {s : Int} {g : AHeap} {x} (h : wh (qdE9 s0 s1 s5 s14 s15) s = some x) : ∃ q, qp9 (semA C (Lim C) 562951029510643 b61_0) (qdA9 s0 s1 s5 s14 s15 s g) = some q ∧ qgi9 s0 s1 s5 s14 s15 x q := qcx9 (qop9 s0 s1 s5 s14 s15) h
theorem qpt9 {a0 : List Symbol} {a1 : List Bind} {r : Int} (hr : qfE9 a0 a1 = some r) : ∃ p hp, Lim C 61 [.d (.rd (a0.map qa9)), .d (.rd (a1.map qb9))] [] = some (p, hp) ∧ rsT hp p = some (PI r) := by
  simp only [qfE9] at hr
  obtain ⟨x1, h1, hr⟩ := bsome hr
  have h1k := fun h => qfI9 (h := h) h1
  try simp only [go_sem] at h1k
  rcases pcA (x1 = 0) with h2 | h2
  simp only [h2, if_true] at hr
  obtain ⟨x6, h3, hr⟩ := bsome hr
  obtain ⟨q3, h3L, h3X⟩ := qoh9 (g := []) h3
  rcases x6 with x7 | x8
  simp only [qgi9, qdA9] at h3X h3L
  obtain ⟨e3, st3⟩ := q3
  obtain ⟨rfl, h3R⟩ := h3X
  try simp only [go_sem, Nat.reduceAdd, la1, la2, la3, la4, la5, la6] at h3L
  obtain rfl := oiA hr
  refine qh9 is61 (nbA rfl) ?_ (.inr rfl) h3R
  rotate_left
  simp only [qgi9, qdA9] at h3X h3L
  obtain ⟨z9, rfl⟩ := h3X
  try simp only [go_sem, Nat.reduceAdd, la1, la2, la3, la4, la5, la6] at h3L
  obtain rfl := oiA hr
  refine qh9 is61 (nbA rfl) (q := (.ret, ⟨[(0, .d (.rd (a0.map qa9))), (1, .d (.rd (a1.map qb9))), (4, PI 0), (5, PI x1), (14, .d (.rd (a1.map qb9))), (15, PI (a1.length : Int)), (16, PI x8)], z9⟩)) ?_ (.inr rfl) ⟨[PI 0], rfl, ?_⟩
  rotate_left 2
  simp only [h2, if_false] at hr
  obtain rfl := oiA hr
  refine qh9 is61 (nbA rfl) (q := (.ret, ⟨[(0, .d (.rd (a0.map qa9))), (1, .d (.rd (a1.map qb9))), (4, PI x1), (5, PI x1)], []⟩)) ?_ (.inr rfl) ⟨[PI x1], rfl, ?_⟩
  rotate_left 2
  all_goals (simp +decide only [go_sem, Int.reduceToNat, Nat.reduceAdd, Nat.reduceLT, Nat.reduceMul, Nat.reducePow, reduceCtorEq, qg9, c61, *])
theorem qpk9 {a0 : List Symbol} {a1 : List Bind} {r : Int} (hr : qfE9 a0 a1 = some r) {h : AHeap} : callP C (Lim C) 61 [.d (.rd (a0.map qa9)), .d (.rd (a1.map qb9))] h = some (PI r, h) := qbk9 (ds := [.rd (a0.map qa9), .rd (a1.map qb9)]) rfl rfl rfl (qpt9 hr) h
def c64 : ACode := .seq (.reg [] [(3, 0)] [.K 3 (.mv (.const (.slice none 0 0)))]) (.seq (.seq (.reg [] [] [.T 7 (.load none (.tmp 1)), .M 8 0, .T 9 (.look (Go.TypeDesc.int .i64) (.ag [.d (.v (.int .i64 0)), .im true []]) (.tmp 7) (.tmp 8) true), .M 6 9, .T 10 (.ext (.tmp 6) 0), .T 11 (.ext (.tmp 6) 1), .K 4 (.alloc [.d (.v (.int .i64 0)), .im true []] 2), ⟨none, .store 2 (.tmp 4) (.tmp 10), none, false, false⟩, .N 5 11]) (.seq (.reg [] [] [.N 12 5]) (.cond (.tmp 12) (some 12) (.seq (.reg [] [] [.T 13 (.fa 1 (.tmp 4)), .T 14 (.load none (.tmp 13)), .N 3 14]) (.ret)) (.skip)))) (.seq (.reg [] [(3, 0)] [.M 15 0, .T 16 (.lit 1 [(0, .tmp 15)]), .N 3 16]) (.ret)))
theorem is64 : IsF C 64 17 4155 c64 [.tmp 3] := ⟨⟨Tryd.f64, _, C_P ▸ Tryd.func64, rfl, rfl, rfl, by kernel_rfl, rfl⟩⟩
theorem qmE9 {s0 : Int} {m1_0 : List (Int × Bind)} {g1 : AHeap} {g2 : AHeap} {g3 : AHeap} {r : (List Int)} (hr : qeC9 s0 m1_0 = some r) : ∃ hz : AHeap, Lim C 64 [PI s0, .ptr (g1.length + g2.length + 1) 0 0 0] (g1 ++ (.map (mapP keyI qb9 m1_0) :: (g2 ++ (.row false 0 1 [[.mp g1.length]] :: g3)))) = some (resOf [.d (.rd (r.map intD))], (g1 ++ (.map (mapP keyI qb9 m1_0) :: (g2 ++ (.row false 0 1 [[.mp g1.length]] :: (g3 ++ hz)))))) := by
  simp only [qeC9] at hr
  rcases h1 : mget m1_0 s0 with _ | x1
  simp only [h1] at hr
  obtain rfl := oiA hr
  refine ⟨(.row false 0 2 [[PI 0, .im true []]] :: []), Lim_A is64 (nbA rfl) (e := .ret) (env := [(0, PI s0), (1, .ptr (g1.length + g2.length + 1) 0 0 0), (3, .d (.rd (([s0] : List Int).map intD))), (4, .ptr (g1.length + g2.length + g3.length + 2) 0 0 0), (5, PB false)]) (h' := (g1 ++ (.map (mapP keyI qb9 m1_0) :: (g2 ++ (.row false 0 1 [[.mp g1.length]] :: (g3 ++ (.row false 0 2 [[PI 0, .im true []]] :: []))))))) (vs := [.d (.rd (([s0] : List Int).map intD))]) ?_ (.inr rfl) rfl⟩
  rotate_left
  simp only [h1] at hr
  obtain rfl := oiA hr
  refine ⟨(.row false 0 2 [[PI x1.Var, .d (.rd (x1.T.map intD))]] :: []), Lim_A is64 (nbA rfl) (e := .ret) (env := [(0, PI s0), (1, .ptr (g1.length + g2.length + 1) 0 0 0), (3, .d (.rd (x1.T.map intD))), (4, .ptr (g1.length + g2.length + g3.length + 2) 0 0 0), (5, PB true)]) (h' := (g1 ++ (.map (mapP keyI qb9 m1_0) :: (g2 ++ (.row false 0 1 [[.mp g1.length]] :: (g3 ++ (.row false 0 2 [[PI x1.Var, .d (.rd (x1.T.map intD))]] :: []))))))) (vs := [.d (.rd (x1.T.map intD))]) ?_ (.inr rfl) rfl⟩
  rotate_left
  all_goals (simp +decide only [go_sem, Int.reduceToNat, Nat.reduceAdd, Nat.reduceLT, Nat.reduceMul, Nat.reducePow, reduceCtorEq, qg9, c64, *])
theorem qmG9 {s0 : Int} {m1_0 : List (Int × Bind)} {g1 : AHeap} {g2 : AHeap} {g3 : AHeap} {r : (List Int)} (hr : qeC9 s0 m1_0 = some r) : ∃ hz : AHeap, callP C (Lim C) 64 [PI s0, .ptr (g1.length + g2.length + 1) 0 0 0] (g1 ++ (.map (mapP keyI qb9 m1_0) :: (g2 ++ (.row false 0 1 [[.mp g1.length]] :: g3)))) = some (resOf [.d (.rd (r.map intD))], (g1 ++ (.map (mapP keyI qb9 m1_0) :: (g2 ++ (.row false 0 1 [[.mp g1.length]] :: (g3 ++ hz)))))) := by
  obtain ⟨hz, h1⟩ := qmE9 hr (g1 := g1) (g2 := g2) (g3 := g3)
  exact ⟨hz, qZ9 rfl rfl rfl h1⟩
def b63_0 : ACode := .seq (.reg [] [] [.K 13 (.bin .lss (.tmp 12) (.tmp 11))]) (.seq (.cond (.tmp 13) (some 13) (.skip) (.exit 0)) (.seq (.block 1 268968704 (.seq (.reg [] [] [.T 14 (.ix 1 (.tmp 10) (.tmp 12)), .T 15 (.load none (.tmp 14)), .N 8 15]) (.seq (.reg [] [(9, 0)] [.M 16 8, .T 17 (.lit 1 [(0, .tmp 16)]), .N 9 17]) (.seq (.seq (.reg [] [] [.M 18 8, .K 19 (.bin .lss (.tmp 18) (cI 0))]) (.cond (.tmp 19) (some 19) (.reg [] [] [.M 20 1, .M 21 8, .T 22 (.callV (.tmp 20) [.tmp 21]), .N 9 22]) (.skip))) (.seq (.seq (.reg [] [] [.M 23 9, .T 24 (.len (.tmp 23)), .M 25 6, .T 26 (.len (.tmp 25)), .T 27 (.bin .sub (cI 512) (.tmp 26)), .K 28 (.bin .gtr (.tmp 24) (.tmp 27))]) (.cond (.tmp 28) (some 28) (.seq (.reg [] [(4, 0)] [.K 4 (.mv (.const (.slice none 0 0))), .K 5 (.mv (cI 2))]) (.ret)) (.skip))) (.reg [] [] [.M 29 6, .M 30 9, .T 31 (.app 1 8 (.tmp 29) (.tmp 30)), .N 6 31])))))) (.reg [] [] [.T 32 (.bin .add (.tmp 12) (cI 1)), .N 12 32])))
def c63 : ACode := .seq (.reg [] [(4, 0)] [.K 4 (.mv (.const (.slice none 0 0))), .K 5 (.mv (cI 0))]) (.seq (.reg [] [(6, 1)] [.K 6 (.mv (.const (.slice none 0 0)))]) (.seq (.seq (.reg [] [] [.N 10 0, .K 11 (.len (.tmp 10)), .K 12 (.mv (cI 0))]) (.block 0 268968704 (.loop b63_0))) (.seq (.reg [] [(4, 0)] [.M 33 6, .N 4 33, .K 5 (.mv (cI 0))]) (.ret))))
theorem is63 : IsF C 63 34 268975987 c63 [.tmp 4, .tmp 5] := ⟨⟨Tryd.f63, _, C_P ▸ Tryd.func63, rfl, rfl, rfl, by kernel_rfl, rfl⟩⟩
def qY9 (s0 : List Int) (s4 : List Int) (s10 : List Int) (s11 : Int) (m1_0_0 : List (Int × Bind)) (g1 : AHeap) (g2 : AHeap) (g3 : AHeap) : Int × (List Int) → Nat × AHeap → St := fun (s12, o6) (v6, gt) => ⟨[(0, .d (.rd (s0.map intD))), (1, .fn 64 [.ptr (g1.length + g2.length + 1) 0 0 0]), (4, .d (.rd (s4.map intD))), (5, PI 0), (6, .ref (g1.length + g2.length + g3.length + 2) v6 0 o6.length), (10, .d (.rd (s10.map intD))), (11, PI s11), (12, PI s12)], (g1 ++ (.map (mapP keyI qb9 m1_0_0) :: (g2 ++ (.row false 0 1 [[.mp g1.length]] :: (g3 ++ (.row false v6 1 (rowP intD o6) :: gt))))))⟩
def qcj9 (s0 : List Int) (s4 : List Int) (s10 : List Int) (s11 : Int) (m1_0_0 : List (Int × Bind)) (g1 : AHeap) (g2 : AHeap) (g3 : AHeap) : (((List Int) × Int) ⊕ (Int × (List Int))) → AExit × St → Prop
  | .inl r, q => q.1 = .ret ∧ ∃ hz : AHeap, mapO (resP C.P q.2) [.tmp 4, .tmp 5] = some [.d (.rd (r.1.map intD)), PI r.2] ∧ q.2.h = (g1 ++ (.map (mapP keyI qb9 m1_0_0) :: (g2 ++ (.row false 0 1 [[.mp g1.length]] :: (g3 ++ hz)))))
  | .inr (s12, o6), q => ∃ v6 : Nat, ∃ h1 : AHeap, q = (.exit 0, ⟨[(0, .d (.rd (s0.map intD))), (1, .fn 64 [.ptr (g1.length + g2.length + 1) 0 0 0]), (4, .d (.rd (s4.map intD))), (5, PI 0), (6, .ref (g1.length + g2.length + g3.length + 2) v6 0 o6.length), (10, .d (.rd (s10.map intD))), (11, PI s11), (12, PI s12)], (g1 ++ (.map (mapP keyI qb9 m1_0_0) :: (g2 ++ (.row false 0 1 [[.mp g1.length]] :: (g3 ++ (.row false v6 1 (rowP intD o6) :: h1))))))⟩)
theorem qhd9 (s0 : List Int) (s4 : List Int) (s10 : List Int) (s11 : Int) (m1_0_0 : List (Int × Bind)) (g1 : AHeap) (g2 : AHeap) (g3 : AHeap) : ∀ (s : Int × (List Int)) (g : Nat × AHeap) r, qM9 s0 s4 s10 s11 m1_0_0 s = some r → Sum.elim (fun s' => ∃ g', semA C (Lim C) 268975987 b63_0 (qY9 s0 s4 s10 s11 m1_0_0 g1 g2 g3 s g) = some (.normal, qY9 s0 s4 s10 s11 m1_0_0 g1 g2 g3 s' g')) (fun x => ∃ q, semA C (Lim C) 268975987 b63_0 (qY9 s0 s4 s10 s11 m1_0_0 g1 g2 g3 s g) = some q ∧ q.1 ≠ .normal ∧ qcj9 s0 s4 s10 s11 m1_0_0 g1 g2 g3 x q) r := by
  intro s g r hr
  obtain ⟨s12, o6⟩ := s
  obtain ⟨v6, gt⟩ := g
  simp only [qM9] at hr
  rcases pcA (s12 < s11) with h1 | h1
  simp only [h1, if_true] at hr
  obtain ⟨x1, h2, hr⟩ := bsome hr
  rcases pcA (x1 < 0) with h3 | h3
  simp only [h3, if_true] at hr
  obtain ⟨x2, h4, hr⟩ := bsome hr
  obtain ⟨z3, h4k⟩ := qmG9 (g1 := g1) (g2 := g2) (g3 := (g3 ++ (.row false v6 1 (rowP intD o6) :: gt))) h4
  try simp only [go_sem, Nat.reduceAdd, la1, la2, la3, la4, la5, la6] at h4k
  rcases pcA ((w64 (512 - (o6.length : Int))) < (x2.length : Int)) with h5 | h5
  simp only [h5, if_true] at hr
  obtain rfl := oiA hr
  refine ⟨(.ret, ⟨[(0, .d (.rd (s0.map intD))), (1, .fn 64 [.ptr (g1.length + g2.length + 1) 0 0 0]), (4, .d (.rd (([] : List Int).map intD))), (5, PI 2), (6, .ref (g1.length + g2.length + g3.length + 2) v6 0 o6.length), (8, PI x1), (9, .d (.rd (x2.map intD))), (10, .d (.rd (s10.map intD))), (11, PI s11), (12, PI s12)], (g1 ++ (.map (mapP keyI qb9 m1_0_0) :: (g2 ++ (.row false 0 1 [[.mp g1.length]] :: (g3 ++ (.row false v6 1 (rowP intD o6) :: (gt ++ z3)))))))⟩), ?_, nofun, rfl, (.row false v6 1 (rowP intD o6) :: (gt ++ z3)), rfl, rfl⟩
  rotate_left
  simp only [h5, if_false] at hr
  obtain ⟨h6, hr⟩ := gsome hr
  obtain rfl := oiA hr
  refine ⟨((v6 + 1), (gt ++ z3)), ?_⟩
  rotate_left
  simp only [h3, if_false] at hr
  rcases pcA ((w64 (512 - (o6.length : Int))) < 1) with h7 | h7
  simp only [h7, if_true] at hr
  obtain rfl := oiA hr
  refine ⟨(.ret, ⟨[(0, .d (.rd (s0.map intD))), (1, .fn 64 [.ptr (g1.length + g2.length + 1) 0 0 0]), (4, .d (.rd (([] : List Int).map intD))), (5, PI 2), (6, .ref (g1.length + g2.length + g3.length + 2) v6 0 o6.length), (8, PI x1), (9, .d (.rd (([x1] : List Int).map intD))), (10, .d (.rd (s10.map intD))), (11, PI s11), (12, PI s12)], (g1 ++ (.map (mapP keyI qb9 m1_0_0) :: (g2 ++ (.row false 0 1 [[.mp g1.length]] :: (g3 ++ (.row false v6 1 (rowP intD o6) :: gt))))))⟩), ?_, nofun, rfl, (.row false v6 1 (rowP intD o6) :: gt), rfl, rfl⟩
  rotate_left
  simp only [h7, if_false] at hr
  obtain ⟨h8, hr⟩ := gsome hr
  obtain rfl := oiA hr
  refine ⟨((v6 + 1), gt), ?_⟩
  rotate_left
  simp only [h1, if_false] at hr
  obtain rfl := oiA hr
  refine ⟨(.exit 0, ⟨[(0, .d (.rd (s0.map intD))), (1, .fn 64 [.ptr (g1.length + g2.length + 1) 0 0 0]), (4, .d (.rd (s4.map intD))), (5, PI 0), (6, .ref (g1.length + g2.length + g3.length + 2) v6 0 o6.length), (10, .d (.rd (s10.map intD))), (11, PI s11), (12, PI s12)], (g1 ++ (.map (mapP keyI qb9 m1_0_0) :: (g2 ++ (.row false 0 1 [[.mp g1.length]] :: (g3 ++ (.row false v6 1 (rowP intD o6) :: gt))))))⟩), ?_, nofun, v6, gt, rfl⟩
  rotate_left
  all_goals (simp +decide only [go_sem, Int.reduceToNat, Nat.reduceAdd, Nat.reduceLT, Nat.reduceMul, Nat.reducePow, reduceCtorEq, qY9, b63_0, *])
theorem qhc9 {s0 : List Int} {s4 : List Int} {s10 : List Int} {s11 : Int} {m1_0_0 : List (Int × Bind)} {g1 : AHeap} {g2 : AHeap} {g3 : AHeap} {s : Int × (List Int)} {g : Nat × AHeap} {x} (h : wh (qM9 s0 s4 s10 s11 m1_0_0) s = some x) : ∃ q, qp9 (semA C (Lim C) 268975987 b63_0) (qY9 s0 s4 s10 s11 m1_0_0 g1 g2 g3 s g) = some q ∧ qcj9 s0 s4 s10 s11 m1_0_0 g1 g2 g3 x q := qcx9 (qhd9 s0 s4 s10 s11 m1_0_0 g1 g2 g3) h
theorem qhr9 {s0 : List Int} {m1_0_0 : List (Int × Bind)} {g1 : AHeap} {g2 : AHeap} {g3 : AHeap} {r : (List Int) × Int} (hr : qbr9 s0 m1_0_0 = some r) : ∃ hz : AHeap, Lim C 63 [.d (.rd (s0.map intD)), .fn 64 [.ptr (g1.length + g2.length + 1) 0 0 0]] (g1 ++ (.map (mapP keyI qb9 m1_0_0) :: (g2 ++ (.row false 0 1 [[.mp g1.length]] :: g3)))) = some (resOf [.d (.rd (r.1.map intD)), PI r.2], (g1 ++ (.map (mapP keyI qb9 m1_0_0) :: (g2 ++ (.row false 0 1 [[.mp g1.length]] :: (g3 ++ hz)))))) := by
  simp only [qbr9] at hr
  obtain ⟨x4, h1, hr⟩ := bsome hr
  obtain ⟨q1, h1L, h1X⟩ := qhc9 (g1 := g1) (g2 := g2) (g3 := g3) (g := (0, [])) h1
  rcases x4 with x5 | ⟨x6, x7⟩
  simp only [qcj9, qY9] at h1X h1L
  obtain ⟨e1, st1⟩ := q1
  obtain ⟨rfl, h1R⟩ := h1X
  obtain ⟨env1, hp1⟩ := st1
  obtain ⟨y8, h1v, h1h⟩ := h1R
  replace h1h : hp1 = _ := h1h
  subst h1h
  try simp only [go_sem, Nat.reduceAdd, la1, la2, la3, la4, la5, la6] at h1L
  obtain rfl := oiA hr
  refine ⟨y8, Lim_A is63 (nbA rfl) (e := .ret) (env := env1) ?_ (.inr rfl) h1v⟩
  rotate_left
  simp only [qcj9, qY9] at h1X h1L
  obtain ⟨z8, z9, rfl⟩ := h1X
  try simp only [go_sem, Nat.reduceAdd, la1, la2, la3, la4, la5, la6] at h1L
  obtain rfl := oiA hr
  refine ⟨(.row true z8 1 (rowP intD x7) :: z9), Lim_A is63 (nbA rfl) (e := .ret) (env := [(0, .d (.rd (s0.map intD))), (1, .fn 64 [.ptr (g1.length + g2.length + 1) 0 0 0]), (4, .d (.rd (x7.map intD))), (5, PI 0), (6, .ref (g1.length + g2.length + g3.length + 2) z8 0 x7.length), (10, .d (.rd (s0.map intD))), (11, PI (s0.length : Int)), (12, PI x6)]) (h' := (g1 ++ (.map (mapP keyI qb9 m1_0_0) :: (g2 ++ (.row false 0 1 [[.mp g1.length]] :: (g3 ++ (.row true z8 1 (rowP intD x7) :: z9))))))) (vs := [.d (.rd (x7.map intD)), PI 0]) ?_ (.inr rfl) rfl⟩
  rotate_left
  all_goals (simp +decide only [go_sem, Int.reduceToNat, Nat.reduceAdd, Nat.reduceLT, Nat.reduceMul, Nat.reducePow, reduceCtorEq, qg9, c63, *])
theorem qhf9 {s0 : List Int} {m1_0_0 : List (Int × Bind)} {g1 : AHeap} {g2 : AHeap} {g3 : AHeap} {r : (List Int) × Int} (hr : qbr9 s0 m1_0_0 = some r) : ∃ hz : AHeap, callP C (Lim C) 63 [.d (.rd (s0.map intD)), .fn 64 [.ptr (g1.length + g2.length + 1) 0 0 0]] (g1 ++ (.map (mapP keyI qb9 m1_0_0) :: (g2 ++ (.row false 0 1 [[.mp g1.length]] :: g3)))) = some (resOf [.d (.rd (r.1.map intD)), PI r.2], (g1 ++ (.map (mapP keyI qb9 m1_0_0) :: (g2 ++ (.row false 0 1 [[.mp g1.length]] :: (g3 ++ hz)))))) := by
  obtain ⟨hz, h1⟩ := qhr9 hr (g1 := g1) (g2 := g2) (g3 := g3)
  exact ⟨hz, qZ9 rfl rfl rfl h1⟩
def b29_0 : ACode := .seq (.reg [] [] [.K 31 (.bin .lss (.tmp 30) (.tmp 29))]) (.seq (.cond (.tmp 31) (some 31) (.skip) (.exit 0)) (.seq (.block 1 2147487744 (.seq (.reg [] [] [.T 32 (.ix 2 (.tmp 28) (.tmp 30)), .T 33 (.load (some 2) (.tmp 32)), .K 12 (.alloc [.d (.v (.int .i64 0)), .im true []] 2), ⟨none, .store 2 (.tmp 12) (.tmp 33), none, false, false⟩]) (.reg [] [] [.T 34 (.load none (.tmp 10)), .T 35 (.fa 0 (.tmp 12)), .T 36 (.load none (.tmp 35)), .T 37 (.bin .sub (cI (-1)) (.tmp 36)), .T 38 (.load (some 2) (.tmp 12)), ⟨none, .mput (Go.TypeDesc.int .i64) (.tmp 34) (.tmp 37) (.tmp 38), none, false, false⟩]))) (.reg [] [] [.T 39 (.bin .add (.tmp 30) (cI 1)), .N 30 39])))
def c29 : ACode := .seq (.reg [] [(6, 0)] [.K 6 (.mv (.const (.slice none 0 0))), .K 7 (.mv (cI 0))]) (.seq (.seq (.reg [] [] [.M 13 0, .M 14 1, .T 15 (.call 61 [.tmp 13, .tmp 14]), .N 8 15]) (.seq (.reg [] [] [.M 16 8, .K 17 (.bin .neq (.tmp 16) (cI 0))]) (.cond (.tmp 17) (some 17) (.seq (.reg [] [(6, 0)] [.M 18 8, .K 6 (.mv (.const (.slice none 0 0))), .N 7 18]) (.ret)) (.skip)))) (.seq (.seq (.reg [] [] [.M 19 0, .M 20 2, .T 21 (.call 62 [.tmp 19, .tmp 20]), .N 9 21]) (.seq (.reg [] [] [.M 22 9, .K 23 (.bin .neq (.tmp 22) (cI 0))]) (.cond (.tmp 23) (some 23) (.seq (.reg [] [(6, 0)] [.M 24 9, .K 6 (.mv (.const (.slice none 0 0))), .N 7 24]) (.ret)) (.skip)))) (.seq (.reg [] [] [.M 25 1, .T 26 (.len (.tmp 25)), .T 27 (.mkMapN (.tmp 26)), .K 10 (.alloc [.d (.v (.map none))] 1), ⟨none, .store 1 (.tmp 10) (.tmp 27), none, false, false⟩]) (.seq (.seq (.reg [] [] [.N 28 1, .K 29 (.len (.tmp 28)), .K 30 (.mv (cI 0))]) (.block 0 2147487744 (.loop b29_0))) (.seq (.reg [] [] [.M 40 2, .T 41 (.mkF 64 [.tmp 10]), .T 42 (.call 63 [.tmp 40, .tmp 41]), .T 43 (.ext (.tmp 42) 0), .T 44 (.ext (.tmp 42) 1), .N 6 43, .N 7 44]) (.ret))))))
theorem is29 : IsF C 29 45 4035057607 c29 [.tmp 6, .tmp 7] := ⟨⟨Tryd.f29, _, C_P ▸ Tryd.func29, rfl, rfl, rfl, by kernel_rfl, rfl⟩⟩
def qez9 (s0 : List Symbol) (s1 : List Bind) (s2 : List Int) (s6 : List Int) (s8 : Int) (s9 : Int) (s28 : List Bind) (s29 : Int) : Int × (List (Int × Bind)) → AHeap → St := fun (s30, m10_0) gt => ⟨[(0, .d (.rd (s0.map qa9))), (1, .d (.rd (s1.map qb9))), (2, .d (.rd (s2.map intD))), (6, .d (.rd (s6.map intD))), (7, PI 0), (8, PI s8), (9, PI s9), (10, .ptr 1 0 0 0), (28, .d (.rd (s28.map qb9))), (29, PI s29), (30, PI s30)], (.map (mapP keyI qb9 m10_0) :: (.row false 0 1 [[.mp 0]] :: gt))⟩
def qhE9 (s0 : List Symbol) (s1 : List Bind) (s2 : List Int) (s6 : List Int) (s8 : Int) (s9 : Int) (s28 : List Bind) (s29 : Int) : (Int × (List (Int × Bind))) → AExit × St → Prop := fun (s30, m10_0) q => ∃ h1 : AHeap, q = (.exit 0, ⟨[(0, .d (.rd (s0.map qa9))), (1, .d (.rd (s1.map qb9))), (2, .d (.rd (s2.map intD))), (6, .d (.rd (s6.map intD))), (7, PI 0), (8, PI s8), (9, PI s9), (10, .ptr 1 0 0 0), (28, .d (.rd (s28.map qb9))), (29, PI s29), (30, PI s30)], (.map (mapP keyI qb9 m10_0) :: (.row false 0 1 [[.mp 0]] :: h1))⟩)
theorem qnU9 (s0 : List Symbol) (s1 : List Bind) (s2 : List Int) (s6 : List Int) (s8 : Int) (s9 : Int) (s28 : List Bind) (s29 : Int) : ∀ (s : Int × (List (Int × Bind))) (g : AHeap) r, qdg9 s0 s1 s2 s6 s8 s9 s28 s29 s = some r → Sum.elim (fun s' => ∃ g', semA C (Lim C) 4035057607 b29_0 (qez9 s0 s1 s2 s6 s8 s9 s28 s29 s g) = some (.normal, qez9 s0 s1 s2 s6 s8 s9 s28 s29 s' g')) (fun x => ∃ q, semA C (Lim C) 4035057607 b29_0 (qez9 s0 s1 s2 s6 s8 s9 s28 s29 s g) = some q ∧ q.1 ≠ .normal ∧ qhE9 s0 s1 s2 s6 s8 s9 s28 s29 x q) r := by
  intro s g r hr
  obtain ⟨s30, m10_0⟩ := s
  have ⟨gt, hg0⟩ : ∃ y, y = g := ⟨_, rfl⟩
  subst hg0
  simp only [qdg9] at hr
  rcases pcA (s30 < s29) with h1 | h1
  simp only [h1, if_true] at hr
  obtain ⟨x3, h2, hr⟩ := bsome hr
  obtain rfl := oiA hr
  refine ⟨(gt ++ (.row false 0 2 [[PI x3.Var, .d (.rd (x3.T.map intD))]] :: [])), ?_⟩
  rotate_left
  simp only [h1, if_false] at hr
  obtain rfl := oiA hr
  refine ⟨(.exit 0, ⟨[(0, .d (.rd (s0.map qa9))), (1, .d (.rd (s1.map qb9))), (2, .d (.rd (s2.map intD))), (6, .d (.rd (s6.map intD))), (7, PI 0), (8, PI s8), (9, PI s9), (10, .ptr 1 0 0 0), (28, .d (.rd (s28.map qb9))), (29, PI s29), (30, PI s30)], (.map (mapP keyI qb9 m10_0) :: (.row false 0 1 [[.mp 0]] :: gt))⟩), ?_, nofun, gt, rfl⟩
  rotate_left
  all_goals (simp +decide only [go_sem, Int.reduceToNat, Nat.reduceAdd, Nat.reduceLT, Nat.reduceMul, Nat.reducePow, reduceCtorEq, qez9, b29_0, *])
theorem qoi9 {s0 : List Symbol} {s1 : List Bind} {s2 : List Int} {s6 : List Int} {s8 : Int} {s9 : Int} {s28 : List Bind} {s29 : Int} {s : Int × (List (Int × Bind))} {g : AHeap} {x} (h : wh (qdg9 s0 s1 s2 s6 s8 s9 s28 s29) s = some x) : ∃ q, qp9 (semA C (Lim C) 4035057607 b29_0) (qez9 s0 s1 s2 s6 s8 s9 s28 s29 s g) = some q ∧ qhE9 s0 s1 s2 s6 s8 s9 s28 s29 x q := qcx9 (qnU9 s0 s1 s2 s6 s8 s9 s28 s29) h
theorem qps9 {a0 : List Symbol} {a1 : List Bind} {a2 : List Int} {r : (List Int) × Int} (hr : qeX9 a0 a1 a2 = some r) : ∃ p hp, Lim C 29 [.d (.rd (a0.map qa9)), .d (.rd (a1.map qb9)), .d (.rd (a2.map intD))] [] = some (p, hp) ∧ rsT hp p = some (.tp [.d (.rd (r.1.map intD)), PI r.2]) := by
  simp only [qeX9] at hr
  obtain ⟨x1, h1, hr⟩ := bsome hr
  have h1k := fun h => qpk9 (h := h) h1
  try simp only [go_sem] at h1k
  rcases pcA (x1 = 0) with h2 | h2
  simp only [h2, if_true] at hr
  obtain ⟨x2, h3, hr⟩ := bsome hr
  have h3k := fun h => qfi9 (h := h) h3
  try simp only [go_sem] at h3k
  rcases pcA (x2 = 0) with h4 | h4
  simp only [h4, if_true] at hr
  obtain ⟨x4, h5, hr⟩ := bsome hr
  obtain ⟨q5, h5L, h5X⟩ := qoi9 (g := []) h5
  obtain ⟨x5, x6⟩ := x4
  simp only [qhE9, qez9] at h5X h5L
  obtain ⟨z7, rfl⟩ := h5X
  try simp only [go_sem, Nat.reduceAdd, la1, la2, la3, la4, la5, la6] at h5L
  obtain ⟨x8, h6, hr⟩ := bsome hr
  obtain ⟨z9, h6k⟩ := qhf9 (g1 := []) (g2 := []) (g3 := z7) h6
  try simp only [go_sem, Nat.reduceAdd, la1, la2, la3, la4, la5, la6] at h6k
  obtain rfl := oiA hr
  refine qh9 is29 (nbA rfl) (q := (.ret, ⟨[(0, .d (.rd (a0.map qa9))), (1, .d (.rd (a1.map qb9))), (2, .d (.rd (a2.map intD))), (6, .d (.rd (x8.1.map intD))), (7, PI x8.2), (8, PI x1), (9, PI x2), (10, .ptr 1 0 0 0), (28, .d (.rd (a1.map qb9))), (29, PI (a1.length : Int)), (30, PI x5)], (.map (mapP keyI qb9 x6) :: (.row false 0 1 [[.mp 0]] :: (z7 ++ z9)))⟩)) ?_ (.inr rfl) ⟨[.d (.rd (x8.1.map intD)), PI x8.2], rfl, ?_⟩
  rotate_left 2
  simp only [h4, if_false] at hr
  obtain rfl := oiA hr
  refine qh9 is29 (nbA rfl) (q := (.ret, ⟨[(0, .d (.rd (a0.map qa9))), (1, .d (.rd (a1.map qb9))), (2, .d (.rd (a2.map intD))), (6, .d (.rd (([] : List Int).map intD))), (7, PI x2), (8, PI x1), (9, PI x2)], []⟩)) ?_ (.inr rfl) ⟨[.d (.rd (([] : List Int).map intD)), PI x2], rfl, ?_⟩
  rotate_left 2
  simp only [h2, if_false] at hr
  obtain rfl := oiA hr
  refine qh9 is29 (nbA rfl) (q := (.ret, ⟨[(0, .d (.rd (a0.map qa9))), (1, .d (.rd (a1.map qb9))), (2, .d (.rd (a2.map intD))), (6, .d (.rd (([] : List Int).map intD))), (7, PI x1), (8, PI x1)], []⟩)) ?_ (.inr rfl) ⟨[.d (.rd (([] : List Int).map intD)), PI x1], rfl, ?_⟩
  rotate_left 2
  all_goals (simp +decide only [go_sem, Int.reduceToNat, Nat.reduceAdd, Nat.reduceLT, Nat.reduceMul, Nat.reducePow, reduceCtorEq, qg9, c29, *])
theorem qkL9 {a0 : List Symbol} {a1 : List Bind} {a2 : List Int} {r : (List Int) × Int} (hr : qeX9 a0 a1 a2 = some r) {h : AHeap} : callP C (Lim C) 29 [.d (.rd (a0.map qa9)), .d (.rd (a1.map qb9)), .d (.rd (a2.map intD))] h = some (.tp [.d (.rd (r.1.map intD)), PI r.2], h) := qbk9 (ds := [.rd (a0.map qa9), .rd (a1.map qb9), .rd (a2.map intD)]) rfl rfl rfl (qps9 hr) h
def b7_1 : ACode := .seq (.seq (.reg [] [] [.M 55 14, .M 56 11, .T 57 (.len (.tmp 56)), .K 58 (.bin .lss (.tmp 55) (.tmp 57))]) (.cond (.tmp 58) (some 58) (.skip) (.exit 2))) (.seq (.block 3 288230376151711744 (.reg [] [] [.M 61 13, .M 62 61, .MG 63 62 false 11, .MG 64 62 false 14, ⟨some (65, false), .ix 2 (.tmp 63) (.tmp 64), some (62, false), true, false⟩, ⟨some (66, false), .load (some 2) (.tmp 65), some (62, false), true, false⟩, .MG 67 62 false 8, .MG 68 62 false 12, ⟨some (69, false), .ix 2 (.tmp 67) (.tmp 68), some (62, false), true, false⟩, ⟨some (70, false), .load (some 2) (.tmp 69), some (62, false), true, false⟩, .TG 71 62 false (.raw ({ dst := some 71, op := Go.Op.binOp Go.BinOp.eql 33 (.tmp 66) (.tmp 70) 33, type := 4, pos := "law.go:223", after := #[{ on := 5, ground := Go.Ground.data }, { on := 9, ground := Go.Ground.data }, { on := 1, ground := Go.Ground.guard }], guard := some (1, false) })), .T 72 (.pick (.tmp 62) (.const (.bool true)) (.tmp 71)), .N 13 72])) (.reg [] [] [.M 59 14, .T 60 (.bin .add (.tmp 59) (cI 1)), .N 14 60]))
def b7_0 : ACode := .seq (.seq (.reg [] [] [.M 41 12, .M 42 8, .T 43 (.len (.tmp 42)), .T 44 (.bin .lss (.tmp 41) (.tmp 43)), .M 45 44, .MG 46 45 true 8, .MG 47 45 true 12, .TG 48 45 true (.ix 2 (.tmp 46) (.tmp 47)), .TG 49 45 true (.fa 0 (.tmp 48)), .TG 50 45 true (.load none (.tmp 49)), .TG 51 45 true (.bin .eql (.tmp 50) (cI 0)), .K 52 (.pick (.tmp 45) (.tmp 51) (.const (.bool false)))]) (.cond (.tmp 52) (some 52) (.skip) (.exit 0))) (.seq (.block 1 83078017387176360044554892332752896 (.seq (.reg [] [] [.K 13 (.mv (.const (.bool false)))]) (.seq (.seq (.reg [] [] [.K 14 (.mv (cI 0))]) (.block 2 292733975779098624 (.loop b7_1))) (.seq (.seq (.reg [] [] [.M 73 13, .K 74 (.not (.tmp 73))]) (.cond (.tmp 74) (some 74) (.seq (.reg [] [] [.K 6 (.mv (.const (.bool false)))]) (.ret)) (.skip))) (.seq (.reg [] [] [⟨some (76, false), .load (some 2) (.tmp 3), none, true, false⟩, .M 77 1, .M 78 8, .M 79 12, ⟨some (80, false), .ix 2 (.tmp 78) (.tmp 79), none, true, false⟩, ⟨some (81, false), .load (some 2) (.tmp 80), none, true, false⟩, ⟨some (82, false), .call 18 [.tmp 76, .tmp 77, .tmp 81], none, true, false⟩, .M 75 82, .T 83 (.ext (.tmp 75) 0), .T 84 (.ext (.tmp 75) 1), .N 15 83, .N 16 84]) (.seq (.reg [] [] [⟨some (86, false), .load (some 2) (.tmp 3), none, true, false⟩, .M 87 9, .M 88 8, .M 89 12, ⟨some (90, false), .ix 2 (.tmp 88) (.tmp 89), none, true, false⟩, ⟨some (91, false), .load (some 2) (.tmp 90), none, true, false⟩, ⟨some (92, false), .call 18 [.tmp 86, .tmp 87, .tmp 91], none, true, false⟩, .M 85 92, .T 93 (.ext (.tmp 85) 0), .T 94 (.ext (.tmp 85) 1), .N 17 93, .N 18 94]) (.seq (.reg [] [] [.M 95 16, .T 96 (.bin .eql (.tmp 95) (cI 0)), .M 97 96, .MG 98 97 true 18, .TG 99 97 true (.bin .eql (.tmp 98) (cI 0)), .K 100 (.pick (.tmp 97) (.tmp 99) (.const (.bool false)))]) (.cond (.tmp 100) (some 100) (.seq (.reg [] [] [.T 102 (.fa 0 (.tmp 3)), .T 103 (.load none (.tmp 102)), .M 104 2, .M 105 15, .T 106 (.call 29 [.tmp 103, .tmp 104, .tmp 105]), .M 101 106, .T 107 (.ext (.tmp 101) 0), .T 108 (.ext (.tmp 101) 1), .N 19 107, .N 20 108]) (.seq (.reg [] [] [.M 109 20, .T 110 (.bin .neq (.tmp 109) (cI 0)), .M 111 110, .MG 112 111 false 17, .MG 113 111 false 19, .TG 114 111 false (.call 17 [.tmp 112, .tmp 113]), .TG 115 111 false (.not (.tmp 114)), .K 116 (.pick (.tmp 111) (.const (.bool true)) (.tmp 115))]) (.cond (.tmp 116) (some 116) (.seq (.reg [] [] [.K 6 (.mv (.const (.bool false)))]) (.ret)) (.skip)))) (.skip))))))))) (.reg [] [] [.M 53 12, .T 54 (.bin .add (.tmp 53) (cI 1)), .N 12 54]))
def c7 : ACode := .seq (.reg [] [] [.K 3 (.box (.tmp 0)), .K 6 (.mv (.const (.bool false)))]) (.seq (.reg [] [] [.T 21 (.call 13 []), .N 7 21]) (.seq (.seq (.reg [] [] [.M 22 7, .K 23 (.not (.tmp 22))]) (.cond (.tmp 23) (some 23) (.seq (.reg [] [] [.K 6 (.mv (.const (.bool false)))]) (.ret)) (.skip))) (.seq (.reg [] [] [.T 24 (.load (some 2) (.tmp 3)), .M 25 1, .T 26 (.call 14 [.tmp 24, .tmp 25]), .N 8 26]) (.seq (.reg [] [] [.T 28 (.fa 0 (.tmp 3)), .T 29 (.load none (.tmp 28)), .M 30 2, .M 31 1, .T 32 (.call 29 [.tmp 29, .tmp 30, .tmp 31]), .M 27 32, .T 33 (.ext (.tmp 27) 0), .T 34 (.ext (.tmp 27) 1), .N 9 33, .N 10 34]) (.seq (.seq (.reg [] [] [.M 35 10, .K 36 (.bin .neq (.tmp 35) (cI 0))]) (.cond (.tmp 36) (some 36) (.seq (.reg [] [] [.M 37 7, .N 6 37]) (.ret)) (.skip))) (.seq (.reg [] [] [.T 38 (.load (some 2) (.tmp 3)), .M 39 9, .T 40 (.call 14 [.tmp 38, .tmp 39]), .N 11 40]) (.seq (.seq (.reg [] [] [.K 12 (.mv (cI 0))]) (.block 0 83078017387176360044554892332752896 (.loop b7_0))) (.seq (.reg [] [] [.M 117 7, .N 6 117]) (.ret)))))))))
theorem is7 : IsF C 7 118 83078017387176360044554961060626383 c7 [.tmp 6] := ⟨⟨Tryd.f7, _, C_P ▸ Tryd.func7, rfl, rfl, rfl, by kernel_rfl, rfl⟩⟩
def qdC9 (s0 : System) (s1 : List Int) (s2 : List Bind) (s7 : Bool) (s8 : List Redex) (s9 : List Int) (s10 : Int) (s11 : List Redex) (s12 : Int) (b3_0 : List Symbol) (b3_1 : List Rule) : Bool × Int → Unit → St := fun (s13, s14) _ => ⟨[(0, .d (.ag (qf9 s0))), (1, .d (.rd (s1.map intD))), (2, .d (.rd (s2.map qb9))), (3, .ptr 0 0 0 0), (6, PB false), (7, PB s7), (8, .d (.rd (s8.map qe9))), (9, .d (.rd (s9.map intD))), (10, PI s10), (11, .d (.rd (s11.map qe9))), (12, PI s12), (13, PB s13), (14, PI s14)], (.row false 0 2 [[.d (.rd (b3_0.map qa9)), .d (.rd (b3_1.map qd9))]] :: [])⟩
def qgM9 (s0 : System) (s1 : List Int) (s2 : List Bind) (s7 : Bool) (s8 : List Redex) (s9 : List Int) (s10 : Int) (s11 : List Redex) (s12 : Int) (b3_0 : List Symbol) (b3_1 : List Rule) : Bool → AExit × St → Prop := fun s13 q => ∃ d14 : PV, q = (.exit 2, ⟨[(0, .d (.ag (qf9 s0))), (1, .d (.rd (s1.map intD))), (2, .d (.rd (s2.map qb9))), (3, .ptr 0 0 0 0), (6, PB false), (7, PB s7), (8, .d (.rd (s8.map qe9))), (9, .d (.rd (s9.map intD))), (10, PI s10), (11, .d (.rd (s11.map qe9))), (12, PI s12), (13, PB s13), (14, d14)], (.row false 0 2 [[.d (.rd (b3_0.map qa9)), .d (.rd (b3_1.map qd9))]] :: [])⟩)
theorem qmU9 (s0 : System) (s1 : List Int) (s2 : List Bind) (s7 : Bool) (s8 : List Redex) (s9 : List Int) (s10 : Int) (s11 : List Redex) (s12 : Int) (b3_0 : List Symbol) (b3_1 : List Rule) : ∀ (s : Bool × Int) (g : Unit) r, qcD9 s0 s1 s2 s7 s8 s9 s10 s11 s12 b3_0 b3_1 s = some r → Sum.elim (fun s' => ∃ g', semA C (Lim C) 83078017387176360044554961060626383 b7_1 (qdC9 s0 s1 s2 s7 s8 s9 s10 s11 s12 b3_0 b3_1 s g) = some (.normal, qdC9 s0 s1 s2 s7 s8 s9 s10 s11 s12 b3_0 b3_1 s' g')) (fun x => ∃ q, semA C (Lim C) 83078017387176360044554961060626383 b7_1 (qdC9 s0 s1 s2 s7 s8 s9 s10 s11 s12 b3_0 b3_1 s g) = some q ∧ q.1 ≠ .normal ∧ qgM9 s0 s1 s2 s7 s8 s9 s10 s11 s12 b3_0 b3_1 x q) r := by
  intro s g r hr
  obtain ⟨s13, s14⟩ := s
  simp only [qcD9] at hr
  rcases pcA (s14 < (s11.length : Int)) with h1 | h1
  simp only [h1, if_true] at hr
  cases h2 : s13
  simp only [h2, Bool.false_eq_true, if_false] at hr
  obtain ⟨x6, h3, hr⟩ := bsome hr
  obtain ⟨x7, h4, hr⟩ := bsome hr
  obtain rfl := oiA hr
  refine ⟨(), ?_⟩
  rotate_left
  simp only [h2, if_true] at hr
  obtain rfl := oiA hr
  refine ⟨(), ?_⟩
  rotate_left
  simp only [h1, if_false] at hr
  obtain rfl := oiA hr
  refine ⟨(.exit 2, ⟨[(0, .d (.ag (qf9 s0))), (1, .d (.rd (s1.map intD))), (2, .d (.rd (s2.map qb9))), (3, .ptr 0 0 0 0), (6, PB false), (7, PB s7), (8, .d (.rd (s8.map qe9))), (9, .d (.rd (s9.map intD))), (10, PI s10), (11, .d (.rd (s11.map qe9))), (12, PI s12), (13, PB s13), (14, (PI s14))], (.row false 0 2 [[.d (.rd (b3_0.map qa9)), .d (.rd (b3_1.map qd9))]] :: [])⟩), ?_, nofun, PI s14, rfl⟩
  rotate_left
  all_goals (simp +decide only [go_sem, Int.reduceToNat, Nat.reduceAdd, Nat.reduceLT, Nat.reduceMul, Nat.reducePow, reduceCtorEq, qdC9, b7_1, *])
theorem qmO9 {s0 : System} {s1 : List Int} {s2 : List Bind} {s7 : Bool} {s8 : List Redex} {s9 : List Int} {s10 : Int} {s11 : List Redex} {s12 : Int} {b3_0 : List Symbol} {b3_1 : List Rule} {s : Bool × Int} {g : Unit} {x} (h : wh (qcD9 s0 s1 s2 s7 s8 s9 s10 s11 s12 b3_0 b3_1) s = some x) : ∃ q, qp9 (semA C (Lim C) 83078017387176360044554961060626383 b7_1) (qdC9 s0 s1 s2 s7 s8 s9 s10 s11 s12 b3_0 b3_1 s g) = some q ∧ qgM9 s0 s1 s2 s7 s8 s9 s10 s11 s12 b3_0 b3_1 x q := qcx9 (qmU9 s0 s1 s2 s7 s8 s9 s10 s11 s12 b3_0 b3_1) h
def qcZ9 (s0 : System) (s1 : List Int) (s2 : List Bind) (s7 : Bool) (s8 : List Redex) (s9 : List Int) (s10 : Int) (s11 : List Redex) (b3_0 : List Symbol) (b3_1 : List Rule) : Int → Unit → St := fun s12 _ => ⟨[(0, .d (.ag (qf9 s0))), (1, .d (.rd (s1.map intD))), (2, .d (.rd (s2.map qb9))), (3, .ptr 0 0 0 0), (6, PB false), (7, PB s7), (8, .d (.rd (s8.map qe9))), (9, .d (.rd (s9.map intD))), (10, PI s10), (11, .d (.rd (s11.map qe9))), (12, PI s12)], (.row false 0 2 [[.d (.rd (b3_0.map qa9)), .d (.rd (b3_1.map qd9))]] :: [])⟩
def qfA9 (s0 : System) (s1 : List Int) (s2 : List Bind) (s7 : Bool) (s8 : List Redex) (s9 : List Int) (s10 : Int) (s11 : List Redex) (b3_0 : List Symbol) (b3_1 : List Rule) : (Bool ⊕ Int) → AExit × St → Prop
  | .inl r, q => q.1 = .ret ∧ RetOK C [.tmp 6] q.2 (PB r)
  | .inr s12, q => q = (.exit 0, ⟨[(0, .d (.ag (qf9 s0))), (1, .d (.rd (s1.map intD))), (2, .d (.rd (s2.map qb9))), (3, .ptr 0 0 0 0), (6, PB false), (7, PB s7), (8, .d (.rd (s8.map qe9))), (9, .d (.rd (s9.map intD))), (10, PI s10), (11, .d (.rd (s11.map qe9))), (12, PI s12)], (.row false 0 2 [[.d (.rd (b3_0.map qa9)), .d (.rd (b3_1.map qd9))]] :: [])⟩)
theorem qmS9 (s0 : System) (s1 : List Int) (s2 : List Bind) (s7 : Bool) (s8 : List Redex) (s9 : List Int) (s10 : Int) (s11 : List Redex) (b3_0 : List Symbol) (b3_1 : List Rule) : ∀ (s : Int) (g : Unit) r, qbM9 s0 s1 s2 s7 s8 s9 s10 s11 b3_0 b3_1 s = some r → Sum.elim (fun s' => ∃ g', semA C (Lim C) 83078017387176360044554961060626383 b7_0 (qcZ9 s0 s1 s2 s7 s8 s9 s10 s11 b3_0 b3_1 s g) = some (.normal, qcZ9 s0 s1 s2 s7 s8 s9 s10 s11 b3_0 b3_1 s' g')) (fun x => ∃ q, semA C (Lim C) 83078017387176360044554961060626383 b7_0 (qcZ9 s0 s1 s2 s7 s8 s9 s10 s11 b3_0 b3_1 s g) = some q ∧ q.1 ≠ .normal ∧ qfA9 s0 s1 s2 s7 s8 s9 s10 s11 b3_0 b3_1 x q) r := by
  intro s g r hr
  have ⟨s12, hs0⟩ : ∃ y, y = s := ⟨_, rfl⟩
  subst hs0
  simp only [qbM9] at hr
  rcases pcA (s12 < (s8.length : Int)) with h1 | h1
  simp only [h1, if_true] at hr
  obtain ⟨x5, h2, hr⟩ := bsome hr
  rcases pcA (x5.At = 0) with h3 | h3
  simp only [h3, if_true] at hr
  obtain ⟨x8, h4, hr⟩ := bsome hr
  obtain ⟨q4, h4L, h4X⟩ := qmO9 (g := ()) h4
  have ⟨x9, hq4⟩ : ∃ y, y = x8 := ⟨_, rfl⟩
  subst hq4
  simp only [qgM9, qdC9] at h4X h4L
  obtain ⟨z10, rfl⟩ := h4X
  try simp only [go_sem, Nat.reduceAdd, la1, la2, la3, la4, la5, la6] at h4L
  cases h5 : x9
  simp only [h5, Bool.false_eq_true, if_false] at hr
  obtain rfl := oiA hr
  refine ⟨(.ret, ⟨[(0, .d (.ag (qf9 s0))), (1, .d (.rd (s1.map intD))), (2, .d (.rd (s2.map qb9))), (3, .ptr 0 0 0 0), (6, PB false), (7, PB s7), (8, .d (.rd (s8.map qe9))), (9, .d (.rd (s9.map intD))), (10, PI s10), (11, .d (.rd (s11.map qe9))), (12, PI s12), (13, PB x9)], (.row false 0 2 [[.d (.rd (b3_0.map qa9)), .d (.rd (b3_1.map qd9))]] :: [])⟩), ?_, nofun, rfl, [PB false], rfl, ?_⟩
  rotate_left 2
  simp only [h5, if_true] at hr
  obtain ⟨x11, h6, hr⟩ := bsome hr
  have h6k := fun h => qgW9 (h := h) (args := [.ag [.d (.rd (b3_0.map qa9)), .d (.rd (b3_1.map qd9))], .d (.rd (s1.map intD)), .ag [PI x5.At, PI x5.Rule]]) h6 rfl
  try simp only [go_sem] at h6k
  obtain ⟨x12, h7, hr⟩ := bsome hr
  have h7k := fun h => qgW9 (h := h) (args := [.ag [.d (.rd (b3_0.map qa9)), .d (.rd (b3_1.map qd9))], .d (.rd (s9.map intD)), .ag [PI x5.At, PI x5.Rule]]) h7 rfl
  try simp only [go_sem] at h7k
  rcases pcA (x11.2 = 0) with h8 | h8
  simp only [h8, if_true] at hr
  rcases pcA (x12.2 = 0) with h9 | h9
  simp only [h9, if_true] at hr
  obtain ⟨x13, h10, hr⟩ := bsome hr
  have h10k := fun h => qkL9 (h := h) h10
  try simp only [go_sem] at h10k
  rcases pcA (x13.2 = 0) with h11 | h11
  simp only [h11, if_true] at hr
  obtain ⟨x14, h12, hr⟩ := bsome hr
  have h12k := fun h => qpb9 (h := h) h12
  try simp only [go_sem] at h12k
  cases h13 : x14
  simp only [h13, Bool.false_eq_true, if_false] at hr
  obtain rfl := oiA hr
  refine ⟨(.ret, ⟨[(0, .d (.ag (qf9 s0))), (1, .d (.rd (s1.map intD))), (2, .d (.rd (s2.map qb9))), (3, .ptr 0 0 0 0), (6, PB false), (7, PB s7), (8, .d (.rd (s8.map qe9))), (9, .d (.rd (s9.map intD))), (10, PI s10), (11, .d (.rd (s11.map qe9))), (12, PI s12), (13, PB x9), (15, .d (.rd (x11.1.map intD))), (16, PI x11.2), (17, .d (.rd (x12.1.map intD))), (18, PI x12.2), (19, .d (.rd (x13.1.map intD))), (20, PI x13.2)], (.row false 0 2 [[.d (.rd (b3_0.map qa9)), .d (.rd (b3_1.map qd9))]] :: [])⟩), ?_, nofun, rfl, [PB false], rfl, ?_⟩
  rotate_left 2
  simp only [h13, if_true] at hr
  obtain rfl := oiA hr
  refine ⟨(), ?_⟩
  rotate_left
  simp only [h11, if_false] at hr
  obtain rfl := oiA hr
  refine ⟨(.ret, ⟨[(0, .d (.ag (qf9 s0))), (1, .d (.rd (s1.map intD))), (2, .d (.rd (s2.map qb9))), (3, .ptr 0 0 0 0), (6, PB false), (7, PB s7), (8, .d (.rd (s8.map qe9))), (9, .d (.rd (s9.map intD))), (10, PI s10), (11, .d (.rd (s11.map qe9))), (12, PI s12), (13, PB x9), (15, .d (.rd (x11.1.map intD))), (16, PI x11.2), (17, .d (.rd (x12.1.map intD))), (18, PI x12.2), (19, .d (.rd (x13.1.map intD))), (20, PI x13.2)], (.row false 0 2 [[.d (.rd (b3_0.map qa9)), .d (.rd (b3_1.map qd9))]] :: [])⟩), ?_, nofun, rfl, [PB false], rfl, ?_⟩
  rotate_left 2
  simp only [h9, if_false] at hr
  obtain rfl := oiA hr
  refine ⟨(), ?_⟩
  rotate_left
  simp only [h8, if_false] at hr
  obtain rfl := oiA hr
  refine ⟨(), ?_⟩
  rotate_left
  simp only [h3, if_false] at hr
  obtain rfl := oiA hr
  refine ⟨(.exit 0, ⟨[(0, .d (.ag (qf9 s0))), (1, .d (.rd (s1.map intD))), (2, .d (.rd (s2.map qb9))), (3, .ptr 0 0 0 0), (6, PB false), (7, PB s7), (8, .d (.rd (s8.map qe9))), (9, .d (.rd (s9.map intD))), (10, PI s10), (11, .d (.rd (s11.map qe9))), (12, PI s12)], (.row false 0 2 [[.d (.rd (b3_0.map qa9)), .d (.rd (b3_1.map qd9))]] :: [])⟩), ?_, nofun, rfl⟩
  rotate_left
  simp only [h1, if_false] at hr
  obtain rfl := oiA hr
  refine ⟨(.exit 0, ⟨[(0, .d (.ag (qf9 s0))), (1, .d (.rd (s1.map intD))), (2, .d (.rd (s2.map qb9))), (3, .ptr 0 0 0 0), (6, PB false), (7, PB s7), (8, .d (.rd (s8.map qe9))), (9, .d (.rd (s9.map intD))), (10, PI s10), (11, .d (.rd (s11.map qe9))), (12, PI s12)], (.row false 0 2 [[.d (.rd (b3_0.map qa9)), .d (.rd (b3_1.map qd9))]] :: [])⟩), ?_, nofun, rfl⟩
  rotate_left
  all_goals (simp +decide only [go_sem, Int.reduceToNat, Nat.reduceAdd, Nat.reduceLT, Nat.reduceMul, Nat.reducePow, reduceCtorEq, qcZ9, b7_0, *])
theorem qmQ9 {s0 : System} {s1 : List Int} {s2 : List Bind} {s7 : Bool} {s8 : List Redex} {s9 : List Int} {s10 : Int} {s11 : List Redex} {b3_0 : List Symbol} {b3_1 : List Rule} {s : Int} {g : Unit} {x} (h : wh (qbM9 s0 s1 s2 s7 s8 s9 s10 s11 b3_0 b3_1) s = some x) : ∃ q, qp9 (semA C (Lim C) 83078017387176360044554961060626383 b7_0) (qcZ9 s0 s1 s2 s7 s8 s9 s10 s11 b3_0 b3_1 s g) = some q ∧ qfA9 s0 s1 s2 s7 s8 s9 s10 s11 b3_0 b3_1 x q := qcx9 (qmS9 s0 s1 s2 s7 s8 s9 s10 s11 b3_0 b3_1) h
theorem qnv9 {a0 : System} {a1 : List Int} {a2 : List Bind} {r : Bool} (hr : qeL9 a0 a1 a2 = some r) : ∃ p hp, Lim C 7 [.d (.ag (qf9 a0)), .d (.rd (a1.map intD)), .d (.rd (a2.map qb9))] [] = some (p, hp) ∧ rsT hp p = some (PB r) := by
  simp only [qeL9] at hr
  obtain ⟨x1, h1, hr⟩ := bsome hr
  have h1k := fun h => qre9 (h := h) h1
  try simp only [go_sem] at h1k
  cases h2 : x1
  simp only [h2, Bool.false_eq_true, if_false] at hr
  obtain rfl := oiA hr
  refine qh9 is7 (nbA rfl) (q := (.ret, ⟨[(0, .d (.ag (qf9 a0))), (1, .d (.rd (a1.map intD))), (2, .d (.rd (a2.map qb9))), (3, .ptr 0 0 0 0), (6, PB false), (7, PB x1)], (.row false 0 2 [[.d (.rd (a0.Sig.map qa9)), .d (.rd (a0.Rules.map qd9))]] :: [])⟩)) ?_ (.inr rfl) ⟨[PB false], rfl, ?_⟩
  rotate_left 2
  simp only [h2, if_true] at hr
  obtain ⟨x2, h3, hr⟩ := bsome hr
  have h3k := fun h => qkA9 (h := h) (args := [.ag [.d (.rd (a0.Sig.map qa9)), .d (.rd (a0.Rules.map qd9))], .d (.rd (a1.map intD))]) h3 rfl
  try simp only [go_sem] at h3k
  obtain ⟨x3, h4, hr⟩ := bsome hr
  have h4k := fun h => qkL9 (h := h) h4
  try simp only [go_sem] at h4k
  rcases pcA (x3.2 = 0) with h5 | h5
  simp only [h5, if_true] at hr
  obtain ⟨x4, h6, hr⟩ := bsome hr
  have h6k := fun h => qkA9 (h := h) (args := [.ag [.d (.rd (a0.Sig.map qa9)), .d (.rd (a0.Rules.map qd9))], .d (.rd (x3.1.map intD))]) h6 rfl
  try simp only [go_sem] at h6k
  obtain ⟨x15, h7, hr⟩ := bsome hr
  obtain ⟨q7, h7L, h7X⟩ := qmQ9 (g := ()) h7
  rcases x15 with x16 | x17
  simp only [qfA9, qcZ9] at h7X h7L
  obtain ⟨e7, st7⟩ := q7
  obtain ⟨rfl, h7R⟩ := h7X
  try simp only [go_sem, Nat.reduceAdd, la1, la2, la3, la4, la5, la6] at h7L
  obtain rfl := oiA hr
  refine qh9 is7 (nbA rfl) ?_ (.inr rfl) h7R
  rotate_left
  simp only [qfA9, qcZ9] at h7X h7L
  subst h7X
  try simp only [go_sem, Nat.reduceAdd, la1, la2, la3, la4, la5, la6] at h7L
  obtain rfl := oiA hr
  refine qh9 is7 (nbA rfl) (q := (.ret, ⟨[(0, .d (.ag (qf9 a0))), (1, .d (.rd (a1.map intD))), (2, .d (.rd (a2.map qb9))), (3, .ptr 0 0 0 0), (6, PB x1), (7, PB x1), (8, .d (.rd (x2.map qe9))), (9, .d (.rd (x3.1.map intD))), (10, PI x3.2), (11, .d (.rd (x4.map qe9))), (12, PI x17)], (.row false 0 2 [[.d (.rd (a0.Sig.map qa9)), .d (.rd (a0.Rules.map qd9))]] :: [])⟩)) ?_ (.inr rfl) ⟨[PB x1], rfl, ?_⟩
  rotate_left 2
  simp only [h5, if_false] at hr
  obtain rfl := oiA hr
  refine qh9 is7 (nbA rfl) (q := (.ret, ⟨[(0, .d (.ag (qf9 a0))), (1, .d (.rd (a1.map intD))), (2, .d (.rd (a2.map qb9))), (3, .ptr 0 0 0 0), (6, PB x1), (7, PB x1), (8, .d (.rd (x2.map qe9))), (9, .d (.rd (x3.1.map intD))), (10, PI x3.2)], (.row false 0 2 [[.d (.rd (a0.Sig.map qa9)), .d (.rd (a0.Rules.map qd9))]] :: [])⟩)) ?_ (.inr rfl) ⟨[PB x1], rfl, ?_⟩
  rotate_left 2
  all_goals (simp +decide only [go_sem, Int.reduceToNat, Nat.reduceAdd, Nat.reduceLT, Nat.reduceMul, Nat.reducePow, reduceCtorEq, qg9, c7, *])
end Ld

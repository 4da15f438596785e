import Derived.Test.YtfjgfcnhklopdaaDoorSYW2
set_option maxHeartbeats 4000000
set_option linter.unusedVariables false
set_option linter.unusedSimpArgs false
namespace Ld
open Go Go.Proofs Go.Abs
set_option maxRecDepth 8000
def b59_0 : ACode := .seq (.seq (.reg [] [] [.M 11 8, .T 12 (.load none (.tmp 1)), .T 13 (.load none (.tmp 6)), .T 14 (.ix 1 (.tmp 12) (.tmp 13)), .T 15 (.load none (.tmp 14)), .K 16 (.bin .lss (.tmp 11) (.tmp 15))]) (.cond (.tmp 16) (some 16) (.skip) (.exit 0))) (.seq (.block 1 8454144 (.seq (.reg [] [] [.T 21 (.load none (.tmp 2)), .M 22 8, .K 23 (.callV (.tmp 21) [.tmp 22])]) (.cond (.tmp 23) (some 23) (.seq (.reg [] [] [.K 7 (.mv (.const (.bool true)))]) (.ret)) (.skip)))) (.reg [] [] [.T 17 (.load none (.tmp 1)), .M 18 8, .T 19 (.ix 1 (.tmp 17) (.tmp 18)), .T 20 (.load none (.tmp 19)), .N 8 20]))
def c59 : ACode := .seq (.reg [] [] [.K 6 (.box (.tmp 0)), .K 7 (.mv (.const (.bool false)))]) (.seq (.seq (.reg [] [] [.T 9 (.load none (.tmp 6)), .T 10 (.bin .add (.tmp 9) (cI 1)), .N 8 10]) (.block 0 8454144 (.loop b59_0))) (.seq (.reg [] [] [⟨some (24, false), .load (some 2) (.tmp 3), none, true, false⟩, ⟨some (25, false), .load none (.tmp 4), none, true, false⟩, ⟨some (26, false), .load none (.tmp 6), none, true, false⟩, ⟨some (27, false), .load none (.tmp 1), none, true, false⟩, ⟨some (28, false), .load none (.tmp 6), none, true, false⟩, ⟨some (29, false), .ix 1 (.tmp 27) (.tmp 28), none, true, false⟩, ⟨some (30, false), .load none (.tmp 29), none, true, false⟩, ⟨some (31, false), .cut 1 (.tmp 25) (some (.tmp 26)) (some (.tmp 30)), none, true, false⟩, .T 32 (.mkF 60 [.tmp 6, .tmp 5]), .T 33 (.call 44 [.tmp 24, .tmp 31, .tmp 32]), .T 34 (.not (.tmp 33)), .N 7 34]) (.ret)))
theorem is59 : IsF C 59 35 8454655 c59 [.tmp 7] := ⟨⟨Tryd.f59, _, C_P ▸ Tryd.func59, rfl, rfl, rfl, by kernel_rfl, rfl⟩⟩
def qdy9 (s0 : Int) (b6_0 : Int) (g1 : AHeap) (g2 : AHeap) (g3 : AHeap) (g4 : AHeap) (g5 : AHeap) (g6 : AHeap) : Int × (List Symbol) × (List Rule) × (List Int) × (List Int) × Int × Int → AHeap → St := fun (s8, b2_0_2_0, b2_0_2_1, b2_0_3_0, b1_0, b2_0_4_0, b2_0_4_1) gt => ⟨[(0, PI s0), (1, .ptr (g1.length + g2.length + g3.length + 2) 0 0 0), (2, .ptr (g1.length + g2.length + g3.length + g4.length + g5.length + 4) 0 0 0), (3, .ptr g1.length 0 0 0), (4, .ptr (g1.length + g2.length + 1) 0 0 0), (5, .ptr (g1.length + g2.length + g3.length + g4.length + 3) 0 0 0), (6, .ptr (g1.length + g2.length + g3.length + g4.length + g5.length + g6.length + 5) 0 0 0), (7, PB false), (8, PI s8)], (g1 ++ (.row false 0 2 [[.d (.rd (b2_0_2_0.map qb9)), .d (.rd (b2_0_2_1.map qd9))]] :: (g2 ++ (.row false 0 1 [[.d (.rd (b2_0_3_0.map intD))]] :: (g3 ++ (.row false 0 1 [[.d (.rd (b1_0.map intD))]] :: (g4 ++ (.row false 0 2 [[PI b2_0_4_0, PI b2_0_4_1]] :: (g5 ++ (.row false 0 1 [[.fn 59 [.ptr (g1.length + g2.length + g3.length + 2) 0 0 0, .ptr (g1.length + g2.length + g3.length + g4.length + g5.length + 4) 0 0 0, .ptr g1.length 0 0 0, .ptr (g1.length + g2.length + 1) 0 0 0, .ptr (g1.length + g2.length + g3.length + g4.length + 3) 0 0 0]]] :: (g6 ++ (.row false 0 1 [[PI b6_0]] :: gt))))))))))))⟩
def qlv9 (s0 : Int) (b6_0 : Int) (g1 : AHeap) (g2 : AHeap) (g3 : AHeap) (g4 : AHeap) (g5 : AHeap) (g6 : AHeap) : ((Bool × (List Symbol) × (List Rule) × (List Int) × (List Int) × Int × Int) ⊕ (Int × (List Symbol) × (List Rule) × (List Int) × (List Int) × Int × Int)) → AExit × St → Prop
  | .inl r, q => XL C [.tmp 7] (fun vs hp => ∃ hz : AHeap, vs = [PB r.1] ∧ hp = (g1 ++ (.row false 0 2 [[.d (.rd (r.2.1.map qb9)), .d (.rd (r.2.2.1.map qd9))]] :: (g2 ++ (.row false 0 1 [[.d (.rd (r.2.2.2.1.map intD))]] :: (g3 ++ (.row false 0 1 [[.d (.rd (r.2.2.2.2.1.map intD))]] :: (g4 ++ (.row false 0 2 [[PI r.2.2.2.2.2.1, PI r.2.2.2.2.2.2]] :: (g5 ++ (.row false 0 1 [[.fn 59 [.ptr (g1.length + g2.length + g3.length + 2) 0 0 0, .ptr (g1.length + g2.length + g3.length + g4.length + g5.length + 4) 0 0 0, .ptr g1.length 0 0 0, .ptr (g1.length + g2.length + 1) 0 0 0, .ptr (g1.length + g2.length + g3.length + g4.length + 3) 0 0 0]]] :: (g6 ++ hz)))))))))))) q
  | .inr (s8, b2_0_2_0, b2_0_2_1, b2_0_3_0, b1_0, b2_0_4_0, b2_0_4_1), q => ∃ g, q = (.exit 0, qdy9 s0 b6_0 g1 g2 g3 g4 g5 g6 (s8, b2_0_2_0, b2_0_2_1, b2_0_3_0, b1_0, b2_0_4_0, b2_0_4_1) g)
theorem qlq9 {rec : Int × (List Symbol) × (List Rule) × (List Int) × (List Int) × Int × Int → Option (Bool × (List Symbol) × (List Rule) × (List Int) × (List Int) × Int × Int)} (hrec : ∀ {s0 : Int} {b2_0_2_0 : List Symbol} {b2_0_2_1 : List Rule} {b2_0_3_0 : List Int} {b1_0 : List Int} {b2_0_4_0 : Int} {b2_0_4_1 : Int} {g1 : AHeap} {g2 : AHeap} {g3 : AHeap} {g4 : AHeap} {g5 : AHeap} {g6 : AHeap} {r : Bool × (List Symbol) × (List Rule) × (List Int) × (List Int) × Int × Int} (_ : rec (s0, b2_0_2_0, b2_0_2_1, b2_0_3_0, b1_0, b2_0_4_0, b2_0_4_1) = some r), ∃ hz : AHeap, callP C (Lim C) 59 [PI s0, .ptr (g1.length + g2.length + g3.length + 2) 0 0 0, .ptr (g1.length + g2.length + g3.length + g4.length + g5.length + 4) 0 0 0, .ptr g1.length 0 0 0, .ptr (g1.length + g2.length + 1) 0 0 0, .ptr (g1.length + g2.length + g3.length + g4.length + 3) 0 0 0] (g1 ++ (.row false 0 2 [[.d (.rd (b2_0_2_0.map qb9)), .d (.rd (b2_0_2_1.map qd9))]] :: (g2 ++ (.row false 0 1 [[.d (.rd (b2_0_3_0.map intD))]] :: (g3 ++ (.row false 0 1 [[.d (.rd (b1_0.map intD))]] :: (g4 ++ (.row false 0 2 [[PI b2_0_4_0, PI b2_0_4_1]] :: (g5 ++ (.row false 0 1 [[.fn 59 [.ptr (g1.length + g2.length + g3.length + 2) 0 0 0, .ptr (g1.length + g2.length + g3.length + g4.length + g5.length + 4) 0 0 0, .ptr g1.length 0 0 0, .ptr (g1.length + g2.length + 1) 0 0 0, .ptr (g1.length + g2.length + g3.length + g4.length + 3) 0 0 0]]] :: g6)))))))))) = some (resOf [PB r.1], (g1 ++ (.row false 0 2 [[.d (.rd (r.2.1.map qb9)), .d (.rd (r.2.2.1.map qd9))]] :: (g2 ++ (.row false 0 1 [[.d (.rd (r.2.2.2.1.map intD))]] :: (g3 ++ (.row false 0 1 [[.d (.rd (r.2.2.2.2.1.map intD))]] :: (g4 ++ (.row false 0 2 [[PI r.2.2.2.2.2.1, PI r.2.2.2.2.2.2]] :: (g5 ++ (.row false 0 1 [[.fn 59 [.ptr (g1.length + g2.length + g3.length + 2) 0 0 0, .ptr (g1.length + g2.length + g3.length + g4.length + g5.length + 4) 0 0 0, .ptr g1.length 0 0 0, .ptr (g1.length + g2.length + 1) 0 0 0, .ptr (g1.length + g2.length + g3.length + g4.length + 3) 0 0 0]]] :: (g6 ++ hz))))))))))))) {s0 : Int} {b6_0 : Int} {g1 : AHeap} {g2 : AHeap} {g3 : AHeap} {g4 : AHeap} {g5 : AHeap} {g6 : AHeap} : Sim C 8454655 b59_0 (qbx9 rec s0 b6_0) (qdy9 s0 b6_0 g1 g2 g3 g4 g5 g6) (qlv9 s0 b6_0 g1 g2 g3 g4 g5 g6) := by
  intro s g r hr
  obtain ⟨s8, b2_0_2_0, b2_0_2_1, b2_0_3_0, b1_0, b2_0_4_0, b2_0_4_1⟩ := s
  have ⟨gt, hg0⟩ : ∃ y, y = g := ⟨_, rfl⟩
  subst hg0
  simp only [qbx9] at hr
  obtain ⟨x1, h1, hr⟩ := bsome hr
  rcases iteP hr with ⟨h2, hr⟩ | ⟨h2, hr⟩
  obtain ⟨x2, h3, hr⟩ := bsome hr
  obtain ⟨z3, h3k⟩ := hrec (g1 := g1) (g2 := g2) (g3 := g3) (g4 := g4) (g5 := g5) (g6 := (g6 ++ (.row false 0 1 [[PI b6_0]] :: gt))) h3
  try simp only [go_sem] at h3k
  rcases iteB hr with ⟨h4, hr⟩ | ⟨h4, hr⟩
  obtain rfl := oiA hr
  refine xl_of ⟨(.row false 0 1 [[PI b6_0]] :: (gt ++ z3)), rfl, rfl⟩ ?_
  rotate_left
  obtain ⟨x4, h5, hr⟩ := bsome hr
  obtain rfl := oiA hr
  refine ⟨(gt ++ z3), ?_⟩
  rotate_left
  obtain rfl := oiA hr
  refine xe_of ⟨gt, rfl⟩ ?_
  rotate_left
  all_goals (simp +decide only [go_sem, qdy9, b59_0, *])
theorem qll9 {rec : Int × (List Symbol) × (List Rule) × (List Int) × (List Int) × Int × Int → Option (Bool × (List Symbol) × (List Rule) × (List Int) × (List Int) × Int × Int)} (hrec : ∀ {s0 : Int} {b2_0_2_0 : List Symbol} {b2_0_2_1 : List Rule} {b2_0_3_0 : List Int} {b1_0 : List Int} {b2_0_4_0 : Int} {b2_0_4_1 : Int} {g1 : AHeap} {g2 : AHeap} {g3 : AHeap} {g4 : AHeap} {g5 : AHeap} {g6 : AHeap} {r : Bool × (List Symbol) × (List Rule) × (List Int) × (List Int) × Int × Int} (_ : rec (s0, b2_0_2_0, b2_0_2_1, b2_0_3_0, b1_0, b2_0_4_0, b2_0_4_1) = some r), ∃ hz : AHeap, callP C (Lim C) 59 [PI s0, .ptr (g1.length + g2.length + g3.length + 2) 0 0 0, .ptr (g1.length + g2.length + g3.length + g4.length + g5.length + 4) 0 0 0, .ptr g1.length 0 0 0, .ptr (g1.length + g2.length + 1) 0 0 0, .ptr (g1.length + g2.length + g3.length + g4.length + 3) 0 0 0] (g1 ++ (.row false 0 2 [[.d (.rd (b2_0_2_0.map qb9)), .d (.rd (b2_0_2_1.map qd9))]] :: (g2 ++ (.row false 0 1 [[.d (.rd (b2_0_3_0.map intD))]] :: (g3 ++ (.row false 0 1 [[.d (.rd (b1_0.map intD))]] :: (g4 ++ (.row false 0 2 [[PI b2_0_4_0, PI b2_0_4_1]] :: (g5 ++ (.row false 0 1 [[.fn 59 [.ptr (g1.length + g2.length + g3.length + 2) 0 0 0, .ptr (g1.length + g2.length + g3.length + g4.length + g5.length + 4) 0 0 0, .ptr g1.length 0 0 0, .ptr (g1.length + g2.length + 1) 0 0 0, .ptr (g1.length + g2.length + g3.length + g4.length + 3) 0 0 0]]] :: g6)))))))))) = some (resOf [PB r.1], (g1 ++ (.row false 0 2 [[.d (.rd (r.2.1.map qb9)), .d (.rd (r.2.2.1.map qd9))]] :: (g2 ++ (.row false 0 1 [[.d (.rd (r.2.2.2.1.map intD))]] :: (g3 ++ (.row false 0 1 [[.d (.rd (r.2.2.2.2.1.map intD))]] :: (g4 ++ (.row false 0 2 [[PI r.2.2.2.2.2.1, PI r.2.2.2.2.2.2]] :: (g5 ++ (.row false 0 1 [[.fn 59 [.ptr (g1.length + g2.length + g3.length + 2) 0 0 0, .ptr (g1.length + g2.length + g3.length + g4.length + g5.length + 4) 0 0 0, .ptr g1.length 0 0 0, .ptr (g1.length + g2.length + 1) 0 0 0, .ptr (g1.length + g2.length + g3.length + g4.length + 3) 0 0 0]]] :: (g6 ++ hz))))))))))))) {s0 : Int} {b2_0_2_0 : List Symbol} {b2_0_2_1 : List Rule} {b2_0_3_0 : List Int} {b1_0 : List Int} {b2_0_4_0 : Int} {b2_0_4_1 : Int} {g1 : AHeap} {g2 : AHeap} {g3 : AHeap} {g4 : AHeap} {g5 : AHeap} {g6 : AHeap} {r : Bool × (List Symbol) × (List Rule) × (List Int) × (List Int) × Int × Int} (hr : qbt9 rec s0 b2_0_2_0 b2_0_2_1 b2_0_3_0 b1_0 b2_0_4_0 b2_0_4_1 = some r) : ∃ hz : AHeap, Lim C 59 [PI s0, .ptr (g1.length + g2.length + g3.length + 2) 0 0 0, .ptr (g1.length + g2.length + g3.length + g4.length + g5.length + 4) 0 0 0, .ptr g1.length 0 0 0, .ptr (g1.length + g2.length + 1) 0 0 0, .ptr (g1.length + g2.length + g3.length + g4.length + 3) 0 0 0] (g1 ++ (.row false 0 2 [[.d (.rd (b2_0_2_0.map qb9)), .d (.rd (b2_0_2_1.map qd9))]] :: (g2 ++ (.row false 0 1 [[.d (.rd (b2_0_3_0.map intD))]] :: (g3 ++ (.row false 0 1 [[.d (.rd (b1_0.map intD))]] :: (g4 ++ (.row false 0 2 [[PI b2_0_4_0, PI b2_0_4_1]] :: (g5 ++ (.row false 0 1 [[.fn 59 [.ptr (g1.length + g2.length + g3.length + 2) 0 0 0, .ptr (g1.length + g2.length + g3.length + g4.length + g5.length + 4) 0 0 0, .ptr g1.length 0 0 0, .ptr (g1.length + g2.length + 1) 0 0 0, .ptr (g1.length + g2.length + g3.length + g4.length + 3) 0 0 0]]] :: g6)))))))))) = some (resOf [PB r.1], (g1 ++ (.row false 0 2 [[.d (.rd (r.2.1.map qb9)), .d (.rd (r.2.2.1.map qd9))]] :: (g2 ++ (.row false 0 1 [[.d (.rd (r.2.2.2.1.map intD))]] :: (g3 ++ (.row false 0 1 [[.d (.rd (r.2.2.2.2.1.map intD))]] :: (g4 ++ (.row false 0 2 [[PI r.2.2.2.2.2.1, PI r.2.2.2.2.2.2]] :: (g5 ++ (.row false 0 1 [[.fn 59 [.ptr (g1.length + g2.length + g3.length + 2) 0 0 0, .ptr (g1.length + g2.length + g3.length + g4.length + g5.length + 4) 0 0 0, .ptr g1.length 0 0 0, .ptr (g1.length + g2.length + 1) 0 0 0, .ptr (g1.length + g2.length + g3.length + g4.length + 3) 0 0 0]]] :: (g6 ++ hz)))))))))))) := by
  simp only [qbt9] at hr
  obtain ⟨x5, h1, hr⟩ := bsome hr
  obtain ⟨q1, h1L, h1X⟩ := (qlq9 hrec (g1 := g1) (g2 := g2) (g3 := g3) (g4 := g4) (g5 := g5) (g6 := g6)).L (g := []) h1
  rcases x5 with x6 | ⟨x7, x8, x9, x10, x11, x12, x13⟩
  try dsimp only at hr
  obtain ⟨st1, _, _, rfl, h1R, y7, rfl, rfl⟩ := h1X
  simp only [qdy9, go_sem] at h1L
  obtain rfl := oiA hr
  refine ⟨y7, run_L is59 (nbA rfl) ?_⟩
  rotate_left
  try dsimp only at hr
  obtain ⟨z14, rfl⟩ := h1X
  simp only [qdy9, go_sem] at h1L
  obtain ⟨x15, h2, x16, h3, x17, h4, hr⟩ := bs3 hr
  obtain ⟨z18, h4k⟩ := qfg9 (g1 := (g1 ++ (.row false 0 2 [[.d (.rd (x8.map qb9)), .d (.rd (x9.map qd9))]] :: (g2 ++ (.row false 0 1 [[.d (.rd (x10.map intD))]] :: (g3 ++ (.row false 0 1 [[.d (.rd (x11.map intD))]] :: g4))))))) (g2 := (g5 ++ (.row false 0 1 [[.fn 59 [.ptr (g1.length + g2.length + g3.length + 2) 0 0 0, .ptr (g1.length + g2.length + g3.length + g4.length + g5.length + 4) 0 0 0, .ptr g1.length 0 0 0, .ptr (g1.length + g2.length + 1) 0 0 0, .ptr (g1.length + g2.length + g3.length + g4.length + 3) 0 0 0]]] :: g6))) (g3 := z14) h4
  replace h4k := qi9 rfl rfl rfl h4k
  try simp only [go_sem] at h4k
  obtain rfl := oiA hr
  refine ⟨(.row false 0 1 [[PI s0]] :: (z14 ++ z18)), run_L is59 (nbA rfl) ?_⟩
  rotate_left
  all_goals (simp +decide only [go_sem, c59, *])
theorem qmb9 {s0 : Int} {b2_0_2_0 : List Symbol} {b2_0_2_1 : List Rule} {b2_0_3_0 : List Int} {b1_0 : List Int} {b2_0_4_0 : Int} {b2_0_4_1 : Int} {g1 : AHeap} {g2 : AHeap} {g3 : AHeap} {g4 : AHeap} {g5 : AHeap} {g6 : AHeap} {r : Bool × (List Symbol) × (List Rule) × (List Int) × (List Int) × Int × Int} (hr : qhV9 s0 b2_0_2_0 b2_0_2_1 b2_0_3_0 b1_0 b2_0_4_0 b2_0_4_1 = some r) : ∃ hz : AHeap, Lim C 59 [PI s0, .ptr (g1.length + g2.length + g3.length + 2) 0 0 0, .ptr (g1.length + g2.length + g3.length + g4.length + g5.length + 4) 0 0 0, .ptr g1.length 0 0 0, .ptr (g1.length + g2.length + 1) 0 0 0, .ptr (g1.length + g2.length + g3.length + g4.length + 3) 0 0 0] (g1 ++ (.row false 0 2 [[.d (.rd (b2_0_2_0.map qb9)), .d (.rd (b2_0_2_1.map qd9))]] :: (g2 ++ (.row false 0 1 [[.d (.rd (b2_0_3_0.map intD))]] :: (g3 ++ (.row false 0 1 [[.d (.rd (b1_0.map intD))]] :: (g4 ++ (.row false 0 2 [[PI b2_0_4_0, PI b2_0_4_1]] :: (g5 ++ (.row false 0 1 [[.fn 59 [.ptr (g1.length + g2.length + g3.length + 2) 0 0 0, .ptr (g1.length + g2.length + g3.length + g4.length + g5.length + 4) 0 0 0, .ptr g1.length 0 0 0, .ptr (g1.length + g2.length + 1) 0 0 0, .ptr (g1.length + g2.length + g3.length + g4.length + 3) 0 0 0]]] :: g6)))))))))) = some (resOf [PB r.1], (g1 ++ (.row false 0 2 [[.d (.rd (r.2.1.map qb9)), .d (.rd (r.2.2.1.map qd9))]] :: (g2 ++ (.row false 0 1 [[.d (.rd (r.2.2.2.1.map intD))]] :: (g3 ++ (.row false 0 1 [[.d (.rd (r.2.2.2.2.1.map intD))]] :: (g4 ++ (.row false 0 2 [[PI r.2.2.2.2.2.1, PI r.2.2.2.2.2.2]] :: (g5 ++ (.row false 0 1 [[.fn 59 [.ptr (g1.length + g2.length + g3.length + 2) 0 0 0, .ptr (g1.length + g2.length + g3.length + g4.length + g5.length + 4) 0 0 0, .ptr g1.length 0 0 0, .ptr (g1.length + g2.length + 1) 0 0 0, .ptr (g1.length + g2.length + g3.length + g4.length + 3) 0 0 0]]] :: (g6 ++ hz)))))))))))) := by
  obtain ⟨n, hn⟩ := qkj9 hr
  clear hr
  induction n generalizing s0 b2_0_2_0 b2_0_2_1 b2_0_3_0 b1_0 b2_0_4_0 b2_0_4_1 g1 g2 g3 g4 g5 g6 r with
  | zero => cases hn
  | succ n ih =>
    refine qll9 (rec := fixN _ n) (fun {s0} {b2_0_2_0} {b2_0_2_1} {b2_0_3_0} {b1_0} {b2_0_4_0} {b2_0_4_1} {g1} {g2} {g3} {g4} {g5} {g6} {r} hr => ?_) (g1 := g1) (g2 := g2) (g3 := g3) (g4 := g4) (g5 := g5) (g6 := g6) hn
    obtain ⟨hz, h1⟩ := ih (g1 := g1) (g2 := g2) (g3 := g3) (g4 := g4) (g5 := g5) (g6 := g6) hr
    exact ⟨hz, qi9 rfl rfl rfl h1⟩
def c27 : ACode := .seq (.reg [] [] [.K 2 (.box (.tmp 0)), .K 3 (.box (.tmp 1)), .K 4 (.alloc [.d (.v (.int .i64 0)), .d (.v (.int .i64 0))] 2), .K 5 (.mv (.const (.bool false)))]) (.seq (.seq (.reg [] [] [.T 10 (.load (some 2) (.tmp 2)), .T 11 (.load none (.tmp 3)), .T 12 (.call 42 [.tmp 10, .tmp 11]), .K 13 (.bin .neq (.tmp 12) (cI 0))]) (.cond (.tmp 13) (some 13) (.seq (.reg [] [] [.T 14 (.build [(0, 1), (1, 1)] [.d (.v (.int .i64 0)), .d (.v (.int .i64 0))] []), ⟨none, .store 2 (.tmp 4) (.tmp 14), none, false, false⟩, .K 5 (.mv (.const (.bool false)))]) (.ret)) (.skip))) (.seq (.reg [] [] [.T 15 (.fa 0 (.tmp 2)), .T 16 (.load none (.tmp 15)), .T 17 (.load none (.tmp 3)), .T 18 (.call 43 [.tmp 16, .tmp 17]), .K 6 (.alloc [.im true []] 1), ⟨none, .store 1 (.tmp 6) (.tmp 18), none, false, false⟩]) (.seq (.reg [] [] [.K 7 (.alloc [.d (.v (.int .i64 0)), .d (.v (.int .i64 0))] 2)]) (.seq (.reg [] [] [.K 8 (.alloc [.d (.v .nilFunc)] 1)]) (.seq (.reg [] [] [.T 19 (.mkF 59 [.tmp 6, .tmp 8, .tmp 2, .tmp 3, .tmp 7]), ⟨none, .store 1 (.tmp 8) (.tmp 19), none, false, false⟩]) (.seq (.reg [] [] [.T 20 (.load none (.tmp 8)), .T 21 (.callV (.tmp 20) [.const (.int .i64 0)]), .N 9 21]) (.seq (.reg [] [] [.T 22 (.load (some 2) (.tmp 7)), .M 23 9, ⟨none, .store 2 (.tmp 4) (.tmp 22), none, false, false⟩, .N 5 23]) (.ret))))))))
theorem is27 : IsF C 27 24 9215 c27 [.cell 4 33, .tmp 5] := ⟨⟨Tryd.f27, _, C_P ▸ Tryd.func27, rfl, rfl, rfl, by kernel_rfl, rfl⟩⟩
theorem qkv9 {a0 : System} {a1 : List Int} {r : Redex × Bool} (hr : qdH9 a0 a1 = some r) : Res C 27 [.ag (qf9 a0), .rd (a1.map intD)] (.tp [.d (.ag (qm9 r.1)), PB r.2]) := by
  simp only [qdH9] at hr
  obtain ⟨x1, h1, hr⟩ := bsome hr
  have h1k := fun h => (qiG9 h1).o rfl rfl rfl (h := h) (args := [.ag [.d (.rd (a0.Sig.map qb9)), .d (.rd (a0.Rules.map qd9))], .d (.rd (a1.map intD))]) rfl
  try simp only [go_sem] at h1k
  rcases iteP hr with ⟨h2, hr⟩ | ⟨h2, hr⟩
  obtain ⟨x2, h3, x3, h4, hr⟩ := bs2 hr
  have h3k := (qja9 h3).k rfl rfl rfl
  try simp only [go_sem] at h3k
  obtain ⟨z4, h4k⟩ := qmb9 (g1 := []) (g2 := []) (g3 := (.row false 0 2 [[PI 0, PI 0]] :: [])) (g4 := []) (g5 := []) (g6 := []) h4
  replace h4k := qi9 rfl rfl rfl h4k
  try simp only [go_sem] at h4k
  obtain rfl := oiA hr
  refine run_V is27 (nbA rfl) ?_
  rotate_left
  obtain rfl := oiA hr
  refine run_V is27 (nbA rfl) ?_
  rotate_left
  all_goals (simp +decide only [go_sem, c27, *])
def b50_0 : ACode := .seq (.reg [] [] [.K 10 (.bin .lss (.tmp 9) (.tmp 8))]) (.seq (.cond (.tmp 10) (some 10) (.skip) (.exit 0)) (.seq (.block 1 132160 (.seq (.reg [] [] [.T 11 (.ix 2 (.tmp 7) (.tmp 9)), .T 12 (.load (some 2) (.tmp 11)), .K 6 (.alloc [.d (.v (.int .i64 0)), .im true []] 2), ⟨none, .store 2 (.tmp 6) (.tmp 12), none, false, false⟩]) (.seq (.reg [] [] [.T 13 (.fa 0 (.tmp 6)), .T 14 (.load none (.tmp 13)), .M 15 1, .T 16 (.bin .sub (cI (-1)) (.tmp 15)), .K 17 (.bin .eql (.tmp 14) (.tmp 16))]) (.cond (.tmp 17) (some 17) (.seq (.reg [] [] [.T 18 (.fa 1 (.tmp 6)), .T 19 (.load none (.tmp 18)), .N 4 19]) (.ret)) (.skip))))) (.reg [] [] [.T 20 (.bin .add (.tmp 9) (cI 1)), .N 9 20])))
def c50 : ACode := .seq (.reg [] [(4, 0)] [.K 4 (.mv (.const (.slice none 0 0)))]) (.seq (.seq (.reg [] [] [.N 7 0, .K 8 (.len (.tmp 7)), .K 9 (.mv (cI 0))]) (.block 0 132160 (.loop b50_0))) (.seq (.reg [] [(4, 0)] [.M 21 1, .T 22 (.lit 1 [(0, .tmp 21)]), .N 4 22]) (.ret)))
theorem is50 : IsF C 50 23 133075 c50 [.tmp 4] := ⟨⟨Tryd.f50, _, C_P ▸ Tryd.func50, rfl, rfl, rfl, by kernel_rfl, rfl⟩⟩
def qey9 (s0 : List Bind) (s1 : Int) (s4 : List Int) (s7 : List Bind) (s8 : Int) : Int → AHeap → St := fun s9 gt => ⟨[(0, .d (.rd (s0.map qc9))), (1, PI s1), (4, .d (.rd (s4.map intD))), (7, .d (.rd (s7.map qc9))), (8, PI s8), (9, PI s9)], gt⟩
def qnI9 (s0 : List Bind) (s1 : Int) (s4 : List Int) (s7 : List Bind) (s8 : Int) : (((List Int)) ⊕ Int) → AExit × St → Prop
  | .inl r, q => XV C [.tmp 4] (.d (.rd (r.map intD))) q
  | .inr s9, q => ∃ g, q = (.exit 0, qey9 s0 s1 s4 s7 s8 s9 g)
theorem qnS9 {s0 : List Bind} {s1 : Int} {s4 : List Int} {s7 : List Bind} {s8 : Int} : Sim C 133075 b50_0 (qdD9 s0 s1 s4 s7 s8) (qey9 s0 s1 s4 s7 s8) (qnI9 s0 s1 s4 s7 s8) := by
  intro s g r hr
  have ⟨s9, hs0⟩ : ∃ y, y = s := ⟨_, rfl⟩
  subst hs0
  have ⟨gt, hg0⟩ : ∃ y, y = g := ⟨_, rfl⟩
  subst hg0
  simp only [qdD9] at hr
  rcases iteP hr with ⟨h1, hr⟩ | ⟨h1, hr⟩
  obtain ⟨x1, h2, hr⟩ := bsome hr
  rcases iteP hr with ⟨h3, hr⟩ | ⟨h3, hr⟩
  obtain rfl := oiA hr
  refine xv_of ?_
  rotate_left
  obtain rfl := oiA hr
  refine ⟨(gt ++ (.row false 0 2 [[PI x1.Var, .d (.rd (x1.T.map intD))]] :: [])), ?_⟩
  rotate_left
  obtain rfl := oiA hr
  refine xe_of ⟨gt, rfl⟩ ?_
  rotate_left
  all_goals (simp +decide only [go_sem, qey9, b50_0, *])
theorem qoE9 {a0 : List Bind} {a1 : Int} {r : (List Int)} (hr : qgG9 a0 a1 = some r) : Res C 50 [.rd (a0.map qc9), .v (.int .i64 a1)] (.d (.rd (r.map intD))) := by
  simp only [qgG9] at hr
  obtain ⟨x2, h1, hr⟩ := bsome hr
  obtain ⟨q1, h1L, h1X⟩ := qnS9.L (g := []) h1
  rcases x2 with x3 | x4
  try dsimp only at hr
  obtain ⟨st1, rfl, h1R⟩ := h1X
  simp only [qey9, go_sem] at h1L
  obtain rfl := oiA hr
  refine run_V is50 (nbA rfl) ?_
  rotate_left
  try dsimp only at hr
  obtain ⟨z5, rfl⟩ := h1X
  simp only [qey9, go_sem] at h1L
  obtain rfl := oiA hr
  refine run_V is50 (nbA rfl) ?_
  rotate_left
  all_goals (simp +decide only [go_sem, c50, *])
def b18_0 : ACode := .seq (.reg [] [] [.K 90 (.bin .lss (.tmp 89) (.tmp 88))]) (.seq (.cond (.tmp 90) (some 90) (.skip) (.exit 1)) (.seq (.block 2 162339742931766913109446453559296 (.seq (.reg [] [] [.T 91 (.ix 1 (.tmp 87) (.tmp 89)), .T 92 (.load none (.tmp 91)), .N 16 92]) (.seq (.reg [] [(17, 0)] [.M 93 16, .T 94 (.lit 1 [(0, .tmp 93)]), .N 17 94]) (.seq (.seq (.reg [] [] [.M 95 16, .K 96 (.bin .lss (.tmp 95) (cI 0))]) (.cond (.tmp 96) (some 96) (.reg [] [] [.M 97 11, .M 98 16, .T 99 (.call 50 [.tmp 97, .tmp 98]), .N 17 99]) (.skip))) (.seq (.seq (.reg [] [] [.M 100 13, .T 101 (.len (.tmp 100)), .M 102 17, .T 103 (.len (.tmp 102)), .T 104 (.bin .add (.tmp 101) (.tmp 103)), .M 105 14, .T 106 (.bin .add (.tmp 104) (.tmp 105)), .K 107 (.bin .gtr (.tmp 106) (cI 512))]) (.cond (.tmp 107) (some 107) (.seq (.reg [] [(6, 1)] [.K 6 (.mv (.const (.slice none 0 0))), .K 7 (.mv (cI 2))]) (.ret)) (.skip))) (.reg [] [] [.M 108 13, .M 109 17, .T 110 (.app 1 8 (.tmp 108) (.tmp 109)), .N 13 110])))))) (.reg [] [] [.T 111 (.bin .add (.tmp 89) (cI 1)), .N 89 111])))
def c18 : ACode := .seq (.reg [] [(6, 1)] [.K 3 (.box (.tmp 0)), .K 5 (.box (.tmp 2)), .K 6 (.mv (.const (.slice none 0 0))), .K 7 (.mv (cI 0))]) (.seq (.seq (.reg [] [] [.T 18 (.load (some 2) (.tmp 3)), .M 19 1, .T 20 (.call 42 [.tmp 18, .tmp 19]), .N 8 20]) (.seq (.reg [] [] [.M 21 8, .K 22 (.bin .neq (.tmp 21) (cI 0))]) (.cond (.tmp 22) (some 22) (.seq (.reg [] [(6, 1)] [.M 23 8, .K 6 (.mv (.const (.slice none 0 0))), .N 7 23]) (.ret)) (.skip)))) (.seq (.block 0 34376515584 (.seq (.reg [] [] [.T 25 (.fa 0 (.tmp 5)), .T 26 (.load none (.tmp 25)), .T 27 (.bin .lss (.tmp 26) (cI 0)), .M 28 27, .TG 29 28 false (.fa 0 (.tmp 5)), .TG 30 28 false (.load none (.tmp 29)), .MG 31 28 false 1, .TG 32 28 false (.len (.tmp 31)), .TG 33 28 false (.bin .geq (.tmp 30) (.tmp 32)), .T 34 (.pick (.tmp 28) (.const (.bool true)) (.tmp 33)), .N 24 34]) (.cond (.tmp 24) (some 24) (.seq (.reg [] [(6, 1)] [.K 6 (.mv (.const (.slice none 0 0))), .K 7 (.mv (cI 33))]) (.ret)) (.seq (.reg [] [] [.T 36 (.fa 1 (.tmp 5)), .T 37 (.load none (.tmp 36)), .T 38 (.bin .lss (.tmp 37) (cI 0)), .M 39 38, .TG 40 39 false (.fa 1 (.tmp 5)), .TG 41 39 false (.load none (.tmp 40)), .TG 42 39 false (.fa 1 (.tmp 3)), .TG 43 39 false (.load none (.tmp 42)), .TG 44 39 false (.len (.tmp 43)), .TG 45 39 false (.bin .geq (.tmp 41) (.tmp 44)), .T 46 (.pick (.tmp 39) (.const (.bool true)) (.tmp 45)), .N 35 46]) (.cond (.tmp 35) (some 35) (.seq (.reg [] [(6, 1)] [.K 6 (.mv (.const (.slice none 0 0))), .K 7 (.mv (cI 1))]) (.ret)) (.skip)))))) (.seq (.reg [] [] [.T 47 (.fa 0 (.tmp 3)), ⟨some (48, false), .load none (.tmp 47), none, true, false⟩, .M 49 1, ⟨some (50, false), .call 43 [.tmp 48, .tmp 49], none, true, false⟩, .T 51 (.fa 0 (.tmp 5)), ⟨some (52, false), .load none (.tmp 51), none, true, false⟩, ⟨some (53, false), .ix 1 (.tmp 50) (.tmp 52), none, true, false⟩, ⟨some (54, false), .load none (.tmp 53), none, true, false⟩, .N 9 54]) (.seq (.reg [] [] [.T 55 (.fa 1 (.tmp 3)), .T 56 (.load none (.tmp 55)), .T 57 (.fa 1 (.tmp 5)), .T 58 (.load none (.tmp 57)), .T 59 (.ix 2 (.tmp 56) (.tmp 58)), .T 60 (.load (some 2) (.tmp 59)), .K 10 (.alloc [.im true [], .im true []] 2), ⟨none, .store 2 (.tmp 10) (.tmp 60), none, false, false⟩]) (.seq (.reg [] [] [.T 62 (.fa 0 (.tmp 3)), ⟨some (63, false), .load none (.tmp 62), none, true, false⟩, .T 64 (.fa 0 (.tmp 10)), ⟨some (65, false), .load none (.tmp 64), none, true, false⟩, .M 66 1, .T 67 (.fa 0 (.tmp 5)), ⟨some (68, false), .load none (.tmp 67), none, true, false⟩, .M 69 9, ⟨some (70, false), .cut 1 (.tmp 66) (some (.tmp 68)) (some (.tmp 69)), none, true, false⟩, ⟨some (71, false), .call 49 [.tmp 63, .tmp 65, .tmp 70], none, true, false⟩, .M 61 71, .T 72 (.ext (.tmp 61) 0), .T 73 (.ext (.tmp 61) 1), .N 11 72, .N 12 73]) (.seq (.seq (.reg [] [] [.M 74 12, .K 75 (.not (.tmp 74))]) (.cond (.tmp 75) (some 75) (.seq (.reg [] [(6, 1)] [.K 6 (.mv (.const (.slice none 0 0))), .K 7 (.mv (cI 80))]) (.ret)) (.skip))) (.seq (.reg [] [] [.T 76 (.lit 1 []), .M 77 1, .T 78 (.fa 0 (.tmp 5)), .T 79 (.load none (.tmp 78)), .T 80 (.cut 1 (.tmp 77) none (some (.tmp 79))), .T 81 (.app 1 8 (.tmp 76) (.tmp 80)), .N 13 81]) (.seq (.reg [] [] [.M 82 1, .T 83 (.len (.tmp 82)), .M 84 9, .T 85 (.bin .sub (.tmp 83) (.tmp 84)), .N 14 85]) (.seq (.seq (.reg [] [] [.T 86 (.fa 1 (.tmp 10)), .K 87 (.load none (.tmp 86)), .K 88 (.len (.tmp 87)), .K 89 (.mv (cI 0))]) (.block 1 162339742931766913109446453559296 (.loop b18_0))) (.seq (.reg [] [] [.M 112 13, .M 113 1, .M 114 9, .T 115 (.cut 1 (.tmp 113) (some (.tmp 114)) none), .T 116 (.app 1 8 (.tmp 112) (.tmp 115)), .N 6 116, .K 7 (.mv (cI 0))]) (.ret)))))))))))
theorem is18 : IsF C 18 117 162340826167080219680178532745199 c18 [.tmp 6, .tmp 7] := ⟨⟨Tryd.f18, _, C_P ▸ Tryd.func18, rfl, rfl, rfl, by kernel_rfl, rfl⟩⟩
def qgA9 (s0 : System) (s1 : List Int) (s2 : Redex) (s8 : Int) (s9 : Int) (s11 : List Bind) (s12 : Bool) (s14 : Int) (s87 : List Int) (s88 : Int) (b3_0 : List Symbol) (b3_1 : List Rule) (b5_0 : Int) (b5_1 : Int) (o6 : List Int) (b10_0 : List Int) (b10_1 : List Int) (g1 : AHeap) (v6 : Nat) : Int × (List Int) → Nat × AHeap → St := fun (s89, o13) (v13, gt) => ⟨[(0, .d (.ag (qf9 s0))), (1, .d (.rd (s1.map intD))), (2, .d (.ag (qm9 s2))), (3, .ptr g1.length 0 0 0), (5, .ptr (g1.length + 1) 0 0 0), (6, .ref (g1.length + 2) v6 0 o6.length), (7, PI 0), (8, PI s8), (9, PI s9), (10, .ptr (g1.length + 3) 0 0 0), (11, .d (.rd (s11.map qc9))), (12, PB s12), (13, .ref (g1.length + 4) v13 0 o13.length), (14, PI s14), (87, .d (.rd (s87.map intD))), (88, PI s88), (89, PI s89)], (g1 ++ (.row false 0 2 [[.d (.rd (b3_0.map qb9)), .d (.rd (b3_1.map qd9))]] :: (.row false 0 2 [[PI b5_0, PI b5_1]] :: (.row false v6 1 (rowP intD o6) :: (.row false 0 2 [[.d (.rd (b10_0.map intD)), .d (.rd (b10_1.map intD))]] :: (.row false v13 1 (rowP intD o13) :: gt))))))⟩
def qtB9 (s0 : System) (s1 : List Int) (s2 : Redex) (s8 : Int) (s9 : Int) (s11 : List Bind) (s12 : Bool) (s14 : Int) (s87 : List Int) (s88 : Int) (b3_0 : List Symbol) (b3_1 : List Rule) (b5_0 : Int) (b5_1 : Int) (o6 : List Int) (b10_0 : List Int) (b10_1 : List Int) (g1 : AHeap) (v6 : Nat) : (((List Int) × Int) ⊕ (Int × (List Int))) → AExit × St → Prop
  | .inl r, q => XL C [.tmp 6, .tmp 7] (fun vs hp => ∃ hz : AHeap, ∃ wr0 : Nat, ∃ hy : AHeap, vs = [.ref (g1.length + hz.length) wr0 0 r.1.length, PI r.2] ∧ hp = (g1 ++ (hz ++ (.row false wr0 1 (rowP intD r.1) :: hy)))) q
  | .inr (s89, o13), q => ∃ g, q = (.exit 1, qgA9 s0 s1 s2 s8 s9 s11 s12 s14 s87 s88 b3_0 b3_1 b5_0 b5_1 o6 b10_0 b10_1 g1 v6 (s89, o13) g)
theorem qsx9 {s0 : System} {s1 : List Int} {s2 : Redex} {s8 : Int} {s9 : Int} {s11 : List Bind} {s12 : Bool} {s14 : Int} {s87 : List Int} {s88 : Int} {b3_0 : List Symbol} {b3_1 : List Rule} {b5_0 : Int} {b5_1 : Int} {o6 : List Int} {b10_0 : List Int} {b10_1 : List Int} {g1 : AHeap} {v6 : Nat} : Sim C 162340826167080219680178532745199 b18_0 (qeq9 s0 s1 s2 s8 s9 s11 s12 s14 s87 s88 b3_0 b3_1 b5_0 b5_1 o6 b10_0 b10_1) (qgA9 s0 s1 s2 s8 s9 s11 s12 s14 s87 s88 b3_0 b3_1 b5_0 b5_1 o6 b10_0 b10_1 g1 v6) (qtB9 s0 s1 s2 s8 s9 s11 s12 s14 s87 s88 b3_0 b3_1 b5_0 b5_1 o6 b10_0 b10_1 g1 v6) := by
  intro s g r hr
  obtain ⟨s89, o13⟩ := s
  obtain ⟨v13, gt⟩ := g
  simp only [qeq9] at hr
  rcases iteP hr with ⟨h1, hr⟩ | ⟨h1, hr⟩
  obtain ⟨x8, h2, hr⟩ := bsome hr
  rcases iteP hr with ⟨h3, hr⟩ | ⟨h3, hr⟩
  obtain ⟨x9, h4, hr⟩ := bsome hr
  have h4k := (qoE9 h4).k rfl rfl rfl
  try simp only [go_sem] at h4k
  rcases iteP hr with ⟨h5, hr⟩ | ⟨h5, hr⟩
  obtain rfl := oiA hr
  refine xl_of ⟨(.row false 0 2 [[.d (.rd (b3_0.map qb9)), .d (.rd (b3_1.map qd9))]] :: (.row false 0 2 [[PI b5_0, PI b5_1]] :: (.row false v6 1 (rowP intD o6) :: (.row false 0 2 [[.d (.rd (b10_0.map intD)), .d (.rd (b10_1.map intD))]] :: (.row false v13 1 (rowP intD o13) :: gt))))), 0, [], rfl, rfl⟩ ?_
  rotate_left
  obtain ⟨h6, hr⟩ := gsome hr
  obtain rfl := oiA hr
  refine ⟨((v13 + 1), gt), ?_⟩
  rotate_left
  rcases iteP hr with ⟨h7, hr⟩ | ⟨h7, hr⟩
  obtain rfl := oiA hr
  refine xl_of ⟨(.row false 0 2 [[.d (.rd (b3_0.map qb9)), .d (.rd (b3_1.map qd9))]] :: (.row false 0 2 [[PI b5_0, PI b5_1]] :: (.row false v6 1 (rowP intD o6) :: (.row false 0 2 [[.d (.rd (b10_0.map intD)), .d (.rd (b10_1.map intD))]] :: (.row false v13 1 (rowP intD o13) :: gt))))), 0, [], rfl, rfl⟩ ?_
  rotate_left
  obtain ⟨h8, hr⟩ := gsome hr
  obtain rfl := oiA hr
  refine ⟨((v13 + 1), gt), ?_⟩
  rotate_left
  obtain rfl := oiA hr
  refine xe_of ⟨(v13, gt), rfl⟩ ?_
  rotate_left
  all_goals (simp +decide only [go_sem, qgA9, b18_0, *])
theorem quV9 {s0 : System} {s1 : List Int} {s2 : Redex} {g1 : AHeap} {r : (List Int) × Int} (hr : qbi9 s0 s1 s2 = some r) : ∃ hz : AHeap, ∃ wr0 : Nat, ∃ hy : AHeap, Lim C 18 [.d (.ag (qf9 s0)), .d (.rd (s1.map intD)), .d (.ag (qm9 s2))] g1 = some (resOf [.ref (g1.length + hz.length) wr0 0 r.1.length, PI r.2], (g1 ++ (hz ++ (.row false wr0 1 (rowP intD r.1) :: hy)))) := by
  simp only [qbi9] at hr
  obtain ⟨x1, h1, hr⟩ := bsome hr
  have h1k := fun h => (qiG9 h1).o rfl rfl rfl (h := h) (args := [.ag [.d (.rd (s0.Sig.map qb9)), .d (.rd (s0.Rules.map qd9))], .d (.rd (s1.map intD))]) rfl
  try simp only [go_sem] at h1k
  rcases iteP hr with ⟨h2, hr⟩ | ⟨h2, hr⟩
  rcases iteP hr with ⟨h3, hr⟩ | ⟨h3, hr⟩
  obtain rfl := oiA hr
  refine ⟨(.row false 0 2 [[.d (.rd (s0.Sig.map qb9)), .d (.rd (s0.Rules.map qd9))]] :: (.row false 0 2 [[PI s2.At, PI s2.Rule]] :: (.row false 0 1 (rowP intD ([] : List Int)) :: []))), 0, [], run_L is18 (nbA rfl) ?_⟩
  rotate_left
  rcases iteP hr with ⟨h4, hr⟩ | ⟨h4, hr⟩
  obtain rfl := oiA hr
  refine ⟨(.row false 0 2 [[.d (.rd (s0.Sig.map qb9)), .d (.rd (s0.Rules.map qd9))]] :: (.row false 0 2 [[PI s2.At, PI s2.Rule]] :: (.row false 0 1 (rowP intD ([] : List Int)) :: []))), 0, [], run_L is18 (nbA rfl) ?_⟩
  rotate_left
  rcases iteP hr with ⟨h5, hr⟩ | ⟨h5, hr⟩
  obtain rfl := oiA hr
  refine ⟨(.row false 0 2 [[.d (.rd (s0.Sig.map qb9)), .d (.rd (s0.Rules.map qd9))]] :: (.row false 0 2 [[PI s2.At, PI s2.Rule]] :: (.row false 0 1 (rowP intD ([] : List Int)) :: []))), 0, [], run_L is18 (nbA rfl) ?_⟩
  rotate_left
  rcases iteP hr with ⟨h6, hr⟩ | ⟨h6, hr⟩
  obtain rfl := oiA hr
  refine ⟨(.row false 0 2 [[.d (.rd (s0.Sig.map qb9)), .d (.rd (s0.Rules.map qd9))]] :: (.row false 0 2 [[PI s2.At, PI s2.Rule]] :: (.row false 0 1 (rowP intD ([] : List Int)) :: []))), 0, [], run_L is18 (nbA rfl) ?_⟩
  rotate_left
  obtain ⟨x2, h7, x3, h8, x4, h9, x5, h10, hr⟩ := bs4 hr
  have h7k := (qja9 h7).k rfl rfl rfl
  try simp only [go_sem] at h7k
  obtain ⟨x6, h11, hr⟩ := bsome hr
  have h11k := (qhU9 h11).k rfl rfl rfl
  try simp only [go_sem] at h11k
  rcases iteB hr with ⟨h12, hr⟩ | ⟨h12, hr⟩
  simp only [h12] at hr
  obtain ⟨x7, h13, hr⟩ := bsome hr
  obtain ⟨h14, hr⟩ := gsome hr
  obtain ⟨x10, h15, hr⟩ := bsome hr
  obtain ⟨q15, h15L, h15X⟩ := (qsx9 (g1 := g1) (v6 := 0)).L (g := (0, [])) h15
  rcases x10 with x11 | ⟨x12, x13⟩
  try dsimp only at hr
  obtain ⟨st15, _, _, rfl, h15R, y8, y9, y10, rfl, rfl⟩ := h15X
  simp only [qgA9, go_sem] at h15L
  obtain rfl := oiA hr
  refine ⟨y8, y9, y10, run_L is18 (nbA rfl) ?_⟩
  rotate_left
  try dsimp only at hr
  obtain ⟨⟨z14, z15⟩, rfl⟩ := h15X
  simp only [qgA9, go_sem] at h15L
  obtain ⟨x16, h16, hr⟩ := bsome hr
  obtain ⟨h17, hr⟩ := gsome hr
  obtain rfl := oiA hr
  refine ⟨(.row false 0 2 [[.d (.rd (s0.Sig.map qb9)), .d (.rd (s0.Rules.map qd9))]] :: (.row false 0 2 [[PI s2.At, PI s2.Rule]] :: (.row false 0 1 (rowP intD ([] : List Int)) :: (.row false 0 2 [[.d (.rd (x4.L.map intD)), .d (.rd (x4.R.map intD))]] :: [])))), (z14 + 1), z15, run_L is18 (nbA rfl) ?_⟩
  rotate_left
  obtain rfl := oiA hr
  refine ⟨(.row false 0 2 [[.d (.rd (s0.Sig.map qb9)), .d (.rd (s0.Rules.map qd9))]] :: (.row false 0 2 [[PI s2.At, PI s2.Rule]] :: (.row false 0 1 (rowP intD ([] : List Int)) :: (.row false 0 2 [[.d (.rd (x4.L.map intD)), .d (.rd (x4.R.map intD))]] :: [])))), 0, [], run_L is18 (nbA rfl) ?_⟩
  rotate_left
  obtain rfl := oiA hr
  refine ⟨(.row false 0 2 [[.d (.rd (s0.Sig.map qb9)), .d (.rd (s0.Rules.map qd9))]] :: (.row false 0 2 [[PI s2.At, PI s2.Rule]] :: (.row false 0 1 (rowP intD ([] : List Int)) :: []))), 0, [], run_L is18 (nbA rfl) ?_⟩
  rotate_left
  all_goals (simp +decide only [go_sem, c18, *])
theorem qgr9 {s0 : System} {s1 : List Int} {s2 : Redex} {g1 : AHeap} {r : (List Int) × Int} (hr : qbi9 s0 s1 s2 = some r) : ∃ hz : AHeap, ∃ wr0 : Nat, ∃ hy : AHeap, (∀ (h0 : AHeap) (args : List PV) (_ : mapO (rs h0 depth) args = some [.ag (qf9 s0), .rd (s1.map intD), .ag (qm9 s2)]) (_ : freezeAll (args.flatMap (reach h0 depth)) h0 = g1), callP C (Lim C) 18 args h0 = some (resOf [.ref (g1.length + hz.length) wr0 0 r.1.length, PI r.2], (g1 ++ (hz ++ (.row false wr0 1 (rowP intD r.1) :: hy))))) := by
  obtain ⟨hz, wr0, hy, h1⟩ := quV9 hr (g1 := g1)
  exact ⟨hz, wr0, hy, fun h0 args ha hf => quC9 rfl rfl rfl ha hf h1⟩
def b16_0 : ACode := .seq (.seq (.reg [] [] [.M 11 5, .M 12 0, .T 13 (.len (.tmp 12)), .K 14 (.bin .lss (.tmp 11) (.tmp 13))]) (.cond (.tmp 14) (some 14) (.skip) (.exit 0))) (.seq (.block 1 33570816 (.seq (.reg [] [] [.M 17 0, .M 18 5, ⟨some (19, false), .ix 2 (.tmp 17) (.tmp 18), none, true, false⟩, ⟨some (20, false), .load (some 2) (.tmp 19), none, true, false⟩, .M 21 1, .M 22 5, ⟨some (23, false), .ix 2 (.tmp 21) (.tmp 22), none, true, false⟩, ⟨some (24, false), .load (some 2) (.tmp 23), none, true, false⟩, .K 25 (.raw ({ dst := some 25, op := Go.Op.binOp Go.BinOp.neq 33 (.tmp 20) (.tmp 24) 33, type := 4, pos := "law.go:50", after := #[{ on := 3, ground := Go.Ground.data }, { on := 7, ground := Go.Ground.data }], guard := none }))]) (.cond (.tmp 25) (some 25) (.seq (.reg [] [] [.K 4 (.mv (.const (.bool false)))]) (.ret)) (.skip)))) (.reg [] [] [.M 15 5, .T 16 (.bin .add (.tmp 15) (cI 1)), .N 5 16]))
def c16 : ACode := .seq (.reg [] [] [.K 4 (.mv (.const (.bool false)))]) (.seq (.seq (.reg [] [] [.M 6 0, .T 7 (.len (.tmp 6)), .M 8 1, .T 9 (.len (.tmp 8)), .K 10 (.bin .neq (.tmp 7) (.tmp 9))]) (.cond (.tmp 10) (some 10) (.seq (.reg [] [] [.K 4 (.mv (.const (.bool false)))]) (.ret)) (.skip))) (.seq (.seq (.reg [] [] [.K 5 (.mv (cI 0))]) (.block 0 33570816 (.loop b16_0))) (.seq (.reg [] [] [.K 4 (.mv (.const (.bool true)))]) (.ret))))
theorem is16 : IsF C 16 26 33571891 c16 [.tmp 4] := ⟨⟨Tryd.f16, _, C_P ▸ Tryd.func16, rfl, rfl, rfl, by kernel_rfl, rfl⟩⟩
def qfN9 (s0 : List Redex) (s1 : List Redex) : Int → Unit → St := fun s5 _ => ⟨[(0, .d (.rd (s0.map qm9))), (1, .d (.rd (s1.map qm9))), (4, PB false), (5, PI s5)], []⟩
def qrv9 (s0 : List Redex) (s1 : List Redex) : (Bool ⊕ Int) → AExit × St → Prop
  | .inl r, q => XV C [.tmp 4] (PB r) q
  | .inr s5, q => ∃ g, q = (.exit 0, qfN9 s0 s1 s5 g)
theorem qqO9 {s0 : List Redex} {s1 : List Redex} : Sim C 33571891 b16_0 (qhg9 s0 s1) (qfN9 s0 s1) (qrv9 s0 s1) := by
  intro s g r hr
  have ⟨s5, hs0⟩ : ∃ y, y = s := ⟨_, rfl⟩
  subst hs0
  simp only [qhg9] at hr
  rcases iteP hr with ⟨h1, hr⟩ | ⟨h1, hr⟩
  obtain ⟨x1, h2, x2, h3, hr⟩ := bs2 hr
  rcases iteB hr with ⟨h4, hr⟩ | ⟨h4, hr⟩
  obtain rfl := oiA hr
  refine ⟨(), ?_⟩
  rotate_left
  obtain rfl := oiA hr
  refine xv_of ?_
  rotate_left
  obtain rfl := oiA hr
  refine xe_of ⟨(), rfl⟩ ?_
  rotate_left
  all_goals (simp +decide only [go_sem, qfN9, b16_0, *])
theorem qtl9 {a0 : List Redex} {a1 : List Redex} {r : Bool} (hr : qiH9 a0 a1 = some r) : Res C 16 [.rd (a0.map qm9), .rd (a1.map qm9)] (PB r) := by
  simp only [qiH9] at hr
  rcases iteP hr with ⟨h1, hr⟩ | ⟨h1, hr⟩
  obtain ⟨x3, h2, hr⟩ := bsome hr
  obtain ⟨q2, h2L, h2X⟩ := qqO9.L (g := ()) h2
  rcases x3 with x4 | x5
  try dsimp only at hr
  obtain ⟨st2, rfl, h2R⟩ := h2X
  simp only [qfN9, go_sem] at h2L
  obtain rfl := oiA hr
  refine run_V is16 (nbA rfl) ?_
  rotate_left
  try dsimp only at hr
  obtain ⟨⟨⟩, rfl⟩ := h2X
  simp only [qfN9, go_sem] at h2L
  obtain rfl := oiA hr
  refine run_V is16 (nbA rfl) ?_
  rotate_left
  obtain rfl := oiA hr
  refine run_V is16 (nbA rfl) ?_
  rotate_left
  all_goals (simp +decide only [go_sem, c16, *])
def b17_0 : ACode := .seq (.seq (.reg [] [] [.M 11 5, .M 12 0, .T 13 (.len (.tmp 12)), .K 14 (.bin .lss (.tmp 11) (.tmp 13))]) (.cond (.tmp 14) (some 14) (.skip) (.exit 0))) (.seq (.block 1 33570816 (.seq (.reg [] [] [.M 17 0, .M 18 5, ⟨some (19, false), .ix 1 (.tmp 17) (.tmp 18), none, true, false⟩, ⟨some (20, false), .load none (.tmp 19), none, true, false⟩, .M 21 1, .M 22 5, ⟨some (23, false), .ix 1 (.tmp 21) (.tmp 22), none, true, false⟩, ⟨some (24, false), .load none (.tmp 23), none, true, false⟩, .K 25 (.bin .neq (.tmp 20) (.tmp 24))]) (.cond (.tmp 25) (some 25) (.seq (.reg [] [] [.K 4 (.mv (.const (.bool false)))]) (.ret)) (.skip)))) (.reg [] [] [.M 15 5, .T 16 (.bin .add (.tmp 15) (cI 1)), .N 5 16]))
def c17 : ACode := .seq (.reg [] [] [.K 4 (.mv (.const (.bool false)))]) (.seq (.seq (.reg [] [] [.M 6 0, .T 7 (.len (.tmp 6)), .M 8 1, .T 9 (.len (.tmp 8)), .K 10 (.bin .neq (.tmp 7) (.tmp 9))]) (.cond (.tmp 10) (some 10) (.seq (.reg [] [] [.K 4 (.mv (.const (.bool false)))]) (.ret)) (.skip))) (.seq (.seq (.reg [] [] [.K 5 (.mv (cI 0))]) (.block 0 33570816 (.loop b17_0))) (.seq (.reg [] [] [.K 4 (.mv (.const (.bool true)))]) (.ret))))
theorem is17 : IsF C 17 26 33571891 c17 [.tmp 4] := ⟨⟨Tryd.f17, _, C_P ▸ Tryd.func17, rfl, rfl, rfl, by kernel_rfl, rfl⟩⟩
def qdY9 (s0 : List Int) (s1 : List Int) : Int → Unit → St := fun s5 _ => ⟨[(0, .d (.rd (s0.map intD))), (1, .d (.rd (s1.map intD))), (4, PB false), (5, PI s5)], []⟩
def qmQ9 (s0 : List Int) (s1 : List Int) : (Bool ⊕ Int) → AExit × St → Prop
  | .inl r, q => XV C [.tmp 4] (PB r) q
  | .inr s5, q => ∃ g, q = (.exit 0, qdY9 s0 s1 s5 g)
theorem qmJ9 {s0 : List Int} {s1 : List Int} : Sim C 33571891 b17_0 (qfj9 s0 s1) (qdY9 s0 s1) (qmQ9 s0 s1) := by
  intro s g r hr
  have ⟨s5, hs0⟩ : ∃ y, y = s := ⟨_, rfl⟩
  subst hs0
  simp only [qfj9] at hr
  rcases iteP hr with ⟨h1, hr⟩ | ⟨h1, hr⟩
  obtain ⟨x1, h2, x2, h3, hr⟩ := bs2 hr
  rcases iteP hr with ⟨h4, hr⟩ | ⟨h4, hr⟩
  obtain rfl := oiA hr
  refine ⟨(), ?_⟩
  rotate_left
  obtain rfl := oiA hr
  refine xv_of ?_
  rotate_left
  obtain rfl := oiA hr
  refine xe_of ⟨(), rfl⟩ ?_
  rotate_left
  all_goals (simp +decide only [go_sem, qdY9, b17_0, *])
theorem qfT9 {a0 : List Int} {a1 : List Int} {r : Bool} (hr : qdl9 a0 a1 = some r) : Res C 17 [.rd (a0.map intD), .rd (a1.map intD)] (PB r) := by
  simp only [qdl9] at hr
  rcases iteP hr with ⟨h1, hr⟩ | ⟨h1, hr⟩
  obtain ⟨x3, h2, hr⟩ := bsome hr
  obtain ⟨q2, h2L, h2X⟩ := qmJ9.L (g := ()) h2
  rcases x3 with x4 | x5
  try dsimp only at hr
  obtain ⟨st2, rfl, h2R⟩ := h2X
  simp only [qdY9, go_sem] at h2L
  obtain rfl := oiA hr
  refine run_V is17 (nbA rfl) ?_
  rotate_left
  try dsimp only at hr
  obtain ⟨⟨⟩, rfl⟩ := h2X
  simp only [qdY9, go_sem] at h2L
  obtain rfl := oiA hr
  refine run_V is17 (nbA rfl) ?_
  rotate_left
  obtain rfl := oiA hr
  refine run_V is17 (nbA rfl) ?_
  rotate_left
  all_goals (simp +decide only [go_sem, c17, *])
def c13 : ACode := .seq (.reg [] [] [.K 0 (.mv (.const (.bool false)))]) (.seq (.reg [] [] [.T 14 (.call 41 []), .T 15 (.lit 1 [(0, .const (.int .i64 2)), (1, .const (.int .i64 2)), (2, .const (.int .i64 0)), (3, .const (.int .i64 0)), (4, .const (.int .i64 2)), (5, .const (.int .i64 0)), (6, .const (.int .i64 0))]), .T 16 (.call 14 [.tmp 14, .tmp 15]), .N 1 16]) (.seq (.reg [] [] [.T 18 (.call 41 []), .T 19 (.lit 1 [(0, .const (.int .i64 2)), (1, .const (.int .i64 0)), (2, .const (.int .i64 2)), (3, .const (.int .i64 1)), (4, .const (.int .i64 0)), (5, .const (.int .i64 0))]), .T 20 (.call 27 [.tmp 18, .tmp 19]), .M 17 20, .T 21 (.ext (.tmp 17) 0), .T 22 (.ext (.tmp 17) 1), .K 2 (.alloc [.d (.v (.int .i64 0)), .d (.v (.int .i64 0))] 2), ⟨none, .store 2 (.tmp 2) (.tmp 21), none, false, false⟩, .N 3 22]) (.seq (.reg [] [] [.T 24 (.call 41 []), .T 25 (.lit 1 [(0, .const (.int .i64 1)), (1, .const (.int .i64 0))]), .T 26 (.call 27 [.tmp 24, .tmp 25]), .M 23 26, .T 27 (.ext (.tmp 23) 0), .T 28 (.ext (.tmp 23) 1), .T 4 (.alloc [.d (.v (.int .i64 0)), .d (.v (.int .i64 0))] 2), ⟨none, .store 2 (.tmp 4) (.tmp 27), none, false, false⟩, .N 5 28]) (.seq (.reg [] [(6, 0)] [.T 30 (.call 41 []), .T 31 (.lit 1 [(0, .const (.int .i64 2)), (1, .const (.int .i64 1)), (2, .const (.int .i64 0)), (3, .const (.int .i64 0))]), .T 32 (.build [(0, 1), (1, 1)] [.d (.v (.int .i64 0)), .d (.v (.int .i64 0))] [(0, .const (.int .i64 0)), (1, .const (.int .i64 1))]), .T 33 (.call 18 [.tmp 30, .tmp 31, .tmp 32]), .M 29 33, .T 34 (.ext (.tmp 29) 0), .T 35 (.ext (.tmp 29) 1), .N 6 34, .N 7 35]) (.seq (.reg [] [] [.T 37 (.call 41 []), .T 38 (.lit 1 [(0, .const (.int .i64 2)), (1, .const (.int .i64 1)), (2, .const (.int .i64 0)), (3, .const (.int .i64 0))]), .T 39 (.build [(0, 1), (1, 1)] [.d (.v (.int .i64 0)), .d (.v (.int .i64 0))] []), .T 40 (.call 18 [.tmp 37, .tmp 38, .tmp 39]), .M 36 40, .T 41 (.ext (.tmp 36) 0), .T 42 (.ext (.tmp 36) 1), .M 8 41, .N 9 42]) (.seq (.reg [] [] [.T 44 (.call 41 []), .T 45 (.lit 1 [(0, .const (.int .i64 2)), (1, .const (.int .i64 1)), (2, .const (.int .i64 0)), (3, .const (.int .i64 0))]), .T 46 (.build [(0, 1), (1, 1)] [.d (.v (.int .i64 0)), .d (.v (.int .i64 0))] [(0, .const (.int .i64 4)), (1, .const (.int .i64 1))]), .T 47 (.call 18 [.tmp 44, .tmp 45, .tmp 46]), .M 43 47, .T 48 (.ext (.tmp 43) 0), .T 49 (.ext (.tmp 43) 1), .M 10 48, .N 11 49]) (.seq (.reg [] [] [.T 51 (.call 41 []), .T 52 (.lit 1 [(0, .const (.int .i64 2)), (1, .const (.int .i64 1)), (2, .const (.int .i64 0)), (3, .const (.int .i64 0))]), .T 53 (.build [(0, 1), (1, 1)] [.d (.v (.int .i64 0)), .d (.v (.int .i64 0))] [(0, .const (.int .i64 0)), (1, .const (.int .i64 2))]), .T 54 (.call 18 [.tmp 51, .tmp 52, .tmp 53]), .M 50 54, .T 55 (.ext (.tmp 50) 0), .T 56 (.ext (.tmp 50) 1), .M 12 55, .N 13 56]) (.seq (.reg [] [] [.M 57 1, .T 58 (.build [(0, 1), (1, 1)] [.d (.v (.int .i64 0)), .d (.v (.int .i64 0))] [(0, .const (.int .i64 1)), (1, .const (.int .i64 0))]), .T 59 (.build [(0, 1), (1, 1)] [.d (.v (.int .i64 0)), .d (.v (.int .i64 0))] [(0, .const (.int .i64 4)), (1, .const (.int .i64 0))]), .T 60 (.lit 2 [(0, .tmp 58), (1, .tmp 59)]), .T 61 (.call 16 [.tmp 57, .tmp 60]), .M 62 61, .TG 63 62 true (.load (some 2) (.tmp 2)), .TG 64 62 true (.build [(0, 1), (1, 1)] [.d (.v (.int .i64 0)), .d (.v (.int .i64 0))] [(0, .const (.int .i64 2)), (1, .const (.int .i64 1))]), .TG 65 62 true (.raw ({ dst := some 65, op := Go.Op.binOp Go.BinOp.eql 33 (.tmp 63) (.tmp 64) 33, type := 4, pos := "law.go:28", after := #[{ on := 6, ground := Go.Ground.data }, { on := 7, ground := Go.Ground.data }, { on := 5, ground := Go.Ground.guard }], guard := some (5, true) })), .T 66 (.pick (.tmp 62) (.tmp 65) (.const (.bool false))), .M 67 66, .MG 68 67 true 3, .T 69 (.pick (.tmp 67) (.tmp 68) (.const (.bool false))), .M 70 69, .MG 71 70 true 5, .TG 72 70 true (.not (.tmp 71)), .T 73 (.pick (.tmp 70) (.tmp 72) (.const (.bool false))), .M 74 73, .MG 75 74 true 6, .TG 76 74 true (.lit 1 [(0, .const (.int .i64 1)), (1, .const (.int .i64 2)), (2, .const (.int .i64 0)), (3, .const (.int .i64 0))]), .TG 77 74 true (.call 17 [.tmp 75, .tmp 76]), .T 78 (.pick (.tmp 74) (.tmp 77) (.const (.bool false))), .M 79 78, .MG 80 79 true 7, .TG 81 79 true (.bin .eql (.tmp 80) (cI 0)), .T 82 (.pick (.tmp 79) (.tmp 81) (.const (.bool false))), .M 83 82, .MG 84 83 true 9, .TG 85 83 true (.bin .eql (.tmp 84) (cI 80)), .T 86 (.pick (.tmp 83) (.tmp 85) (.const (.bool false))), .M 87 86, .MG 88 87 true 11, .TG 89 87 true (.bin .eql (.tmp 88) (cI 33)), .T 90 (.pick (.tmp 87) (.tmp 89) (.const (.bool false))), .M 91 90, .MG 92 91 true 13, .TG 93 91 true (.bin .eql (.tmp 92) (cI 1)), .T 94 (.pick (.tmp 91) (.tmp 93) (.const (.bool false))), .N 0 94]) (.ret)))))))))
theorem is13 : IsF C 13 95 10991 c13 [.tmp 0] := ⟨⟨Tryd.f13, _, C_P ▸ Tryd.func13, rfl, rfl, rfl, by kernel_rfl, rfl⟩⟩
theorem qqU9  {r : Bool} (hr : qgp9 = some r) : Res C 13 [] (PB r) := by
  simp only [qgp9] at hr
  obtain ⟨x1, h1, x2, h2, x3, h3, x4, h4, hr⟩ := bs4 hr
  have h1k := (qsU9 h1).k rfl rfl rfl
  try simp only [go_sem] at h1k
  have h2k := fun h => (qsY9 h2).o rfl rfl rfl (h := h) (args := [.d (.ag (qf9 x1)), .im true [[PI 2], [PI 2], [PI 0], [PI 0], [PI 2], [PI 0], [PI 0]]]) rfl
  try simp only [go_sem] at h2k
  have h3k := fun h => (qkv9 h3).o rfl rfl rfl (h := h) (args := [.d (.ag (qf9 x1)), .im true [[PI 2], [PI 0], [PI 2], [PI 1], [PI 0], [PI 0]]]) rfl
  try simp only [go_sem] at h3k
  have h4k := fun h => (qkv9 h4).o rfl rfl rfl (h := h) (args := [.d (.ag (qf9 x1)), .im true [[PI 1], [PI 0]]]) rfl
  try simp only [go_sem] at h4k
  obtain ⟨x5, h5, x9, h6, x13, h7, x17, h8, hr⟩ := bs4 hr
  obtain ⟨z6, z7, z8, h5k⟩ := qgr9 (g1 := (.row false 0 2 [[PI x3.1.At, PI x3.1.Rule]] :: (.row false 0 2 [[PI x4.1.At, PI x4.1.Rule]] :: []))) h5
  replace h5k := h5k (.row false 0 2 [[PI x3.1.At, PI x3.1.Rule]] :: (.row false 0 2 [[PI x4.1.At, PI x4.1.Rule]] :: [])) [.d (.ag (qf9 x1)), .im true [[PI 2], [PI 1], [PI 0], [PI 0]], .ag [PI 0, PI 1]] rfl rfl
  try simp only [go_sem] at h5k
  obtain ⟨z10, z11, z12, h6k⟩ := qgr9 (g1 := (.row false 0 2 [[PI x3.1.At, PI x3.1.Rule]] :: (.row false 0 2 [[PI x4.1.At, PI x4.1.Rule]] :: (z6 ++ (.row true z7 1 (rowP intD x5.1) :: z8))))) h6
  replace h6k := h6k (.row false 0 2 [[PI x3.1.At, PI x3.1.Rule]] :: (.row false 0 2 [[PI x4.1.At, PI x4.1.Rule]] :: (z6 ++ (.row true z7 1 (rowP intD x5.1) :: z8)))) [.d (.ag (qf9 x1)), .im true [[PI 2], [PI 1], [PI 0], [PI 0]], .ag [PI 0, PI 0]] rfl rfl
  try simp only [go_sem] at h6k
  obtain ⟨z14, z15, z16, h7k⟩ := qgr9 (g1 := (.row false 0 2 [[PI x3.1.At, PI x3.1.Rule]] :: (.row false 0 2 [[PI x4.1.At, PI x4.1.Rule]] :: (z6 ++ (.row true z7 1 (rowP intD x5.1) :: (z8 ++ (z10 ++ (.row false z11 1 (rowP intD x9.1) :: z12)))))))) h7
  replace h7k := h7k (.row false 0 2 [[PI x3.1.At, PI x3.1.Rule]] :: (.row false 0 2 [[PI x4.1.At, PI x4.1.Rule]] :: (z6 ++ (.row true z7 1 (rowP intD x5.1) :: (z8 ++ (z10 ++ (.row false z11 1 (rowP intD x9.1) :: z12))))))) [.d (.ag (qf9 x1)), .im true [[PI 2], [PI 1], [PI 0], [PI 0]], .ag [PI 4, PI 1]] rfl rfl
  try simp only [go_sem] at h7k
  obtain ⟨z18, z19, z20, h8k⟩ := qgr9 (g1 := (.row false 0 2 [[PI x3.1.At, PI x3.1.Rule]] :: (.row false 0 2 [[PI x4.1.At, PI x4.1.Rule]] :: (z6 ++ (.row true z7 1 (rowP intD x5.1) :: (z8 ++ (z10 ++ (.row false z11 1 (rowP intD x9.1) :: (z12 ++ (z14 ++ (.row false z15 1 (rowP intD x13.1) :: z16))))))))))) h8
  replace h8k := h8k (.row false 0 2 [[PI x3.1.At, PI x3.1.Rule]] :: (.row false 0 2 [[PI x4.1.At, PI x4.1.Rule]] :: (z6 ++ (.row true z7 1 (rowP intD x5.1) :: (z8 ++ (z10 ++ (.row false z11 1 (rowP intD x9.1) :: (z12 ++ (z14 ++ (.row false z15 1 (rowP intD x13.1) :: z16)))))))))) [.d (.ag (qf9 x1)), .im true [[PI 2], [PI 1], [PI 0], [PI 0]], .ag [PI 0, PI 2]] rfl rfl
  try simp only [go_sem] at h8k
  obtain ⟨x21, h9, hr⟩ := bsome hr
  have h9k := fun h => (qtl9 h9).o rfl rfl rfl (h := h) (args := [.d (.rd (x2.map qm9)), .im true [[PI 1, PI 0], [PI 4, PI 0]]]) rfl
  try simp only [go_sem] at h9k
  rcases iteB hr with ⟨h10, hr⟩ | ⟨h10, hr⟩
  rcases iteB hr with ⟨h11, hr⟩ | ⟨h11, hr⟩
  rcases iteB hr with ⟨h12, hr⟩ | ⟨h12, hr⟩
  rcases iteB hr with ⟨h13, hr⟩ | ⟨h13, hr⟩
  obtain rfl := oiA hr
  refine run_V is13 (nbA rfl) ?_
  rotate_left
  obtain ⟨x22, h14, hr⟩ := bsome hr
  have h14k := fun h => (qfT9 h14).o rfl rfl rfl (h := h) (args := [.d (.rd (x5.1.map intD)), .im true [[PI 1], [PI 2], [PI 0], [PI 0]]]) rfl
  try simp only [go_sem] at h14k
  rcases iteB hr with ⟨h15, hr⟩ | ⟨h15, hr⟩
  rcases iteP hr with ⟨h16, hr⟩ | ⟨h16, hr⟩
  rcases iteP hr with ⟨h17, hr⟩ | ⟨h17, hr⟩
  rcases iteP hr with ⟨h18, hr⟩ | ⟨h18, hr⟩
  obtain rfl := oiA hr
  refine run_V is13 (nbA rfl) ?_
  rotate_left
  obtain rfl := oiA hr
  refine run_V is13 (nbA rfl) ?_
  rotate_left
  obtain rfl := oiA hr
  refine run_V is13 (nbA rfl) ?_
  rotate_left
  obtain rfl := oiA hr
  refine run_V is13 (nbA rfl) ?_
  rotate_left
  obtain rfl := oiA hr
  refine run_V is13 (nbA rfl) ?_
  rotate_left
  obtain rfl := oiA hr
  refine run_V is13 (nbA rfl) ?_
  rotate_left
  obtain rfl := oiA hr
  refine run_V is13 (nbA rfl) ?_
  rotate_left
  obtain rfl := oiA hr
  refine run_V is13 (nbA rfl) ?_
  rotate_left
  all_goals (simp +decide only [go_sem, c13, *])
def qoT9 : ACode := .seq (.reg [] [] [.K 8 (.nxt (.tmp 7) true), .K 9 (.ext (.tmp 8) 0)]) (.seq (.cond (.tmp 9) (some 9) (.skip) (.exit 0)) (.block 1 800 (.seq (.reg [] [] [.T 10 (.ext (.tmp 8) 2), .N 5 10]) (.reg [] [] [.M 11 3, .M 12 5, .T 13 (.toStr (.tmp 12)), .T 14 (.bin .add (.tmp 11) (.tmp 13)), .N 3 14]))))
def c110 : ACode := .seq (.reg [] [] [.K 2 (.mv (.const (.bool false)))]) (.seq (.reg [] [] [.K 3 (.mv (.const (.string { data := #[] })))]) (.seq (.seq (.reg [] [] [.M 6 0, .K 7 (.rng (.tmp 6))]) (.block 0 800 (.loop qoT9))) (.seq (.reg [] [] [.M 15 3, .M 16 0, .T 17 (.bin .eql (.tmp 15) (.tmp 16)), .N 2 17]) (.ret))))
theorem is110 : IsF C 110 18 941 c110 [.tmp 2] := ⟨⟨Tryd.f110, _, C_P ▸ Tryd.func110, rfl, rfl, rfl, by kernel_rfl, rfl⟩⟩
def qje9 (s0 : ByteArray) (t7 : ByteArray) : ByteArray × Nat → Unit → St := fun (s3, q7) _ => ⟨[(0, .d (.v (.string s0))), (2, PB false), (3, .d (.v (.string s3))), (7, .it 0)], (.siter t7 q7 :: [])⟩
def qrz9 (s0 : ByteArray) (t7 : ByteArray) : (ByteArray × Nat) → AExit × St → Prop := fun (s3, q7) q => ∃ d8 : PV, q = (.exit 0, ⟨[(0, .d (.v (.string s0))), (2, PB false), (3, .d (.v (.string s3))), (7, .it 0), (8, d8)], (.siter t7 q7 :: [])⟩)
theorem qru9 {s0 : ByteArray} {t7 : ByteArray} : Sim C 941 qoT9 (qdm9 s0 t7) (qje9 s0 t7) (qrz9 s0 t7) := by
  intro s g r hr
  obtain ⟨s3, q7⟩ := s
  simp only [qdm9] at hr
  rcases iteP hr with ⟨h1, hr⟩ | ⟨h1, hr⟩
  obtain ⟨h2, hr⟩ := gsome hr
  obtain rfl := oiA hr
  refine ⟨(), ?_⟩
  rotate_left
  obtain rfl := oiA hr
  refine xe_of ⟨.tp [PB false], rfl⟩ ?_
  rotate_left
  all_goals (simp +decide only [go_sem, qje9, qoT9, *])
theorem qtj9 {a0 : ByteArray} {r : Bool} (hr : qiv9 a0 = some r) : Res C 110 [.v (.string a0)] (PB r) := by
  simp only [qiv9] at hr
  obtain ⟨x1, h1, hr⟩ := bsome hr
  obtain ⟨q1, h1L, h1X⟩ := qru9.L (g := ()) h1
  obtain ⟨x2, x3⟩ := x1
  try dsimp only at hr
  obtain ⟨z4, rfl⟩ := h1X
  simp only [qje9, go_sem] at h1L
  obtain rfl := oiA hr
  refine run_V is110 (nbA rfl) ?_
  rotate_left
  all_goals (simp +decide only [go_sem, c110, *])
def c111 : ACode := .seq (.reg [] [] [.K 2 (.mv (.const (.bool false)))]) (.seq (.reg [] [] [.M 3 0, .T 4 (.bin .geq (.tmp 3) (.const (.int .i32 97))), .M 5 4, .MG 6 5 true 0, .TG 7 5 true (.bin .leq (.tmp 6) (.const (.int .i32 122))), .T 8 (.pick (.tmp 5) (.tmp 7) (.const (.bool false))), .M 9 8, .MG 10 9 false 0, .TG 11 9 false (.bin .geq (.tmp 10) (.const (.int .i32 65))), .MG 12 9 false 11, .MG 13 12 true 0, .TG 14 12 true (.bin .leq (.tmp 13) (.const (.int .i32 90))), .TG 15 9 false (.pick (.tmp 12) (.tmp 14) (.const (.bool false))), .T 16 (.pick (.tmp 9) (.const (.bool true)) (.tmp 15)), .M 17 16, .MG 18 17 false 0, .TG 19 17 false (.bin .geq (.tmp 18) (.const (.int .i32 128))), .T 20 (.pick (.tmp 17) (.const (.bool true)) (.tmp 19)), .N 2 20]) (.ret))
theorem is111 : IsF C 111 21 5 c111 [.tmp 2] := ⟨⟨Tryd.f111, _, C_P ▸ Tryd.func111, rfl, rfl, rfl, by kernel_rfl, rfl⟩⟩
theorem qky9 {a0 : Int} {r : Bool} (hr : qgy9 a0 = some r) : Res C 111 [.v (.int .i32 a0)] (PB r) := by
  simp only [qgy9] at hr
  rcases iteP hr with ⟨h1, hr⟩ | ⟨h1, hr⟩
  rcases iteP hr with ⟨h2, hr⟩ | ⟨h2, hr⟩
  obtain rfl := oiA hr
  refine run_V is111 (nbA rfl) ?_
  rotate_left
  rcases iteP hr with ⟨h3, hr⟩ | ⟨h3, hr⟩
  rcases iteP hr with ⟨h4, hr⟩ | ⟨h4, hr⟩
  obtain rfl := oiA hr
  refine run_V is111 (nbA rfl) ?_
  rotate_left
  obtain rfl := oiA hr
  refine run_V is111 (nbA rfl) ?_
  rotate_left
  obtain rfl := oiA hr
  refine run_V is111 (nbA rfl) ?_
  rotate_left
  rcases iteP hr with ⟨h5, hr⟩ | ⟨h5, hr⟩
  rcases iteP hr with ⟨h6, hr⟩ | ⟨h6, hr⟩
  obtain rfl := oiA hr
  refine run_V is111 (nbA rfl) ?_
  rotate_left
  obtain rfl := oiA hr
  refine run_V is111 (nbA rfl) ?_
  rotate_left
  obtain rfl := oiA hr
  refine run_V is111 (nbA rfl) ?_
  rotate_left
  all_goals (simp +decide only [go_sem, c111, *])
def c112 : ACode := .seq (.reg [] [] [.K 2 (.mv (.const (.bool false)))]) (.seq (.reg [] [] [.M 3 0, .T 4 (.call 111 [.tmp 3]), .M 5 4, .MG 6 5 false 0, .TG 7 5 false (.bin .geq (.tmp 6) (.const (.int .i32 48))), .MG 8 5 false 7, .MG 9 8 true 0, .TG 10 8 true (.bin .leq (.tmp 9) (.const (.int .i32 57))), .TG 11 5 false (.pick (.tmp 8) (.tmp 10) (.const (.bool false))), .T 12 (.pick (.tmp 5) (.const (.bool true)) (.tmp 11)), .M 13 12, .MG 14 13 false 0, .TG 15 13 false (.bin .eql (.tmp 14) (.const (.int .i32 95))), .T 16 (.pick (.tmp 13) (.const (.bool true)) (.tmp 15)), .M 17 16, .MG 18 17 false 0, .TG 19 17 false (.bin .eql (.tmp 18) (.const (.int .i32 39))), .T 20 (.pick (.tmp 17) (.const (.bool true)) (.tmp 19)), .N 2 20]) (.ret))
theorem is112 : IsF C 112 21 5 c112 [.tmp 2] := ⟨⟨Tryd.f112, _, C_P ▸ Tryd.func112, rfl, rfl, rfl, by kernel_rfl, rfl⟩⟩
theorem qlV9 {a0 : Int} {r : Bool} (hr : qiA9 a0 = some r) : Res C 112 [.v (.int .i32 a0)] (PB r) := by
  simp only [qiA9] at hr
  obtain ⟨x1, h1, hr⟩ := bsome hr
  have h1k := (qky9 h1).k rfl rfl rfl
  try simp only [go_sem] at h1k
  rcases iteB hr with ⟨h2, hr⟩ | ⟨h2, hr⟩
  obtain rfl := oiA hr
  refine run_V is112 (nbA rfl) ?_
  rotate_left
  rcases iteP hr with ⟨h3, hr⟩ | ⟨h3, hr⟩
  rcases iteP hr with ⟨h4, hr⟩ | ⟨h4, hr⟩
  obtain rfl := oiA hr
  refine run_V is112 (nbA rfl) ?_
  rotate_left
  rcases iteP hr with ⟨h5, hr⟩ | ⟨h5, hr⟩
  obtain rfl := oiA hr
  refine run_V is112 (nbA rfl) ?_
  rotate_left
  obtain rfl := oiA hr
  refine run_V is112 (nbA rfl) ?_
  rotate_left
  rcases iteP hr with ⟨h6, hr⟩ | ⟨h6, hr⟩
  obtain rfl := oiA hr
  refine run_V is112 (nbA rfl) ?_
  rotate_left
  obtain rfl := oiA hr
  refine run_V is112 (nbA rfl) ?_
  rotate_left
  all_goals (simp +decide only [go_sem, c112, *])
def b89_0 : ACode := .seq (.reg [] [] [.K 19 (.nxt (.tmp 18) true), .K 20 (.ext (.tmp 19) 0)]) (.seq (.cond (.tmp 20) (some 20) (.skip) (.exit 0)) (.block 1 17181442072 (.seq (.reg [] [] [.T 21 (.ext (.tmp 19) 1), .T 22 (.ext (.tmp 19) 2), .N 3 21, .N 4 22]) (.seq (.reg [] [] [.M 23 3, .T 24 (.bin .eql (.tmp 23) (cI 0)), .M 25 24, .MG 26 25 true 4, .TG 27 25 true (.call 111 [.tmp 26]), .TG 28 25 true (.not (.tmp 27)), .T 29 (.pick (.tmp 25) (.tmp 28) (.const (.bool false))), .M 30 29, .MG 31 30 false 4, .TG 32 30 false (.call 112 [.tmp 31]), .TG 33 30 false (.not (.tmp 32)), .K 34 (.pick (.tmp 30) (.const (.bool true)) (.tmp 33))]) (.cond (.tmp 34) (some 34) (.seq (.reg [] [] [.K 2 (.mv (.const (.bool false)))]) (.ret)) (.skip))))))
def c89 : ACode := .seq (.reg [] [] [.K 2 (.mv (.const (.bool false)))]) (.seq (.seq (.reg [] [] [.M 5 0, .T 6 (.bin .eql (.tmp 5) (.const (.string { data := #[] }))), .M 7 6, .MG 8 7 false 0, .TG 9 7 false (.slen (.tmp 8)), .TG 10 7 false (.bin .gtr (.tmp 9) (cI 32)), .T 11 (.pick (.tmp 7) (.const (.bool true)) (.tmp 10)), .M 12 11, .MG 13 12 false 0, .TG 14 12 false (.call 110 [.tmp 13]), .TG 15 12 false (.not (.tmp 14)), .K 16 (.pick (.tmp 12) (.const (.bool true)) (.tmp 15))]) (.cond (.tmp 16) (some 16) (.seq (.reg [] [] [.K 2 (.mv (.const (.bool false)))]) (.ret)) (.skip))) (.seq (.seq (.reg [] [] [.M 17 0, .K 18 (.rng (.tmp 17))]) (.block 0 17181442072 (.loop b89_0))) (.seq (.reg [] [] [.K 2 (.mv (.const (.bool true)))]) (.ret))))
theorem is89 : IsF C 89 35 17181769757 c89 [.tmp 2] := ⟨⟨Tryd.f89, _, C_P ▸ Tryd.func89, rfl, rfl, rfl, by kernel_rfl, rfl⟩⟩
def qhm9 (s0 : ByteArray) (t18 : ByteArray) : Nat → Unit → St := fun q18 _ => ⟨[(0, .d (.v (.string s0))), (2, PB false), (18, .it 0)], (.siter t18 q18 :: [])⟩
def qrt9 (s0 : ByteArray) (t18 : ByteArray) : (Bool ⊕ Nat) → AExit × St → Prop
  | .inl r, q => XV C [.tmp 2] (PB r) q
  | .inr q18, q => ∃ d19 : PV, q = (.exit 0, ⟨[(0, .d (.v (.string s0))), (2, PB false), (18, .it 0), (19, d19)], (.siter t18 q18 :: [])⟩)
theorem qqy9 {s0 : ByteArray} {t18 : ByteArray} : Sim C 17181769757 b89_0 (qfr9 s0 t18) (qhm9 s0 t18) (qrt9 s0 t18) := by
  intro s g r hr
  have ⟨q18, hs0⟩ : ∃ y, y = s := ⟨_, rfl⟩
  subst hs0
  simp only [qfr9] at hr
  rcases iteP hr with ⟨h1, hr⟩ | ⟨h1, hr⟩
  rcases iteP hr with ⟨h2, hr⟩ | ⟨h2, hr⟩
  obtain ⟨x2, h3, hr⟩ := bsome hr
  have h3k := (qky9 h3).k rfl rfl rfl
  try simp only [go_sem] at h3k
  rcases iteB hr with ⟨h4, hr⟩ | ⟨h4, hr⟩
  obtain ⟨x3, h5, hr⟩ := bsome hr
  have h5k := (qlV9 h5).k rfl rfl rfl
  try simp only [go_sem] at h5k
  rcases iteB hr with ⟨h6, hr⟩ | ⟨h6, hr⟩
  obtain rfl := oiA hr
  refine ⟨(), ?_⟩
  rotate_left
  obtain rfl := oiA hr
  refine xv_of ?_
  rotate_left
  obtain rfl := oiA hr
  refine xv_of ?_
  rotate_left
  obtain ⟨x4, h7, hr⟩ := bsome hr
  have h7k := (qlV9 h7).k rfl rfl rfl
  try simp only [go_sem] at h7k
  rcases iteB hr with ⟨h8, hr⟩ | ⟨h8, hr⟩
  obtain rfl := oiA hr
  refine ⟨(), ?_⟩
  rotate_left
  obtain rfl := oiA hr
  refine xv_of ?_
  rotate_left
  obtain rfl := oiA hr
  refine xe_of ⟨.tp [PB false], rfl⟩ ?_
  rotate_left
  all_goals (simp +decide only [go_sem, qhm9, b89_0, *])
theorem qlA9 {a0 : ByteArray} {r : Bool} (hr : qgQ9 a0 = some r) : Res C 89 [.v (.string a0)] (PB r) := by
  simp only [qgQ9] at hr
  rcases iteP hr with ⟨h1, hr⟩ | ⟨h1, hr⟩
  obtain rfl := oiA hr
  refine run_V is89 (nbA rfl) ?_
  rotate_left
  rcases iteP hr with ⟨h2, hr⟩ | ⟨h2, hr⟩
  obtain rfl := oiA hr
  refine run_V is89 (nbA rfl) ?_
  rotate_left
  obtain ⟨x1, h3, hr⟩ := bsome hr
  have h3k := (qtj9 h3).k rfl rfl rfl
  try simp only [go_sem] at h3k
  rcases iteB hr with ⟨h4, hr⟩ | ⟨h4, hr⟩
  obtain ⟨x5, h5, hr⟩ := bsome hr
  obtain ⟨q5, h5L, h5X⟩ := qqy9.L (g := ()) h5
  rcases x5 with x6 | x7
  try dsimp only at hr
  obtain ⟨st5, rfl, h5R⟩ := h5X
  simp only [qhm9, go_sem] at h5L
  obtain rfl := oiA hr
  refine run_V is89 (nbA rfl) ?_
  rotate_left
  try dsimp only at hr
  obtain ⟨z8, rfl⟩ := h5X
  simp only [qhm9, go_sem] at h5L
  obtain rfl := oiA hr
  refine run_V is89 (nbA rfl) ?_
  rotate_left
  obtain rfl := oiA hr
  refine run_V is89 (nbA rfl) ?_
  rotate_left
  all_goals (simp +decide only [go_sem, c89, *])
def c90 : ACode := .seq (.reg [] [] [.K 2 (.mv (.const (.bool false)))]) (.seq (.reg [] [] [.M 3 0, .T 4 (.slen (.tmp 3)), .T 5 (.bin .gtr (.tmp 4) (cI 0)), .M 6 5, .MG 7 6 true 0, .MG 8 6 true 0, .TG 9 6 true (.slen (.tmp 8)), .TG 10 6 true (.bin .sub (.tmp 9) (cI 1)), .TG 11 6 true (.ixS (.tmp 7) (.tmp 10)), .TG 12 6 true (.bin .eql (.tmp 11) (.const (.int .u8 35))), .T 13 (.pick (.tmp 6) (.tmp 12) (.const (.bool false))), .M 14 13, .MG 15 14 true 0, .MG 16 14 true 0, .TG 17 14 true (.slen (.tmp 16)), .TG 18 14 true (.bin .sub (.tmp 17) (cI 1)), .TG 19 14 true (.cutS (.tmp 15) none (some (.tmp 18))), .TG 20 14 true (.call 89 [.tmp 19]), .T 21 (.pick (.tmp 14) (.tmp 20) (.const (.bool false))), .N 2 21]) (.ret))
theorem is90 : IsF C 90 22 5 c90 [.tmp 2] := ⟨⟨Tryd.f90, _, C_P ▸ Tryd.func90, rfl, rfl, rfl, by kernel_rfl, rfl⟩⟩
theorem qkq9 {a0 : ByteArray} {r : Bool} (hr : qdh9 a0 = some r) : Res C 90 [.v (.string a0)] (PB r) := by
  simp only [qdh9] at hr
  rcases iteP hr with ⟨h1, hr⟩ | ⟨h1, hr⟩
  obtain ⟨x1, h2, hr⟩ := bsome hr
  rcases iteP hr with ⟨h3, hr⟩ | ⟨h3, hr⟩
  obtain ⟨x2, h4, x3, h5, hr⟩ := bs2 hr
  have h5k := (qlA9 h5).k rfl rfl rfl
  try simp only [go_sem] at h5k
  obtain rfl := oiA hr
  refine run_V is90 (nbA rfl) ?_
  rotate_left
  obtain rfl := oiA hr
  refine run_V is90 (nbA rfl) ?_
  rotate_left
  obtain rfl := oiA hr
  refine run_V is90 (nbA rfl) ?_
  rotate_left
  all_goals (simp +decide only [go_sem, c90, *])
def b55_1 : ACode := .seq (.seq (.reg [] [] [.M 44 4, .M 45 3, .K 46 (.bin .lss (.tmp 44) (.tmp 45))]) (.cond (.tmp 46) (some 46) (.skip) (.exit 2))) (.seq (.block 3 576531121047601152 (.seq (.reg [] [] [.M 49 0, .M 50 4, ⟨some (51, false), .ix 2 (.tmp 49) (.tmp 50), none, true, false⟩, .T 52 (.fa 0 (.tmp 51)), ⟨some (53, false), .load none (.tmp 52), none, true, false⟩, .M 54 0, .M 55 3, ⟨some (56, false), .ix 2 (.tmp 54) (.tmp 55), none, true, false⟩, .T 57 (.fa 0 (.tmp 56)), ⟨some (58, false), .load none (.tmp 57), none, true, false⟩, .K 59 (.bin .eql (.tmp 53) (.tmp 58))]) (.cond (.tmp 59) (some 59) (.seq (.reg [] [] [.K 2 (.mv (cI 36))]) (.ret)) (.skip)))) (.reg [] [] [.M 47 4, .T 48 (.bin .add (.tmp 47) (cI 1)), .N 4 48]))
def b55_0 : ACode := .seq (.seq (.reg [] [] [.M 8 3, .M 9 0, .T 10 (.len (.tmp 9)), .K 11 (.bin .lss (.tmp 8) (.tmp 10))]) (.cond (.tmp 11) (some 11) (.skip) (.exit 0))) (.seq (.block 1 576539917677496336 (.seq (.seq (.reg [] [] [.M 14 0, .M 15 3, .T 16 (.ix 2 (.tmp 14) (.tmp 15)), .T 17 (.fa 0 (.tmp 16)), .T 18 (.load none (.tmp 17)), .T 19 (.call 89 [.tmp 18]), .T 20 (.not (.tmp 19)), .M 21 20, .MG 22 21 true 0, .MG 23 21 true 3, .TG 24 21 true (.ix 2 (.tmp 22) (.tmp 23)), .TG 25 21 true (.fa 0 (.tmp 24)), .TG 26 21 true (.load none (.tmp 25)), .TG 27 21 true (.call 90 [.tmp 26]), .TG 28 21 true (.not (.tmp 27)), .K 29 (.pick (.tmp 21) (.tmp 28) (.const (.bool false)))]) (.cond (.tmp 29) (some 29) (.seq (.reg [] [] [.K 2 (.mv (cI 34))]) (.ret)) (.skip))) (.seq (.seq (.reg [] [] [.M 30 0, .M 31 3, .T 32 (.ix 2 (.tmp 30) (.tmp 31)), .T 33 (.fa 1 (.tmp 32)), .T 34 (.load none (.tmp 33)), .T 35 (.bin .lss (.tmp 34) (cI 0)), .M 36 35, .MG 37 36 false 0, .MG 38 36 false 3, .TG 39 36 false (.ix 2 (.tmp 37) (.tmp 38)), .TG 40 36 false (.fa 1 (.tmp 39)), .TG 41 36 false (.load none (.tmp 40)), .TG 42 36 false (.bin .gtr (.tmp 41) (cI 8)), .K 43 (.pick (.tmp 36) (.const (.bool true)) (.tmp 42))]) (.cond (.tmp 43) (some 43) (.seq (.reg [] [] [.K 2 (.mv (cI 35))]) (.ret)) (.skip))) (.seq (.reg [] [] [.K 4 (.mv (cI 0))]) (.block 2 576539917677496336 (.loop b55_1)))))) (.reg [] [] [.M 12 3, .T 13 (.bin .add (.tmp 12) (cI 1)), .N 3 13]))
def c55 : ACode := .seq (.reg [] [] [.K 2 (.mv (cI 0))]) (.seq (.seq (.reg [] [] [.M 5 0, .T 6 (.len (.tmp 5)), .K 7 (.bin .gtr (.tmp 6) (cI 128))]) (.cond (.tmp 7) (some 7) (.seq (.reg [] [] [.K 2 (.mv (cI 37))]) (.ret)) (.skip))) (.seq (.seq (.reg [] [] [.K 3 (.mv (cI 0))]) (.block 0 576539917677496336 (.loop b55_0))) (.seq (.reg [] [] [.K 2 (.mv (cI 0))]) (.ret))))
theorem is55 : IsF C 55 60 576539917677496477 c55 [.tmp 2] := ⟨⟨Tryd.f55, _, C_P ▸ Tryd.func55, rfl, rfl, rfl, by kernel_rfl, rfl⟩⟩
def qcZ9 (s0 : List Symbol) (s3 : Int) : Int → Unit → St := fun s4 _ => ⟨[(0, .d (.rd (s0.map qb9))), (2, PI 0), (3, PI s3), (4, PI s4)], []⟩
def qlN9 (s0 : List Symbol) (s3 : Int) : (Int ⊕ Unit) → AExit × St → Prop
  | .inl r, q => XV C [.tmp 2] (PI r) q
  | .inr _, q => ∃ d4 : PV, q = (.exit 2, ⟨[(0, .d (.rd (s0.map qb9))), (2, PI 0), (3, PI s3), (4, d4)], []⟩)
theorem qiL9 {s0 : List Symbol} {s3 : Int} : Sim C 576539917677496477 b55_1 (qbV9 s0 s3) (qcZ9 s0 s3) (qlN9 s0 s3) := by
  intro s g r hr
  have ⟨s4, hs0⟩ : ∃ y, y = s := ⟨_, rfl⟩
  subst hs0
  simp only [qbV9] at hr
  rcases iteP hr with ⟨h1, hr⟩ | ⟨h1, hr⟩
  obtain ⟨x9, h2, x10, h3, hr⟩ := bs2 hr
  rcases iteP hr with ⟨h4, hr⟩ | ⟨h4, hr⟩
  obtain rfl := oiA hr
  refine xv_of ?_
  rotate_left
  obtain rfl := oiA hr
  refine ⟨(), ?_⟩
  rotate_left
  obtain rfl := oiA hr
  refine xe_of ⟨PI s4, rfl⟩ ?_
  rotate_left
  all_goals (simp +decide only [go_sem, qcZ9, b55_1, *])
def qdM9 (s0 : List Symbol) : Int → Unit → St := fun s3 _ => ⟨[(0, .d (.rd (s0.map qb9))), (2, PI 0), (3, PI s3)], []⟩
def qlO9 (s0 : List Symbol) : (Int ⊕ Int) → AExit × St → Prop
  | .inl r, q => XV C [.tmp 2] (PI r) q
  | .inr s3, q => ∃ g, q = (.exit 0, qdM9 s0 s3 g)
theorem qlI9 {s0 : List Symbol} : Sim C 576539917677496477 b55_0 (qbT9 s0) (qdM9 s0) (qlO9 s0) := by
  intro s g r hr
  have ⟨s3, hs0⟩ : ∃ y, y = s := ⟨_, rfl⟩
  subst hs0
  simp only [qbT9] at hr
  rcases iteP hr with ⟨h1, hr⟩ | ⟨h1, hr⟩
  obtain ⟨x1, h2, x2, h3, hr⟩ := bs2 hr
  have h3k := (qlA9 h3).k rfl rfl rfl
  try simp only [go_sem] at h3k
  rcases iteB hr with ⟨h4, hr⟩ | ⟨h4, hr⟩
  rcases iteP hr with ⟨h5, hr⟩ | ⟨h5, hr⟩
  obtain rfl := oiA hr
  refine xv_of ?_
  rotate_left
  rcases iteP hr with ⟨h6, hr⟩ | ⟨h6, hr⟩
  obtain rfl := oiA hr
  refine xv_of ?_
  rotate_left
  obtain ⟨x5, h7, hr⟩ := bsome hr
  obtain ⟨q7, h7L, h7X⟩ := qiL9.L (g := ()) h7
  rcases x5 with x6 | ⟨⟩
  try dsimp only at hr
  obtain ⟨st7, rfl, h7R⟩ := h7X
  simp only [qcZ9, go_sem] at h7L
  obtain rfl := oiA hr
  refine xv_of ?_
  rotate_left
  try dsimp only at hr
  obtain ⟨z7, rfl⟩ := h7X
  simp only [qcZ9, go_sem] at h7L
  obtain rfl := oiA hr
  refine ⟨(), ?_⟩
  rotate_left
  obtain ⟨x8, h8, hr⟩ := bsome hr
  have h8k := (qkq9 h8).k rfl rfl rfl
  try simp only [go_sem] at h8k
  rcases iteB hr with ⟨h9, hr⟩ | ⟨h9, hr⟩
  rcases iteP hr with ⟨h10, hr⟩ | ⟨h10, hr⟩
  obtain rfl := oiA hr
  refine xv_of ?_
  rotate_left
  rcases iteP hr with ⟨h11, hr⟩ | ⟨h11, hr⟩
  obtain rfl := oiA hr
  refine xv_of ?_
  rotate_left
  obtain ⟨x11, h12, hr⟩ := bsome hr
  obtain ⟨q12, h12L, h12X⟩ := qiL9.L (g := ()) h12
  rcases x11 with x12 | ⟨⟩
  try dsimp only at hr
  obtain ⟨st12, rfl, h12R⟩ := h12X
  simp only [qcZ9, go_sem] at h12L
  obtain rfl := oiA hr
  refine xv_of ?_
  rotate_left
  try dsimp only at hr
  obtain ⟨z13, rfl⟩ := h12X
  simp only [qcZ9, go_sem] at h12L
  obtain rfl := oiA hr
  refine ⟨(), ?_⟩
  rotate_left
  obtain rfl := oiA hr
  refine xv_of ?_
  rotate_left
  obtain rfl := oiA hr
  refine xe_of ⟨(), rfl⟩ ?_
  rotate_left
  all_goals (simp +decide only [go_sem, qdM9, b55_0, *])
theorem qmr9 {a0 : List Symbol} {r : Int} (hr : qed9 a0 = some r) : Res C 55 [.rd (a0.map qb9)] (PI r) := by
  simp only [qed9] at hr
  rcases iteP hr with ⟨h1, hr⟩ | ⟨h1, hr⟩
  obtain rfl := oiA hr
  refine run_V is55 (nbA rfl) ?_
  rotate_left
  obtain ⟨x14, h2, hr⟩ := bsome hr
  obtain ⟨q2, h2L, h2X⟩ := qlI9.L (g := ()) h2
  rcases x14 with x15 | x16
  try dsimp only at hr
  obtain ⟨st2, rfl, h2R⟩ := h2X
  simp only [qdM9, go_sem] at h2L
  obtain rfl := oiA hr
  refine run_V is55 (nbA rfl) ?_
  rotate_left
  try dsimp only at hr
  obtain ⟨⟨⟩, rfl⟩ := h2X
  simp only [qdM9, go_sem] at h2L
  obtain rfl := oiA hr
  refine run_V is55 (nbA rfl) ?_
  rotate_left
  all_goals (simp +decide only [go_sem, c55, *])
def b87_0 : ACode := .seq (.seq (.reg [] [] [.M 13 4, .M 14 0, .T 15 (.len (.tmp 14)), .K 16 (.bin .lss (.tmp 13) (.tmp 15))]) (.cond (.tmp 16) (some 16) (.skip) (.exit 0))) (.seq (.block 1 16842752 (.seq (.reg [] [] [.M 19 0, .M 20 4, .T 21 (.ix 2 (.tmp 19) (.tmp 20)), .T 22 (.fa 0 (.tmp 21)), .T 23 (.load none (.tmp 22)), .K 24 (.call 90 [.tmp 23])]) (.cond (.tmp 24) (some 24) (.seq (.reg [] [] [.K 2 (.mv (cI 34))]) (.ret)) (.skip)))) (.reg [] [] [.M 17 4, .T 18 (.bin .add (.tmp 17) (cI 1)), .N 4 18]))
def c87 : ACode := .seq (.reg [] [] [.K 2 (.mv (cI 0))]) (.seq (.reg [] [] [.M 5 0, .T 6 (.call 55 [.tmp 5]), .N 3 6]) (.seq (.seq (.reg [] [] [.M 7 3, .K 8 (.bin .neq (.tmp 7) (cI 0))]) (.cond (.tmp 8) (some 8) (.seq (.reg [] [] [.M 9 3, .N 2 9]) (.ret)) (.skip))) (.seq (.seq (.reg [] [] [.M 10 0, .T 11 (.len (.tmp 10)), .K 12 (.bin .gtr (.tmp 11) (cI 64))]) (.cond (.tmp 12) (some 12) (.seq (.reg [] [] [.K 2 (.mv (cI 37))]) (.ret)) (.skip))) (.seq (.seq (.reg [] [] [.K 4 (.mv (cI 0))]) (.block 0 16842752 (.loop b87_0))) (.seq (.reg [] [] [.K 2 (.mv (cI 0))]) (.ret))))))
theorem is87 : IsF C 87 25 16847133 c87 [.tmp 2] := ⟨⟨Tryd.f87, _, C_P ▸ Tryd.func87, rfl, rfl, rfl, by kernel_rfl, rfl⟩⟩
def qff9 (s0 : List Symbol) (s3 : Int) : Int → Unit → St := fun s4 _ => ⟨[(0, .d (.rd (s0.map qb9))), (2, PI 0), (3, PI s3), (4, PI s4)], []⟩
def qoo9 (s0 : List Symbol) (s3 : Int) : (Int ⊕ Int) → AExit × St → Prop
  | .inl r, q => XV C [.tmp 2] (PI r) q
  | .inr s4, q => ∃ g, q = (.exit 0, qff9 s0 s3 s4 g)
theorem qpe9 {s0 : List Symbol} {s3 : Int} : Sim C 16847133 b87_0 (qea9 s0 s3) (qff9 s0 s3) (qoo9 s0 s3) := by
  intro s g r hr
  have ⟨s4, hs0⟩ : ∃ y, y = s := ⟨_, rfl⟩
  subst hs0
  simp only [qea9] at hr
  rcases iteP hr with ⟨h1, hr⟩ | ⟨h1, hr⟩
  obtain ⟨x2, h2, x3, h3, hr⟩ := bs2 hr
  have h3k := (qkq9 h3).k rfl rfl rfl
  try simp only [go_sem] at h3k
  rcases iteB hr with ⟨h4, hr⟩ | ⟨h4, hr⟩
  obtain rfl := oiA hr
  refine xv_of ?_
  rotate_left
  obtain rfl := oiA hr
  refine ⟨(), ?_⟩
  rotate_left
  obtain rfl := oiA hr
  refine xe_of ⟨(), rfl⟩ ?_
  rotate_left
  all_goals (simp +decide only [go_sem, qff9, b87_0, *])
theorem qrs9 {a0 : List Symbol} {r : Int} (hr : qhI9 a0 = some r) : Res C 87 [.rd (a0.map qb9)] (PI r) := by
  simp only [qhI9] at hr
  obtain ⟨x1, h1, hr⟩ := bsome hr
  have h1k := (qmr9 h1).k rfl rfl rfl
  try simp only [go_sem] at h1k
  rcases iteP hr with ⟨h2, hr⟩ | ⟨h2, hr⟩
  rcases iteP hr with ⟨h3, hr⟩ | ⟨h3, hr⟩
  obtain rfl := oiA hr
  refine run_V is87 (nbA rfl) ?_
  rotate_left
  obtain ⟨x4, h4, hr⟩ := bsome hr
  obtain ⟨q4, h4L, h4X⟩ := qpe9.L (g := ()) h4
  rcases x4 with x5 | x6
  try dsimp only at hr
  obtain ⟨st4, rfl, h4R⟩ := h4X
  simp only [qff9, go_sem] at h4L
  obtain rfl := oiA hr
  refine run_V is87 (nbA rfl) ?_
  rotate_left
  try dsimp only at hr
  obtain ⟨⟨⟩, rfl⟩ := h4X
  simp only [qff9, go_sem] at h4L
  obtain rfl := oiA hr
  refine run_V is87 (nbA rfl) ?_
  rotate_left
  obtain rfl := oiA hr
  refine run_V is87 (nbA rfl) ?_
  rotate_left
  all_goals (simp +decide only [go_sem, c87, *])
def b56_0 : ACode := .seq (.seq (.reg [] [] [.M 7 5, .K 8 (.bin .gtr (.tmp 7) (cI 0))]) (.cond (.tmp 8) (some 8) (.skip) (.exit 0))) (.seq (.block 1 18014433137672448 (.seq (.seq (.reg [] [] [.M 11 6, .M 12 1, .T 13 (.len (.tmp 12)), .K 14 (.bin .eql (.tmp 11) (.tmp 13))]) (.cond (.tmp 14) (some 14) (.seq (.reg [] [] [.K 4 (.mv (cI 31))]) (.ret)) (.skip))) (.seq (.seq (.reg [] [] [.M 15 1, .M 16 6, .T 17 (.ix 1 (.tmp 15) (.tmp 16)), .T 18 (.load none (.tmp 17)), .M 19 0, .T 20 (.len (.tmp 19)), .T 21 (.bin .geq (.tmp 18) (.tmp 20)), .M 22 21, .MG 23 22 false 1, .MG 24 22 false 6, .TG 25 22 false (.ix 1 (.tmp 23) (.tmp 24)), .TG 26 22 false (.load none (.tmp 25)), .TG 27 22 false (.bin .lss (.tmp 26) (cI (-1048576))), .K 28 (.pick (.tmp 22) (.const (.bool true)) (.tmp 27))]) (.cond (.tmp 28) (some 28) (.seq (.reg [] [] [.K 4 (.mv (cI 30))]) (.ret)) (.skip))) (.seq (.reg [] [] [.M 29 5, .T 30 (.bin .sub (.tmp 29) (cI 1)), .N 5 30]) (.seq (.seq (.reg [] [] [.M 31 1, .M 32 6, .T 33 (.ix 1 (.tmp 31) (.tmp 32)), .T 34 (.load none (.tmp 33)), .K 35 (.bin .geq (.tmp 34) (cI 0))]) (.cond (.tmp 35) (some 35) (.reg [] [] [.M 36 5, .M 37 0, .M 38 1, .M 39 6, .T 40 (.ix 1 (.tmp 38) (.tmp 39)), .T 41 (.load none (.tmp 40)), .T 42 (.ix 2 (.tmp 37) (.tmp 41)), .T 43 (.fa 1 (.tmp 42)), .T 44 (.load none (.tmp 43)), .T 45 (.bin .add (.tmp 36) (.tmp 44)), .N 5 45]) (.skip))) (.seq (.reg [] [] [.M 46 5, .T 47 (.bin .eql (.tmp 46) (cI 0)), .M 48 47, .MG 49 48 true 6, .TG 50 48 true (.bin .add (.tmp 49) (cI 1)), .MG 51 48 true 1, .TG 52 48 true (.len (.tmp 51)), .TG 53 48 true (.bin .lss (.tmp 50) (.tmp 52)), .K 54 (.pick (.tmp 48) (.tmp 53) (.const (.bool false)))]) (.cond (.tmp 54) (some 54) (.seq (.reg [] [] [.K 4 (.mv (cI 32))]) (.ret)) (.skip)))))))) (.reg [] [] [.M 9 6, .T 10 (.bin .add (.tmp 9) (cI 1)), .N 6 10]))
def c56 : ACode := .seq (.reg [] [] [.K 4 (.mv (cI 0))]) (.seq (.reg [] [] [.K 5 (.mv (cI 1))]) (.seq (.seq (.reg [] [] [.K 6 (.mv (cI 0))]) (.block 0 18014433137672448 (.loop b56_0))) (.seq (.reg [] [] [.K 4 (.mv (cI 0))]) (.ret))))
theorem is56 : IsF C 56 55 18014433137672563 c56 [.tmp 4] := ⟨⟨Tryd.f56, _, C_P ▸ Tryd.func56, rfl, rfl, rfl, by kernel_rfl, rfl⟩⟩
def qfu9 (s0 : List Symbol) (s1 : List Int) : Int × Int → Unit → St := fun (s5, s6) _ => ⟨[(0, .d (.rd (s0.map qb9))), (1, .d (.rd (s1.map intD))), (4, PI 0), (5, PI s5), (6, PI s6)], []⟩
def qro9 (s0 : List Symbol) (s1 : List Int) : (Int ⊕ (Int × Int)) → AExit × St → Prop
  | .inl r, q => XV C [.tmp 4] (PI r) q
  | .inr (s5, s6), q => ∃ g, q = (.exit 0, qfu9 s0 s1 (s5, s6) g)
theorem qqB9 {s0 : List Symbol} {s1 : List Int} : Sim C 18014433137672563 b56_0 (qcM9 s0 s1) (qfu9 s0 s1) (qro9 s0 s1) := by
  intro s g r hr
  obtain ⟨s5, s6⟩ := s
  simp only [qcM9] at hr
  rcases iteP hr with ⟨h1, hr⟩ | ⟨h1, hr⟩
  rcases iteP hr with ⟨h2, hr⟩ | ⟨h2, hr⟩
  obtain rfl := oiA hr
  refine xv_of ?_
  rotate_left
  obtain ⟨x1, h3, hr⟩ := bsome hr
  rcases iteP hr with ⟨h4, hr⟩ | ⟨h4, hr⟩
  obtain rfl := oiA hr
  refine xv_of ?_
  rotate_left
  rcases iteP hr with ⟨h5, hr⟩ | ⟨h5, hr⟩
  obtain rfl := oiA hr
  refine xv_of ?_
  rotate_left
  rcases iteP hr with ⟨h6, hr⟩ | ⟨h6, hr⟩
  obtain ⟨x2, h7, hr⟩ := bsome hr
  rcases iteP hr with ⟨h8, hr⟩ | ⟨h8, hr⟩
  rcases iteP hr with ⟨h9, hr⟩ | ⟨h9, hr⟩
  obtain rfl := oiA hr
  refine xv_of ?_
  rotate_left
  obtain rfl := oiA hr
  refine ⟨(), ?_⟩
  rotate_left
  obtain rfl := oiA hr
  refine ⟨(), ?_⟩
  rotate_left
  rcases iteP hr with ⟨h10, hr⟩ | ⟨h10, hr⟩
  rcases iteP hr with ⟨h11, hr⟩ | ⟨h11, hr⟩
  obtain rfl := oiA hr
  refine xv_of ?_
  rotate_left
  obtain rfl := oiA hr
  refine ⟨(), ?_⟩
  rotate_left
  obtain rfl := oiA hr
  refine ⟨(), ?_⟩
  rotate_left
  obtain rfl := oiA hr
  refine xe_of ⟨(), rfl⟩ ?_
  rotate_left
  all_goals (simp +decide only [go_sem, qfu9, b56_0, *])
theorem qjU9 {a0 : List Symbol} {a1 : List Int} {r : Int} (hr : qgb9 a0 a1 = some r) : Res C 56 [.rd (a0.map qb9), .rd (a1.map intD)] (PI r) := by
  simp only [qgb9] at hr
  obtain ⟨x3, h1, hr⟩ := bsome hr
  obtain ⟨q1, h1L, h1X⟩ := qqB9.L (g := ()) h1
  rcases x3 with x4 | ⟨x5, x6⟩
  try dsimp only at hr
  obtain ⟨st1, rfl, h1R⟩ := h1X
  simp only [qfu9, go_sem] at h1L
  obtain rfl := oiA hr
  refine run_V is56 (nbA rfl) ?_
  rotate_left
  try dsimp only at hr
  obtain ⟨⟨⟩, rfl⟩ := h1X
  simp only [qfu9, go_sem] at h1L
  obtain rfl := oiA hr
  refine run_V is56 (nbA rfl) ?_
  rotate_left
  all_goals (simp +decide only [go_sem, c56, *])
def qpI9 : ACode := .seq (.seq (.reg [] [] [.M 18 6, .M 19 3, .T 20 (.len (.tmp 19)), .K 21 (.bin .lss (.tmp 18) (.tmp 20))]) (.cond (.tmp 21) (some 21) (.skip) (.exit 2))) (.seq (.block 3 2097152 (.reg [] [] [.M 24 5, .M 25 24, .MG 26 25 false 3, .MG 27 25 false 6, ⟨some (28, false), .ix 1 (.tmp 26) (.tmp 27), some (25, false), true, false⟩, ⟨some (29, false), .load none (.tmp 28), some (25, false), true, false⟩, .MG 30 25 false 0, .MG 31 25 false 4, ⟨some (32, false), .ix 1 (.tmp 30) (.tmp 31), some (25, false), true, false⟩, ⟨some (33, false), .load none (.tmp 32), some (25, false), true, false⟩, .TG 34 25 false (.bin .sub (cI (-1)) (.tmp 33)), .TG 35 25 false (.bin .eql (.tmp 29) (.tmp 34)), .T 36 (.pick (.tmp 25) (.const (.bool true)) (.tmp 35)), .N 5 36])) (.reg [] [] [.M 22 6, .T 23 (.bin .add (.tmp 22) (cI 1)), .N 6 23]))
def qqf9 : ACode := .seq (.seq (.reg [] [] [.M 7 4, .M 8 0, .T 9 (.len (.tmp 8)), .K 10 (.bin .lss (.tmp 7) (.tmp 9))]) (.cond (.tmp 10) (some 10) (.skip) (.exit 0))) (.seq (.block 1 274880005216 (.seq (.reg [] [] [.M 13 0, .M 14 4, .T 15 (.ix 1 (.tmp 13) (.tmp 14)), .T 16 (.load none (.tmp 15)), .T 17 (.bin .geq (.tmp 16) (cI 0)), .N 5 17]) (.seq (.seq (.reg [] [] [.K 6 (.mv (cI 0))]) (.block 2 2098240 (.loop qpI9))) (.seq (.reg [] [] [.M 37 5, .K 38 (.not (.tmp 37))]) (.cond (.tmp 38) (some 38) (.reg [] [] [.M 39 3, .M 40 0, .M 41 4, .T 42 (.ix 1 (.tmp 40) (.tmp 41)), .T 43 (.load none (.tmp 42)), .T 44 (.bin .sub (cI (-1)) (.tmp 43)), .T 45 (.lit 1 [(0, .tmp 44)]), .T 46 (.app 1 8 (.tmp 39) (.tmp 45)), .N 3 46]) (.skip)))))) (.reg [] [] [.M 11 4, .T 12 (.bin .add (.tmp 11) (cI 1)), .N 4 12]))
def c108 : ACode := .seq (.reg [] [(2, 0)] [.K 2 (.mv (.const (.slice none 0 0)))]) (.seq (.reg [] [(3, 1)] [.K 3 (.mv (.const (.slice none 0 0)))]) (.seq (.seq (.reg [] [] [.K 4 (.mv (cI 0))]) (.block 0 274880005216 (.loop qqf9))) (.seq (.reg [] [(2, 0)] [.M 47 3, .N 2 47]) (.ret))))
theorem is108 : IsF C 108 48 274880005245 c108 [.tmp 2] := ⟨⟨Tryd.f108, _, C_P ▸ Tryd.func108, rfl, rfl, rfl, by kernel_rfl, rfl⟩⟩
def qiW9 (s0 : List Int) (s2 : List Int) (s4 : Int) (o3 : List Int) (v3 : Nat) : Bool × Int → Unit → St := fun (s5, s6) _ => ⟨[(0, .d (.rd (s0.map intD))), (2, .d (.rd (s2.map intD))), (3, .ref 0 v3 0 o3.length), (4, PI s4), (5, PB s5), (6, PI s6)], (.row false v3 1 (rowP intD o3) :: [])⟩
def qqF9 (s0 : List Int) (s2 : List Int) (s4 : Int) (o3 : List Int) (v3 : Nat) : Bool → AExit × St → Prop := fun s5 q => ∃ d6 : PV, q = (.exit 2, ⟨[(0, .d (.rd (s0.map intD))), (2, .d (.rd (s2.map intD))), (3, .ref 0 v3 0 o3.length), (4, PI s4), (5, PB s5), (6, d6)], (.row false v3 1 (rowP intD o3) :: [])⟩)
theorem qqu9 {s0 : List Int} {s2 : List Int} {s4 : Int} {o3 : List Int} {v3 : Nat} : Sim C 274880005245 qpI9 (qdQ9 s0 s2 s4 o3) (qiW9 s0 s2 s4 o3 v3) (qqF9 s0 s2 s4 o3 v3) := by
  intro s g r hr
  obtain ⟨s5, s6⟩ := s
  simp only [qdQ9] at hr
  rcases iteP hr with ⟨h1, hr⟩ | ⟨h1, hr⟩
  rcases iteB hr with ⟨h2, hr⟩ | ⟨h2, hr⟩
  obtain rfl := oiA hr
  refine ⟨(), ?_⟩
  rotate_left
  obtain ⟨x2, h3, x3, h4, hr⟩ := bs2 hr
  have h3a := eq_true (qa9 h3).1
  have h3b := eq_true (qa9 h3).2.1
  have h3c := (qa9 h3).2.2
  obtain rfl := oiA hr
  refine ⟨(), ?_⟩
  rotate_left
  obtain rfl := oiA hr
  refine xe_of ⟨PI s6, rfl⟩ ?_
  rotate_left
  all_goals (simp +decide only [go_sem, qiW9, qpI9, *])
def qhi9 (s0 : List Int) (s2 : List Int) : Int × (List Int) → Nat → St := fun (s4, o3) v3 => ⟨[(0, .d (.rd (s0.map intD))), (2, .d (.rd (s2.map intD))), (3, .ref 0 v3 0 o3.length), (4, PI s4)], (.row false v3 1 (rowP intD o3) :: [])⟩
def qri9 (s0 : List Int) (s2 : List Int) : (Int × (List Int)) → AExit × St → Prop := fun (s4, o3) q => ∃ g, q = (.exit 0, qhi9 s0 s2 (s4, o3) g)
theorem qqG9 {s0 : List Int} {s2 : List Int} : Sim C 274880005245 qqf9 (qcK9 s0 s2) (qhi9 s0 s2) (qri9 s0 s2) := by
  intro s g r hr
  obtain ⟨s4, o3⟩ := s
  have ⟨v3, hg0⟩ : ∃ y, y = g := ⟨_, rfl⟩
  subst hg0
  simp only [qcK9] at hr
  rcases iteP hr with ⟨h1, hr⟩ | ⟨h1, hr⟩
  obtain ⟨x1, h2, hr⟩ := bsome hr
  obtain ⟨x4, h3, hr⟩ := bsome hr
  obtain ⟨q3, h3L, h3X⟩ := (qqu9 (v3 := v3)).L (g := ()) h3
  have ⟨x5, hq3⟩ : ∃ y, y = x4 := ⟨_, rfl⟩
  subst hq3
  try dsimp only at hr
  obtain ⟨z6, rfl⟩ := h3X
  simp only [qiW9, go_sem] at h3L
  rcases iteB hr with ⟨h4, hr⟩ | ⟨h4, hr⟩
  obtain rfl := oiA hr
  refine ⟨v3, ?_⟩
  rotate_left
  obtain ⟨h5, hr⟩ := gsome hr
  obtain rfl := oiA hr
  refine ⟨(v3 + 1), ?_⟩
  rotate_left
  obtain rfl := oiA hr
  refine xe_of ⟨v3, rfl⟩ ?_
  rotate_left
  all_goals (simp +decide only [go_sem, qhi9, qqf9, *])
theorem qmc9 {a0 : List Int} {r : (List Int)} (hr : qgZ9 a0 = some r) : Res C 108 [.rd (a0.map intD)] (.d (.rd (r.map intD))) := by
  simp only [qgZ9] at hr
  obtain ⟨x7, h1, hr⟩ := bsome hr
  obtain ⟨q1, h1L, h1X⟩ := qqG9.L (g := 0) h1
  obtain ⟨x8, x9⟩ := x7
  try dsimp only at hr
  obtain ⟨z10, rfl⟩ := h1X
  simp only [qhi9, go_sem] at h1L
  obtain rfl := oiA hr
  refine run_V is108 (nbA rfl) ?_
  rotate_left
  all_goals (simp +decide only [go_sem, c108, *])
def qpg9 : ACode := .seq (.seq (.reg [] [] [.M 6 5, .M 7 0, .T 8 (.len (.tmp 7)), .K 9 (.bin .lss (.tmp 6) (.tmp 8))]) (.cond (.tmp 9) (some 9) (.skip) (.exit 0))) (.seq (.block 1 131584 (.seq (.reg [] [] [.M 12 0, .M 13 5, .T 14 (.ix 1 (.tmp 12) (.tmp 13)), .T 15 (.load none (.tmp 14)), .M 16 1, .K 17 (.bin .eql (.tmp 15) (.tmp 16))]) (.cond (.tmp 17) (some 17) (.seq (.reg [] [] [.K 4 (.mv (.const (.bool true)))]) (.ret)) (.skip)))) (.reg [] [] [.M 10 5, .T 11 (.bin .add (.tmp 10) (cI 1)), .N 5 11]))
def c109 : ACode := .seq (.reg [] [] [.K 4 (.mv (.const (.bool false)))]) (.seq (.seq (.reg [] [] [.K 5 (.mv (cI 0))]) (.block 0 131584 (.loop qpg9))) (.seq (.reg [] [] [.K 4 (.mv (.const (.bool false)))]) (.ret)))
theorem is109 : IsF C 109 18 131635 c109 [.tmp 4] := ⟨⟨Tryd.f109, _, C_P ▸ Tryd.func109, rfl, rfl, rfl, by kernel_rfl, rfl⟩⟩
def qgF9 (s0 : List Int) (s1 : Int) : Int → Unit → St := fun s5 _ => ⟨[(0, .d (.rd (s0.map intD))), (1, PI s1), (4, PB false), (5, PI s5)], []⟩
def qtr9 (s0 : List Int) (s1 : Int) : (Bool ⊕ Int) → AExit × St → Prop
  | .inl r, q => XV C [.tmp 4] (PB r) q
  | .inr s5, q => ∃ g, q = (.exit 0, qgF9 s0 s1 s5 g)
theorem qsa9 {s0 : List Int} {s1 : Int} : Sim C 131635 qpg9 (qfl9 s0 s1) (qgF9 s0 s1) (qtr9 s0 s1) := by
  intro s g r hr
  have ⟨s5, hs0⟩ : ∃ y, y = s := ⟨_, rfl⟩
  subst hs0
  simp only [qfl9] at hr
  rcases iteP hr with ⟨h1, hr⟩ | ⟨h1, hr⟩
  obtain ⟨x1, h2, hr⟩ := bsome hr
  rcases iteP hr with ⟨h3, hr⟩ | ⟨h3, hr⟩
  obtain rfl := oiA hr
  refine xv_of ?_
  rotate_left
  obtain rfl := oiA hr
  refine ⟨(), ?_⟩
  rotate_left
  obtain rfl := oiA hr
  refine xe_of ⟨(), rfl⟩ ?_
  rotate_left
  all_goals (simp +decide only [go_sem, qgF9, qpg9, *])
theorem qtP9 {a0 : List Int} {a1 : Int} {r : Bool} (hr : qjC9 a0 a1 = some r) : Res C 109 [.rd (a0.map intD), .v (.int .i64 a1)] (PB r) := by
  simp only [qjC9] at hr
  obtain ⟨x2, h1, hr⟩ := bsome hr
  obtain ⟨q1, h1L, h1X⟩ := qsa9.L (g := ()) h1
  rcases x2 with x3 | x4
  try dsimp only at hr
  obtain ⟨st1, rfl, h1R⟩ := h1X
  simp only [qgF9, go_sem] at h1L
  obtain rfl := oiA hr
  refine run_V is109 (nbA rfl) ?_
  rotate_left
  try dsimp only at hr
  obtain ⟨⟨⟩, rfl⟩ := h1X
  simp only [qgF9, go_sem] at h1L
  obtain rfl := oiA hr
  refine run_V is109 (nbA rfl) ?_
  rotate_left
  all_goals (simp +decide only [go_sem, c109, *])
def b88_0 : ACode := .seq (.seq (.reg [] [] [.M 44 8, .M 45 7, .T 46 (.len (.tmp 45)), .K 47 (.bin .lss (.tmp 44) (.tmp 46))]) (.cond (.tmp 47) (some 47) (.skip) (.exit 0))) (.seq (.block 1 72198331526283264 (.seq (.reg [] [] [.M 50 6, .M 51 7, .M 52 8, .T 53 (.ix 1 (.tmp 51) (.tmp 52)), .T 54 (.load none (.tmp 53)), .T 55 (.call 109 [.tmp 50, .tmp 54]), .K 56 (.not (.tmp 55))]) (.cond (.tmp 56) (some 56) (.seq (.reg [] [] [.K 4 (.mv (cI 72))]) (.ret)) (.skip)))) (.reg [] [] [.M 48 8, .T 49 (.bin .add (.tmp 48) (cI 1)), .N 8 49]))
def c88 : ACode := .seq (.reg [] [] [.K 3 (.box (.tmp 1)), .K 4 (.mv (cI 0))]) (.seq (.reg [] [] [.M 9 0, .T 10 (.fa 0 (.tmp 3)), .T 11 (.load none (.tmp 10)), .T 12 (.call 56 [.tmp 9, .tmp 11]), .N 5 12]) (.seq (.seq (.reg [] [] [.M 13 5, .K 14 (.bin .neq (.tmp 13) (cI 0))]) (.cond (.tmp 14) (some 14) (.seq (.reg [] [] [.M 15 5, .N 4 15]) (.ret)) (.skip))) (.seq (.reg [] [] [.M 16 0, .T 17 (.fa 1 (.tmp 3)), .T 18 (.load none (.tmp 17)), .T 19 (.call 56 [.tmp 16, .tmp 18]), .N 5 19]) (.seq (.seq (.reg [] [] [.M 20 5, .K 21 (.bin .neq (.tmp 20) (cI 0))]) (.cond (.tmp 21) (some 21) (.seq (.reg [] [] [.M 22 5, .N 4 22]) (.ret)) (.skip))) (.seq (.seq (.reg [] [] [.T 23 (.fa 0 (.tmp 3)), .T 24 (.load none (.tmp 23)), .T 25 (.len (.tmp 24)), .T 26 (.bin .gtr (.tmp 25) (cI 512)), .M 27 26, .TG 28 27 false (.fa 1 (.tmp 3)), .TG 29 27 false (.load none (.tmp 28)), .TG 30 27 false (.len (.tmp 29)), .TG 31 27 false (.bin .gtr (.tmp 30) (cI 512)), .K 32 (.pick (.tmp 27) (.const (.bool true)) (.tmp 31))]) (.cond (.tmp 32) (some 32) (.seq (.reg [] [] [.K 4 (.mv (cI 2))]) (.ret)) (.skip))) (.seq (.seq (.reg [] [] [.T 33 (.fa 0 (.tmp 3)), .T 34 (.load none (.tmp 33)), .T 35 (.ix 1 (.tmp 34) (cI 0)), .T 36 (.load none (.tmp 35)), .K 37 (.bin .lss (.tmp 36) (cI 0))]) (.cond (.tmp 37) (some 37) (.seq (.reg [] [] [.K 4 (.mv (cI 71))]) (.ret)) (.skip))) (.seq (.reg [] [] [.T 38 (.fa 0 (.tmp 3)), .T 39 (.load none (.tmp 38)), .T 40 (.call 108 [.tmp 39]), .N 6 40]) (.seq (.reg [] [] [.T 41 (.fa 1 (.tmp 3)), .T 42 (.load none (.tmp 41)), .T 43 (.call 108 [.tmp 42]), .N 7 43]) (.seq (.seq (.reg [] [] [.K 8 (.mv (cI 0))]) (.block 0 72198331526283264 (.loop b88_0))) (.seq (.reg [] [] [.K 4 (.mv (cI 0))]) (.ret)))))))))))
theorem is88 : IsF C 88 57 72198473262318075 c88 [.tmp 4] := ⟨⟨Tryd.f88, _, C_P ▸ Tryd.func88, rfl, rfl, rfl, by kernel_rfl, rfl⟩⟩
def qfB9 (s0 : List Symbol) (s1 : Rule) (s5 : Int) (s6 : List Int) (s7 : List Int) (b3_0 : List Int) (b3_1 : List Int) : Int → Unit → St := fun s8 _ => ⟨[(0, .d (.rd (s0.map qb9))), (1, .d (.ag (qd9 s1))), (3, .ptr 0 0 0 0), (4, PI 0), (5, PI s5), (6, .d (.rd (s6.map intD))), (7, .d (.rd (s7.map intD))), (8, PI s8)], (.row false 0 2 [[.d (.rd (b3_0.map intD)), .d (.rd (b3_1.map intD))]] :: [])⟩
def qqY9 (s0 : List Symbol) (s1 : Rule) (s5 : Int) (s6 : List Int) (s7 : List Int) (b3_0 : List Int) (b3_1 : List Int) : (Int ⊕ Int) → AExit × St → Prop
  | .inl r, q => XV C [.tmp 4] (PI r) q
  | .inr s8, q => ∃ g, q = (.exit 0, qfB9 s0 s1 s5 s6 s7 b3_0 b3_1 s8 g)
theorem qqM9 {s0 : List Symbol} {s1 : Rule} {s5 : Int} {s6 : List Int} {s7 : List Int} {b3_0 : List Int} {b3_1 : List Int} : Sim C 72198473262318075 b88_0 (qeA9 s0 s1 s5 s6 s7 b3_0 b3_1) (qfB9 s0 s1 s5 s6 s7 b3_0 b3_1) (qqY9 s0 s1 s5 s6 s7 b3_0 b3_1) := by
  intro s g r hr
  have ⟨s8, hs0⟩ : ∃ y, y = s := ⟨_, rfl⟩
  subst hs0
  simp only [qeA9] at hr
  rcases iteP hr with ⟨h1, hr⟩ | ⟨h1, hr⟩
  obtain ⟨x6, h2, x7, h3, hr⟩ := bs2 hr
  have h3k := (qtP9 h3).k rfl rfl rfl
  try simp only [go_sem] at h3k
  rcases iteB hr with ⟨h4, hr⟩ | ⟨h4, hr⟩
  obtain rfl := oiA hr
  refine ⟨(), ?_⟩
  rotate_left
  obtain rfl := oiA hr
  refine xv_of ?_
  rotate_left
  obtain rfl := oiA hr
  refine xe_of ⟨(), rfl⟩ ?_
  rotate_left
  all_goals (simp +decide only [go_sem, qfB9, b88_0, *])
theorem qsl9 {a0 : List Symbol} {a1 : Rule} {r : Int} (hr : qiw9 a0 a1 = some r) : Res C 88 [.rd (a0.map qb9), .ag (qd9 a1)] (PI r) := by
  simp only [qiw9] at hr
  obtain ⟨x1, h1, hr⟩ := bsome hr
  have h1k := (qjU9 h1).k rfl rfl rfl
  try simp only [go_sem] at h1k
  rcases iteP hr with ⟨h2, hr⟩ | ⟨h2, hr⟩
  obtain ⟨x2, h3, hr⟩ := bsome hr
  have h3k := (qjU9 h3).k rfl rfl rfl
  try simp only [go_sem] at h3k
  rcases iteP hr with ⟨h4, hr⟩ | ⟨h4, hr⟩
  rcases iteP hr with ⟨h5, hr⟩ | ⟨h5, hr⟩
  obtain rfl := oiA hr
  refine run_V is88 (nbA rfl) ?_
  rotate_left
  rcases iteP hr with ⟨h6, hr⟩ | ⟨h6, hr⟩
  obtain rfl := oiA hr
  refine run_V is88 (nbA rfl) ?_
  rotate_left
  obtain ⟨x3, h7, hr⟩ := bsome hr
  rcases iteP hr with ⟨h8, hr⟩ | ⟨h8, hr⟩
  obtain rfl := oiA hr
  refine run_V is88 (nbA rfl) ?_
  rotate_left
  obtain ⟨x4, h9, x5, h10, hr⟩ := bs2 hr
  have h9k := (qmc9 h9).k rfl rfl rfl
  try simp only [go_sem] at h9k
  have h10k := (qmc9 h10).k rfl rfl rfl
  try simp only [go_sem] at h10k
  obtain ⟨x8, h11, hr⟩ := bsome hr
  obtain ⟨q11, h11L, h11X⟩ := qqM9.L (g := ()) h11
  rcases x8 with x9 | x10
  try dsimp only at hr
  obtain ⟨st11, rfl, h11R⟩ := h11X
  simp only [qfB9, go_sem] at h11L
  obtain rfl := oiA hr
  refine run_V is88 (nbA rfl) ?_
  rotate_left
  try dsimp only at hr
  obtain ⟨⟨⟩, rfl⟩ := h11X
  simp only [qfB9, go_sem] at h11L
  obtain rfl := oiA hr
  refine run_V is88 (nbA rfl) ?_
  rotate_left
  obtain rfl := oiA hr
  refine run_V is88 (nbA rfl) ?_
  rotate_left
  obtain rfl := oiA hr
  refine run_V is88 (nbA rfl) ?_
  rotate_left
  all_goals (simp +decide only [go_sem, c88, *])
def b54_0 : ACode := .seq (.seq (.reg [] [] [.M 17 5, .T 18 (.fa 1 (.tmp 1)), .T 19 (.load none (.tmp 18)), .T 20 (.len (.tmp 19)), .K 21 (.bin .lss (.tmp 17) (.tmp 20))]) (.cond (.tmp 21) (some 21) (.skip) (.exit 0))) (.seq (.block 1 8592031808 (.seq (.reg [] [] [.T 24 (.fa 0 (.tmp 1)), ⟨some (25, false), .load none (.tmp 24), none, true, false⟩, .T 26 (.fa 1 (.tmp 1)), ⟨some (27, false), .load none (.tmp 26), none, true, false⟩, .M 28 5, ⟨some (29, false), .ix 2 (.tmp 27) (.tmp 28), none, true, false⟩, ⟨some (30, false), .load (some 2) (.tmp 29), none, true, false⟩, ⟨some (31, false), .call 88 [.tmp 25, .tmp 30], none, true, false⟩, .N 6 31]) (.seq (.reg [] [] [.M 32 6, .K 33 (.bin .neq (.tmp 32) (cI 0))]) (.cond (.tmp 33) (some 33) (.seq (.reg [] [] [.M 34 6, .M 35 5, .N 2 34, .N 3 35]) (.ret)) (.skip))))) (.reg [] [] [.M 22 5, .T 23 (.bin .add (.tmp 22) (cI 1)), .N 5 23]))
def c54 : ACode := .seq (.reg [] [] [.K 1 (.box (.tmp 0)), .K 2 (.mv (cI 0)), .K 3 (.mv (cI 0))]) (.seq (.reg [] [] [.T 7 (.fa 0 (.tmp 1)), .T 8 (.load none (.tmp 7)), .T 9 (.call 87 [.tmp 8]), .N 4 9]) (.seq (.seq (.reg [] [] [.M 10 4, .K 11 (.bin .neq (.tmp 10) (cI 0))]) (.cond (.tmp 11) (some 11) (.seq (.reg [] [] [.M 12 4, .N 2 12, .K 3 (.mv (cI (-1)))]) (.ret)) (.skip))) (.seq (.seq (.reg [] [] [.T 13 (.fa 1 (.tmp 1)), .T 14 (.load none (.tmp 13)), .T 15 (.len (.tmp 14)), .K 16 (.bin .gtr (.tmp 15) (cI 64))]) (.cond (.tmp 16) (some 16) (.seq (.reg [] [] [.K 2 (.mv (cI 70)), .K 3 (.mv (cI (-1)))]) (.ret)) (.skip))) (.seq (.seq (.reg [] [] [.K 5 (.mv (cI 0))]) (.block 0 8592031808 (.loop b54_0))) (.seq (.reg [] [] [.K 2 (.mv (cI 0)), .K 3 (.mv (cI 0))]) (.ret))))))
theorem is54 : IsF C 54 36 8592099455 c54 [.tmp 2, .tmp 3] := ⟨⟨Tryd.f54, _, C_P ▸ Tryd.func54, rfl, rfl, rfl, by kernel_rfl, rfl⟩⟩
def qeR9 (s0 : System) (s4 : Int) (b1_0 : List Symbol) (b1_1 : List Rule) : Int → Unit → St := fun s5 _ => ⟨[(0, .d (.ag (qf9 s0))), (1, .ptr 0 0 0 0), (2, PI 0), (3, PI 0), (4, PI s4), (5, PI s5)], (.row false 0 2 [[.d (.rd (b1_0.map qb9)), .d (.rd (b1_1.map qd9))]] :: [])⟩
def qol9 (s0 : System) (s4 : Int) (b1_0 : List Symbol) (b1_1 : List Rule) : ((Int × Int) ⊕ Int) → AExit × St → Prop
  | .inl r, q => XV C [.tmp 2, .tmp 3] (.tp [PI r.1, PI r.2]) q
  | .inr s5, q => ∃ g, q = (.exit 0, qeR9 s0 s4 b1_0 b1_1 s5 g)
theorem qqe9 {s0 : System} {s4 : Int} {b1_0 : List Symbol} {b1_1 : List Rule} : Sim C 8592099455 b54_0 (qec9 s0 s4 b1_0 b1_1) (qeR9 s0 s4 b1_0 b1_1) (qol9 s0 s4 b1_0 b1_1) := by
  intro s g r hr
  have ⟨s5, hs0⟩ : ∃ y, y = s := ⟨_, rfl⟩
  subst hs0
  simp only [qec9] at hr
  rcases iteP hr with ⟨h1, hr⟩ | ⟨h1, hr⟩
  obtain ⟨x2, h2, x3, h3, hr⟩ := bs2 hr
  have h3k := fun h => (qsl9 h3).o rfl rfl rfl (h := h) (args := [.d (.rd (b1_0.map qb9)), .ag [.d (.rd (x2.L.map intD)), .d (.rd (x2.R.map intD))]]) rfl
  try simp only [go_sem] at h3k
  rcases iteP hr with ⟨h4, hr⟩ | ⟨h4, hr⟩
  obtain rfl := oiA hr
  refine ⟨(), ?_⟩
  rotate_left
  obtain rfl := oiA hr
  refine xv_of ?_
  rotate_left
  obtain rfl := oiA hr
  refine xe_of ⟨(), rfl⟩ ?_
  rotate_left
  all_goals (simp +decide only [go_sem, qeR9, b54_0, *])
theorem qqH9 {a0 : System} {r : Int × Int} (hr : qhq9 a0 = some r) : Res C 54 [.ag (qf9 a0)] (.tp [PI r.1, PI r.2]) := by
  simp only [qhq9] at hr
  obtain ⟨x1, h1, hr⟩ := bsome hr
  have h1k := (qrs9 h1).k rfl rfl rfl
  try simp only [go_sem] at h1k
  rcases iteP hr with ⟨h2, hr⟩ | ⟨h2, hr⟩
  rcases iteP hr with ⟨h3, hr⟩ | ⟨h3, hr⟩
  obtain rfl := oiA hr
  refine run_V is54 (nbA rfl) ?_
  rotate_left
  obtain ⟨x4, h4, hr⟩ := bsome hr
  obtain ⟨q4, h4L, h4X⟩ := qqe9.L (g := ()) h4
  rcases x4 with x5 | x6
  try dsimp only at hr
  obtain ⟨st4, rfl, h4R⟩ := h4X
  simp only [qeR9, go_sem] at h4L
  obtain rfl := oiA hr
  refine run_V is54 (nbA rfl) ?_
  rotate_left
  try dsimp only at hr
  obtain ⟨⟨⟩, rfl⟩ := h4X
  simp only [qeR9, go_sem] at h4L
  obtain rfl := oiA hr
  refine run_V is54 (nbA rfl) ?_
  rotate_left
  obtain rfl := oiA hr
  refine run_V is54 (nbA rfl) ?_
  rotate_left
  all_goals (simp +decide only [go_sem, c54, *])
def c46 : ACode := .seq (.reg [] [] [.K 2 (.box (.tmp 0)), .K 4 (.mv (cI 0))]) (.seq (.reg [] [] [.T 8 (.load (some 2) (.tmp 2)), .T 9 (.call 54 [.tmp 8]), .M 7 9, .T 10 (.ext (.tmp 7) 0), .T 11 (.ext (.tmp 7) 1), .N 5 10, .M 6 11]) (.seq (.seq (.reg [] [] [.M 12 5, .K 13 (.bin .neq (.tmp 12) (cI 0))]) (.cond (.tmp 13) (some 13) (.seq (.reg [] [] [.M 14 5, .N 4 14]) (.ret)) (.skip))) (.seq (.reg [] [] [.T 15 (.fa 0 (.tmp 2)), .T 16 (.load none (.tmp 15)), .M 17 1, .T 18 (.call 56 [.tmp 16, .tmp 17]), .N 4 18]) (.ret))))
theorem is46 : IsF C 46 19 8247 c46 [.tmp 4] := ⟨⟨Tryd.f46, _, C_P ▸ Tryd.func46, rfl, rfl, rfl, by kernel_rfl, rfl⟩⟩
theorem qqI9 {a0 : System} {a1 : List Int} {r : Int} (hr : qhz9 a0 a1 = some r) : Res C 46 [.ag (qf9 a0), .rd (a1.map intD)] (PI r) := by
  simp only [qhz9] at hr
  obtain ⟨x1, h1, hr⟩ := bsome hr
  have h1k := fun h => (qqH9 h1).o rfl rfl rfl (h := h) (args := [.ag [.d (.rd (a0.Sig.map qb9)), .d (.rd (a0.Rules.map qd9))]]) rfl
  try simp only [go_sem] at h1k
  rcases iteP hr with ⟨h2, hr⟩ | ⟨h2, hr⟩
  obtain ⟨x2, h3, hr⟩ := bsome hr
  have h3k := (qjU9 h3).k rfl rfl rfl
  try simp only [go_sem] at h3k
  obtain rfl := oiA hr
  refine run_V is46 (nbA rfl) ?_
  rotate_left
  obtain rfl := oiA hr
  refine run_V is46 (nbA rfl) ?_
  rotate_left
  all_goals (simp +decide only [go_sem, c46, *])
def b47_0 : ACode := .seq (.seq (.reg [] [] [.M 8 7, .K 9 (.bin .gtr (.tmp 8) (cI 0))]) (.cond (.tmp 9) (some 9) (.skip) (.exit 0))) (.block 1 66048 (.seq (.reg [] [] [.M 10 7, .T 11 (.bin .sub (.tmp 10) (cI 1)), .N 7 11]) (.seq (.seq (.reg [] [] [.M 12 1, .M 13 2, .T 14 (.ix 1 (.tmp 12) (.tmp 13)), .T 15 (.load none (.tmp 14)), .K 16 (.bin .geq (.tmp 15) (cI 0))]) (.cond (.tmp 16) (some 16) (.reg [] [] [.M 17 7, .M 18 0, .M 19 1, .M 20 2, .T 21 (.ix 1 (.tmp 19) (.tmp 20)), .T 22 (.load none (.tmp 21)), .T 23 (.ix 2 (.tmp 18) (.tmp 22)), .T 24 (.fa 1 (.tmp 23)), .T 25 (.load none (.tmp 24)), .T 26 (.bin .add (.tmp 17) (.tmp 25)), .N 7 26]) (.skip))) (.reg [] [] [.M 27 2, .T 28 (.bin .add (.tmp 27) (cI 1)), .N 2 28]))))
def c47 : ACode := .seq (.reg [] [] [.K 6 (.mv (cI 0))]) (.seq (.reg [] [] [.K 7 (.mv (cI 1))]) (.seq (.block 0 66048 (.loop b47_0)) (.seq (.reg [] [] [.M 29 2, .N 6 29]) (.ret))))
theorem is47 : IsF C 47 30 66247 c47 [.tmp 6] := ⟨⟨Tryd.f47, _, C_P ▸ Tryd.func47, rfl, rfl, rfl, by kernel_rfl, rfl⟩⟩
def qih9 (s0 : List Symbol) (s1 : List Int) : Int × Int → Unit → St := fun (s2, s7) _ => ⟨[(0, .d (.rd (s0.map qb9))), (1, .d (.rd (s1.map intD))), (2, PI s2), (6, PI 0), (7, PI s7)], []⟩
def qts9 (s0 : List Symbol) (s1 : List Int) : (Int × Int) → AExit × St → Prop := fun (s2, s7) q => ∃ g, q = (.exit 0, qih9 s0 s1 (s2, s7) g)
theorem qtC9 {s0 : List Symbol} {s1 : List Int} : Sim C 66247 b47_0 (qjS9 s0 s1) (qih9 s0 s1) (qts9 s0 s1) := by
  intro s g r hr
  obtain ⟨s2, s7⟩ := s
  simp only [qjS9] at hr
  rcases iteP hr with ⟨h1, hr⟩ | ⟨h1, hr⟩
  obtain ⟨x1, h2, hr⟩ := bsome hr
  rcases iteP hr with ⟨h3, hr⟩ | ⟨h3, hr⟩
  obtain ⟨x2, h4, hr⟩ := bsome hr
  obtain rfl := oiA hr
  refine ⟨(), ?_⟩
  rotate_left
  obtain rfl := oiA hr
  refine ⟨(), ?_⟩
  rotate_left
  obtain rfl := oiA hr
  refine xe_of ⟨(), rfl⟩ ?_
  rotate_left
  all_goals (simp +decide only [go_sem, qih9, b47_0, *])
theorem qtX9 {a0 : List Symbol} {a1 : List Int} {a2 : Int} {r : Int} (hr : qjB9 a0 a1 a2 = some r) : Res C 47 [.rd (a0.map qb9), .rd (a1.map intD), .v (.int .i64 a2)] (PI r) := by
  simp only [qjB9] at hr
  obtain ⟨x3, h1, hr⟩ := bsome hr
  obtain ⟨q1, h1L, h1X⟩ := qtC9.L (g := ()) h1
  obtain ⟨x4, x5⟩ := x3
  try dsimp only at hr
  obtain ⟨⟨⟩, rfl⟩ := h1X
  simp only [qih9, go_sem] at h1L
  obtain rfl := oiA hr
  refine run_V is47 (nbA rfl) ?_
  rotate_left
  all_goals (simp +decide only [go_sem, c47, *])
def b76_0 : ACode := .seq (.seq (.reg [] [] [.M 8 7, .K 9 (.bin .gtr (.tmp 8) (cI 0))]) (.cond (.tmp 9) (some 9) (.skip) (.exit 0))) (.block 1 66048 (.seq (.reg [] [] [.M 10 7, .T 11 (.bin .sub (.tmp 10) (cI 1)), .N 7 11]) (.seq (.seq (.reg [] [] [.M 12 1, .M 13 2, .T 14 (.ix 1 (.tmp 12) (.tmp 13)), .T 15 (.load none (.tmp 14)), .K 16 (.bin .geq (.tmp 15) (cI 0))]) (.cond (.tmp 16) (some 16) (.reg [] [] [.M 17 7, .M 18 0, .M 19 1, .M 20 2, .T 21 (.ix 1 (.tmp 19) (.tmp 20)), .T 22 (.load none (.tmp 21)), .T 23 (.ix 2 (.tmp 18) (.tmp 22)), .T 24 (.fa 1 (.tmp 23)), .T 25 (.load none (.tmp 24)), .T 26 (.bin .add (.tmp 17) (.tmp 25)), .N 7 26]) (.skip))) (.reg [] [] [.M 27 2, .T 28 (.bin .add (.tmp 27) (cI 1)), .N 2 28]))))
def c76 : ACode := .seq (.reg [] [] [.K 6 (.mv (cI 0))]) (.seq (.reg [] [] [.K 7 (.mv (cI 1))]) (.seq (.block 0 66048 (.loop b76_0)) (.seq (.reg [] [] [.M 29 2, .N 6 29]) (.ret))))
theorem is76 : IsF C 76 30 66247 c76 [.tmp 6] := ⟨⟨Tryd.f76, _, C_P ▸ Tryd.func76, rfl, rfl, rfl, by kernel_rfl, rfl⟩⟩
def qia9 (s0 : List Symbol) (s1 : List Int) : Int × Int → Unit → St := fun (s2, s7) _ => ⟨[(0, .d (.rd (s0.map qb9))), (1, .d (.rd (s1.map intD))), (2, PI s2), (6, PI 0), (7, PI s7)], []⟩
def qsh9 (s0 : List Symbol) (s1 : List Int) : (Int × Int) → AExit × St → Prop := fun (s2, s7) q => ∃ g, q = (.exit 0, qia9 s0 s1 (s2, s7) g)
theorem qsI9 {s0 : List Symbol} {s1 : List Int} : Sim C 66247 b76_0 (qdN9 s0 s1) (qia9 s0 s1) (qsh9 s0 s1) := by
  intro s g r hr
  obtain ⟨s2, s7⟩ := s
  simp only [qdN9] at hr
  rcases iteP hr with ⟨h1, hr⟩ | ⟨h1, hr⟩
  obtain ⟨x1, h2, hr⟩ := bsome hr
  rcases iteP hr with ⟨h3, hr⟩ | ⟨h3, hr⟩
  obtain ⟨x2, h4, hr⟩ := bsome hr
  obtain rfl := oiA hr
  refine ⟨(), ?_⟩
  rotate_left
  obtain rfl := oiA hr
  refine ⟨(), ?_⟩
  rotate_left
  obtain rfl := oiA hr
  refine xe_of ⟨(), rfl⟩ ?_
  rotate_left
  all_goals (simp +decide only [go_sem, qia9, b76_0, *])
theorem qtG9 {a0 : List Symbol} {a1 : List Int} {a2 : Int} {r : Int} (hr : qim9 a0 a1 a2 = some r) : Res C 76 [.rd (a0.map qb9), .rd (a1.map intD), .v (.int .i64 a2)] (PI r) := by
  simp only [qim9] at hr
  obtain ⟨x3, h1, hr⟩ := bsome hr
  obtain ⟨q1, h1L, h1X⟩ := qsI9.L (g := ()) h1
  obtain ⟨x4, x5⟩ := x3
  try dsimp only at hr
  obtain ⟨⟨⟩, rfl⟩ := h1X
  simp only [qia9, go_sem] at h1L
  obtain rfl := oiA hr
  refine run_V is76 (nbA rfl) ?_
  rotate_left
  all_goals (simp +decide only [go_sem, c76, *])
def qoH9 : ACode := .seq (.seq (.reg [] [] [.M 6 5, .M 7 0, .T 8 (.len (.tmp 7)), .K 9 (.bin .lss (.tmp 6) (.tmp 8))]) (.cond (.tmp 9) (some 9) (.skip) (.exit 0))) (.seq (.block 1 262656 (.seq (.reg [] [] [.M 12 0, .M 13 5, .T 14 (.ix 2 (.tmp 12) (.tmp 13)), .T 15 (.fa 0 (.tmp 14)), .T 16 (.load none (.tmp 15)), .M 17 1, .K 18 (.bin .eql (.tmp 16) (.tmp 17))]) (.cond (.tmp 18) (some 18) (.seq (.reg [] [] [.M 19 5, .N 4 19]) (.ret)) (.skip)))) (.reg [] [] [.M 10 5, .T 11 (.bin .add (.tmp 10) (cI 1)), .N 5 11]))
def c102 : ACode := .seq (.reg [] [] [.K 4 (.mv (cI 0))]) (.seq (.seq (.reg [] [] [.K 5 (.mv (cI 0))]) (.block 0 262656 (.loop qoH9))) (.seq (.reg [] [] [.K 4 (.mv (cI (-1)))]) (.ret)))
theorem is102 : IsF C 102 20 262707 c102 [.tmp 4] := ⟨⟨Tryd.f102, _, C_P ▸ Tryd.func102, rfl, rfl, rfl, by kernel_rfl, rfl⟩⟩
def qeX9 (s0 : List Bind) (s1 : Int) : Int → Unit → St := fun s5 _ => ⟨[(0, .d (.rd (s0.map qc9))), (1, PI s1), (4, PI 0), (5, PI s5)], []⟩
def qoM9 (s0 : List Bind) (s1 : Int) : (Int ⊕ Int) → AExit × St → Prop
  | .inl r, q => XV C [.tmp 4] (PI r) q
  | .inr s5, q => ∃ g, q = (.exit 0, qeX9 s0 s1 s5 g)
theorem qoX9 {s0 : List Bind} {s1 : Int} : Sim C 262707 qoH9 (qcP9 s0 s1) (qeX9 s0 s1) (qoM9 s0 s1) := by
  intro s g r hr
  have ⟨s5, hs0⟩ : ∃ y, y = s := ⟨_, rfl⟩
  subst hs0
  simp only [qcP9] at hr
  rcases iteP hr with ⟨h1, hr⟩ | ⟨h1, hr⟩
  obtain ⟨x1, h2, hr⟩ := bsome hr
  rcases iteP hr with ⟨h3, hr⟩ | ⟨h3, hr⟩
  obtain rfl := oiA hr
  refine xv_of ?_
  rotate_left
  obtain rfl := oiA hr
  refine ⟨(), ?_⟩
  rotate_left
  obtain rfl := oiA hr
  refine xe_of ⟨(), rfl⟩ ?_
  rotate_left
  all_goals (simp +decide only [go_sem, qeX9, qoH9, *])
theorem qqx9 {a0 : List Bind} {a1 : Int} {r : Int} (hr : qhx9 a0 a1 = some r) : Res C 102 [.rd (a0.map qc9), .v (.int .i64 a1)] (PI r) := by
  simp only [qhx9] at hr
  obtain ⟨x2, h1, hr⟩ := bsome hr
  obtain ⟨q1, h1L, h1X⟩ := qoX9.L (g := ()) h1
  rcases x2 with x3 | x4
  try dsimp only at hr
  obtain ⟨st1, rfl, h1R⟩ := h1X
  simp only [qeX9, go_sem] at h1L
  obtain rfl := oiA hr
  refine run_V is102 (nbA rfl) ?_
  rotate_left
  try dsimp only at hr
  obtain ⟨⟨⟩, rfl⟩ := h1X
  simp only [qeX9, go_sem] at h1L
  obtain rfl := oiA hr
  refine run_V is102 (nbA rfl) ?_
  rotate_left
  all_goals (simp +decide only [go_sem, c102, *])
def qqj9 : ACode := .seq (.seq (.reg [] [] [.M 11 5, .M 12 0, .T 13 (.len (.tmp 12)), .K 14 (.bin .lss (.tmp 11) (.tmp 13))]) (.cond (.tmp 14) (some 14) (.skip) (.exit 0))) (.seq (.block 1 33570816 (.seq (.reg [] [] [.M 17 0, .M 18 5, ⟨some (19, false), .ix 1 (.tmp 17) (.tmp 18), none, true, false⟩, ⟨some (20, false), .load none (.tmp 19), none, true, false⟩, .M 21 1, .M 22 5, ⟨some (23, false), .ix 1 (.tmp 21) (.tmp 22), none, true, false⟩, ⟨some (24, false), .load none (.tmp 23), none, true, false⟩, .K 25 (.bin .neq (.tmp 20) (.tmp 24))]) (.cond (.tmp 25) (some 25) (.seq (.reg [] [] [.K 4 (.mv (.const (.bool false)))]) (.ret)) (.skip)))) (.reg [] [] [.M 15 5, .T 16 (.bin .add (.tmp 15) (cI 1)), .N 5 16]))
def c103 : ACode := .seq (.reg [] [] [.K 4 (.mv (.const (.bool false)))]) (.seq (.seq (.reg [] [] [.M 6 0, .T 7 (.len (.tmp 6)), .M 8 1, .T 9 (.len (.tmp 8)), .K 10 (.bin .neq (.tmp 7) (.tmp 9))]) (.cond (.tmp 10) (some 10) (.seq (.reg [] [] [.K 4 (.mv (.const (.bool false)))]) (.ret)) (.skip))) (.seq (.seq (.reg [] [] [.K 5 (.mv (cI 0))]) (.block 0 33570816 (.loop qqj9))) (.seq (.reg [] [] [.K 4 (.mv (.const (.bool true)))]) (.ret))))
theorem is103 : IsF C 103 26 33571891 c103 [.tmp 4] := ⟨⟨Tryd.f103, _, C_P ▸ Tryd.func103, rfl, rfl, rfl, by kernel_rfl, rfl⟩⟩
def qee9 (s0 : List Int) (s1 : List Int) : Int → Unit → St := fun s5 _ => ⟨[(0, .d (.rd (s0.map intD))), (1, .d (.rd (s1.map intD))), (4, PB false), (5, PI s5)], []⟩
def qmH9 (s0 : List Int) (s1 : List Int) : (Bool ⊕ Int) → AExit × St → Prop
  | .inl r, q => XV C [.tmp 4] (PB r) q
  | .inr s5, q => ∃ g, q = (.exit 0, qee9 s0 s1 s5 g)
theorem qmB9 {s0 : List Int} {s1 : List Int} : Sim C 33571891 qqj9 (qfo9 s0 s1) (qee9 s0 s1) (qmH9 s0 s1) := by
  intro s g r hr
  have ⟨s5, hs0⟩ : ∃ y, y = s := ⟨_, rfl⟩
  subst hs0
  simp only [qfo9] at hr
  rcases iteP hr with ⟨h1, hr⟩ | ⟨h1, hr⟩
  obtain ⟨x1, h2, x2, h3, hr⟩ := bs2 hr
  rcases iteP hr with ⟨h4, hr⟩ | ⟨h4, hr⟩
  obtain rfl := oiA hr
  refine ⟨(), ?_⟩
  rotate_left
  obtain rfl := oiA hr
  refine xv_of ?_
  rotate_left
  obtain rfl := oiA hr
  refine xe_of ⟨(), rfl⟩ ?_
  rotate_left
  all_goals (simp +decide only [go_sem, qee9, qqj9, *])
theorem qnL9 {a0 : List Int} {a1 : List Int} {r : Bool} (hr : qeB9 a0 a1 = some r) : Res C 103 [.rd (a0.map intD), .rd (a1.map intD)] (PB r) := by
  simp only [qeB9] at hr
  rcases iteP hr with ⟨h1, hr⟩ | ⟨h1, hr⟩
  obtain ⟨x3, h2, hr⟩ := bsome hr
  obtain ⟨q2, h2L, h2X⟩ := qmB9.L (g := ()) h2
  rcases x3 with x4 | x5
  try dsimp only at hr
  obtain ⟨st2, rfl, h2R⟩ := h2X
  simp only [qee9, go_sem] at h2L
  obtain rfl := oiA hr
  refine run_V is103 (nbA rfl) ?_
  rotate_left
  try dsimp only at hr
  obtain ⟨⟨⟩, rfl⟩ := h2X
  simp only [qee9, go_sem] at h2L
  obtain rfl := oiA hr
  refine run_V is103 (nbA rfl) ?_
  rotate_left
  obtain rfl := oiA hr
  refine run_V is103 (nbA rfl) ?_
  rotate_left
  all_goals (simp +decide only [go_sem, c103, *])
def qqd9 : ACode := .seq (.seq (.reg [] [] [.M 12 5, .M 13 0, .T 14 (.len (.tmp 13)), .K 15 (.bin .lss (.tmp 12) (.tmp 14))]) (.cond (.tmp 15) (some 15) (.skip) (.exit 2))) (.seq (.block 3 9007199254773824 (.seq (.reg [] [] [.M 18 3, ⟨some (19, false), .len (.tmp 18), none, true, false⟩, .T 20 (.bin .eql (.tmp 19) (cI 0)), .M 21 20, .MG 22 21 false 0, .MG 23 21 false 5, ⟨some (24, false), .ix 2 (.tmp 22) (.tmp 23), some (21, false), true, false⟩, .TG 25 21 false (.fa 0 (.tmp 24)), ⟨some (26, false), .load none (.tmp 25), some (21, false), true, false⟩, .MG 27 21 false 3, .MG 28 21 false 3, ⟨some (29, false), .len (.tmp 28), some (21, false), true, false⟩, .TG 30 21 false (.bin .sub (.tmp 29) (cI 1)), ⟨some (31, false), .ix 2 (.tmp 27) (.tmp 30), some (21, false), true, false⟩, .TG 32 21 false (.fa 0 (.tmp 31)), ⟨some (33, false), .load none (.tmp 32), some (21, false), true, false⟩, .TG 34 21 false (.bin .gtr (.tmp 26) (.tmp 33)), .T 35 (.pick (.tmp 21) (.const (.bool true)) (.tmp 34)), .N 6 35]) (.seq (.reg [] [] [.M 36 6, .M 37 36, .MG 38 37 true 4, .TG 39 37 true (.bin .lss (.tmp 38) (cI 0)), .MG 40 37 true 39, .MG 41 40 false 0, .MG 42 40 false 5, ⟨some (43, false), .ix 2 (.tmp 41) (.tmp 42), some (40, false), true, false⟩, .TG 44 40 false (.fa 0 (.tmp 43)), ⟨some (45, false), .load none (.tmp 44), some (40, false), true, false⟩, .MG 46 40 false 0, .MG 47 40 false 4, ⟨some (48, false), .ix 2 (.tmp 46) (.tmp 47), some (40, false), true, false⟩, .TG 49 40 false (.fa 0 (.tmp 48)), ⟨some (50, false), .load none (.tmp 49), some (40, false), true, false⟩, .TG 51 40 false (.bin .lss (.tmp 45) (.tmp 50)), .TG 52 37 true (.pick (.tmp 40) (.const (.bool true)) (.tmp 51)), .K 53 (.pick (.tmp 37) (.tmp 52) (.const (.bool false)))]) (.cond (.tmp 53) (some 53) (.reg [] [] [.M 54 5, .N 4 54]) (.skip))))) (.reg [] [] [.M 16 5, .T 17 (.bin .add (.tmp 16) (cI 1)), .N 5 17]))
def qnZ9 : ACode := .seq (.seq (.reg [] [] [.M 7 3, .T 8 (.len (.tmp 7)), .M 9 0, .T 10 (.len (.tmp 9)), .K 11 (.bin .lss (.tmp 8) (.tmp 10))]) (.cond (.tmp 11) (some 11) (.skip) (.exit 0))) (.block 1 9007199254775920 (.seq (.reg [] [] [.K 4 (.mv (cI (-1)))]) (.seq (.seq (.reg [] [] [.K 5 (.mv (cI 0))]) (.block 2 9007199254775904 (.loop qqd9))) (.reg [] [] [.M 55 3, .M 56 0, .M 57 4, .T 58 (.ix 2 (.tmp 56) (.tmp 57)), .T 59 (.load (some 2) (.tmp 58)), .T 60 (.lit 2 [(0, .tmp 59)]), .T 61 (.app 2 32 (.tmp 55) (.tmp 60)), .N 3 61]))))
def c104 : ACode := .seq (.reg [] [(2, 0)] [.K 2 (.mv (.const (.slice none 0 0)))]) (.seq (.reg [] [(3, 2)] [.K 3 (.mv (.const (.slice none 0 0)))]) (.seq (.block 0 9007199254775920 (.loop qnZ9)) (.seq (.reg [] [(2, 0)] [.M 62 3, .N 2 62]) (.ret))))
theorem is104 : IsF C 104 63 9007199254775933 c104 [.tmp 2] := ⟨⟨Tryd.f104, _, C_P ▸ Tryd.func104, rfl, rfl, rfl, by kernel_rfl, rfl⟩⟩
def qhO9 (s0 : List Bind) (s2 : List Bind) (o3 : List Bind) (v3 : Nat) : Int × Int → Unit → St := fun (s4, s5) _ => ⟨[(0, .d (.rd (s0.map qc9))), (2, .d (.rd (s2.map qc9))), (3, .ref 0 v3 0 o3.length), (4, PI s4), (5, PI s5)], (.row false v3 2 (rowP qc9 o3) :: [])⟩
def qnR9 (s0 : List Bind) (s2 : List Bind) (o3 : List Bind) (v3 : Nat) : Int → AExit × St → Prop := fun s4 q => ∃ d5 : PV, q = (.exit 2, ⟨[(0, .d (.rd (s0.map qc9))), (2, .d (.rd (s2.map qc9))), (3, .ref 0 v3 0 o3.length), (4, PI s4), (5, d5)], (.row false v3 2 (rowP qc9 o3) :: [])⟩)
theorem qnD9 {s0 : List Bind} {s2 : List Bind} {o3 : List Bind} {v3 : Nat} : Sim C 9007199254775933 qqd9 (qch9 s0 s2 o3) (qhO9 s0 s2 o3 v3) (qnR9 s0 s2 o3 v3) := by
  intro s g r hr
  obtain ⟨s4, s5⟩ := s
  simp only [qch9] at hr
  rcases iteP hr with ⟨h1, hr⟩ | ⟨h1, hr⟩
  rcases iteP hr with ⟨h2, hr⟩ | ⟨h2, hr⟩
  rcases iteP hr with ⟨h3, hr⟩ | ⟨h3, hr⟩
  obtain rfl := oiA hr
  refine ⟨(), ?_⟩
  rotate_left
  obtain ⟨x1, h4, x2, h5, hr⟩ := bs2 hr
  rcases iteP hr with ⟨h6, hr⟩ | ⟨h6, hr⟩
  obtain rfl := oiA hr
  refine ⟨(), ?_⟩
  rotate_left
  obtain rfl := oiA hr
  refine ⟨(), ?_⟩
  rotate_left
  obtain ⟨x3, h7, x4, h8, hr⟩ := bs2 hr
  have h8a := eq_true (qa9 h8).1
  have h8b := eq_true (qa9 h8).2.1
  have h8c := (qa9 h8).2.2
  rcases iteP hr with ⟨h9, hr⟩ | ⟨h9, hr⟩
  rcases iteP hr with ⟨h10, hr⟩ | ⟨h10, hr⟩
  obtain rfl := oiA hr
  refine ⟨(), ?_⟩
  rotate_left
  obtain ⟨x5, h11, hr⟩ := bsome hr
  rcases iteP hr with ⟨h12, hr⟩ | ⟨h12, hr⟩
  obtain rfl := oiA hr
  refine ⟨(), ?_⟩
  rotate_left
  obtain rfl := oiA hr
  refine ⟨(), ?_⟩
  rotate_left
  obtain rfl := oiA hr
  refine ⟨(), ?_⟩
  rotate_left
  obtain rfl := oiA hr
  refine xe_of ⟨PI s5, rfl⟩ ?_
  rotate_left
  all_goals (simp +decide only [go_sem, qhO9, qqd9, *])
def qfP9 (s0 : List Bind) (s2 : List Bind) : (List Bind) → Nat → St := fun o3 v3 => ⟨[(0, .d (.rd (s0.map qc9))), (2, .d (.rd (s2.map qc9))), (3, .ref 0 v3 0 o3.length)], (.row false v3 2 (rowP qc9 o3) :: [])⟩
def qnJ9 (s0 : List Bind) (s2 : List Bind) : ((List Bind)) → AExit × St → Prop := fun o3 q => ∃ g, q = (.exit 0, qfP9 s0 s2 o3 g)
theorem qnQ9 {s0 : List Bind} {s2 : List Bind} : Sim C 9007199254775933 qnZ9 (qdF9 s0 s2) (qfP9 s0 s2) (qnJ9 s0 s2) := by
  intro s g r hr
  have ⟨o3, hs0⟩ : ∃ y, y = s := ⟨_, rfl⟩
  subst hs0
  have ⟨v3, hg0⟩ : ∃ y, y = g := ⟨_, rfl⟩
  subst hg0
  simp only [qdF9] at hr
  rcases iteP hr with ⟨h1, hr⟩ | ⟨h1, hr⟩
  obtain ⟨x6, h2, hr⟩ := bsome hr
  obtain ⟨q2, h2L, h2X⟩ := (qnD9 (v3 := v3)).L (g := ()) h2
  have ⟨x7, hq2⟩ : ∃ y, y = x6 := ⟨_, rfl⟩
  subst hq2
  try dsimp only at hr
  obtain ⟨z8, rfl⟩ := h2X
  simp only [qhO9, go_sem] at h2L
  obtain ⟨x9, h3, hr⟩ := bsome hr
  obtain ⟨h4, hr⟩ := gsome hr
  obtain rfl := oiA hr
  refine ⟨(v3 + 1), ?_⟩
  rotate_left
  obtain rfl := oiA hr
  refine xe_of ⟨v3, rfl⟩ ?_
  rotate_left
  all_goals (simp +decide only [go_sem, qfP9, qnZ9, *])
theorem qor9 {a0 : List Bind} {r : (List Bind)} (hr : qgD9 a0 = some r) : Res C 104 [.rd (a0.map qc9)] (.d (.rd (r.map qc9))) := by
  simp only [qgD9] at hr
  obtain ⟨x10, h1, hr⟩ := bsome hr
  obtain ⟨q1, h1L, h1X⟩ := qnQ9.L (g := 0) h1
  have ⟨x11, hq1⟩ : ∃ y, y = x10 := ⟨_, rfl⟩
  subst hq1
  try dsimp only at hr
  obtain ⟨z12, rfl⟩ := h1X
  simp only [qfP9, go_sem] at h1L
  obtain rfl := oiA hr
  refine run_V is104 (nbA rfl) ?_
  rotate_left
  all_goals (simp +decide only [go_sem, c104, *])
def b79_0 : ACode := .seq (.seq (.reg [] [] [.M 14 10, .M 15 1, .T 16 (.len (.tmp 15)), .K 17 (.bin .lss (.tmp 14) (.tmp 16))]) (.cond (.tmp 17) (some 17) (.skip) (.exit 0))) (.seq (.block 1 4722384497276761552896 (.seq (.seq (.reg [] [] [.M 20 1, .M 21 10, .T 22 (.ix 1 (.tmp 20) (.tmp 21)), .T 23 (.load none (.tmp 22)), .K 24 (.bin .geq (.tmp 23) (cI 0))]) (.cond (.tmp 24) (some 24) (.seq (.seq (.reg [] [] [.M 25 2, .M 26 9, ⟨some (27, false), .ix 1 (.tmp 25) (.tmp 26), none, true, false⟩, ⟨some (28, false), .load none (.tmp 27), none, true, false⟩, .M 29 1, .M 30 10, ⟨some (31, false), .ix 1 (.tmp 29) (.tmp 30), none, true, false⟩, ⟨some (32, false), .load none (.tmp 31), none, true, false⟩, .K 33 (.bin .neq (.tmp 28) (.tmp 32))]) (.cond (.tmp 33) (some 33) (.seq (.reg [] [(6, 0)] [.K 6 (.mv (.const (.slice none 0 0))), .K 7 (.mv (.const (.bool false)))]) (.ret)) (.skip))) (.seq (.reg [] [] [.M 34 9, .T 35 (.bin .add (.tmp 34) (cI 1)), .N 9 35]) (.exit 1))) (.skip))) (.seq (.reg [] [] [.M 36 0, .M 37 2, .M 38 9, .T 39 (.call 76 [.tmp 36, .tmp 37, .tmp 38]), .N 11 39]) (.seq (.reg [] [(12, 0)] [.T 40 (.lit 1 []), .M 41 2, .M 42 9, .M 43 11, .T 44 (.cut 1 (.tmp 41) (some (.tmp 42)) (some (.tmp 43))), .T 45 (.app 1 8 (.tmp 40) (.tmp 44)), .N 12 45]) (.seq (.reg [] [] [.M 46 8, .M 47 1, .M 48 10, .T 49 (.ix 1 (.tmp 47) (.tmp 48)), .T 50 (.load none (.tmp 49)), .T 51 (.bin .sub (cI (-1)) (.tmp 50)), .T 52 (.call 102 [.tmp 46, .tmp 51]), .N 13 52]) (.seq (.seq (.reg [] [] [.M 53 13, .K 54 (.bin .lss (.tmp 53) (cI 0))]) (.cond (.tmp 54) (some 54) (.reg [] [] [.M 55 8, .M 56 1, .M 57 10, .T 58 (.ix 1 (.tmp 56) (.tmp 57)), .T 59 (.load none (.tmp 58)), .T 60 (.bin .sub (cI (-1)) (.tmp 59)), .M 61 12, .T 62 (.build [(0, 1), (1, 1)] [.d (.v (.int .i64 0)), .im true []] [(0, .tmp 60), (1, .tmp 61)]), .T 63 (.lit 2 [(0, .tmp 62)]), .T 64 (.app 2 32 (.tmp 55) (.tmp 63)), .N 8 64]) (.seq (.reg [] [] [.M 65 8, .M 66 13, .T 67 (.ix 2 (.tmp 65) (.tmp 66)), .T 68 (.fa 1 (.tmp 67)), .T 69 (.load none (.tmp 68)), .M 70 12, .T 71 (.call 103 [.tmp 69, .tmp 70]), .K 72 (.not (.tmp 71))]) (.cond (.tmp 72) (some 72) (.seq (.reg [] [(6, 0)] [.K 6 (.mv (.const (.slice none 0 0))), .K 7 (.mv (.const (.bool false)))]) (.ret)) (.skip))))) (.reg [] [] [.M 73 11, .N 9 73]))))))) (.reg [] [] [.M 18 10, .T 19 (.bin .add (.tmp 18) (cI 1)), .N 10 19]))
def c79 : ACode := .seq (.reg [] [(6, 0)] [.K 6 (.mv (.const (.slice none 0 0))), .K 7 (.mv (.const (.bool false)))]) (.seq (.reg [] [(8, 2)] [.K 8 (.mv (.const (.slice none 0 0)))]) (.seq (.reg [] [] [.K 9 (.mv (cI 0))]) (.seq (.seq (.reg [] [] [.K 10 (.mv (cI 0))]) (.block 0 4722384497276761552896 (.loop b79_0))) (.seq (.reg [] [] [.M 74 8, .T 75 (.call 104 [.tmp 74]), .N 6 75, .K 7 (.mv (.const (.bool true)))]) (.ret)))))
theorem is79 : IsF C 79 76 4722384497276761554887 c79 [.tmp 6, .tmp 7] := ⟨⟨Tryd.f79, _, C_P ▸ Tryd.func79, rfl, rfl, rfl, by kernel_rfl, rfl⟩⟩
def qeW9 (s0 : List Symbol) (s1 : List Int) (s2 : List Int) (s6 : List Bind) : Int × Int × (List Bind) → Nat × AHeap → St := fun (s9, s10, o8) (v8, gt) => ⟨[(0, .d (.rd (s0.map qb9))), (1, .d (.rd (s1.map intD))), (2, .d (.rd (s2.map intD))), (6, .d (.rd (s6.map qc9))), (7, PB false), (8, .ref 0 v8 0 o8.length), (9, PI s9), (10, PI s10)], (.row false v8 2 (rowP qc9 o8) :: gt)⟩
def qoU9 (s0 : List Symbol) (s1 : List Int) (s2 : List Int) (s6 : List Bind) : (((List Bind) × Bool) ⊕ (Int × Int × (List Bind))) → AExit × St → Prop
  | .inl r, q => XV C [.tmp 6, .tmp 7] (.tp [.d (.rd (r.1.map qc9)), PB r.2]) q
  | .inr (s9, s10, o8), q => ∃ g, q = (.exit 0, qeW9 s0 s1 s2 s6 (s9, s10, o8) g)
theorem qnV9 {s0 : List Symbol} {s1 : List Int} {s2 : List Int} {s6 : List Bind} : Sim C 4722384497276761554887 b79_0 (qce9 s0 s1 s2 s6) (qeW9 s0 s1 s2 s6) (qoU9 s0 s1 s2 s6) := by
  intro s g r hr
  obtain ⟨s9, s10, o8⟩ := s
  obtain ⟨v8, gt⟩ := g
  simp only [qce9] at hr
  rcases iteP hr with ⟨h1, hr⟩ | ⟨h1, hr⟩
  obtain ⟨x1, h2, hr⟩ := bsome hr
  rcases iteP hr with ⟨h3, hr⟩ | ⟨h3, hr⟩
  obtain ⟨x2, h4, hr⟩ := bsome hr
  rcases iteP hr with ⟨h5, hr⟩ | ⟨h5, hr⟩
  obtain rfl := oiA hr
  refine ⟨(v8, gt), ?_⟩
  rotate_left
  obtain rfl := oiA hr
  refine xv_of ?_
  rotate_left
  obtain ⟨x3, h6, x4, h7, hr⟩ := bs2 hr
  have h6k := (qtG9 h6).k rfl rfl rfl
  try simp only [go_sem] at h6k
  obtain ⟨h8, hr⟩ := gsome hr
  obtain ⟨x5, h9, hr⟩ := bsome hr
  have h9k := fun h args => (qqx9 h9).o rfl rfl rfl (h := h) (args := args)
  try simp only [go_sem] at h9k
  rcases iteP hr with ⟨h10, hr⟩ | ⟨h10, hr⟩
  obtain ⟨h11, hr⟩ := gsome hr
  obtain rfl := oiA hr
  refine ⟨((v8 + 1), (gt ++ (.row true 0 1 (rowP intD x4) :: []))), ?_⟩
  rotate_left
  obtain ⟨x6, h12, x7, h13, hr⟩ := bs2 hr
  have h12a := eq_true (qa9 h12).1
  have h12b := eq_true (qa9 h12).2.1
  have h12c := (qa9 h12).2.2
  have h13k := (qnL9 h13).k rfl rfl rfl
  try simp only [go_sem] at h13k
  rcases iteB hr with ⟨h14, hr⟩ | ⟨h14, hr⟩
  obtain rfl := oiA hr
  refine ⟨(v8, (gt ++ (.row true 0 1 (rowP intD x4) :: []))), ?_⟩
  rotate_left
  obtain rfl := oiA hr
  refine xv_of ?_
  rotate_left
  obtain rfl := oiA hr
  refine xe_of ⟨(v8, gt), rfl⟩ ?_
  rotate_left
  all_goals (simp +decide only [go_sem, qeW9, b79_0, *])
theorem qqJ9 {a0 : List Symbol} {a1 : List Int} {a2 : List Int} {r : (List Bind) × Bool} (hr : qhE9 a0 a1 a2 = some r) : Res C 79 [.rd (a0.map qb9), .rd (a1.map intD), .rd (a2.map intD)] (.tp [.d (.rd (r.1.map qc9)), PB r.2]) := by
  simp only [qhE9] at hr
  obtain ⟨x8, h1, hr⟩ := bsome hr
  obtain ⟨q1, h1L, h1X⟩ := qnV9.L (g := (0, [])) h1
  rcases x8 with x9 | ⟨x10, x11, x12⟩
  try dsimp only at hr
  obtain ⟨st1, rfl, h1R⟩ := h1X
  simp only [qeW9, go_sem] at h1L
  obtain rfl := oiA hr
  refine run_V is79 (nbA rfl) ?_
  rotate_left
  try dsimp only at hr
  obtain ⟨⟨z13, z14⟩, rfl⟩ := h1X
  simp only [qeW9, go_sem] at h1L
  obtain ⟨x15, h2, hr⟩ := bsome hr
  have h2k := fun h args => (qor9 h2).o rfl rfl rfl (h := h) (args := args)
  try simp only [go_sem] at h2k
  obtain rfl := oiA hr
  refine run_V is79 (nbA rfl) ?_
  rotate_left
  all_goals (simp +decide only [go_sem, c79, *])
def c48 : ACode := .seq (.reg [] [(10, 0)] [.K 5 (.box (.tmp 0)), .K 10 (.mv (.const (.slice none 0 0))), .K 11 (.mv (.const (.bool false)))]) (.seq (.reg [] [] [.T 12 (.fa 0 (.tmp 5)), ⟨some (13, false), .load none (.tmp 12), none, true, false⟩, .T 14 (.fa 1 (.tmp 5)), ⟨some (15, false), .load none (.tmp 14), none, true, false⟩, .M 16 4, ⟨some (17, false), .ix 2 (.tmp 15) (.tmp 16), none, true, false⟩, .T 18 (.fa 0 (.tmp 17)), ⟨some (19, false), .load none (.tmp 18), none, true, false⟩, .M 20 1, .M 21 2, .M 22 3, ⟨some (23, false), .cut 1 (.tmp 20) (some (.tmp 21)) (some (.tmp 22)), none, true, false⟩, ⟨some (24, false), .call 79 [.tmp 13, .tmp 19, .tmp 23], none, true, false⟩, .T 25 (.ext (.tmp 24) 0), .T 26 (.ext (.tmp 24) 1), .N 10 25, .N 11 26]) (.ret))
theorem is48 : IsF C 48 27 3135 c48 [.tmp 10, .tmp 11] := ⟨⟨Tryd.f48, _, C_P ▸ Tryd.func48, rfl, rfl, rfl, by kernel_rfl, rfl⟩⟩
theorem qnN9 {a0 : System} {a1 : List Int} {a2 : Int} {a3 : Int} {a4 : Int} {r : (List Bind) × Bool} (hr : qfD9 a0 a1 a2 a3 a4 = some r) : Res C 48 [.ag (qf9 a0), .rd (a1.map intD), .v (.int .i64 a2), .v (.int .i64 a3), .v (.int .i64 a4)] (.tp [.d (.rd (r.1.map qc9)), PB r.2]) := by
  simp only [qfD9] at hr
  obtain ⟨x1, h1, x2, h2, x3, h3, hr⟩ := bs3 hr
  have h3k := (qqJ9 h3).k rfl rfl rfl
  try simp only [go_sem] at h3k
  obtain rfl := oiA hr
  refine run_V is48 (nbA rfl) ?_
  rotate_left
  all_goals (simp +decide only [go_sem, c48, *])
def b86_0 : ACode := .seq (.seq (.reg [] [] [.M 7 6, .M 8 0, .T 9 (.len (.tmp 8)), .K 10 (.bin .lss (.tmp 7) (.tmp 9))]) (.cond (.tmp 10) (some 10) (.skip) (.exit 0))) (.seq (.block 1 525312 (.seq (.reg [] [] [.M 13 0, .M 14 6, .T 15 (.ix 2 (.tmp 13) (.tmp 14)), .T 16 (.fa 0 (.tmp 15)), .T 17 (.load none (.tmp 16)), .M 18 1, .K 19 (.bin .eql (.tmp 17) (.tmp 18))]) (.cond (.tmp 19) (some 19) (.seq (.reg [] [] [.M 20 0, .M 21 6, .T 22 (.ix 2 (.tmp 20) (.tmp 21)), .T 23 (.fa 1 (.tmp 22)), .T 24 (.load none (.tmp 23)), .N 4 24, .K 5 (.mv (.const (.bool true)))]) (.ret)) (.skip)))) (.reg [] [] [.M 11 6, .T 12 (.bin .add (.tmp 11) (cI 1)), .N 6 12]))
def c86 : ACode := .seq (.reg [] [(4, 0)] [.K 4 (.mv (.const (.slice none 0 0))), .K 5 (.mv (.const (.bool false)))]) (.seq (.seq (.reg [] [] [.K 6 (.mv (cI 0))]) (.block 0 525312 (.loop b86_0))) (.seq (.reg [] [(4, 0)] [.K 4 (.mv (.const (.slice none 0 0))), .K 5 (.mv (.const (.bool false)))]) (.ret)))
theorem is86 : IsF C 86 25 525427 c86 [.tmp 4, .tmp 5] := ⟨⟨Tryd.f86, _, C_P ▸ Tryd.func86, rfl, rfl, rfl, by kernel_rfl, rfl⟩⟩
def qeT9 (s0 : List Bind) (s1 : Int) (s4 : List Int) : Int → Unit → St := fun s6 _ => ⟨[(0, .d (.rd (s0.map qc9))), (1, PI s1), (4, .d (.rd (s4.map intD))), (5, PB false), (6, PI s6)], []⟩
def qnU9 (s0 : List Bind) (s1 : Int) (s4 : List Int) : (((List Int) × Bool) ⊕ Int) → AExit × St → Prop
  | .inl r, q => XV C [.tmp 4, .tmp 5] (.tp [.d (.rd (r.1.map intD)), PB r.2]) q
  | .inr s6, q => ∃ g, q = (.exit 0, qeT9 s0 s1 s4 s6 g)
theorem qpl9 {s0 : List Bind} {s1 : Int} {s4 : List Int} : Sim C 525427 b86_0 (qef9 s0 s1 s4) (qeT9 s0 s1 s4) (qnU9 s0 s1 s4) := by
  intro s g r hr
  have ⟨s6, hs0⟩ : ∃ y, y = s := ⟨_, rfl⟩
  subst hs0
  simp only [qef9] at hr
  rcases iteP hr with ⟨h1, hr⟩ | ⟨h1, hr⟩
  obtain ⟨x1, h2, hr⟩ := bsome hr
  rcases iteP hr with ⟨h3, hr⟩ | ⟨h3, hr⟩
  obtain rfl := oiA hr
  refine xv_of ?_
  rotate_left
  obtain rfl := oiA hr
  refine ⟨(), ?_⟩
  rotate_left
  obtain rfl := oiA hr
  refine xe_of ⟨(), rfl⟩ ?_
  rotate_left
  all_goals (simp +decide only [go_sem, qeT9, b86_0, *])
theorem qrg9 {a0 : List Bind} {a1 : Int} {r : (List Int) × Bool} (hr : qhw9 a0 a1 = some r) : Res C 86 [.rd (a0.map qc9), .v (.int .i64 a1)] (.tp [.d (.rd (r.1.map intD)), PB r.2]) := by
  simp only [qhw9] at hr
  obtain ⟨x2, h1, hr⟩ := bsome hr
  obtain ⟨q1, h1L, h1X⟩ := qpl9.L (g := ()) h1
  rcases x2 with x3 | x4
  try dsimp only at hr
  obtain ⟨st1, rfl, h1R⟩ := h1X
  simp only [qeT9, go_sem] at h1L
  obtain rfl := oiA hr
  refine run_V is86 (nbA rfl) ?_
  rotate_left
  try dsimp only at hr
  obtain ⟨⟨⟩, rfl⟩ := h1X
  simp only [qeT9, go_sem] at h1L
  obtain rfl := oiA hr
  refine run_V is86 (nbA rfl) ?_
  rotate_left
  all_goals (simp +decide only [go_sem, c86, *])
def b51_0 : ACode := .seq (.seq (.reg [] [] [.M 14 9, .M 15 1, .T 16 (.len (.tmp 15)), .K 17 (.bin .lss (.tmp 14) (.tmp 16))]) (.cond (.tmp 17) (some 17) (.skip) (.exit 0))) (.seq (.block 1 282575025347584 (.seq (.reg [] [] [.M 20 1, .M 21 9, .M 22 9, .T 23 (.bin .add (.tmp 22) (cI 1)), .T 24 (.cut 1 (.tmp 20) (some (.tmp 21)) (some (.tmp 23))), .N 10 24]) (.seq (.seq (.reg [] [] [.M 25 1, .M 26 9, .T 27 (.ix 1 (.tmp 25) (.tmp 26)), .T 28 (.load none (.tmp 27)), .K 29 (.bin .lss (.tmp 28) (cI 0))]) (.cond (.tmp 29) (some 29) (.seq (.reg [] [] [.M 31 0, .M 32 1, .M 33 9, .T 34 (.ix 1 (.tmp 32) (.tmp 33)), .T 35 (.load none (.tmp 34)), .T 36 (.bin .sub (cI (-1)) (.tmp 35)), .T 37 (.call 86 [.tmp 31, .tmp 36]), .M 30 37, .T 38 (.ext (.tmp 30) 0), .T 39 (.ext (.tmp 30) 1), .N 11 38, .N 12 39]) (.seq (.reg [] [] [.N 40 12]) (.cond (.tmp 40) (some 40) (.reg [] [] [.M 41 11, .N 10 41]) (.skip)))) (.skip))) (.seq (.seq (.reg [] [] [.M 42 10, .T 43 (.len (.tmp 42)), .M 44 2, .M 45 8, .T 46 (.len (.tmp 45)), .T 47 (.bin .sub (.tmp 44) (.tmp 46)), .K 48 (.bin .gtr (.tmp 43) (.tmp 47))]) (.cond (.tmp 48) (some 48) (.seq (.reg [] [(6, 0)] [.K 6 (.mv (.const (.slice none 0 0))), .K 7 (.mv (.const (.bool false)))]) (.ret)) (.skip))) (.reg [] [] [.M 49 8, .M 50 10, .T 51 (.app 1 8 (.tmp 49) (.tmp 50)), .N 8 51]))))) (.reg [] [] [.M 18 9, .T 19 (.bin .add (.tmp 18) (cI 1)), .N 9 19]))
def c51 : ACode := .seq (.reg [] [(6, 0)] [.K 6 (.mv (.const (.slice none 0 0))), .K 7 (.mv (.const (.bool false)))]) (.seq (.reg [] [(8, 1)] [.T 13 (.lit 1 []), .N 8 13]) (.seq (.seq (.reg [] [] [.K 9 (.mv (cI 0))]) (.block 0 282575025347584 (.loop b51_0))) (.seq (.reg [] [(6, 0)] [.M 52 8, .N 6 52, .K 7 (.mv (.const (.bool true)))]) (.ret))))
theorem is51 : IsF C 51 53 282575025348551 c51 [.tmp 6, .tmp 7] := ⟨⟨Tryd.f51, _, C_P ▸ Tryd.func51, rfl, rfl, rfl, by kernel_rfl, rfl⟩⟩
def qfq9 (s0 : List Bind) (s1 : List Int) (s2 : Int) (s6 : List Int) : Int × (List Int) → Nat → St := fun (s9, o8) v8 => ⟨[(0, .d (.rd (s0.map qc9))), (1, .d (.rd (s1.map intD))), (2, PI s2), (6, .d (.rd (s6.map intD))), (7, PB false), (8, .ref 0 v8 0 o8.length), (9, PI s9)], (.row false v8 1 (rowP intD o8) :: [])⟩
def qqz9 (s0 : List Bind) (s1 : List Int) (s2 : Int) (s6 : List Int) : (((List Int) × Bool) ⊕ (Int × (List Int))) → AExit × St → Prop
  | .inl r, q => XV C [.tmp 6, .tmp 7] (.tp [.d (.rd (r.1.map intD)), PB r.2]) q
  | .inr (s9, o8), q => ∃ g, q = (.exit 0, qfq9 s0 s1 s2 s6 (s9, o8) g)
theorem qrb9 {s0 : List Bind} {s1 : List Int} {s2 : Int} {s6 : List Int} : Sim C 282575025348551 b51_0 (qdP9 s0 s1 s2 s6) (qfq9 s0 s1 s2 s6) (qqz9 s0 s1 s2 s6) := by
  intro s g r hr
  obtain ⟨s9, o8⟩ := s
  have ⟨v8, hg0⟩ : ∃ y, y = g := ⟨_, rfl⟩
  subst hg0
  simp only [qdP9] at hr
  rcases iteP hr with ⟨h1, hr⟩ | ⟨h1, hr⟩
  obtain ⟨x1, h2, x2, h3, hr⟩ := bs2 hr
  rcases iteP hr with ⟨h4, hr⟩ | ⟨h4, hr⟩
  obtain ⟨x3, h5, hr⟩ := bsome hr
  have h5k := (qrg9 h5).k rfl rfl rfl
  try simp only [go_sem] at h5k
  rcases iteB hr with ⟨h6, hr⟩ | ⟨h6, hr⟩
  rcases iteP hr with ⟨h7, hr⟩ | ⟨h7, hr⟩
  obtain rfl := oiA hr
  refine xv_of ?_
  rotate_left
  obtain ⟨h8, hr⟩ := gsome hr
  obtain rfl := oiA hr
  refine ⟨(v8 + 1), ?_⟩
  rotate_left
  rcases iteP hr with ⟨h9, hr⟩ | ⟨h9, hr⟩
  obtain rfl := oiA hr
  refine xv_of ?_
  rotate_left
  obtain ⟨h10, hr⟩ := gsome hr
  obtain rfl := oiA hr
  refine ⟨(v8 + 1), ?_⟩
  rotate_left
  rcases iteP hr with ⟨h11, hr⟩ | ⟨h11, hr⟩
  obtain rfl := oiA hr
  refine xv_of ?_
  rotate_left
  obtain ⟨h12, hr⟩ := gsome hr
  obtain rfl := oiA hr
  refine ⟨(v8 + 1), ?_⟩
  rotate_left
  obtain rfl := oiA hr
  refine xe_of ⟨v8, rfl⟩ ?_
  rotate_left
  all_goals (simp +decide only [go_sem, qfq9, b51_0, *])
theorem qsP9 {a0 : List Bind} {a1 : List Int} {a2 : Int} {r : (List Int) × Bool} (hr : qiC9 a0 a1 a2 = some r) : Res C 51 [.rd (a0.map qc9), .rd (a1.map intD), .v (.int .i64 a2)] (.tp [.d (.rd (r.1.map intD)), PB r.2]) := by
  simp only [qiC9] at hr
  obtain ⟨x4, h1, hr⟩ := bsome hr
  obtain ⟨q1, h1L, h1X⟩ := qrb9.L (g := 0) h1
  rcases x4 with x5 | ⟨x6, x7⟩
  try dsimp only at hr
  obtain ⟨st1, rfl, h1R⟩ := h1X
  simp only [qfq9, go_sem] at h1L
  obtain rfl := oiA hr
  refine run_V is51 (nbA rfl) ?_
  rotate_left
  try dsimp only at hr
  obtain ⟨z8, rfl⟩ := h1X
  simp only [qfq9, go_sem] at h1L
  obtain rfl := oiA hr
  refine run_V is51 (nbA rfl) ?_
  rotate_left
  all_goals (simp +decide only [go_sem, c51, *])
def c19 : ACode := .seq (.reg [] [(6, 0)] [.K 3 (.box (.tmp 0)), .K 5 (.box (.tmp 2)), .K 6 (.mv (.const (.slice none 0 0))), .K 7 (.mv (cI 0))]) (.seq (.reg [] [] [.T 16 (.load (some 2) (.tmp 3)), .M 17 1, .T 18 (.call 46 [.tmp 16, .tmp 17]), .N 8 18]) (.seq (.seq (.reg [] [] [.M 19 8, .K 20 (.bin .neq (.tmp 19) (cI 0))]) (.cond (.tmp 20) (some 20) (.seq (.reg [] [(6, 0)] [.M 21 8, .K 6 (.mv (.const (.slice none 0 0))), .N 7 21]) (.ret)) (.skip))) (.seq (.seq (.reg [] [] [.T 22 (.fa 0 (.tmp 5)), .T 23 (.load none (.tmp 22)), .T 24 (.bin .lss (.tmp 23) (cI 0)), .M 25 24, .TG 26 25 false (.fa 0 (.tmp 5)), .TG 27 25 false (.load none (.tmp 26)), .MG 28 25 false 1, .TG 29 25 false (.len (.tmp 28)), .TG 30 25 false (.bin .geq (.tmp 27) (.tmp 29)), .K 31 (.pick (.tmp 25) (.const (.bool true)) (.tmp 30))]) (.cond (.tmp 31) (some 31) (.seq (.reg [] [(6, 0)] [.K 6 (.mv (.const (.slice none 0 0))), .K 7 (.mv (cI 33))]) (.ret)) (.skip))) (.seq (.seq (.reg [] [] [.T 32 (.fa 1 (.tmp 5)), .T 33 (.load none (.tmp 32)), .T 34 (.bin .lss (.tmp 33) (cI 0)), .M 35 34, .TG 36 35 false (.fa 1 (.tmp 5)), .TG 37 35 false (.load none (.tmp 36)), .TG 38 35 false (.fa 1 (.tmp 3)), .TG 39 35 false (.load none (.tmp 38)), .TG 40 35 false (.len (.tmp 39)), .TG 41 35 false (.bin .geq (.tmp 37) (.tmp 40)), .K 42 (.pick (.tmp 35) (.const (.bool true)) (.tmp 41))]) (.cond (.tmp 42) (some 42) (.seq (.reg [] [(6, 0)] [.K 6 (.mv (.const (.slice none 0 0))), .K 7 (.mv (cI 1))]) (.ret)) (.skip))) (.seq (.reg [] [] [.T 43 (.fa 0 (.tmp 3)), .T 44 (.load none (.tmp 43)), .M 45 1, .T 46 (.fa 0 (.tmp 5)), .T 47 (.load none (.tmp 46)), .T 48 (.call 47 [.tmp 44, .tmp 45, .tmp 47]), .N 9 48]) (.seq (.reg [] [] [.T 50 (.load (some 2) (.tmp 3)), .M 51 1, .T 52 (.fa 0 (.tmp 5)), .T 53 (.load none (.tmp 52)), .M 54 9, .T 55 (.fa 1 (.tmp 5)), .T 56 (.load none (.tmp 55)), .T 57 (.call 48 [.tmp 50, .tmp 51, .tmp 53, .tmp 54, .tmp 56]), .M 49 57, .T 58 (.ext (.tmp 49) 0), .T 59 (.ext (.tmp 49) 1), .N 10 58, .N 11 59]) (.seq (.seq (.reg [] [] [.M 60 11, .K 61 (.not (.tmp 60))]) (.cond (.tmp 61) (some 61) (.seq (.reg [] [(6, 0)] [.K 6 (.mv (.const (.slice none 0 0))), .K 7 (.mv (cI 80))]) (.ret)) (.skip))) (.seq (.reg [] [] [.T 62 (.fa 0 (.tmp 5)), .T 63 (.load none (.tmp 62)), .T 64 (.bin .sub (cI 512) (.tmp 63)), .M 65 1, .T 66 (.len (.tmp 65)), .M 67 9, .T 68 (.bin .sub (.tmp 66) (.tmp 67)), .T 69 (.bin .sub (.tmp 64) (.tmp 68)), .N 12 69]) (.seq (.reg [] [] [.M 71 10, .T 72 (.fa 1 (.tmp 3)), .T 73 (.load none (.tmp 72)), .T 74 (.fa 1 (.tmp 5)), .T 75 (.load none (.tmp 74)), .T 76 (.ix 2 (.tmp 73) (.tmp 75)), .T 77 (.fa 1 (.tmp 76)), .T 78 (.load none (.tmp 77)), .M 79 12, .T 80 (.raw ({ dst := some 80, op := Go.Op.call { callee := Go.Callee.builtin Go.Builtin.max, args := #[.const (.int .i64 0), .tmp 79], argTypes := #[3, 3] }, type := 3, pos := "ref.go:90", after := #[{ on := 8, ground := Go.Ground.data }], guard := none })), .T 81 (.call 51 [.tmp 71, .tmp 78, .tmp 80]), .M 70 81, .T 82 (.ext (.tmp 70) 0), .T 83 (.ext (.tmp 70) 1), .N 13 82, .N 14 83]) (.seq (.seq (.reg [] [] [.M 84 14, .T 85 (.not (.tmp 84)), .M 86 85, .MG 87 86 false 13, .TG 88 86 false (.len (.tmp 87)), .MG 89 86 false 12, .TG 90 86 false (.bin .gtr (.tmp 88) (.tmp 89)), .K 91 (.pick (.tmp 86) (.const (.bool true)) (.tmp 90))]) (.cond (.tmp 91) (some 91) (.seq (.reg [] [(6, 0)] [.K 6 (.mv (.const (.slice none 0 0))), .K 7 (.mv (cI 2))]) (.ret)) (.skip))) (.seq (.reg [] [] [.T 92 (.lit 1 []), .M 93 1, .T 94 (.fa 0 (.tmp 5)), .T 95 (.load none (.tmp 94)), .T 96 (.cut 1 (.tmp 93) none (some (.tmp 95))), .T 97 (.app 1 8 (.tmp 92) (.tmp 96)), .N 15 97]) (.seq (.reg [] [] [.M 98 15, .M 99 13, .T 100 (.app 1 8 (.tmp 98) (.tmp 99)), .N 15 100]) (.seq (.reg [] [(6, 0)] [.M 101 15, .M 102 1, .M 103 9, .T 104 (.cut 1 (.tmp 102) (some (.tmp 103)) none), .T 105 (.app 1 8 (.tmp 101) (.tmp 104)), .N 6 105, .K 7 (.mv (cI 0))]) (.ret))))))))))))))
theorem is19 : IsF C 19 106 2475880080876607959207051247 c19 [.tmp 6, .tmp 7] := ⟨⟨Tryd.f19, _, C_P ▸ Tryd.func19, rfl, rfl, rfl, by kernel_rfl, rfl⟩⟩
theorem qvt9 {a0 : System} {a1 : List Int} {a2 : Redex} {r : (List Int) × Int} (hr : qfc9 a0 a1 a2 = some r) : Res C 19 [.ag (qf9 a0), .rd (a1.map intD), .ag (qm9 a2)] (.tp [.d (.rd (r.1.map intD)), PI r.2]) := by
  simp only [qfc9] at hr
  obtain ⟨x1, h1, hr⟩ := bsome hr
  have h1k := fun h => (qqI9 h1).o rfl rfl rfl (h := h) (args := [.ag [.d (.rd (a0.Sig.map qb9)), .d (.rd (a0.Rules.map qd9))], .d (.rd (a1.map intD))]) rfl
  try simp only [go_sem] at h1k
  rcases iteP hr with ⟨h2, hr⟩ | ⟨h2, hr⟩
  rcases iteP hr with ⟨h3, hr⟩ | ⟨h3, hr⟩
  obtain rfl := oiA hr
  refine run_V is19 (nbA rfl) ?_
  rotate_left
  rcases iteP hr with ⟨h4, hr⟩ | ⟨h4, hr⟩
  obtain rfl := oiA hr
  refine run_V is19 (nbA rfl) ?_
  rotate_left
  rcases iteP hr with ⟨h5, hr⟩ | ⟨h5, hr⟩
  obtain rfl := oiA hr
  refine run_V is19 (nbA rfl) ?_
  rotate_left
  rcases iteP hr with ⟨h6, hr⟩ | ⟨h6, hr⟩
  obtain rfl := oiA hr
  refine run_V is19 (nbA rfl) ?_
  rotate_left
  obtain ⟨x2, h7, x3, h8, hr⟩ := bs2 hr
  have h7k := (qtX9 h7).k rfl rfl rfl
  try simp only [go_sem] at h7k
  have h8k := fun h => (qnN9 h8).o rfl rfl rfl (h := h) (args := [.ag [.d (.rd (a0.Sig.map qb9)), .d (.rd (a0.Rules.map qd9))], .d (.rd (a1.map intD)), PI a2.At, PI x2, PI a2.Rule]) rfl
  try simp only [go_sem] at h8k
  rcases iteB hr with ⟨h9, hr⟩ | ⟨h9, hr⟩
  obtain ⟨x4, h10, x5, h11, hr⟩ := bs2 hr
  have h11k := (qsP9 h11).k rfl rfl rfl
  try simp only [go_sem] at h11k
  rcases iteB hr with ⟨h12, hr⟩ | ⟨h12, hr⟩
  rcases iteP hr with ⟨h13, hr⟩ | ⟨h13, hr⟩
  obtain rfl := oiA hr
  refine run_V is19 (nbA rfl) ?_
  rotate_left
  obtain ⟨x6, h14, hr⟩ := bsome hr
  obtain ⟨h15, hr⟩ := gsome hr
  obtain ⟨h16, hr⟩ := gsome hr
  obtain ⟨x7, h17, hr⟩ := bsome hr
  obtain ⟨h18, hr⟩ := gsome hr
  simp only [List.length_append, Nat.add_assoc] at h18
  obtain rfl := oiA hr
  refine run_V is19 (nbA rfl) ?_
  rotate_left
  obtain rfl := oiA hr
  refine run_V is19 (nbA rfl) ?_
  rotate_left
  obtain rfl := oiA hr
  refine run_V is19 (nbA rfl) ?_
  rotate_left
  obtain rfl := oiA hr
  refine run_V is19 (nbA rfl) ?_
  rotate_left
  all_goals (simp +decide only [go_sem, c19, *])
def b4_0 : ACode := .seq (.seq (.reg [] [] [.M 51 13, .M 52 9, .T 53 (.len (.tmp 52)), .K 54 (.bin .lss (.tmp 51) (.tmp 53))]) (.cond (.tmp 54) (some 54) (.skip) (.exit 0))) (.seq (.block 1 18014398509481984 (.reg [] [] [.M 57 9, .M 58 13, .T 59 (.ix 1 (.tmp 57) (.tmp 58)), ⟨none, .store 1 (.tmp 59) (cI 99), none, false, false⟩])) (.reg [] [] [.M 55 13, .T 56 (.bin .add (.tmp 55) (cI 1)), .N 13 56]))
def c4 : ACode := .seq (.reg [] [] [.K 3 (.box (.tmp 0)), .K 5 (.box (.tmp 2)), .K 6 (.mv (.const (.bool false)))]) (.seq (.reg [] [] [.T 17 (.call 13 []), .N 7 17]) (.seq (.seq (.reg [] [] [.M 18 7, .K 19 (.not (.tmp 18))]) (.cond (.tmp 19) (some 19) (.seq (.reg [] [] [.K 6 (.mv (.const (.bool false)))]) (.ret)) (.skip))) (.seq (.reg [] [(8, 0)] [.T 20 (.lit 1 []), .M 21 1, .T 22 (.app 1 8 (.tmp 20) (.tmp 21)), .T 23 (.lit 1 [(0, .const (.int .i64 77))]), .T 24 (.app 1 8 (.tmp 22) (.tmp 23)), .N 8 24]) (.seq (.reg [] [] [⟨some (26, false), .load (some 2) (.tmp 3), none, true, false⟩, .M 27 8, .M 28 1, ⟨some (29, false), .len (.tmp 28), none, true, false⟩, ⟨some (30, false), .cut 1 (.tmp 27) none (some (.tmp 29)), none, true, false⟩, ⟨some (31, false), .load (some 2) (.tmp 5), none, true, false⟩, .T 32 (.call 18 [.tmp 26, .tmp 30, .tmp 31]), .M 25 32, .T 33 (.ext (.tmp 25) 0), .T 34 (.ext (.tmp 25) 1), .N 9 33, .N 10 34]) (.seq (.reg [] [] [.T 36 (.load (some 2) (.tmp 3)), .M 37 1, .T 38 (.load (some 2) (.tmp 5)), .T 39 (.call 19 [.tmp 36, .tmp 37, .tmp 38]), .M 35 39, .T 40 (.ext (.tmp 35) 0), .T 41 (.ext (.tmp 35) 1), .N 11 40, .N 12 41]) (.seq (.seq (.reg [] [] [.M 42 10, .M 43 12, .T 44 (.bin .neq (.tmp 42) (.tmp 43)), .M 45 44, .MG 46 45 false 9, .MG 47 45 false 11, .TG 48 45 false (.call 17 [.tmp 46, .tmp 47]), .TG 49 45 false (.not (.tmp 48)), .K 50 (.pick (.tmp 45) (.const (.bool true)) (.tmp 49))]) (.cond (.tmp 50) (some 50) (.seq (.reg [] [] [.K 6 (.mv (.const (.bool false)))]) (.ret)) (.skip))) (.seq (.seq (.reg [] [] [.K 13 (.mv (cI 0))]) (.block 0 18014398509481984 (.loop b4_0))) (.seq (.reg [] [(14, 0)] [.M 60 9, .T 61 (.lit 1 [(0, .const (.int .i64 98))]), .T 62 (.app 1 8 (.tmp 60) (.tmp 61)), .N 14 62]) (.seq (.reg [] [(15, 0)] [⟨some (64, false), .load (some 2) (.tmp 3), none, true, false⟩, .M 65 8, .M 66 1, ⟨some (67, false), .len (.tmp 66), none, true, false⟩, ⟨some (68, false), .cut 1 (.tmp 65) none (some (.tmp 67)), none, true, false⟩, ⟨some (69, false), .load (some 2) (.tmp 5), none, true, false⟩, .T 70 (.call 18 [.tmp 64, .tmp 68, .tmp 69]), .M 63 70, .T 71 (.ext (.tmp 63) 0), .T 72 (.ext (.tmp 63) 1), .N 15 71, .N 16 72]) (.seq (.reg [] [] [.M 73 7, .M 74 73, .MG 75 74 true 16, .MG 76 74 true 12, .TG 77 74 true (.bin .eql (.tmp 75) (.tmp 76)), .T 78 (.pick (.tmp 74) (.tmp 77) (.const (.bool false))), .M 79 78, .MG 80 79 true 15, .MG 81 79 true 11, .TG 82 79 true (.call 17 [.tmp 80, .tmp 81]), .T 83 (.pick (.tmp 79) (.tmp 82) (.const (.bool false))), .M 84 83, .MG 85 84 true 8, .MG 86 84 true 1, .TG 87 84 true (.len (.tmp 86)), .TG 88 84 true (.cut 1 (.tmp 85) none (some (.tmp 87))), .MG 89 84 true 1, .TG 90 84 true (.call 17 [.tmp 88, .tmp 89]), .T 91 (.pick (.tmp 84) (.tmp 90) (.const (.bool false))), .M 92 91, .MG 93 92 true 8, .MG 94 92 true 1, .TG 95 92 true (.len (.tmp 94)), .TG 96 92 true (.ix 1 (.tmp 93) (.tmp 95)), .TG 97 92 true (.load none (.tmp 96)), .TG 98 92 true (.bin .eql (.tmp 97) (cI 77)), .T 99 (.pick (.tmp 92) (.tmp 98) (.const (.bool false))), .M 100 99, .MG 101 100 true 14, .MG 102 100 true 9, .TG 103 100 true (.len (.tmp 102)), .TG 104 100 true (.ix 1 (.tmp 101) (.tmp 103)), .TG 105 100 true (.load none (.tmp 104)), .TG 106 100 true (.bin .eql (.tmp 105) (cI 98)), .T 107 (.pick (.tmp 100) (.tmp 106) (.const (.bool false))), .N 6 107]) (.ret)))))))))))
theorem is4 : IsF C 4 108 19140298416979951 c4 [.tmp 6] := ⟨⟨Tryd.f4, _, C_P ▸ Tryd.func4, rfl, rfl, rfl, by kernel_rfl, rfl⟩⟩
def qeG9 (s0 : System) (s1 : List Int) (s2 : Redex) (s7 : Bool) (s8 : List Int) (s10 : Int) (s11 : List Int) (s12 : Int) (b3_0 : List Symbol) (b3_1 : List Rule) (b5_0 : Int) (b5_1 : Int) (g1 : AHeap) (v9 : Nat) (n9 : Nat) (g2 : AHeap) : Int × (List Int) → Unit → St := fun (s13, o9) _ => ⟨[(0, .d (.ag (qf9 s0))), (1, .d (.rd (s1.map intD))), (2, .d (.ag (qm9 s2))), (3, .ptr 0 0 0 0), (5, .ptr 1 0 0 0), (6, PB false), (7, PB s7), (8, .d (.rd (s8.map intD))), (9, .ref (g1.length + 2) v9 0 n9), (10, PI s10), (11, .d (.rd (s11.map intD))), (12, PI s12), (13, PI s13)], (.row false 0 2 [[.d (.rd (b3_0.map qb9)), .d (.rd (b3_1.map qd9))]] :: (.row false 0 2 [[PI b5_0, PI b5_1]] :: (g1 ++ (.row false v9 1 (rowP intD o9) :: g2))))⟩
def qiQ9 (s0 : System) (s1 : List Int) (s2 : Redex) (s7 : Bool) (s8 : List Int) (s10 : Int) (s11 : List Int) (s12 : Int) (b3_0 : List Symbol) (b3_1 : List Rule) (b5_0 : Int) (b5_1 : Int) (g1 : AHeap) (v9 : Nat) (n9 : Nat) (g2 : AHeap) : Int × (List Int) → Prop := fun (s13, o9) => o9.length = n9
def qlD9 (s0 : System) (s1 : List Int) (s2 : Redex) (s7 : Bool) (s8 : List Int) (s10 : Int) (s11 : List Int) (s12 : Int) (b3_0 : List Symbol) (b3_1 : List Rule) (b5_0 : Int) (b5_1 : Int) (g1 : AHeap) (v9 : Nat) (n9 : Nat) (g2 : AHeap) : (Int × (List Int)) → AExit × St → Prop := fun (s13, o9) q => ∃ g, q = (.exit 0, qeG9 s0 s1 s2 s7 s8 s10 s11 s12 b3_0 b3_1 b5_0 b5_1 g1 v9 n9 g2 (s13, o9) g) ∧ o9.length = n9
theorem qlT9 {s0 : System} {s1 : List Int} {s2 : Redex} {s7 : Bool} {s8 : List Int} {s10 : Int} {s11 : List Int} {s12 : Int} {b3_0 : List Symbol} {b3_1 : List Rule} {b5_0 : Int} {b5_1 : Int} {g1 : AHeap} {v9 : Nat} {n9 : Nat} {g2 : AHeap} : SimI C 19140298416979951 b4_0 (qiQ9 s0 s1 s2 s7 s8 s10 s11 s12 b3_0 b3_1 b5_0 b5_1 g1 v9 n9 g2) (qbQ9 s0 s1 s2 s7 s8 s10 s11 s12 b3_0 b3_1 b5_0 b5_1) (qeG9 s0 s1 s2 s7 s8 s10 s11 s12 b3_0 b3_1 b5_0 b5_1 g1 v9 n9 g2) (qlD9 s0 s1 s2 s7 s8 s10 s11 s12 b3_0 b3_1 b5_0 b5_1 g1 v9 n9 g2) := by
  intro s g r hI hr
  obtain ⟨s13, o9⟩ := s
  simp only [qiQ9] at hI
  have hI0 := hI
  simp only [qbQ9] at hr
  rcases iteP hr with ⟨h1, hr⟩ | ⟨h1, hr⟩
  try simp only [hI0] at h1
  obtain ⟨x9, h2, hr⟩ := bsome hr
  have h2a := eq_true (qa9 h2).1
  have h2b : (s13 < (n9 : Int)) = True := eq_true (by have hb : s13 < (o9.length : Int) := (qa9 h2).2.1; omega)
  have h2c := (qa9 h2).2.2
  obtain rfl := oiA hr
  refine ⟨⟨(), ?_⟩, (show (o9.set (s13).toNat 99).length = n9 by first | assumption | (simp only [llA, lrA]; first | done | assumption | omega) | omega)⟩
  rotate_left
  try simp only [hI0] at h1
  obtain rfl := oiA hr
  refine xe_of ⟨(), rfl, (show o9.length = n9 by first | assumption | (simp only [llA, lrA]; first | done | assumption | omega) | omega)⟩ ?_
  rotate_left
  all_goals (simp +decide only [go_sem, qeG9, b4_0, *])
theorem qmN9 {a0 : System} {a1 : List Int} {a2 : Redex} {r : Bool} (hr : qfb9 a0 a1 a2 = some r) : Res C 4 [.ag (qf9 a0), .rd (a1.map intD), .ag (qm9 a2)] (PB r) := by
  simp only [qfb9] at hr
  obtain ⟨x1, h1, hr⟩ := bsome hr
  have h1k := (qqU9 h1).k rfl rfl rfl
  try simp only [go_sem] at h1k
  rcases iteB hr with ⟨h2, hr⟩ | ⟨h2, hr⟩
  simp only [h2] at hr
  obtain ⟨h3, hr⟩ := gsome hr
  obtain ⟨h4, hr⟩ := gsome hr
  obtain ⟨x2, h5, x3, h6, x7, h7, hr⟩ := bs3 hr
  obtain ⟨z4, z5, z6, h6k⟩ := qgr9 (g1 := (.row false 0 2 [[.d (.rd (a0.Sig.map qb9)), .d (.rd (a0.Rules.map qd9))]] :: (.row false 0 2 [[PI a2.At, PI a2.Rule]] :: (.row true 1 1 (rowP intD (a1 ++ [77])) :: [])))) h6
  replace h6k := h6k (.row false 0 2 [[.d (.rd (a0.Sig.map qb9)), .d (.rd (a0.Rules.map qd9))]] :: (.row false 0 2 [[PI a2.At, PI a2.Rule]] :: (.row true 1 1 (rowP intD (a1 ++ [77])) :: []))) [.ag [.d (.rd (a0.Sig.map qb9)), .d (.rd (a0.Rules.map qd9))], .d (.rd (x2.map intD)), .ag [PI a2.At, PI a2.Rule]] rfl rfl
  try simp only [go_sem] at h6k
  have h7k := fun h => (qvt9 h7).o rfl rfl rfl (h := h) (args := [.ag [.d (.rd (a0.Sig.map qb9)), .d (.rd (a0.Rules.map qd9))], .d (.rd (a1.map intD)), .ag [PI a2.At, PI a2.Rule]]) rfl
  try simp only [go_sem] at h7k
  rcases iteP hr with ⟨h8, hr⟩ | ⟨h8, hr⟩
  obtain ⟨x8, h9, hr⟩ := bsome hr
  have h9k := fun h args => (qfT9 h9).o rfl rfl rfl (h := h) (args := args)
  try simp only [go_sem] at h9k
  rcases iteB hr with ⟨h10, hr⟩ | ⟨h10, hr⟩
  obtain ⟨x10, h11, hr⟩ := bsome hr
  obtain ⟨q11, h11L, h11X⟩ := (qlT9 (g1 := (.row true 1 1 (rowP intD (a1 ++ [77])) :: z4)) (v9 := z5) (n9 := x3.1.length) (g2 := z6)).L (g := ()) h11 rfl
  obtain ⟨x11, x12⟩ := x10
  try dsimp only at hr
  obtain ⟨⟨⟩, rfl, h11l0⟩ := h11X
  simp only [qeG9, go_sem] at h11L
  obtain ⟨h12, hr⟩ := gsome hr
  try simp only [h11l0] at h12
  obtain ⟨x13, h13, hr⟩ := bsome hr
  obtain ⟨z14, z15, z16, h13k⟩ := qgr9 (g1 := (.row false 0 2 [[.d (.rd (a0.Sig.map qb9)), .d (.rd (a0.Rules.map qd9))]] :: (.row false 0 2 [[PI a2.At, PI a2.Rule]] :: (.row true 1 1 (rowP intD (a1 ++ [77])) :: (z4 ++ (.row true (z5 + 1) 1 (rowP intD (x12 ++ [98])) :: z6)))))) h13
  replace h13k := h13k (.row false 0 2 [[.d (.rd (a0.Sig.map qb9)), .d (.rd (a0.Rules.map qd9))]] :: (.row false 0 2 [[PI a2.At, PI a2.Rule]] :: (.row true 1 1 (rowP intD (a1 ++ [77])) :: (z4 ++ (.row true (z5 + 1) 1 (rowP intD (x12 ++ [98])) :: z6))))) [.ag [.d (.rd (a0.Sig.map qb9)), .d (.rd (a0.Rules.map qd9))], .d (.rd (x2.map intD)), .ag [PI a2.At, PI a2.Rule]] rfl rfl
  try simp only [go_sem] at h13k
  rcases iteP hr with ⟨h14, hr⟩ | ⟨h14, hr⟩
  obtain ⟨x17, h15, hr⟩ := bsome hr
  have h15k := (qfT9 h15).k rfl rfl rfl
  try simp only [go_sem] at h15k
  rcases iteB hr with ⟨h16, hr⟩ | ⟨h16, hr⟩
  obtain ⟨x18, h17, hr⟩ := bsome hr
  have h17k := (qfT9 h17).k rfl rfl rfl
  try simp only [go_sem] at h17k
  rcases iteB hr with ⟨h18, hr⟩ | ⟨h18, hr⟩
  obtain ⟨x19, h19, hr⟩ := bsome hr
  rcases iteP hr with ⟨h20, hr⟩ | ⟨h20, hr⟩
  obtain ⟨x20, h21, hr⟩ := bsome hr
  obtain rfl := oiA hr
  refine run_V is4 (nbA rfl) ?_
  rotate_left
  obtain rfl := oiA hr
  refine run_V is4 (nbA rfl) ?_
  rotate_left
  obtain rfl := oiA hr
  refine run_V is4 (nbA rfl) ?_
  rotate_left
  obtain rfl := oiA hr
  refine run_V is4 (nbA rfl) ?_
  rotate_left
  obtain rfl := oiA hr
  refine run_V is4 (nbA rfl) ?_
  rotate_left
  obtain rfl := oiA hr
  refine run_V is4 (nbA rfl) ?_
  rotate_left
  obtain rfl := oiA hr
  refine run_V is4 (nbA rfl) ?_
  rotate_left
  obtain rfl := oiA hr
  refine run_V is4 (nbA rfl) ?_
  rotate_left
  all_goals (simp +decide only [go_sem, c4, *])
end Ld

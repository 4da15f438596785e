import Derived.Test.YtfjgfcnhklopdaaDoorSPW1
import Derived.Test.YtfjgfcnhklopdaaDoorSPW3
set_option maxHeartbeats 4000000
set_option linter.unusedVariables false
set_option linter.unusedSimpArgs false
namespace Ld
open Go Go.Proofs Go.Abs
set_option maxRecDepth 8000
def qqS9 : ACode := .seq (.reg [] [] [.K 90 (.bin .lss (.tmp 89) (.tmp 88))]) (.seq (.cond (.tmp 90) (some 90) (.skip) (.exit 1)) (.seq (.block 2 162339742931766913109446453559296 (.seq (.reg [] [] [.T 91 (.ix 1 (.tmp 87) (.tmp 89)), .T 92 (.load none (.tmp 91)), .N 16 92]) (.seq (.reg [] [(17, 0)] [.M 93 16, .T 94 (.lit 1 [(0, .tmp 93)]), .N 17 94]) (.seq (.seq (.reg [] [] [.M 95 16, .K 96 (.bin .lss (.tmp 95) (cI 0))]) (.cond (.tmp 96) (some 96) (.reg [] [] [.M 97 11, .M 98 16, .T 99 (.call 50 [.tmp 97, .tmp 98]), .N 17 99]) (.skip))) (.seq (.seq (.reg [] [] [.M 100 13, .T 101 (.len (.tmp 100)), .M 102 17, .T 103 (.len (.tmp 102)), .T 104 (.bin .add (.tmp 101) (.tmp 103)), .M 105 14, .T 106 (.bin .add (.tmp 104) (.tmp 105)), .K 107 (.bin .gtr (.tmp 106) (cI 512))]) (.cond (.tmp 107) (some 107) (.seq (.reg [] [(6, 0)] [.K 6 (.mv (.const (.slice none 0 0))), .K 7 (.mv (cI 2))]) (.ret)) (.skip))) (.reg [] [] [.M 108 13, .M 109 17, .T 110 (.app 1 8 (.tmp 108) (.tmp 109)), .N 13 110])))))) (.reg [] [] [.T 111 (.bin .add (.tmp 89) (cI 1)), .N 89 111])))
def c18 : ACode := .seq (.reg [] [(6, 0)] [.K 3 (.box (.tmp 0)), .K 5 (.box (.tmp 2)), .K 6 (.mv (.const (.slice none 0 0))), .K 7 (.mv (cI 0))]) (.seq (.seq (.reg [] [] [.T 18 (.load (some 2) (.tmp 3)), .M 19 1, .T 20 (.call 42 [.tmp 18, .tmp 19]), .N 8 20]) (.seq (.reg [] [] [.M 21 8, .K 22 (.bin .neq (.tmp 21) (cI 0))]) (.cond (.tmp 22) (some 22) (.seq (.reg [] [(6, 0)] [.M 23 8, .K 6 (.mv (.const (.slice none 0 0))), .N 7 23]) (.ret)) (.skip)))) (.seq (.block 0 34376515584 (.seq (.reg [] [] [.T 25 (.fa 0 (.tmp 5)), .T 26 (.load none (.tmp 25)), .T 27 (.bin .lss (.tmp 26) (cI 0)), .M 28 27, .TG 29 28 false (.fa 0 (.tmp 5)), .TG 30 28 false (.load none (.tmp 29)), .MG 31 28 false 1, .TG 32 28 false (.len (.tmp 31)), .TG 33 28 false (.bin .geq (.tmp 30) (.tmp 32)), .T 34 (.pick (.tmp 28) (.const (.bool true)) (.tmp 33)), .N 24 34]) (.cond (.tmp 24) (some 24) (.seq (.reg [] [(6, 0)] [.K 6 (.mv (.const (.slice none 0 0))), .K 7 (.mv (cI 33))]) (.ret)) (.seq (.reg [] [] [.T 36 (.fa 1 (.tmp 5)), .T 37 (.load none (.tmp 36)), .T 38 (.bin .lss (.tmp 37) (cI 0)), .M 39 38, .TG 40 39 false (.fa 1 (.tmp 5)), .TG 41 39 false (.load none (.tmp 40)), .TG 42 39 false (.fa 1 (.tmp 3)), .TG 43 39 false (.load none (.tmp 42)), .TG 44 39 false (.len (.tmp 43)), .TG 45 39 false (.bin .geq (.tmp 41) (.tmp 44)), .T 46 (.pick (.tmp 39) (.const (.bool true)) (.tmp 45)), .N 35 46]) (.cond (.tmp 35) (some 35) (.seq (.reg [] [(6, 0)] [.K 6 (.mv (.const (.slice none 0 0))), .K 7 (.mv (cI 1))]) (.ret)) (.skip)))))) (.seq (.reg [] [] [.T 47 (.fa 0 (.tmp 3)), ⟨some (48, false), .load none (.tmp 47), none, true, false⟩, .M 49 1, ⟨some (50, false), .call 43 [.tmp 48, .tmp 49], none, true, false⟩, .T 51 (.fa 0 (.tmp 5)), ⟨some (52, false), .load none (.tmp 51), none, true, false⟩, ⟨some (53, false), .ix 1 (.tmp 50) (.tmp 52), none, true, false⟩, ⟨some (54, false), .load none (.tmp 53), none, true, false⟩, .N 9 54]) (.seq (.reg [] [] [.T 55 (.fa 1 (.tmp 3)), .T 56 (.load none (.tmp 55)), .T 57 (.fa 1 (.tmp 5)), .T 58 (.load none (.tmp 57)), .T 59 (.ix 2 (.tmp 56) (.tmp 58)), .T 60 (.load (some 2) (.tmp 59)), .K 10 (.alloc [.im true [], .im true []] 2), ⟨none, .store 2 (.tmp 10) (.tmp 60), none, false, false⟩]) (.seq (.reg [] [] [.T 62 (.fa 0 (.tmp 3)), ⟨some (63, false), .load none (.tmp 62), none, true, false⟩, .T 64 (.fa 0 (.tmp 10)), ⟨some (65, false), .load none (.tmp 64), none, true, false⟩, .M 66 1, .T 67 (.fa 0 (.tmp 5)), ⟨some (68, false), .load none (.tmp 67), none, true, false⟩, .M 69 9, ⟨some (70, false), .cut 1 (.tmp 66) (some (.tmp 68)) (some (.tmp 69)), none, true, false⟩, ⟨some (71, false), .call 49 [.tmp 63, .tmp 65, .tmp 70], none, true, false⟩, .M 61 71, .T 72 (.ext (.tmp 61) 0), .T 73 (.ext (.tmp 61) 1), .N 11 72, .N 12 73]) (.seq (.seq (.reg [] [] [.M 74 12, .K 75 (.not (.tmp 74))]) (.cond (.tmp 75) (some 75) (.seq (.reg [] [(6, 0)] [.K 6 (.mv (.const (.slice none 0 0))), .K 7 (.mv (cI 80))]) (.ret)) (.skip))) (.seq (.reg [] [] [.T 76 (.lit 1 []), .M 77 1, .T 78 (.fa 0 (.tmp 5)), .T 79 (.load none (.tmp 78)), .T 80 (.cut 1 (.tmp 77) none (some (.tmp 79))), .T 81 (.app 1 8 (.tmp 76) (.tmp 80)), .N 13 81]) (.seq (.reg [] [] [.M 82 1, .T 83 (.len (.tmp 82)), .M 84 9, .T 85 (.bin .sub (.tmp 83) (.tmp 84)), .N 14 85]) (.seq (.seq (.reg [] [] [.T 86 (.fa 1 (.tmp 10)), .K 87 (.load none (.tmp 86)), .K 88 (.len (.tmp 87)), .K 89 (.mv (cI 0))]) (.block 1 162339742931766913109446453559296 (.loop qqS9))) (.seq (.reg [] [(6, 0)] [.M 112 13, .M 113 1, .M 114 9, .T 115 (.cut 1 (.tmp 113) (some (.tmp 114)) none), .T 116 (.app 1 8 (.tmp 112) (.tmp 115)), .N 6 116, .K 7 (.mv (cI 0))]) (.ret)))))))))))
theorem is18 : IsF C 18 117 162340826167080219680178532745199 c18 [.tmp 6, .tmp 7] := ⟨⟨Tryd.f18, _, C_P ▸ Tryd.func18, rfl, rfl, rfl, by kernel_rfl, rfl⟩⟩
def qhb9 (s0 : System) (s1 : List Int) (s2 : Redex) (s6 : List Int) (s8 : Int) (s9 : Int) (s11 : List Bind) (s12 : Bool) (s14 : Int) (s87 : List Int) (s88 : Int) (b3_0 : List Symbol) (b3_1 : List Rule) (b5_0 : Int) (b5_1 : Int) (b10_0 : List Int) (b10_1 : List Int) : Int × (List Int) → Nat → St := fun (s89, o13) v13 => ⟨[(0, .d (.ag (qf9 s0))), (1, .d (.rd (s1.map intD))), (2, .d (.ag (qp9 s2))), (3, .ptr 0 0 0 0), (5, .ptr 1 0 0 0), (6, .d (.rd (s6.map intD))), (7, PI 0), (8, PI s8), (9, PI s9), (10, .ptr 2 0 0 0), (11, .d (.rd (s11.map qc9))), (12, PB s12), (13, .ref 3 v13 0 o13.length), (14, PI s14), (87, .d (.rd (s87.map intD))), (88, PI s88), (89, PI s89)], (.row false 0 2 [[.d (.rd (b3_0.map qb9)), .d (.rd (b3_1.map qd9))]] :: (.row false 0 2 [[PI b5_0, PI b5_1]] :: (.row false 0 2 [[.d (.rd (b10_0.map intD)), .d (.rd (b10_1.map intD))]] :: (.row false v13 1 (rowP intD o13) :: []))))⟩
def qtV9 (s0 : System) (s1 : List Int) (s2 : Redex) (s6 : List Int) (s8 : Int) (s9 : Int) (s11 : List Bind) (s12 : Bool) (s14 : Int) (s87 : List Int) (s88 : Int) (b3_0 : List Symbol) (b3_1 : List Rule) (b5_0 : Int) (b5_1 : Int) (b10_0 : List Int) (b10_1 : List Int) : (((List Int) × Int) ⊕ (Int × (List Int))) → AExit × St → Prop
  | .inl r, q => XV C [.tmp 6, .tmp 7] (.tp [.d (.rd (r.1.map intD)), PI r.2]) q
  | .inr (s89, o13), q => ∃ g, q = (.exit 1, qhb9 s0 s1 s2 s6 s8 s9 s11 s12 s14 s87 s88 b3_0 b3_1 b5_0 b5_1 b10_0 b10_1 (s89, o13) g)
theorem qvf9 {s0 : System} {s1 : List Int} {s2 : Redex} {s6 : List Int} {s8 : Int} {s9 : Int} {s11 : List Bind} {s12 : Bool} {s14 : Int} {s87 : List Int} {s88 : Int} {b3_0 : List Symbol} {b3_1 : List Rule} {b5_0 : Int} {b5_1 : Int} {b10_0 : List Int} {b10_1 : List Int} : Sim C 162340826167080219680178532745199 qqS9 (qeE9 s0 s1 s2 s6 s8 s9 s11 s12 s14 s87 s88 b3_0 b3_1 b5_0 b5_1 b10_0 b10_1) (qhb9 s0 s1 s2 s6 s8 s9 s11 s12 s14 s87 s88 b3_0 b3_1 b5_0 b5_1 b10_0 b10_1) (qtV9 s0 s1 s2 s6 s8 s9 s11 s12 s14 s87 s88 b3_0 b3_1 b5_0 b5_1 b10_0 b10_1) := by
  intro s g r hr
  obtain ⟨s89, o13⟩ := s
  have ⟨v13, hg0⟩ : ∃ y, y = g := ⟨_, rfl⟩
  subst hg0
  simp only [qeE9] at hr
  rcases iteP hr with ⟨h1, hr⟩ | ⟨h1, hr⟩
  obtain ⟨x8, h2, hr⟩ := bsome hr
  rcases iteP hr with ⟨h3, hr⟩ | ⟨h3, hr⟩
  obtain ⟨x9, h4, hr⟩ := bsome hr
  have h4k := (qqB9 h4).k rfl rfl rfl
  try simp only [go_sem] at h4k
  rcases iteP hr with ⟨h5, hr⟩ | ⟨h5, hr⟩
  obtain rfl := oiA hr
  refine xv_of ?_
  rotate_left
  obtain ⟨h6, hr⟩ := gsome hr
  obtain rfl := oiA hr
  refine ⟨(v13 + 1), ?_⟩
  rotate_left
  rcases iteP hr with ⟨h7, hr⟩ | ⟨h7, hr⟩
  obtain rfl := oiA hr
  refine xv_of ?_
  rotate_left
  obtain ⟨h8, hr⟩ := gsome hr
  obtain rfl := oiA hr
  refine ⟨(v13 + 1), ?_⟩
  rotate_left
  obtain rfl := oiA hr
  refine xe_of ⟨v13, rfl⟩ ?_
  rotate_left
  all_goals (simp +decide only [go_sem, qhb9, qqS9, *])
theorem qgN9 {a0 : System} {a1 : List Int} {a2 : Redex} {r : (List Int) × Int} (hr : qcc9 a0 a1 a2 = some r) : Res C 18 [.ag (qf9 a0), .rd (a1.map intD), .ag (qp9 a2)] (.tp [.d (.rd (r.1.map intD)), PI r.2]) := by
  simp only [qcc9] at hr
  obtain ⟨x1, h1, hr⟩ := bsome hr
  have h1k := fun h => (qjx9 h1).o rfl rfl rfl (h := h) (args := [.ag [.d (.rd (a0.Sig.map qb9)), .d (.rd (a0.Rules.map qd9))], .d (.rd (a1.map intD))]) rfl
  try simp only [go_sem] at h1k
  rcases iteP hr with ⟨h2, hr⟩ | ⟨h2, hr⟩
  rcases iteP hr with ⟨h3, hr⟩ | ⟨h3, hr⟩
  obtain rfl := oiA hr
  refine run_V is18 (nbA rfl) ?_
  rotate_left
  rcases iteP hr with ⟨h4, hr⟩ | ⟨h4, hr⟩
  obtain rfl := oiA hr
  refine run_V is18 (nbA rfl) ?_
  rotate_left
  rcases iteP hr with ⟨h5, hr⟩ | ⟨h5, hr⟩
  obtain rfl := oiA hr
  refine run_V is18 (nbA rfl) ?_
  rotate_left
  rcases iteP hr with ⟨h6, hr⟩ | ⟨h6, hr⟩
  obtain rfl := oiA hr
  refine run_V is18 (nbA rfl) ?_
  rotate_left
  obtain ⟨x2, h7, x3, h8, x4, h9, x5, h10, hr⟩ := bs4 hr
  have h7k := (qkb9 h7).k rfl rfl rfl
  try simp only [go_sem] at h7k
  obtain ⟨x6, h11, hr⟩ := bsome hr
  have h11k := (qiQ9 h11).k rfl rfl rfl
  try simp only [go_sem] at h11k
  rcases iteB hr with ⟨h12, hr⟩ | ⟨h12, hr⟩
  simp only [h12] at hr
  obtain ⟨x7, h13, hr⟩ := bsome hr
  obtain ⟨h14, hr⟩ := gsome hr
  obtain ⟨x10, h15, hr⟩ := bsome hr
  obtain ⟨q15, h15L, h15X⟩ := qvf9.L (g := 0) h15
  rcases x10 with x11 | ⟨x12, x13⟩
  try dsimp only at hr
  obtain ⟨st15, rfl, h15R⟩ := h15X
  simp only [qhb9, go_sem] at h15L
  obtain rfl := oiA hr
  refine run_V is18 (nbA rfl) ?_
  rotate_left
  try dsimp only at hr
  obtain ⟨z14, rfl⟩ := h15X
  simp only [qhb9, go_sem] at h15L
  obtain ⟨x15, h16, hr⟩ := bsome hr
  obtain ⟨h17, hr⟩ := gsome hr
  obtain rfl := oiA hr
  refine run_V is18 (nbA rfl) ?_
  rotate_left
  obtain rfl := oiA hr
  refine run_V is18 (nbA rfl) ?_
  rotate_left
  obtain rfl := oiA hr
  refine run_V is18 (nbA rfl) ?_
  rotate_left
  all_goals (simp +decide only [go_sem, c18, *])
def qqD9 : ACode := .seq (.seq (.reg [] [] [.M 11 5, .M 12 0, .T 13 (.len (.tmp 12)), .K 14 (.bin .lss (.tmp 11) (.tmp 13))]) (.cond (.tmp 14) (some 14) (.skip) (.exit 0))) (.seq (.block 1 33570816 (.seq (.reg [] [] [.M 17 0, .M 18 5, ⟨some (19, false), .ix 1 (.tmp 17) (.tmp 18), none, true, false⟩, ⟨some (20, false), .load none (.tmp 19), none, true, false⟩, .M 21 1, .M 22 5, ⟨some (23, false), .ix 1 (.tmp 21) (.tmp 22), none, true, false⟩, ⟨some (24, false), .load none (.tmp 23), none, true, false⟩, .K 25 (.bin .neq (.tmp 20) (.tmp 24))]) (.cond (.tmp 25) (some 25) (.seq (.reg [] [] [.K 4 (.mv (.const (.bool false)))]) (.ret)) (.skip)))) (.reg [] [] [.M 15 5, .T 16 (.bin .add (.tmp 15) (cI 1)), .N 5 16]))
def c17 : ACode := .seq (.reg [] [] [.K 4 (.mv (.const (.bool false)))]) (.seq (.seq (.reg [] [] [.M 6 0, .T 7 (.len (.tmp 6)), .M 8 1, .T 9 (.len (.tmp 8)), .K 10 (.bin .neq (.tmp 7) (.tmp 9))]) (.cond (.tmp 10) (some 10) (.seq (.reg [] [] [.K 4 (.mv (.const (.bool false)))]) (.ret)) (.skip))) (.seq (.seq (.reg [] [] [.K 5 (.mv (cI 0))]) (.block 0 33570816 (.loop qqD9))) (.seq (.reg [] [] [.K 4 (.mv (.const (.bool true)))]) (.ret))))
theorem is17 : IsF C 17 26 33571891 c17 [.tmp 4] := ⟨⟨Tryd.f17, _, C_P ▸ Tryd.func17, rfl, rfl, rfl, by kernel_rfl, rfl⟩⟩
def qeq9 (s0 : List Int) (s1 : List Int) : Int → Unit → St := fun s5 _ => ⟨[(0, .d (.rd (s0.map intD))), (1, .d (.rd (s1.map intD))), (4, PB false), (5, PI s5)], []⟩
def qou9 (s0 : List Int) (s1 : List Int) : (Bool ⊕ Int) → AExit × St → Prop
  | .inl r, q => XV C [.tmp 4] (PB r) q
  | .inr s5, q => ∃ g, q = (.exit 0, qeq9 s0 s1 s5 g)
theorem qoL9 {s0 : List Int} {s1 : List Int} : Sim C 33571891 qqD9 (qfN9 s0 s1) (qeq9 s0 s1) (qou9 s0 s1) := by
  intro s g r hr
  have ⟨s5, hs0⟩ : ∃ y, y = s := ⟨_, rfl⟩
  subst hs0
  simp only [qfN9] at hr
  rcases iteP hr with ⟨h1, hr⟩ | ⟨h1, hr⟩
  obtain ⟨x1, h2, x2, h3, hr⟩ := bs2 hr
  rcases iteP hr with ⟨h4, hr⟩ | ⟨h4, hr⟩
  obtain rfl := oiA hr
  refine ⟨(), ?_⟩
  rotate_left
  obtain rfl := oiA hr
  refine xv_of ?_
  rotate_left
  obtain rfl := oiA hr
  refine xe_of ⟨(), rfl⟩ ?_
  rotate_left
  all_goals (simp +decide only [go_sem, qeq9, qqD9, *])
theorem qlc9 {a0 : List Int} {a1 : List Int} {r : Bool} (hr : qfi9 a0 a1 = some r) : Res C 17 [.rd (a0.map intD), .rd (a1.map intD)] (PB r) := by
  simp only [qfi9] at hr
  rcases iteP hr with ⟨h1, hr⟩ | ⟨h1, hr⟩
  obtain ⟨x3, h2, hr⟩ := bsome hr
  obtain ⟨q2, h2L, h2X⟩ := qoL9.L (g := ()) h2
  rcases x3 with x4 | x5
  try dsimp only at hr
  obtain ⟨st2, rfl, h2R⟩ := h2X
  simp only [qeq9, go_sem] at h2L
  obtain rfl := oiA hr
  refine run_V is17 (nbA rfl) ?_
  rotate_left
  try dsimp only at hr
  obtain ⟨⟨⟩, rfl⟩ := h2X
  simp only [qeq9, go_sem] at h2L
  obtain rfl := oiA hr
  refine run_V is17 (nbA rfl) ?_
  rotate_left
  obtain rfl := oiA hr
  refine run_V is17 (nbA rfl) ?_
  rotate_left
  all_goals (simp +decide only [go_sem, c17, *])
def c13 : ACode := .seq (.reg [] [] [.K 0 (.mv (.const (.bool false)))]) (.seq (.reg [] [] [.T 14 (.call 41 []), .T 15 (.lit 1 [(0, .const (.int .i64 2)), (1, .const (.int .i64 2)), (2, .const (.int .i64 0)), (3, .const (.int .i64 0)), (4, .const (.int .i64 2)), (5, .const (.int .i64 0)), (6, .const (.int .i64 0))]), .T 16 (.call 14 [.tmp 14, .tmp 15]), .N 1 16]) (.seq (.reg [] [] [.T 18 (.call 41 []), .T 19 (.lit 1 [(0, .const (.int .i64 2)), (1, .const (.int .i64 0)), (2, .const (.int .i64 2)), (3, .const (.int .i64 1)), (4, .const (.int .i64 0)), (5, .const (.int .i64 0))]), .T 20 (.call 27 [.tmp 18, .tmp 19]), .M 17 20, .T 21 (.ext (.tmp 17) 0), .T 22 (.ext (.tmp 17) 1), .K 2 (.alloc [.d (.v (.int .i64 0)), .d (.v (.int .i64 0))] 2), ⟨none, .store 2 (.tmp 2) (.tmp 21), none, false, false⟩, .N 3 22]) (.seq (.reg [] [] [.T 24 (.call 41 []), .T 25 (.lit 1 [(0, .const (.int .i64 1)), (1, .const (.int .i64 0))]), .T 26 (.call 27 [.tmp 24, .tmp 25]), .M 23 26, .T 27 (.ext (.tmp 23) 0), .T 28 (.ext (.tmp 23) 1), .T 4 (.alloc [.d (.v (.int .i64 0)), .d (.v (.int .i64 0))] 2), ⟨none, .store 2 (.tmp 4) (.tmp 27), none, false, false⟩, .N 5 28]) (.seq (.reg [] [] [.T 30 (.call 41 []), .T 31 (.lit 1 [(0, .const (.int .i64 2)), (1, .const (.int .i64 1)), (2, .const (.int .i64 0)), (3, .const (.int .i64 0))]), .T 32 (.build [(0, 1), (1, 1)] [.d (.v (.int .i64 0)), .d (.v (.int .i64 0))] [(0, .const (.int .i64 0)), (1, .const (.int .i64 1))]), .T 33 (.call 18 [.tmp 30, .tmp 31, .tmp 32]), .M 29 33, .T 34 (.ext (.tmp 29) 0), .T 35 (.ext (.tmp 29) 1), .N 6 34, .N 7 35]) (.seq (.reg [] [] [.T 37 (.call 41 []), .T 38 (.lit 1 [(0, .const (.int .i64 2)), (1, .const (.int .i64 1)), (2, .const (.int .i64 0)), (3, .const (.int .i64 0))]), .T 39 (.build [(0, 1), (1, 1)] [.d (.v (.int .i64 0)), .d (.v (.int .i64 0))] []), .T 40 (.call 18 [.tmp 37, .tmp 38, .tmp 39]), .M 36 40, .T 41 (.ext (.tmp 36) 0), .T 42 (.ext (.tmp 36) 1), .M 8 41, .N 9 42]) (.seq (.reg [] [] [.T 44 (.call 41 []), .T 45 (.lit 1 [(0, .const (.int .i64 2)), (1, .const (.int .i64 1)), (2, .const (.int .i64 0)), (3, .const (.int .i64 0))]), .T 46 (.build [(0, 1), (1, 1)] [.d (.v (.int .i64 0)), .d (.v (.int .i64 0))] [(0, .const (.int .i64 4)), (1, .const (.int .i64 1))]), .T 47 (.call 18 [.tmp 44, .tmp 45, .tmp 46]), .M 43 47, .T 48 (.ext (.tmp 43) 0), .T 49 (.ext (.tmp 43) 1), .M 10 48, .N 11 49]) (.seq (.reg [] [] [.T 51 (.call 41 []), .T 52 (.lit 1 [(0, .const (.int .i64 2)), (1, .const (.int .i64 1)), (2, .const (.int .i64 0)), (3, .const (.int .i64 0))]), .T 53 (.build [(0, 1), (1, 1)] [.d (.v (.int .i64 0)), .d (.v (.int .i64 0))] [(0, .const (.int .i64 0)), (1, .const (.int .i64 2))]), .T 54 (.call 18 [.tmp 51, .tmp 52, .tmp 53]), .M 50 54, .T 55 (.ext (.tmp 50) 0), .T 56 (.ext (.tmp 50) 1), .M 12 55, .N 13 56]) (.seq (.reg [] [] [.M 57 1, .T 58 (.build [(0, 1), (1, 1)] [.d (.v (.int .i64 0)), .d (.v (.int .i64 0))] [(0, .const (.int .i64 1)), (1, .const (.int .i64 0))]), .T 59 (.build [(0, 1), (1, 1)] [.d (.v (.int .i64 0)), .d (.v (.int .i64 0))] [(0, .const (.int .i64 4)), (1, .const (.int .i64 0))]), .T 60 (.lit 2 [(0, .tmp 58), (1, .tmp 59)]), .T 61 (.call 16 [.tmp 57, .tmp 60]), .M 62 61, .TG 63 62 true (.load (some 2) (.tmp 2)), .TG 64 62 true (.build [(0, 1), (1, 1)] [.d (.v (.int .i64 0)), .d (.v (.int .i64 0))] [(0, .const (.int .i64 2)), (1, .const (.int .i64 1))]), .TG 65 62 true (.raw ({ dst := some 65, op := Go.Op.binOp Go.BinOp.eql 33 (.tmp 63) (.tmp 64) 33, type := 4, pos := "law.go:28", after := #[{ on := 6, ground := Go.Ground.data }, { on := 7, ground := Go.Ground.data }, { on := 5, ground := Go.Ground.guard }], guard := some (5, true) })), .T 66 (.pick (.tmp 62) (.tmp 65) (.const (.bool false))), .M 67 66, .MG 68 67 true 3, .T 69 (.pick (.tmp 67) (.tmp 68) (.const (.bool false))), .M 70 69, .MG 71 70 true 5, .TG 72 70 true (.not (.tmp 71)), .T 73 (.pick (.tmp 70) (.tmp 72) (.const (.bool false))), .M 74 73, .MG 75 74 true 6, .TG 76 74 true (.lit 1 [(0, .const (.int .i64 1)), (1, .const (.int .i64 2)), (2, .const (.int .i64 0)), (3, .const (.int .i64 0))]), .TG 77 74 true (.call 17 [.tmp 75, .tmp 76]), .T 78 (.pick (.tmp 74) (.tmp 77) (.const (.bool false))), .M 79 78, .MG 80 79 true 7, .TG 81 79 true (.bin .eql (.tmp 80) (cI 0)), .T 82 (.pick (.tmp 79) (.tmp 81) (.const (.bool false))), .M 83 82, .MG 84 83 true 9, .TG 85 83 true (.bin .eql (.tmp 84) (cI 80)), .T 86 (.pick (.tmp 83) (.tmp 85) (.const (.bool false))), .M 87 86, .MG 88 87 true 11, .TG 89 87 true (.bin .eql (.tmp 88) (cI 33)), .T 90 (.pick (.tmp 87) (.tmp 89) (.const (.bool false))), .M 91 90, .MG 92 91 true 13, .TG 93 91 true (.bin .eql (.tmp 92) (cI 1)), .T 94 (.pick (.tmp 91) (.tmp 93) (.const (.bool false))), .N 0 94]) (.ret)))))))))
theorem is13 : IsF C 13 95 10991 c13 [.tmp 0] := ⟨⟨Tryd.f13, _, C_P ▸ Tryd.func13, rfl, rfl, rfl, by kernel_rfl, rfl⟩⟩
theorem qtb9  {r : Bool} (hr : qgH9 = some r) : Res C 13 [] (PB r) := by
  simp only [qgH9] at hr
  obtain ⟨x1, h1, x2, h2, x3, h3, x4, h4, hr⟩ := bs4 hr
  have h1k := (quE9 h1).k rfl rfl rfl
  try simp only [go_sem] at h1k
  have h2k := fun h => (qjl9 h2).o rfl rfl rfl (h := h) (args := [.d (.ag (qf9 x1)), .im true [[PI 2], [PI 2], [PI 0], [PI 0], [PI 2], [PI 0], [PI 0]]]) rfl
  try simp only [go_sem] at h2k
  have h3k := fun h => (qlr9 h3).o rfl rfl rfl (h := h) (args := [.d (.ag (qf9 x1)), .im true [[PI 2], [PI 0], [PI 2], [PI 1], [PI 0], [PI 0]]]) rfl
  try simp only [go_sem] at h3k
  have h4k := fun h => (qlr9 h4).o rfl rfl rfl (h := h) (args := [.d (.ag (qf9 x1)), .im true [[PI 1], [PI 0]]]) rfl
  try simp only [go_sem] at h4k
  obtain ⟨x5, h5, x6, h6, x7, h7, x8, h8, hr⟩ := bs4 hr
  have h5k := fun h => (qgN9 h5).o rfl rfl rfl (h := h) (args := [.d (.ag (qf9 x1)), .im true [[PI 2], [PI 1], [PI 0], [PI 0]], .ag [PI 0, PI 1]]) rfl
  try simp only [go_sem] at h5k
  have h6k := fun h => (qgN9 h6).o rfl rfl rfl (h := h) (args := [.d (.ag (qf9 x1)), .im true [[PI 2], [PI 1], [PI 0], [PI 0]], .ag [PI 0, PI 0]]) rfl
  try simp only [go_sem] at h6k
  have h7k := fun h => (qgN9 h7).o rfl rfl rfl (h := h) (args := [.d (.ag (qf9 x1)), .im true [[PI 2], [PI 1], [PI 0], [PI 0]], .ag [PI 4, PI 1]]) rfl
  try simp only [go_sem] at h7k
  have h8k := fun h => (qgN9 h8).o rfl rfl rfl (h := h) (args := [.d (.ag (qf9 x1)), .im true [[PI 2], [PI 1], [PI 0], [PI 0]], .ag [PI 0, PI 2]]) rfl
  try simp only [go_sem] at h8k
  obtain ⟨x9, h9, hr⟩ := bsome hr
  have h9k := fun h => (quC9 h9).o rfl rfl rfl (h := h) (args := [.d (.rd (x2.map qp9)), .im true [[PI 1, PI 0], [PI 4, PI 0]]]) rfl
  try simp only [go_sem] at h9k
  rcases iteB hr with ⟨h10, hr⟩ | ⟨h10, hr⟩
  rcases iteB hr with ⟨h11, hr⟩ | ⟨h11, hr⟩
  rcases iteB hr with ⟨h12, hr⟩ | ⟨h12, hr⟩
  rcases iteB hr with ⟨h13, hr⟩ | ⟨h13, hr⟩
  obtain rfl := oiA hr
  refine run_V is13 (nbA rfl) ?_
  rotate_left
  obtain ⟨x10, h14, hr⟩ := bsome hr
  have h14k := fun h => (qlc9 h14).o rfl rfl rfl (h := h) (args := [.d (.rd (x5.1.map intD)), .im true [[PI 1], [PI 2], [PI 0], [PI 0]]]) rfl
  try simp only [go_sem] at h14k
  rcases iteB hr with ⟨h15, hr⟩ | ⟨h15, hr⟩
  rcases iteP hr with ⟨h16, hr⟩ | ⟨h16, hr⟩
  rcases iteP hr with ⟨h17, hr⟩ | ⟨h17, hr⟩
  rcases iteP hr with ⟨h18, hr⟩ | ⟨h18, hr⟩
  obtain rfl := oiA hr
  refine run_V is13 (nbA rfl) ?_
  rotate_left
  obtain rfl := oiA hr
  refine run_V is13 (nbA rfl) ?_
  rotate_left
  obtain rfl := oiA hr
  refine run_V is13 (nbA rfl) ?_
  rotate_left
  obtain rfl := oiA hr
  refine run_V is13 (nbA rfl) ?_
  rotate_left
  obtain rfl := oiA hr
  refine run_V is13 (nbA rfl) ?_
  rotate_left
  obtain rfl := oiA hr
  refine run_V is13 (nbA rfl) ?_
  rotate_left
  obtain rfl := oiA hr
  refine run_V is13 (nbA rfl) ?_
  rotate_left
  obtain rfl := oiA hr
  refine run_V is13 (nbA rfl) ?_
  rotate_left
  all_goals (simp +decide only [go_sem, c13, *])
def qdI9 : ACode := .reg [] [] [.K 52 (.bin .lss (.tmp 51) (.tmp 50))]
def qdM9 : ACode := .reg [] [] [.T 53 (.ix 1 (.tmp 49) (.tmp 51)), .T 54 (.load none (.tmp 53)), .N 15 54]
def qdN9 : ACode := .reg [] [] [.M 55 12, .M 56 15, .T 57 (.inv (.tmp 56) "lodestone/term.size" []), .T 58 (.bin .add (.tmp 55) (.tmp 57)), .M 59 2, .K 60 (.bin .gtr (.tmp 58) (.tmp 59))]
def qdO9 : ACode := .reg [] [] [.M 61 15, .N 9 61]
def qdU9 : ACode := .reg [] [] [.M 62 12, .M 63 15, .T 64 (.inv (.tmp 63) "lodestone/term.size" []), .T 65 (.bin .add (.tmp 62) (.tmp 64)), .N 12 65]
def qdL9 : ACode := .reg [] [] [.T 66 (.bin .add (.tmp 51) (cI 1)), .N 51 66]
def qeU9 : ACode := .reg [] [] [.M 35 12, .M 36 2, .K 37 (.bin .lss (.tmp 35) (.tmp 36))]
def qeW9 : ACode := .reg [] [] [.M 38 9, .T 39 (.asr 103 (some (.d (.v (.pointer none)))) (.tmp 38) false), .N 13 39]
def qdT9 : ACode := .reg [] [] [.M 40 11, .M 41 12, .T 42 (.lit 1 [(0, .tmp 41)]), .T 43 (.app 1 8 (.tmp 40) (.tmp 42)), .N 11 43]
def qdP9 : ACode := .reg [] [] [.M 44 12, .T 45 (.bin .add (.tmp 44) (cI 1)), .N 12 45]
def qdQ9 : ACode := .reg [] [] [.M 46 13, .T 47 (.nilC (.tmp 46)), .T 48 (.fa 2 (.tmp 47)), .K 49 (.load none (.tmp 48)), .K 50 (.len (.tmp 49)), .K 51 (.mv (cI 0))]
def qeV9 : ACode := .reg [] [] [.K 6 (.mv (.const Go.Value.nilIface)), .K 7 (.mv (.const (.slice none 0 0))), .K 8 (.mv (cI 0))]
def qeS9 : ACode := .reg [] [] [.M 17 0, .M 18 1, .T 19 (.call 91 [.tmp 17, .tmp 18]), .M 16 19, .T 20 (.ext (.tmp 16) 0), .T 21 (.ext (.tmp 16) 1), .N 9 20, .N 10 21]
def qfb9 : ACode := .reg [] [] [.M 23 10, .T 24 (.bin .neq (.tmp 23) (cI 0)), .N 22 24]
def qeX9 : ACode := .reg [] [] [.M 25 10, .K 6 (.mv (.const Go.Value.nilIface)), .K 7 (.mv (.const (.slice none 0 0))), .N 8 25]
def qeT9 : ACode := .reg [] [] [.M 27 2, .T 28 (.bin .lss (.tmp 27) (cI 0)), .M 29 28, .MG 30 29 false 2, .MG 31 29 false 1, .TG 32 29 false (.len (.tmp 31)), .TG 33 29 false (.bin .geq (.tmp 30) (.tmp 32)), .T 34 (.pick (.tmp 29) (.const (.bool true)) (.tmp 33)), .N 26 34]
def qfc9 : ACode := .reg [] [] [.K 6 (.mv (.const Go.Value.nilIface)), .K 7 (.mv (.const (.slice none 0 0))), .K 8 (.mv (cI 33))]
def qeY9 : ACode := .reg [] [(11, 1)] [.K 11 (.mv (.const (.slice none 0 0)))]
def qfd9 : ACode := .reg [] [] [.K 12 (.mv (cI 0))]
def qdK9 : ACode := .reg [] [] [.M 67 9, .M 68 11, .N 6 67, .N 7 68, .K 8 (.mv (cI 0))]
def qhn9 : ACode := .seq (qdI9) (.seq (.cond (.tmp 52) (some 52) (.skip) (.exit 3)) (.seq (.block 4 1157425104234250240 (.seq (qdM9) (.seq (.seq (qdN9) (.cond (.tmp 60) (some 60) (.seq (qdO9) (.exit 3)) (.skip))) (qdU9)))) (qdL9)))
def qkq9 : ACode := .seq (.seq (qeU9) (.cond (.tmp 37) (some 37) (.skip) (.exit 1))) (.block 2 1161365891347161088 (.seq (qeW9) (.seq (qdT9) (.seq (qdP9) (.seq (qdQ9) (.block 3 1161365891347161088 (.loop qhn9)))))))
def c65 : ACode := .seq (qeV9) (.seq (qeS9) (.seq (.block 0 71303168 (.seq (qfb9) (.cond (.tmp 22) (some 22) (.seq (qeX9) (.ret)) (.seq (qeT9) (.cond (.tmp 26) (some 26) (.seq (qfc9) (.ret)) (.skip)))))) (.seq (qeY9) (.seq (qfd9) (.seq (.block 1 1161365891347161088 (.loop qkq9)) (.seq (qdK9) (.ret)))))))
theorem is65 : IsF C 65 69 1161365891418472391 c65 [.tmp 6, .tmp 7, .tmp 8] := ⟨⟨Tryd.f65, _, C_P ▸ Tryd.func65, rfl, rfl, rfl, by kernel_rfl, rfl⟩⟩
section
variable {sig : List Symbol} {t : List Int} {h : AHeap}
theorem fk_ix {kid v j : Nat} {ks : List PV} {k : PV} (ho : h[kid]? = some (.row false v 1 (ks.map fun x => [x]))) (hj : ks[j]? = some k) : ixA h 1 (.ref kid v 0 ks.length) (.d (.v (.int .i64 (j : Int)))) = some (.ptr kid v j 0) ∧ (ks.map fun x => [x])[j]? = some [k] := by
  have hlt := (List.getElem?_eq_some_iff.1 hj).1
  constructor
  · simp [ixA, lenP, qbR9, qhm9, qfW9, ho, hlt]
  · simp [hj]
abbrev FO (sig : List Symbol) (t : List Int) (a : Int) (x U : PV) (i : Int) (h : AHeap) : St := ⟨[(0, .d (.rd (sig.map qb9))), (1, .d (.rd (t.map intD))), (2, PI a), (6, .d (.v .nilIface)), (7, .im true []), (8, PI 0), (9, x), (10, PI 0), (11, U), (12, PI i)], h⟩
abbrev FI (sig : List Symbol) (t : List Int) (a : Int) (x U : PV) (i : Int) (id : Nat) (K : PV) (n j : Int) (h : AHeap) : St := ⟨[(0, .d (.rd (sig.map qb9))), (1, .d (.rd (t.map intD))), (2, PI a), (6, .d (.v .nilIface)), (7, .im true []), (8, PI 0), (9, x), (10, PI 0), (11, U), (12, PI i), (13, .ptr id 0 0 0), (49, K), (50, PI n), (51, PI j)], h⟩
abbrev FX (sig : List Symbol) (t : List Int) (a : Int) (x U : PV) (i : Int) (id : Nat) (K : PV) (n j : Int) (h : AHeap) : St := ⟨[(0, .d (.rd (sig.map qb9))), (1, .d (.rd (t.map intD))), (2, PI a), (6, .d (.v .nilIface)), (7, .im true []), (8, PI 0), (9, x), (10, PI 0), (11, U), (12, PI i), (13, .ptr id 0 0 0), (15, x), (49, K), (50, PI n), (51, PI j)], h⟩
theorem qBf9 {a s : Int} {x U k : PV} {i j id kid v : Nat} {ks : List PV} (ho : h[kid]? = some (.row false v 1 (ks.map fun x => [x]))) (hj : ks[j]? = some k) (hs : SizeOk h k s) (hw : w64 ((i : Int) + s) = (i : Int) + s) (hg : a < (i : Int) + s) :
    semA C (Lim C) 1161365891418472391 qhn9 (FI sig t a x U i id (.ref kid v 0 ks.length) ks.length j h) = some (.exit 3, FX sig t a k U i id (.ref kid v 0 ks.length) ks.length j h) := by
  obtain ⟨e1, e2⟩ := fk_ix ho hj
  have hlt := eq_true (show (j : Int) < (ks.length : Int) by have := (List.getElem?_eq_some_iff.1 hj).1; omega)
  have hg' := eq_true hg
  cases hs with
  | leaf m => simp +decide only [qhn9, qdI9, qdM9, qdN9, qdO9, qdU9, qdL9, qeU9, qeW9, qdT9, qdP9, qdQ9, qeV9, qeS9, qfb9, qeX9, qeT9, qfc9, qeY9, qfd9, qdK9, go_sem, ho, e1, e2, hlt, hw, hg', qfJ9, qfr9]
  | inner id' a' s K' hi => simp +decide only [qhn9, qdI9, qdM9, qdN9, qdO9, qdU9, qdL9, qeU9, qeW9, qdT9, qdP9, qdQ9, qeV9, qeS9, qfb9, qeX9, qeT9, qfc9, qeY9, qfd9, qdK9, go_sem, ho, e1, e2, hlt, hw, hg', qeC9, qeN9 hi]
theorem qzM9 {a s : Int} {x U k : PV} {i j id kid v : Nat} {ks : List PV} (ho : h[kid]? = some (.row false v 1 (ks.map fun x => [x]))) (hj : ks[j]? = some k) (hs : SizeOk h k s) (hw : w64 ((i : Int) + s) = (i : Int) + s) (hg : ¬ a < (i : Int) + s) (hl : ks.length < 4611686018427387904) :
    semA C (Lim C) 1161365891418472391 qhn9 (FI sig t a x U i id (.ref kid v 0 ks.length) ks.length j h) = some (.normal, FI sig t a x U ((i : Int) + s) id (.ref kid v 0 ks.length) ks.length ((j + 1 : Nat) : Int) h) := by
  obtain ⟨e1, e2⟩ := fk_ix ho hj
  have hlt0 := (List.getElem?_eq_some_iff.1 hj).1
  have hlt := eq_true (show (j : Int) < (ks.length : Int) by omega)
  have hg' := eq_false hg
  have hw2 : w64 ((j : Int) + 1) = ((j + 1 : Nat) : Int) := by rw [qe9 (by omega) (by omega)]; omega
  cases hs with
  | leaf m => simp +decide only [qhn9, qdI9, qdM9, qdN9, qdO9, qdU9, qdL9, qeU9, qeW9, qdT9, qdP9, qdQ9, qeV9, qeS9, qfb9, qeX9, qeT9, qfc9, qeY9, qfd9, qdK9, go_sem, ho, e1, e2, hlt, hw, hg', hw2, qfJ9, qfr9]
  | inner id' a' s K' hi => simp +decide only [qhn9, qdI9, qdM9, qdN9, qdO9, qdU9, qdL9, qeU9, qeW9, qdT9, qdP9, qdQ9, qeV9, qeS9, qfb9, qeX9, qeT9, qfc9, qeY9, qfd9, qdK9, go_sem, ho, e1, e2, hlt, hw, hg', hw2, qeC9, qeN9 hi]
theorem Forest.le {S : Nat → Prop} {xs : List PV} {i e : Nat} (hf : Forest sig t S h xs i e) : i ≤ e := by
  induction hf with
  | nil i => exact Nat.le_refl _
  | leaf xs i e c hc hn hf ih => omega
  | node xs ks i j e c id s K hc hs hS ho hK hl hk hf ih1 ih2 => omega
theorem Forest.top {S : Nat → Prop} {xs : List PV} {i e : Nat} (hf : Forest sig t S h xs i e) (hi : i ≤ t.length) : e ≤ t.length := by
  induction hf with
  | nil i => exact hi
  | leaf xs i e c hc hn hf ih => have := (List.getElem?_eq_some_iff.1 hc).1; exact ih (by omega)
  | node xs ks i j e c id s K hc hs hS ho hK hl hk hf ih1 ih2 => have := (List.getElem?_eq_some_iff.1 hc).1; exact ih2 (ih1 (by omega))
theorem qxe9 {S : Nat → Prop} {a : Nat} {U : PV} {id kid v : Nat} {ks : List PV} (ho : h[kid]? = some (.row false v 1 (ks.map fun x => [x]))) (hl : ks.length < 4611686018427387904) (hL : t.length < 4611686018427387904) : ∀ (xs : List PV) (i j e : Nat) (x : PV), ks.drop j = xs → Forest sig t S h xs i e → i ≤ a → a < e → i ≤ t.length →
    ∃ (x' : PV) (i' j' e' : Nat), qbd9 (semA C (Lim C) 1161365891418472391 qhn9) (FI sig t a x U i id (.ref kid v 0 ks.length) ks.length j h) = some (.exit 3, FX sig t a x' U i' id (.ref kid v 0 ks.length) ks.length j' h) ∧ Forest sig t S h [x'] i' e' ∧ i ≤ i' ∧ i' ≤ a ∧ a < e' ∧ e' ≤ e := by
  intro xs
  induction xs with
  | nil => intro i j e x hd hf h1 h2 h3; cases hf; omega
  | cons k xs ih =>
    intro i j e x hd hf h1 h2 h3
    have hj : ks[j]? = some k := by
      have := congrArg (fun l => l[0]?) hd
      simpa using this
    have hd' : ks.drop (j + 1) = xs := by
      have := congrArg List.tail hd
      simpa using this
    obtain ⟨m, f1, f2⟩ : ∃ m, Forest sig t S h [k] i m ∧ Forest sig t S h xs m e := by
      cases hf with
      | leaf _ _ _ c hc hn hf => exact ⟨i + 1, .leaf [] i _ c hc hn (.nil _), hf⟩
      | node _ ks' _ m _ c id s K hc hs hS ho hK hl hk hf => exact ⟨m, .node [] ks' i m _ c id s K hc hs hS ho hK hl hk (.nil _), hf⟩
    have hs := f1.size
    have l1 := f1.le
    have l2 := f2.le
    have l3 := f1.top h3
    have hsum : (i : Int) + ((m : Int) - i) = (m : Int) := by omega
    have hw : w64 ((i : Int) + ((m : Int) - i)) = (i : Int) + ((m : Int) - i) := by rw [hsum]; exact qe9 (by omega) (by omega)
    by_cases hg : (a : Int) < (i : Int) + ((m : Int) - i)
    · have := qBf9 (sig := sig) (t := t) (a := (a : Int)) (x := x) (U := U) (id := id) ho hj hs hw hg
      exact ⟨k, i, j, m, qfD9 this (by nofun), f1, Nat.le_refl _, h1, by omega, l2⟩
    · have st := qzM9 (sig := sig) (t := t) (a := (a : Int)) (x := x) (U := U) (id := id) ho hj hs hw hg hl
      rw [hsum] at st hg
      obtain ⟨x', i', j', e', q1, q2, q3, q4, q5, q6⟩ := ih m (j + 1) e x hd' f2 (by omega) h2 l3
      exact ⟨x', i', j', e', qjq9 st q1, q2, by omega, q4, q5, q6⟩
theorem qrB9 {id : Nat} {ok : Bool} {z : Option PV} : asrA 103 z (In id) ok = some (okTup ok (.ptr id 0 0 0) true) := by simp [asrA, dynOf]
theorem qwS9 {a i : Nat} {x' : PV} {id u w kid v i' j' : Nat} {sz : Int} {ks : List PV} {es : List (List PV)} (hi : i < a) (hL : (a : Int) < 4611686018427387904) (ho : h[id]? = some (XO i sz (.ref kid v 0 ks.length))) (hu : h[u]? = some (.row false w 1 es)) (hne : u ≠ id) (hb : (es.length + 1) * 8 ≤ 140737488355328)
    (hl : qbd9 (semA C (Lim C) 1161365891418472391 qhn9) (FI sig t a (In id) (.ref u (w + 1) 0 (es.length + 1)) ((i + 1 : Nat) : Int) id (.ref kid v 0 ks.length) ks.length ((0 : Nat) : Int) (h.set u (.row false (w + 1) 1 (es ++ [[PI (i : Int)]])))) = some (.exit 3, FX sig t a x' (.ref u (w + 1) 0 (es.length + 1)) (i' : Int) id (.ref kid v 0 ks.length) ks.length (j' : Int) (h.set u (.row false (w + 1) 1 (es ++ [[PI (i : Int)]]))))) :
    semA C (Lim C) 1161365891418472391 qkq9 (FO sig t a (In id) (.ref u w 0 es.length) i h) = some (.normal, FO sig t a x' (.ref u (w + 1) 0 (es.length + 1)) i' (h.set u (.row false (w + 1) 1 (es ++ [[PI (i : Int)]])))) := by
  have h1 := eq_true (show (i : Int) < (a : Int) by omega)
  have hw : w64 ((i : Int) + 1) = ((i + 1 : Nat) : Int) := by rw [qe9 (by omega) (by omega)]; omega
  have hb' := eq_true hb
  have ho2 : ∀ o, (h.set u o)[id]? = some (XO i sz (.ref kid v 0 ks.length)) := fun o => by rw [List.getElem?_set_ne hne]; exact ho
  rw [show ((0 : Nat) : Int) = 0 from rfl] at hl
  simp +decide only [qkq9, qdI9, qdM9, qdN9, qdO9, qdU9, qdL9, qeU9, qeW9, qdT9, qdP9, qdQ9, qeV9, qeS9, qfb9, qeX9, qeT9, qfc9, qeY9, qfd9, qdK9, go_sem, h1, hw, qrB9, okTup, hu, hb', ho2, hl, List.take_length, opNil]
theorem qql9 {a : Nat} {x U : PV} : semA C (Lim C) 1161365891418472391 qkq9 (FO sig t a x U a h) = some (.exit 1, FO sig t a x U a h) := by
  have h1 := eq_false (show ¬ (a : Int) < (a : Int) by omega)
  simp +decide only [qkq9, qdI9, qdM9, qdN9, qdO9, qdU9, qdL9, qeU9, qeW9, qdT9, qdP9, qdQ9, qeV9, qeS9, qfb9, qeX9, qeT9, qfc9, qeY9, qfd9, qdK9, go_sem, h1]
theorem qwK9 {S : Nat → Prop} {a u : Nat} (hL : t.length < 4611686018427387904) (hu : ¬ S u) : ∀ (n i e w : Nat) (x : PV) (es : List (List PV)) (h : AHeap), a - i ≤ n → Forest sig t S h [x] i e → i ≤ a → a < e → e ≤ t.length → es.length ≤ i → t.length * 8 ≤ 140737488355328 → h[u]? = some (.row false w 1 es) →
    ∃ (x' U : PV) (e' : Nat) (h' : AHeap), qbd9 (semA C (Lim C) 1161365891418472391 qkq9) (FO sig t a x (.ref u w 0 es.length) i h) = some (.exit 1, FO sig t a x' U a h') ∧ Forest sig t S h' [x'] a e' ∧ e' ≤ e ∧ ∀ id, id ≠ u → h'[id]? = h[id]? := by
  intro n
  induction n with
  | zero =>
    intro i e w x es h hn hf h1 h2 h3 h4 h5 hu2
    have : i = a := by omega
    subst this
    exact ⟨x, _, e, h, qfD9 qql9 (by nofun), hf, Nat.le_refl _, fun _ _ => rfl⟩
  | succ n ih =>
    intro i e w x es h hn hf h1 h2 h3 h4 h5 hu2
    by_cases hia : i = a
    · subst hia
      exact ⟨x, _, e, h, qfD9 qql9 (by nofun), hf, Nat.le_refl _, fun _ _ => rfl⟩
    have hlt : i < a := by omega
    have key : ∃ (id : Nat) (sz : Int) (K : PV) (ks : List PV), x = In id ∧ S id ∧ h[id]? = some (XO i sz K) ∧ KV S h K ks ∧ Forest sig t S h ks (i + 1) e := by
      cases hf with
      | leaf _ _ _ c hc hn' hf => cases hf; omega
      | node _ ks _ j _ c id s K hc hs hS ho hK hl hk hf => cases hf; exact ⟨id, _, K, ks, rfl, hS, ho, hK, hk⟩
    obtain ⟨id, sz, K, ks, rfl, hSid, ho, hK, hk⟩ := key
    cases hK with
    | none => cases hk; omega
    | row kid v ks hSk hok =>
      have hne : u ≠ id := fun q => hu (q ▸ hSid)
      have hnk : u ≠ kid := fun q => hu (q ▸ hSk)
      have hmono : ∀ o, ∀ id', S id' → S id' ∧ (h.set u o)[id']? = h[id']? := fun o id' hs => ⟨hs, List.getElem?_set_ne (fun q : u = id' => hu (q ▸ hs))⟩
      have hok2 : (h.set u (.row false (w + 1) 1 (es ++ [[PI (i : Int)]])))[kid]? = some (.row false v 1 (ks.map fun x => [x])) := by rw [List.getElem?_set_ne hnk]; exact hok
      have hkl : ks.length < 4611686018427387904 := by
        have : ∀ {xs : List PV} {p q : Nat} {hh : AHeap}, Forest sig t S hh xs p q → p + xs.length ≤ q := by
          intro xs p q hh hf
          induction hf with
          | nil i => simp
          | leaf xs i e c hc hn hf ih => simp; omega
          | node xs ks i j e c id s K hc hs hS ho hK hl hk hf ih1 ih2 => have := hk.le; simp; omega
        have := this hk
        omega
      obtain ⟨x', i', j', e', q1, q2, q3, q4, q5, q6⟩ := qxe9 (sig := sig) (t := t) (S := S) (a := a) (U := .ref u (w + 1) 0 (es.length + 1)) (id := id) hok2 hkl hL ks (i + 1) 0 e (In id) rfl (hk.mono (hmono _)) (by omega) h2 (by omega)
      have st := qwS9 (sig := sig) (t := t) (a := a) hlt (by omega) ho hu2 hne (by omega) q1
      have hul : u < h.length := (List.getElem?_eq_some_iff.1 hu2).1
      have hlen : (es ++ [[PI (i : Int)]]).length = es.length + 1 := by simp
      rw [← hlen] at st
      obtain ⟨x2, U, e2, h2', r1, r2, r3, r4⟩ := ih i' e' (w + 1) x' (es ++ [[PI (i : Int)]]) _ (by omega) q2 q4 q5 (by omega) (by rw [hlen]; omega) h5 (List.getElem?_set_self hul)
      exact ⟨x2, U, e2, h2', qjq9 st r1, r2, by omega, fun id' hid => by rw [r4 id' hid, List.getElem?_set_ne (fun q => hid q.symm)]⟩
abbrev FArgs (sig : List Symbol) (t : List Int) (a : Int) : List PV := [.d (.rd (sig.map qb9)), .d (.rd (t.map intD)), PI a]
theorem qzV9 {a : Nat} (hL : t.length < 4611686018427387904) (hb : t.length * 8 ≤ 140737488355328) (hA : ∀ s ∈ sig, s.Arity ≤ 1099511627776) (hs : qi9 sig = some 0) (hr : qg9 sig t = 0) (ha : a < t.length) (h : AHeap) :
    ∃ x U h' e, Lim C 65 (FArgs sig t (a : Int)) h = some (.tp [x, U, PI 0], h') ∧ Forest sig t (fun id => h.length < id ∧ id < h'.length) h' [x] a e ∧ e ≤ t.length ∧ ∀ id, id < h.length → h'[id]? = h[id]? := by
  obtain ⟨x, h1, q1, q2, q3, _, q5⟩ := qov9 hL hA hs h
  have hf := q5 hr
  rw [hr] at q1
  have hcall : callP C (Lim C) 91 (TArgs sig t) h = some (.tp [x, PI 0], h1) := q1
  have hget : (h1 ++ [AObj.row false 0 1 []])[h1.length]? = some (.row false 0 1 []) := by simp
  have hf1 : Forest sig t (fun id => h.length < id ∧ id < h1.length) (h1 ++ [AObj.row false 0 1 []]) [x] 0 t.length := hf.mono fun id hid => ⟨hid, List.getElem?_append_left hid.2⟩
  obtain ⟨x', U, e', h2, r1, r2, r3, r4⟩ := qwK9 (sig := sig) (t := t) (S := fun id => h.length < id ∧ id < h1.length) (a := a) (u := h1.length) hL (fun q => by omega) a 0 t.length 0 x [] _ (by omega) hf1 (Nat.zero_le _) ha (Nat.le_refl _) (Nat.le_refl _) hb hget
  have hlen : h1.length ≤ h2.length := by
    rcases Nat.lt_or_ge h2.length h1.length with c | c
    · have := r4 h2.length (by omega)
      rw [List.getElem?_eq_none (Nat.le_refl _), List.getElem?_append_left c, List.getElem?_eq_getElem c] at this
      cases this
    · exact c
  have hn1 := eq_false (show ¬ (a : Int) < 0 by omega)
  have hn2 := eq_false (show ¬ ((t.length : Int) ≤ (a : Int)) by omega)
  rw [show ((0 : Nat) : Int) = 0 from rfl, List.length_nil] at r1
  refine ⟨x', U, h2, e', ?_, r2.mono fun id hid => ⟨⟨hid.1, by omega⟩, rfl⟩, r3, fun id hid => ?_⟩
  · refine run_L (vs := [x', U, PI 0]) is65 (nbA rfl) ?_
    simp +decide only [c65, qdI9, qdM9, qdN9, qdO9, qdU9, qdL9, qeU9, qeW9, qdT9, qdP9, qdQ9, qeV9, qeS9, qfb9, qeX9, qeT9, qfc9, qeY9, qfd9, qdK9, go_sem, hcall, hn1, hn2, r1]
  · rw [r4 id (by omega), List.getElem?_append_left (by omega), q3 id hid]
def findE (sig : List Symbol) (t : List Int) (a : Int) : Int := if qg9 sig t = 0 then 33 else qg9 sig t
theorem qtD9 {a : Int} (hL : t.length < 4611686018427387904) (hA : ∀ s ∈ sig, s.Arity ≤ 1099511627776) (hs : qi9 sig = some 0) (hr : qg9 sig t ≠ 0 ∨ a < 0 ∨ (t.length : Int) ≤ a) (h : AHeap) :
    ∃ h', Lim C 65 (FArgs sig t a) h = some (.tp [.d (.v .nilIface), .im true [], PI (findE sig t a)], h') := by
  obtain ⟨x, h1, q1, q2, q3, _, q5⟩ := qov9 hL hA hs h
  have hcall : callP C (Lim C) 91 (TArgs sig t) h = some (.tp [x, PI (qg9 sig t)], h1) := q1
  refine ⟨h1, run_L (vs := [.d (.v .nilIface), .im true [], PI (findE sig t a)]) is65 (nbA rfl) ?_⟩
  unfold findE
  by_cases h0 : qg9 sig t = 0
  · rw [if_pos h0]
    rw [h0] at hcall
    have hr := hr.resolve_left (fun q => q h0)
    by_cases h2 : a < 0
    · have h2' := eq_true h2
      simp +decide only [c65, qdI9, qdM9, qdN9, qdO9, qdU9, qdL9, qeU9, qeW9, qdT9, qdP9, qdQ9, qeV9, qeS9, qfb9, qeX9, qeT9, qfc9, qeY9, qfd9, qdK9, go_sem, hcall, h2']
    · have h2' := eq_false h2
      have h3' := eq_true (hr.resolve_left h2)
      simp +decide only [c65, qdI9, qdM9, qdN9, qdO9, qdU9, qdL9, qeU9, qeW9, qdT9, qdP9, qdQ9, qeV9, qeS9, qfb9, qeX9, qeT9, qfc9, qeY9, qfd9, qdK9, go_sem, hcall, h2', h3']
  · have h0' := eq_false h0
    rw [if_neg h0]
    simp +decide only [c65, qdI9, qdM9, qdN9, qdO9, qdU9, qdL9, qeU9, qeW9, qdT9, qdP9, qdQ9, qeV9, qeS9, qfb9, qeX9, qeT9, qfc9, qeY9, qfd9, qdK9, go_sem, hcall, h0']
theorem qxE9 {a e : Int} (hs : qi9 sig = some e) (he : e ≠ 0) (h : AHeap) : Lim C 65 (FArgs sig t a) h = some (.tp [.d (.v .nilIface), .im true [], PI e], h) := by
  have hcall : callP C (Lim C) 91 (TArgs sig t) h = some (.tp [.d (.v .nilIface), PI e], h) := qtB9 hs he h
  have h0' := eq_false he
  refine run_L (vs := [.d (.v .nilIface), .im true [], PI e]) is65 (nbA rfl) ?_
  simp +decide only [c65, qdI9, qdM9, qdN9, qdO9, qdU9, qdL9, qeU9, qeW9, qdT9, qdP9, qdQ9, qeV9, qeS9, qfb9, qeX9, qeT9, qfc9, qeY9, qfd9, qdK9, go_sem, hcall, h0']
end
theorem qye9 {sig : List Symbol} : ∀ (l : List Int) (k : Nat), rdT sig l k = ([], 0) → ∀ c ∈ l, -1048576 ≤ c := by
  intro l
  induction l with
  | nil => intro k _ c hc; cases hc
  | cons d r ih =>
    intro k h c hc
    cases k with
    | zero => simp [rdT] at h
    | succ k =>
      simp only [rdT] at h
      by_cases hd : (sig.length : Int) ≤ d ∨ d < -1048576
      · rw [if_pos hd] at h; simp at h
      · rw [if_neg hd] at h
        rcases List.mem_cons.1 hc with rfl | hc
        · omega
        · exact ih _ h c hc
theorem qpS9 {sig : List Symbol} {t : List Int} (h : qg9 sig t = 0) : rdT sig t 1 = ([], 0) := by
  unfold qg9 at h
  rcases hr : rdT sig t 1 with ⟨r, e⟩
  rw [hr] at h
  simp only at h
  by_cases he : e = 0
  · subst he
    rw [if_pos rfl] at h
    by_cases hn : r = []
    · rw [hn]
    · rw [if_neg hn] at h; cases h
  · rw [if_neg he] at h; exact absurd h he
theorem Forest.rd {sig : List Symbol} {t : List Int} {h : AHeap} {S : Nat → Prop} (hlow : ∀ c ∈ t, -1048576 ≤ c) {xs : List PV} {i e : Nat} (hf : Forest sig t S h xs i e) : ∀ k, rdT sig (t.drop i) (xs.length + k) = rdT sig (t.drop e) k := by
  induction hf with
  | nil i => intro k; simp
  | leaf xs i e c hc hn hf ih =>
    intro k
    have hlt := (List.getElem?_eq_some_iff.1 hc).1
    have hd : t.drop i = c :: t.drop (i + 1) := by rw [List.drop_eq_getElem_cons hlt]; congr 1; exact (List.getElem?_eq_some_iff.1 hc).2
    have hl := hlow c (List.mem_of_getElem? hc)
    rw [hd, List.length_cons, show xs.length + 1 + k = (xs.length + k) + 1 by omega]
    simp only [rdT]
    rw [if_neg (by omega), show arOf sig c = 0 by unfold arOf; rw [if_neg (by omega)]]
    exact ih k
  | node xs ks i j e c id s K hc hs hS ho hK hl hk hf ih1 ih2 =>
    intro k
    have hlt := (List.getElem?_eq_some_iff.1 hc).1
    have hd : t.drop i = (c : Int) :: t.drop (i + 1) := by rw [List.drop_eq_getElem_cons hlt]; congr 1; exact (List.getElem?_eq_some_iff.1 hc).2
    have hsl := (List.getElem?_eq_some_iff.1 hs).1
    rw [hd, List.length_cons, show xs.length + 1 + k = (xs.length + k) + 1 by omega]
    simp only [rdT]
    have har : arOf sig (c : Int) = ks.length := by
      unfold arOf
      rw [if_pos (by omega), Int.toNat_natCast, hs, hl]; rfl
    rw [if_neg (by omega), har, show xs.length + k + ks.length = ks.length + (xs.length + k) by omega, ih1, ih2]
theorem Forest.end {sig : List Symbol} {t : List Int} {h : AHeap} {S : Nat → Prop} (hr : qg9 sig t = 0) {x : PV} {i e : Nat} (hf : Forest sig t S h [x] i e) (he : e ≤ t.length) : endT sig t i = e := by
  have := hf.rd (qye9 t 1 (qpS9 hr)) 0
  simp only [List.length_cons, List.length_nil, Nat.zero_add, Nat.add_zero] at this
  unfold endT
  rw [this]
  simp only [rdT, List.length_drop]
  omega
theorem qnL9 {sig : List Symbol} {t : List Int} {a : Int} (hp : findP sig t a = some 0) (h : AHeap) : ∃ (n : Nat) (x U : PV) (h' : AHeap), a = (n : Int) ∧ n < t.length ∧ t.length * 8 ≤ 140737488355328 ∧ qg9 sig t = 0 ∧ callP C (Lim C) 65 (FArgs sig t a) h = some (.tp [x, U, PI 0], h') ∧ Forest sig t (fun id => h.length < id ∧ id < h'.length) h' [x] n (endT sig t n) ∧ n < endT sig t n ∧ endT sig t n ≤ t.length ∧ ∀ id, id < h.length → h'[id]? = h[id]? := by
  unfold findP at hp
  obtain ⟨e, hs, hp⟩ := bsome hp
  by_cases he : e = 0
  rotate_left
  · rw [if_neg he] at hp; exact absurd (oiA hp) he
  subst he
  rw [if_pos rfl] at hp
  by_cases hb : t.length * 8 ≤ 140737488355328
  rotate_left
  · rw [if_neg hb] at hp; cases hp
  rw [if_pos hb] at hp
  have hp := oiA hp
  by_cases hr : qg9 sig t = 0
  rotate_left
  · rw [if_pos hr] at hp; exact absurd hp hr
  rw [if_neg (fun q => q hr)] at hp
  by_cases ha : a < 0 ∨ (t.length : Int) ≤ a
  · rw [if_pos ha] at hp; cases hp
  obtain ⟨n, rfl⟩ : ∃ n : Nat, a = (n : Int) := ⟨a.toNat, by omega⟩
  obtain ⟨x, U, h', e, q1, q2, q3, q4⟩ := qzV9 (a := n) (by omega) hb (fun s hs' => by have := qcg9 hs s hs'; omega) hs hr (by omega) h
  have q1' : callP C (Lim C) 65 (FArgs sig t (n : Int)) h = some (.tp [x, U, PI 0], h') := q1
  have hend := q2.end hr q3
  have hlt : n < e := by
    cases q2 with
    | leaf _ _ _ c hc hn hf => cases hf; omega
    | node _ ks' _ m _ c id s K hc hs hS ho hK hl hk hf => cases hf; have := hk.le; omega
  rw [← hend] at q2 hlt q3
  exact ⟨n, x, U, h', rfl, by omega, hb, hr, q1', q2, hlt, q3, q4⟩
theorem qmL9 {sig : List Symbol} {t : List Int} {a e : Int} (hp : findP sig t a = some e) (he : e ≠ 0) (h : AHeap) : ∃ h', callP C (Lim C) 65 (FArgs sig t a) h = some (.tp [.d (.v .nilIface), .im true [], PI e], h') := by
  unfold findP at hp
  obtain ⟨e0, hs, hp⟩ := bsome hp
  by_cases he0 : e0 = 0
  rotate_left
  · rw [if_neg he0] at hp
    have hp := oiA hp
    subst hp
    exact ⟨h, qxE9 hs he h⟩
  subst he0
  rw [if_pos rfl] at hp
  by_cases hb : t.length * 8 ≤ 140737488355328
  rotate_left
  · rw [if_neg hb] at hp; cases hp
  rw [if_pos hb] at hp
  have hp := oiA hp
  have hA : ∀ s ∈ sig, s.Arity ≤ 1099511627776 := fun s hs' => by have := qcg9 hs s hs'; omega
  by_cases hr : qg9 sig t = 0
  · rw [if_neg (fun q => q hr)] at hp
    by_cases ha : a < 0 ∨ (t.length : Int) ≤ a
    · rw [if_pos ha] at hp
      obtain ⟨h', q⟩ := qtD9 (a := a) (by omega) hA hs (.inr ha) h
      have e1 : findE sig t a = e := by unfold findE; rw [if_pos hr, hp]
      rw [e1] at q
      exact ⟨h', q⟩
    · rw [if_neg ha] at hp; exact absurd hp.symm he
  · rw [if_pos hr] at hp
    obtain ⟨h', q⟩ := qtD9 (a := a) (by omega) hA hs (.inl hr) h
    have e1 : findE sig t a = e := by unfold findE; rw [if_neg hr, hp]
    rw [e1] at q
    exact ⟨h', q⟩

def qmR9 : ACode := .reg [] [] [.K 6 (.mv (.const (.slice none 0 0))), .K 7 (.mv (cI 0))]
def qnl9 : ACode := .reg [] [] [.M 12 0, .M 13 1, .M 14 2, .T 15 (.call 65 [.tmp 12, .tmp 13, .tmp 14]), .M 11 15, .T 16 (.ext (.tmp 11) 0), .T 17 (.ext (.tmp 11) 1), .T 18 (.ext (.tmp 11) 2), .N 8 16, .M 9 17, .N 10 18]
def qns9 : ACode := .reg [] [] [.M 19 10, .K 20 (.bin .neq (.tmp 19) (cI 0))]
def qng9 : ACode := .reg [] [] [.M 21 10, .K 6 (.mv (.const (.slice none 0 0))), .N 7 21]
def qni9 : ACode := .reg [] [] [.M 22 1, .M 23 2, .M 24 2, .M 25 8, .T 26 (.inv (.tmp 25) "lodestone/term.size" []), .T 27 (.bin .add (.tmp 24) (.tmp 26)), .T 28 (.cut 1 (.tmp 22) (some (.tmp 23)) (some (.tmp 27))), .T 29 (.call 58 [.tmp 28]), .N 6 29, .K 7 (.mv (cI 0))]
def c32 : ACode := .seq (qmR9) (.seq (qnl9) (.seq (.seq (qns9) (.cond (.tmp 20) (some 20) (.seq (qng9) (.ret)) (.skip))) (.seq (qni9) (.ret))))
theorem is32 : IsF C 32 30 1050055 c32 [.tmp 6, .tmp 7] := ⟨⟨Tryd.f32, _, C_P ▸ Tryd.func32, rfl, rfl, rfl, by kernel_rfl, rfl⟩⟩
theorem qtP9 {sig : List Symbol} {t : List Int} {a : Int} {r : List Int × Int} (hr : qjG9 sig t a = some r) : Res C 32 [.rd (sig.map qb9), .rd (t.map intD), .v (.int .i64 a)] (.tp [.d (.rd (r.1.map intD)), PI r.2]) := by
  unfold qjG9 at hr
  obtain ⟨e, hp, hr⟩ := bsome hr
  refine run_V is32 (nbA rfl) ?_
  by_cases he : e = 0
  · subst he
    rw [if_pos rfl] at hr
    obtain rfl := oiA hr
    obtain ⟨n, x, U, h', rfl, hn, hb, ht, hc, hf, h1, h2, _⟩ := qnL9 hp []
    have hs := hf.size
    have hw : w64 ((n : Int) + (((endT sig t n : Nat) : Int) - (n : Int))) = ((endT sig t n : Nat) : Int) := by rw [qe9 (by omega) (by omega)]; omega
    have hcut : cutL t (n : Int) ((endT sig t n : Nat) : Int) = some ((t.drop n).take (endT sig t n - n)) := by
      unfold cutL
      rw [if_pos ⟨by omega, by omega, by omega⟩]
      simp only [Int.toNat_natCast]
    have hlen : (((t.drop n).take (endT sig t n - n)).length * 8 ≤ 140737488355328) = True := eq_true (by rw [List.length_take, List.length_drop]; omega)
    revert hs hw
    generalize hsz : ((endT sig t n : Nat) : Int) - (n : Int) = sz
    intro hs hw
    cases hs with
    | leaf m => simp +decide only [c32, qmR9, qnl9, qns9, qng9, qni9, go_sem, hc, qfJ9, qfr9, hw, hcut, hlen, Int.toNat_natCast]
    | inner id' a' s K' hi => simp +decide only [c32, qmR9, qnl9, qns9, qng9, qni9, go_sem, hc, qeC9, qeN9 hi, hw, hcut, hlen, Int.toNat_natCast]
  · rw [if_neg he] at hr
    obtain rfl := oiA hr
    obtain ⟨h', hc⟩ := qmL9 hp he []
    have he' := eq_false he
    simp +decide only [c32, qmR9, qnl9, qns9, qng9, qni9, go_sem, hc, he']

def qir9 : ACode := .reg [] [] [.K 8 (.mv (.const (.slice none 0 0))), .K 9 (.mv (cI 0))]
def qis9 : ACode := .reg [] [] [.M 15 0, .M 16 1, .T 17 (.call 62 [.tmp 15, .tmp 16]), .N 10 17]
def qij9 : ACode := .reg [] [] [.M 18 10, .K 19 (.bin .neq (.tmp 18) (cI 0))]
def qiz9 : ACode := .reg [] [] [.M 20 10, .K 8 (.mv (.const (.slice none 0 0))), .N 9 20]
def qhX9 : ACode := .reg [] [] [.M 21 0, .M 22 3, .T 23 (.call 62 [.tmp 21, .tmp 22]), .N 11 23]
def qhY9 : ACode := .reg [] [] [.M 24 11, .K 25 (.bin .neq (.tmp 24) (cI 0))]
def qiJ9 : ACode := .reg [] [] [.M 26 11, .K 8 (.mv (.const (.slice none 0 0))), .N 9 26]
def qhZ9 : ACode := .reg [] [] [.M 28 0, .M 29 1, .M 30 2, .T 31 (.call 65 [.tmp 28, .tmp 29, .tmp 30]), .M 27 31, .T 32 (.ext (.tmp 27) 0), .T 33 (.ext (.tmp 27) 1), .T 34 (.ext (.tmp 27) 2), .N 12 32, .M 13 33, .N 14 34]
def qiK9 : ACode := .reg [] [] [.M 36 14, .T 37 (.bin .neq (.tmp 36) (cI 0)), .N 35 37]
def qio9 : ACode := .reg [] [] [.M 38 14, .K 8 (.mv (.const (.slice none 0 0))), .N 9 38]
def qgT9 : ACode := .reg [] [] [.M 40 1, .T 41 (.len (.tmp 40)), .M 42 12, .T 43 (.inv (.tmp 42) "lodestone/term.size" []), .T 44 (.bin .sub (.tmp 41) (.tmp 43)), .M 45 3, .T 46 (.len (.tmp 45)), .T 47 (.bin .add (.tmp 44) (.tmp 46)), .T 48 (.bin .gtr (.tmp 47) (cI 512)), .N 39 48]
def qgY9 : ACode := .reg [] [] [.K 8 (.mv (.const (.slice none 0 0))), .K 9 (.mv (cI 2))]
def qgO9 : ACode := .reg [] [] [.M 49 1, .M 50 2, ⟨some (51, false), .cut 1 (.tmp 49) none (some (.tmp 50)), none, true, false⟩, .M 52 3, .M 53 1, .M 54 2, .M 55 12, ⟨some (56, false), .inv (.tmp 55) "lodestone/term.size" [], none, true, false⟩, .T 57 (.bin .add (.tmp 54) (.tmp 56)), ⟨some (58, false), .cut 1 (.tmp 53) (some (.tmp 57)) none, none, true, false⟩, .T 59 (.lit 1 [(0, .tmp 51), (1, .tmp 52), (2, .tmp 58)]), ⟨some (60, false), .call 66 [.tmp 59], none, true, false⟩, .N 8 60, .K 9 (.mv (cI 0))]
def c33 : ACode := .seq (qir9) (.seq (.seq (qis9) (.seq (qij9) (.cond (.tmp 19) (some 19) (.seq (qiz9) (.ret)) (.skip)))) (.seq (.seq (qhX9) (.seq (qhY9) (.cond (.tmp 25) (some 25) (.seq (qiJ9) (.ret)) (.skip)))) (.seq (qhZ9) (.seq (.block 0 584115552256 (.seq (qiK9) (.cond (.tmp 35) (some 35) (.seq (qio9) (.ret)) (.seq (qgT9) (.cond (.tmp 39) (some 39) (.seq (qgY9) (.ret)) (.skip)))))) (.seq (qgO9) (.ret))))))
theorem is33 : IsF C 33 61 584149655311 c33 [.tmp 8, .tmp 9] := ⟨⟨Tryd.f33, _, C_P ▸ Tryd.func33, rfl, rfl, rfl, by kernel_rfl, rfl⟩⟩
theorem qoF9 {sig : List Symbol} {t u : List Int} {a : Int} {r : List Int × Int} (hr : qfE9 sig t a u = some r) : Res C 33 [.rd (sig.map qb9), .rd (t.map intD), .v (.int .i64 a), .rd (u.map intD)] (.tp [.d (.rd (r.1.map intD)), PI r.2]) := by
  unfold qfE9 at hr
  obtain ⟨e1, h1, hr⟩ := bsome hr
  have k1 : ∀ h : AHeap, callP C (Lim C) 62 (TArgs sig t) h = some (PI e1, h) := fun h => qfo9 h1
  refine run_V is33 (nbA rfl) ?_
  by_cases q1 : e1 = 0
  rotate_left
  · rw [if_neg q1] at hr
    obtain rfl := oiA hr
    have q1' := eq_false q1
    simp +decide only [c33, qir9, qis9, qij9, qiz9, qhX9, qhY9, qiJ9, qhZ9, qiK9, qio9, qgT9, qgY9, qgO9, go_sem, k1, q1']
  subst q1
  rw [if_pos rfl] at hr
  obtain ⟨e2, h2, hr⟩ := bsome hr
  have k2 : ∀ h : AHeap, callP C (Lim C) 62 (TArgs sig u) h = some (PI e2, h) := fun h => qfo9 h2
  by_cases q2 : e2 = 0
  rotate_left
  · rw [if_neg q2] at hr
    obtain rfl := oiA hr
    have q2' := eq_false q2
    simp +decide only [c33, qir9, qis9, qij9, qiz9, qhX9, qhY9, qiJ9, qhZ9, qiK9, qio9, qgT9, qgY9, qgO9, go_sem, k1, k2, q2']
  subst q2
  rw [if_pos rfl] at hr
  obtain ⟨e, hp, hr⟩ := bsome hr
  by_cases he : e = 0
  rotate_left
  · rw [if_neg he] at hr
    obtain rfl := oiA hr
    obtain ⟨h', hc⟩ := qmL9 hp he []
    have he' := eq_false he
    simp +decide only [c33, qir9, qis9, qij9, qiz9, qhX9, qhY9, qiJ9, qhZ9, qiK9, qio9, qgT9, qgY9, qgO9, go_sem, k1, k2, hc, he']
  subst he
  rw [if_pos rfl] at hr
  by_cases hu : u.length * 8 ≤ 140737488355328
  rotate_left
  · rw [if_neg hu] at hr; cases hr
  rw [if_pos hu] at hr
  obtain ⟨n, x, U, h', rfl, hn, hb, ht, hc, hf, h3, h4, _⟩ := qnL9 hp []
  have hs := hf.size
  rw [Int.toNat_natCast] at hr
  generalize hE : endT sig t n = E at *
  generalize hsz : (E : Int) - (n : Int) = sz at hs
  have w1 : w64 ((t.length : Int) - sz) = ((t.length - (E - n) : Nat) : Int) := by rw [qe9 (by omega) (by omega)]; omega
  have w2 : w64 (((t.length - (E - n) : Nat) : Int) + (u.length : Int)) = ((t.length - (E - n) + u.length : Nat) : Int) := by rw [qe9 (by omega) (by omega)]; omega
  have w3 : w64 ((n : Int) + sz) = (E : Int) := by rw [qe9 (by omega) (by omega)]; omega
  by_cases hbig : 512 < t.length - (E - n) + u.length
  · rw [if_pos hbig] at hr
    obtain rfl := oiA hr
    have g := eq_true (show (512 : Int) < ((t.length - (E - n) + u.length : Nat) : Int) by omega)
    cases hs with
    | leaf m => simp +decide only [c33, qir9, qis9, qij9, qiz9, qhX9, qhY9, qiJ9, qhZ9, qiK9, qio9, qgT9, qgY9, qgO9, go_sem, k1, k2, hc, qfJ9, qfr9, w1, w2, g]
    | inner id' a' s K' hi => simp +decide only [c33, qir9, qis9, qij9, qiz9, qhX9, qhY9, qiJ9, qhZ9, qiK9, qio9, qgT9, qgY9, qgO9, go_sem, k1, k2, hc, qeC9, qeN9 hi, w1, w2, g]
  · rw [if_neg hbig] at hr
    obtain ⟨y, hy, hr⟩ := bsome hr
    obtain rfl := oiA hr
    have g := eq_false (show ¬ (512 : Int) < ((t.length - (E - n) + u.length : Nat) : Int) by omega)
    have c1 : cutL t 0 (n : Int) = some (t.take n) := by
      unfold cutL
      rw [if_pos ⟨by omega, by omega, by omega⟩]
      simp
    have c2 : cutL t (E : Int) (t.length : Int) = some (t.drop E) := by
      unfold cutL
      rw [if_pos ⟨by omega, by omega, by omega⟩]
      simp only [Int.toNat_natCast]
      rw [← List.length_drop, List.take_length]
    have kc := fun h => (qjg9 hy).o rfl rfl rfl (h := h) (args := [.im true [[.d (.rd ((t.take n).map intD))], [.d (.rd (u.map intD))], [.d (.rd ((t.drop E).map intD))]]]) rfl
    simp only [go_sem] at kc
    cases hs with
    | leaf m => simp +decide only [c33, qir9, qis9, qij9, qiz9, qhX9, qhY9, qiJ9, qhZ9, qiK9, qio9, qgT9, qgY9, qgO9, go_sem, k1, k2, hc, qfJ9, qfr9, w1, w2, w3, g, c1, c2, kc]
    | inner id' a' s K' hi => simp +decide only [c33, qir9, qis9, qij9, qiz9, qhX9, qhY9, qiJ9, qhZ9, qiK9, qio9, qgT9, qgY9, qgO9, go_sem, k1, k2, hc, qeC9, qeN9 hi, w1, w2, w3, g, c1, c2, kc]

end Ld

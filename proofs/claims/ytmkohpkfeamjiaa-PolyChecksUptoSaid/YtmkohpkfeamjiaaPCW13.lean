import Derived.Test.YtmkohpkfeamjiaaPCW12
set_option maxHeartbeats 4000000
set_option linter.unusedVariables false
set_option linter.unusedSimpArgs false
namespace Ld
open Go Go.Proofs Go.Abs
set_option maxRecDepth 8000
def qpI9 : ACode := .seq (.seq (.reg [] [] [.M 50 6, .M 51 0, .T 52 (.len (.tmp 51)), .K 53 (.bin .lss (.tmp 50) (.tmp 52))]) (.cond (.tmp 53) (some 53) (.skip) (.exit 2))) (.seq (.block 3 2314850208468434944 (.seq (.reg [] [] [.M 56 0, .M 57 6, .T 58 (.ix 2 (.tmp 56) (.tmp 57)), .T 59 (.load (some 2) (.tmp 58)), .T 60 (.call 42 [.tmp 59]), .K 61 (.not (.tmp 60))]) (.cond (.tmp 61) (some 61) (.seq (.reg [] [] [.K 4 (.mv (cI 2))]) (.ret)) (.skip)))) (.reg [] [] [.M 54 6, .T 55 (.bin .add (.tmp 54) (cI 1)), .N 6 55]))
def qnK9 : ACode := .seq (.seq (.reg [] [] [.M 9 5, .M 10 0, .T 11 (.len (.tmp 10)), .K 12 (.bin .lss (.tmp 9) (.tmp 11))]) (.cond (.tmp 12) (some 12) (.skip) (.exit 0))) (.seq (.block 1 562949953425408 (.seq (.reg [] [] [.M 15 0, .M 16 5, ⟨some (17, false), .ix 2 (.tmp 15) (.tmp 16), none, true, false⟩, ⟨some (18, false), .load (some 2) (.tmp 17), none, true, false⟩, ⟨some (19, false), .call 40 [.tmp 18], none, true, false⟩, .T 20 (.not (.tmp 19)), .M 21 20, .MG 22 21 false 0, .MG 23 21 false 5, ⟨some (24, false), .ix 2 (.tmp 22) (.tmp 23), some (21, false), true, false⟩, .TG 25 21 false (.fa 1 (.tmp 24)), ⟨some (26, false), .load none (.tmp 25), some (21, false), true, false⟩, ⟨some (27, false), .len (.tmp 26), some (21, false), true, false⟩, .MG 28 21 false 1, .TG 29 21 false (.bin .gtr (.tmp 27) (.tmp 28)), .T 30 (.pick (.tmp 21) (.const (.bool true)) (.tmp 29)), .M 31 30, .MG 32 31 false 5, .TG 33 31 false (.bin .gtr (.tmp 32) (cI 0)), .MG 34 31 false 33, .MG 35 34 true 0, .MG 36 34 true 5, .TG 37 34 true (.bin .sub (.tmp 36) (cI 1)), ⟨some (38, false), .ix 2 (.tmp 35) (.tmp 37), some (34, true), true, false⟩, .TG 39 34 true (.fa 1 (.tmp 38)), ⟨some (40, false), .load none (.tmp 39), some (34, true), true, false⟩, .MG 41 34 true 0, .MG 42 34 true 5, ⟨some (43, false), .ix 2 (.tmp 41) (.tmp 42), some (34, true), true, false⟩, .TG 44 34 true (.fa 1 (.tmp 43)), ⟨some (45, false), .load none (.tmp 44), some (34, true), true, false⟩, ⟨some (46, false), .call 41 [.tmp 40, .tmp 45], some (34, true), true, false⟩, .TG 47 34 true (.bin .geq (.tmp 46) (cI 0)), .TG 48 31 false (.pick (.tmp 34) (.tmp 47) (.const (.bool false))), .K 49 (.pick (.tmp 31) (.const (.bool true)) (.tmp 48))]) (.cond (.tmp 49) (some 49) (.seq (.reg [] [] [.K 4 (.mv (cI 20))]) (.ret)) (.skip)))) (.reg [] [] [.M 13 5, .T 14 (.bin .add (.tmp 13) (cI 1)), .N 5 14]))
def c15 : ACode := .seq (.reg [] [] [.K 4 (.mv (cI 0))]) (.seq (.seq (.reg [] [] [.M 7 1, .K 8 (.bin .lss (.tmp 7) (cI 0))]) (.cond (.tmp 8) (some 8) (.seq (.reg [] [] [.K 4 (.mv (cI 1))]) (.ret)) (.skip))) (.seq (.seq (.reg [] [] [.K 5 (.mv (cI 0))]) (.block 0 562949953425408 (.loop qnK9))) (.seq (.seq (.reg [] [] [.K 6 (.mv (cI 0))]) (.block 2 2314850208468434944 (.loop qpI9))) (.seq (.seq (.reg [] [] [.M 62 0, .T 63 (.len (.tmp 62)), .K 64 (.bin .gtr (.tmp 63) (cI 256))]) (.cond (.tmp 64) (some 64) (.seq (.reg [] [] [.K 4 (.mv (cI 2))]) (.ret)) (.skip))) (.seq (.reg [] [] [.K 4 (.mv (cI 0))]) (.ret))))))
theorem is15 : IsF C 15 65 20762157232131412339 c15 [.tmp 4] := ⟨⟨Try.f15, _, C_P ▸ Try.func15, rfl, rfl, rfl, by kernel_rfl, rfl⟩⟩
def qgD9 (s0 : List Mono) (s1 : Int) (s5 : Int) : Int → Unit → St := fun s6 _ => ⟨[(0, .d (.rd (s0.map qa9))), (1, PI s1), (4, PI 0), (5, PI s5), (6, PI s6)], []⟩
def qoI9 (s0 : List Mono) (s1 : Int) (s5 : Int) : (Int ⊕ Int) → AExit × St → Prop
  | .inl r, q => XV C [.tmp 4] (PI r) q
  | .inr s6, q => ∃ g, q = (.exit 2, qgD9 s0 s1 s5 s6 g)
set_option maxHeartbeats 60000000 in
theorem qpD9 {s0 : List Mono} {s1 : Int} {s5 : Int} : Sim C 20762157232131412339 qpI9 (qex9 s0 s1 s5) (qgD9 s0 s1 s5) (qoI9 s0 s1 s5) := by
  intro s g r hr
  have ⟨s6, hs0⟩ : ∃ y, y = s := ⟨_, rfl⟩
  subst hs0
  simp only [qex9] at hr
  rcases iteP hr with ⟨h1, hr⟩ | ⟨h1, hr⟩
  obtain ⟨x8, h2, x9, h3, hr⟩ := bs2 hr
  have h3k := fun h => (qqi9 h3).o rfl rfl rfl (h := h) (args := [.ag [.d (.rd (x8.Coef.map qc9)), .d (.rd (x8.Exps.map intD))]]) rfl
  try simp only [go_sem] at h3k
  rcases iteB hr with ⟨h4, hr⟩ | ⟨h4, hr⟩
  obtain rfl := oiA hr
  refine ⟨(), ?_⟩
  rotate_left
  obtain rfl := oiA hr
  refine xv_of ?_
  rotate_left
  obtain rfl := oiA hr
  refine xe_of ⟨(), rfl⟩ ?_
  rotate_left
  all_goals (simp +decide only [go_sem, decide_not, qgD9, qpI9, *])
def qgG9 (s0 : List Mono) (s1 : Int) : Int → Unit → St := fun s5 _ => ⟨[(0, .d (.rd (s0.map qa9))), (1, PI s1), (4, PI 0), (5, PI s5)], []⟩
def qpY9 (s0 : List Mono) (s1 : Int) : (Int ⊕ Int) → AExit × St → Prop
  | .inl r, q => XV C [.tmp 4] (PI r) q
  | .inr s5, q => ∃ g, q = (.exit 0, qgG9 s0 s1 s5 g)
set_option maxHeartbeats 60000000 in
theorem qot9 {s0 : List Mono} {s1 : Int} : Sim C 20762157232131412339 qnK9 (qeY9 s0 s1) (qgG9 s0 s1) (qpY9 s0 s1) := by
  intro s g r hr
  have ⟨s5, hs0⟩ : ∃ y, y = s := ⟨_, rfl⟩
  subst hs0
  simp only [qeY9] at hr
  rcases iteP hr with ⟨h1, hr⟩ | ⟨h1, hr⟩
  obtain ⟨x1, h2, x2, h3, hr⟩ := bs2 hr
  have h3k := fun h => (qsa9 h3).o rfl rfl rfl (h := h) (args := [.ag [.d (.rd (x1.Coef.map qc9)), .d (.rd (x1.Exps.map intD))]]) rfl
  try simp only [go_sem] at h3k
  rcases iteB hr with ⟨h4, hr⟩ | ⟨h4, hr⟩
  rcases iteP hr with ⟨h5, hr⟩ | ⟨h5, hr⟩
  obtain rfl := oiA hr
  refine xv_of ?_
  rotate_left
  rcases iteP hr with ⟨h6, hr⟩ | ⟨h6, hr⟩
  obtain ⟨x3, h7, x4, h8, hr⟩ := bs2 hr
  have h8k := (qqU9 h8).k rfl rfl rfl
  try simp only [go_sem] at h8k
  rcases iteP hr with ⟨h9, hr⟩ | ⟨h9, hr⟩
  obtain rfl := oiA hr
  refine xv_of ?_
  rotate_left
  obtain rfl := oiA hr
  refine ⟨(), ?_⟩
  rotate_left
  obtain rfl := oiA hr
  refine ⟨(), ?_⟩
  rotate_left
  obtain rfl := oiA hr
  refine xv_of ?_
  rotate_left
  obtain rfl := oiA hr
  refine xe_of ⟨(), rfl⟩ ?_
  rotate_left
  all_goals (simp +decide only [go_sem, decide_not, qgG9, qnK9, *])
set_option maxHeartbeats 60000000 in
theorem qqB9 {a0 : List Mono} {a1 : Int} {r : Int} (hr : qij9 a0 a1 = some r) : Res C 15 [.rd (a0.map qa9), .v (.int .i64 a1)] (PI r) := by
  simp only [qij9] at hr
  rcases iteP hr with ⟨h1, hr⟩ | ⟨h1, hr⟩
  obtain rfl := oiA hr
  refine run_V is15 (nbA rfl) ?_
  rotate_left
  obtain ⟨x5, h2, hr⟩ := bsome hr
  obtain ⟨q2, h2L, h2X⟩ := qot9.L (g := ()) h2
  rcases x5 with x6 | x7
  try dsimp only at hr
  obtain ⟨st2, rfl, h2R⟩ := h2X
  simp only [qgG9, go_sem] at h2L
  obtain rfl := oiA hr
  refine run_V is15 (nbA rfl) ?_
  rotate_left
  try dsimp only at hr
  obtain ⟨⟨⟩, rfl⟩ := h2X
  simp only [qgG9, go_sem] at h2L
  obtain ⟨x10, h3, hr⟩ := bsome hr
  obtain ⟨q3, h3L, h3X⟩ := qpD9.L (g := ()) h3
  rcases x10 with x11 | x12
  try dsimp only at hr
  obtain ⟨st3, rfl, h3R⟩ := h3X
  simp only [qgD9, go_sem] at h3L
  obtain rfl := oiA hr
  refine run_V is15 (nbA rfl) ?_
  rotate_left
  try dsimp only at hr
  obtain ⟨⟨⟩, rfl⟩ := h3X
  simp only [qgD9, go_sem] at h3L
  rcases iteP hr with ⟨h4, hr⟩ | ⟨h4, hr⟩
  obtain rfl := oiA hr
  refine run_V is15 (nbA rfl) ?_
  rotate_left
  obtain rfl := oiA hr
  refine run_V is15 (nbA rfl) ?_
  rotate_left
  all_goals (simp +decide only [go_sem, decide_not, c15, *])
end Ld

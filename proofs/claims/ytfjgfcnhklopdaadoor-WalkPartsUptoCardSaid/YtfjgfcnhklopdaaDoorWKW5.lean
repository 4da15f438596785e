import Derived.Test.YtfjgfcnhklopdaaDoorWKC
set_option maxHeartbeats 4000000
set_option linter.unusedVariables false
set_option linter.unusedSimpArgs false
namespace Ld
open Go Go.Proofs Go.Abs
set_option maxRecDepth 8000
def qmX9 : ACode := .seq (.reg [] [] [.K 8 (.nxt (.tmp 7) true), .K 9 (.ext (.tmp 8) 0)]) (.seq (.cond (.tmp 9) (some 9) (.skip) (.exit 0)) (.block 1 800 (.seq (.reg [] [] [.T 10 (.ext (.tmp 8) 2), .N 5 10]) (.reg [] [] [.M 11 3, .M 12 5, .T 13 (.toStr (.tmp 12)), .T 14 (.bin .add (.tmp 11) (.tmp 13)), .N 3 14]))))
def c110 : ACode := .seq (.reg [] [] [.K 2 (.mv (.const (.bool false)))]) (.seq (.reg [] [] [.K 3 (.mv (.const (.string { data := #[] })))]) (.seq (.seq (.reg [] [] [.M 6 0, .K 7 (.rng (.tmp 6))]) (.block 0 800 (.loop qmX9))) (.seq (.reg [] [] [.M 15 3, .M 16 0, .T 17 (.bin .eql (.tmp 15) (.tmp 16)), .N 2 17]) (.ret))))
theorem is110 : IsF C 110 18 941 c110 [.tmp 2] := ⟨⟨Tryd.f110, _, C_P ▸ Tryd.func110, rfl, rfl, rfl, by kernel_rfl, rfl⟩⟩
def qiI9 (s0 : ByteArray) (t7 : ByteArray) : ByteArray × Nat → Unit → St := fun (s3, q7) _ => ⟨[(0, .d (.v (.string s0))), (2, PB false), (3, .d (.v (.string s3))), (7, .it 0)], (.siter t7 q7 :: [])⟩
def qra9 (s0 : ByteArray) (t7 : ByteArray) : (ByteArray × Nat) → AExit × St → Prop := fun (s3, q7) q => ∃ d8 : PV, q = (.exit 0, ⟨[(0, .d (.v (.string s0))), (2, PB false), (3, .d (.v (.string s3))), (7, .it 0), (8, d8)], (.siter t7 q7 :: [])⟩)
set_option maxHeartbeats 60000000 in
theorem qqI9 {s0 : ByteArray} {t7 : ByteArray} : Sim C 941 qmX9 (qdt9 s0 t7) (qiI9 s0 t7) (qra9 s0 t7) := by
  intro s g r hr
  obtain ⟨s3, q7⟩ := s
  simp only [qdt9] at hr
  rcases iteP hr with ⟨h1, hr⟩ | ⟨h1, hr⟩
  obtain ⟨h2, hr⟩ := gsome hr
  obtain rfl := oiA hr
  refine ⟨(), ?_⟩
  rotate_left
  obtain rfl := oiA hr
  refine xe_of ⟨.tp [PB false], rfl⟩ ?_
  rotate_left
  all_goals (simp +decide only [go_sem, qiI9, qmX9, *])
set_option maxHeartbeats 60000000 in
theorem qrU9 {a0 : ByteArray} {r : Bool} (hr : qid9 a0 = some r) : Res C 110 [.v (.string a0)] (PB r) := by
  simp only [qid9] at hr
  obtain ⟨x1, h1, hr⟩ := bsome hr
  obtain ⟨q1, h1L, h1X⟩ := qqI9.L (g := ()) h1
  obtain ⟨x2, x3⟩ := x1
  try dsimp only at hr
  obtain ⟨z4, rfl⟩ := h1X
  simp only [qiI9, go_sem] at h1L
  obtain rfl := oiA hr
  refine run_V is110 (nbA rfl) ?_
  rotate_left
  all_goals (simp +decide only [go_sem, c110, *])
def c111 : ACode := .seq (.reg [] [] [.K 2 (.mv (.const (.bool false)))]) (.seq (.reg [] [] [.M 3 0, .T 4 (.bin .geq (.tmp 3) (.const (.int .i32 97))), .M 5 4, .MG 6 5 true 0, .TG 7 5 true (.bin .leq (.tmp 6) (.const (.int .i32 122))), .T 8 (.pick (.tmp 5) (.tmp 7) (.const (.bool false))), .M 9 8, .MG 10 9 false 0, .TG 11 9 false (.bin .geq (.tmp 10) (.const (.int .i32 65))), .MG 12 9 false 11, .MG 13 12 true 0, .TG 14 12 true (.bin .leq (.tmp 13) (.const (.int .i32 90))), .TG 15 9 false (.pick (.tmp 12) (.tmp 14) (.const (.bool false))), .T 16 (.pick (.tmp 9) (.const (.bool true)) (.tmp 15)), .M 17 16, .MG 18 17 false 0, .TG 19 17 false (.bin .geq (.tmp 18) (.const (.int .i32 128))), .T 20 (.pick (.tmp 17) (.const (.bool true)) (.tmp 19)), .N 2 20]) (.ret))
theorem is111 : IsF C 111 21 5 c111 [.tmp 2] := ⟨⟨Tryd.f111, _, C_P ▸ Tryd.func111, rfl, rfl, rfl, by kernel_rfl, rfl⟩⟩
set_option maxHeartbeats 60000000 in
theorem qkc9 {a0 : Int} {r : Bool} (hr : qgq9 a0 = some r) : Res C 111 [.v (.int .i32 a0)] (PB r) := by
  simp only [qgq9] at hr
  rcases iteP hr with ⟨h1, hr⟩ | ⟨h1, hr⟩
  rcases iteP hr with ⟨h2, hr⟩ | ⟨h2, hr⟩
  obtain rfl := oiA hr
  refine run_V is111 (nbA rfl) ?_
  rotate_left
  rcases iteP hr with ⟨h3, hr⟩ | ⟨h3, hr⟩
  rcases iteP hr with ⟨h4, hr⟩ | ⟨h4, hr⟩
  obtain rfl := oiA hr
  refine run_V is111 (nbA rfl) ?_
  rotate_left
  obtain rfl := oiA hr
  refine run_V is111 (nbA rfl) ?_
  rotate_left
  obtain rfl := oiA hr
  refine run_V is111 (nbA rfl) ?_
  rotate_left
  rcases iteP hr with ⟨h5, hr⟩ | ⟨h5, hr⟩
  rcases iteP hr with ⟨h6, hr⟩ | ⟨h6, hr⟩
  obtain rfl := oiA hr
  refine run_V is111 (nbA rfl) ?_
  rotate_left
  obtain rfl := oiA hr
  refine run_V is111 (nbA rfl) ?_
  rotate_left
  obtain rfl := oiA hr
  refine run_V is111 (nbA rfl) ?_
  rotate_left
  all_goals (simp +decide only [go_sem, c111, *])
def c112 : ACode := .seq (.reg [] [] [.K 2 (.mv (.const (.bool false)))]) (.seq (.reg [] [] [.M 3 0, .T 4 (.call 111 [.tmp 3]), .M 5 4, .MG 6 5 false 0, .TG 7 5 false (.bin .geq (.tmp 6) (.const (.int .i32 48))), .MG 8 5 false 7, .MG 9 8 true 0, .TG 10 8 true (.bin .leq (.tmp 9) (.const (.int .i32 57))), .TG 11 5 false (.pick (.tmp 8) (.tmp 10) (.const (.bool false))), .T 12 (.pick (.tmp 5) (.const (.bool true)) (.tmp 11)), .M 13 12, .MG 14 13 false 0, .TG 15 13 false (.bin .eql (.tmp 14) (.const (.int .i32 95))), .T 16 (.pick (.tmp 13) (.const (.bool true)) (.tmp 15)), .M 17 16, .MG 18 17 false 0, .TG 19 17 false (.bin .eql (.tmp 18) (.const (.int .i32 39))), .T 20 (.pick (.tmp 17) (.const (.bool true)) (.tmp 19)), .N 2 20]) (.ret))
theorem is112 : IsF C 112 21 5 c112 [.tmp 2] := ⟨⟨Tryd.f112, _, C_P ▸ Tryd.func112, rfl, rfl, rfl, by kernel_rfl, rfl⟩⟩
set_option maxHeartbeats 60000000 in
theorem qlu9 {a0 : Int} {r : Bool} (hr : qin9 a0 = some r) : Res C 112 [.v (.int .i32 a0)] (PB r) := by
  simp only [qin9] at hr
  obtain ⟨x1, h1, hr⟩ := bsome hr
  have h1k := (qkc9 h1).k rfl rfl rfl
  try simp only [go_sem] at h1k
  rcases iteB hr with ⟨h2, hr⟩ | ⟨h2, hr⟩
  obtain rfl := oiA hr
  refine run_V is112 (nbA rfl) ?_
  rotate_left
  rcases iteP hr with ⟨h3, hr⟩ | ⟨h3, hr⟩
  rcases iteP hr with ⟨h4, hr⟩ | ⟨h4, hr⟩
  obtain rfl := oiA hr
  refine run_V is112 (nbA rfl) ?_
  rotate_left
  rcases iteP hr with ⟨h5, hr⟩ | ⟨h5, hr⟩
  obtain rfl := oiA hr
  refine run_V is112 (nbA rfl) ?_
  rotate_left
  obtain rfl := oiA hr
  refine run_V is112 (nbA rfl) ?_
  rotate_left
  rcases iteP hr with ⟨h6, hr⟩ | ⟨h6, hr⟩
  obtain rfl := oiA hr
  refine run_V is112 (nbA rfl) ?_
  rotate_left
  obtain rfl := oiA hr
  refine run_V is112 (nbA rfl) ?_
  rotate_left
  all_goals (simp +decide only [go_sem, c112, *])
def qos9 : ACode := .seq (.reg [] [] [.K 19 (.nxt (.tmp 18) true), .K 20 (.ext (.tmp 19) 0)]) (.seq (.cond (.tmp 20) (some 20) (.skip) (.exit 0)) (.block 1 17181442072 (.seq (.reg [] [] [.T 21 (.ext (.tmp 19) 1), .T 22 (.ext (.tmp 19) 2), .N 3 21, .N 4 22]) (.seq (.reg [] [] [.M 23 3, .T 24 (.bin .eql (.tmp 23) (cI 0)), .M 25 24, .MG 26 25 true 4, .TG 27 25 true (.call 111 [.tmp 26]), .TG 28 25 true (.not (.tmp 27)), .T 29 (.pick (.tmp 25) (.tmp 28) (.const (.bool false))), .M 30 29, .MG 31 30 false 4, .TG 32 30 false (.call 112 [.tmp 31]), .TG 33 30 false (.not (.tmp 32)), .K 34 (.pick (.tmp 30) (.const (.bool true)) (.tmp 33))]) (.cond (.tmp 34) (some 34) (.seq (.reg [] [] [.K 2 (.mv (.const (.bool false)))]) (.ret)) (.skip))))))
def c89 : ACode := .seq (.reg [] [] [.K 2 (.mv (.const (.bool false)))]) (.seq (.seq (.reg [] [] [.M 5 0, .T 6 (.bin .eql (.tmp 5) (.const (.string { data := #[] }))), .M 7 6, .MG 8 7 false 0, .TG 9 7 false (.slen (.tmp 8)), .TG 10 7 false (.bin .gtr (.tmp 9) (cI 32)), .T 11 (.pick (.tmp 7) (.const (.bool true)) (.tmp 10)), .M 12 11, .MG 13 12 false 0, .TG 14 12 false (.call 110 [.tmp 13]), .TG 15 12 false (.not (.tmp 14)), .K 16 (.pick (.tmp 12) (.const (.bool true)) (.tmp 15))]) (.cond (.tmp 16) (some 16) (.seq (.reg [] [] [.K 2 (.mv (.const (.bool false)))]) (.ret)) (.skip))) (.seq (.seq (.reg [] [] [.M 17 0, .K 18 (.rng (.tmp 17))]) (.block 0 17181442072 (.loop qos9))) (.seq (.reg [] [] [.K 2 (.mv (.const (.bool true)))]) (.ret))))
theorem is89 : IsF C 89 35 17181769757 c89 [.tmp 2] := ⟨⟨Tryd.f89, _, C_P ▸ Tryd.func89, rfl, rfl, rfl, by kernel_rfl, rfl⟩⟩
def qgY9 (s0 : ByteArray) (t18 : ByteArray) : Nat → Unit → St := fun q18 _ => ⟨[(0, .d (.v (.string s0))), (2, PB false), (18, .it 0)], (.siter t18 q18 :: [])⟩
def qqM9 (s0 : ByteArray) (t18 : ByteArray) : (Bool ⊕ Nat) → AExit × St → Prop
  | .inl r, q => XV C [.tmp 2] (PB r) q
  | .inr q18, q => ∃ d19 : PV, q = (.exit 0, ⟨[(0, .d (.v (.string s0))), (2, PB false), (18, .it 0), (19, d19)], (.siter t18 q18 :: [])⟩)
set_option maxHeartbeats 60000000 in
theorem qrg9 {s0 : ByteArray} {t18 : ByteArray} : Sim C 17181769757 qos9 (qfx9 s0 t18) (qgY9 s0 t18) (qqM9 s0 t18) := by
  intro s g r hr
  have ⟨q18, hs0⟩ : ∃ y, y = s := ⟨_, rfl⟩
  subst hs0
  simp only [qfx9] at hr
  rcases iteP hr with ⟨h1, hr⟩ | ⟨h1, hr⟩
  rcases iteP hr with ⟨h2, hr⟩ | ⟨h2, hr⟩
  obtain ⟨x2, h3, hr⟩ := bsome hr
  have h3k := (qkc9 h3).k rfl rfl rfl
  try simp only [go_sem] at h3k
  rcases iteB hr with ⟨h4, hr⟩ | ⟨h4, hr⟩
  obtain ⟨x3, h5, hr⟩ := bsome hr
  have h5k := (qlu9 h5).k rfl rfl rfl
  try simp only [go_sem] at h5k
  rcases iteB hr with ⟨h6, hr⟩ | ⟨h6, hr⟩
  obtain rfl := oiA hr
  refine ⟨(), ?_⟩
  rotate_left
  obtain rfl := oiA hr
  refine xv_of ?_
  rotate_left
  obtain rfl := oiA hr
  refine xv_of ?_
  rotate_left
  obtain ⟨x4, h7, hr⟩ := bsome hr
  have h7k := (qlu9 h7).k rfl rfl rfl
  try simp only [go_sem] at h7k
  rcases iteB hr with ⟨h8, hr⟩ | ⟨h8, hr⟩
  obtain rfl := oiA hr
  refine ⟨(), ?_⟩
  rotate_left
  obtain rfl := oiA hr
  refine xv_of ?_
  rotate_left
  obtain rfl := oiA hr
  refine xe_of ⟨.tp [PB false], rfl⟩ ?_
  rotate_left
  all_goals (simp +decide only [go_sem, qgY9, qos9, *])
set_option maxHeartbeats 60000000 in
theorem qlY9 {a0 : ByteArray} {r : Bool} (hr : qgI9 a0 = some r) : Res C 89 [.v (.string a0)] (PB r) := by
  simp only [qgI9] at hr
  rcases iteP hr with ⟨h1, hr⟩ | ⟨h1, hr⟩
  obtain rfl := oiA hr
  refine run_V is89 (nbA rfl) ?_
  rotate_left
  rcases iteP hr with ⟨h2, hr⟩ | ⟨h2, hr⟩
  obtain rfl := oiA hr
  refine run_V is89 (nbA rfl) ?_
  rotate_left
  obtain ⟨x1, h3, hr⟩ := bsome hr
  have h3k := (qrU9 h3).k rfl rfl rfl
  try simp only [go_sem] at h3k
  rcases iteB hr with ⟨h4, hr⟩ | ⟨h4, hr⟩
  obtain ⟨x5, h5, hr⟩ := bsome hr
  obtain ⟨q5, h5L, h5X⟩ := qrg9.L (g := ()) h5
  rcases x5 with x6 | x7
  try dsimp only at hr
  obtain ⟨st5, rfl, h5R⟩ := h5X
  simp only [qgY9, go_sem] at h5L
  obtain rfl := oiA hr
  refine run_V is89 (nbA rfl) ?_
  rotate_left
  try dsimp only at hr
  obtain ⟨z8, rfl⟩ := h5X
  simp only [qgY9, go_sem] at h5L
  obtain rfl := oiA hr
  refine run_V is89 (nbA rfl) ?_
  rotate_left
  obtain rfl := oiA hr
  refine run_V is89 (nbA rfl) ?_
  rotate_left
  all_goals (simp +decide only [go_sem, c89, *])
def c90 : ACode := .seq (.reg [] [] [.K 2 (.mv (.const (.bool false)))]) (.seq (.reg [] [] [.M 3 0, .T 4 (.slen (.tmp 3)), .T 5 (.bin .gtr (.tmp 4) (cI 0)), .M 6 5, .MG 7 6 true 0, .MG 8 6 true 0, .TG 9 6 true (.slen (.tmp 8)), .TG 10 6 true (.bin .sub (.tmp 9) (cI 1)), .TG 11 6 true (.ixS (.tmp 7) (.tmp 10)), .TG 12 6 true (.bin .eql (.tmp 11) (.const (.int .u8 35))), .T 13 (.pick (.tmp 6) (.tmp 12) (.const (.bool false))), .M 14 13, .MG 15 14 true 0, .MG 16 14 true 0, .TG 17 14 true (.slen (.tmp 16)), .TG 18 14 true (.bin .sub (.tmp 17) (cI 1)), .TG 19 14 true (.cutS (.tmp 15) none (some (.tmp 18))), .TG 20 14 true (.call 89 [.tmp 19]), .T 21 (.pick (.tmp 14) (.tmp 20) (.const (.bool false))), .N 2 21]) (.ret))
theorem is90 : IsF C 90 22 5 c90 [.tmp 2] := ⟨⟨Tryd.f90, _, C_P ▸ Tryd.func90, rfl, rfl, rfl, by kernel_rfl, rfl⟩⟩
set_option maxHeartbeats 60000000 in
theorem qki9 {a0 : ByteArray} {r : Bool} (hr : qdm9 a0 = some r) : Res C 90 [.v (.string a0)] (PB r) := by
  simp only [qdm9] at hr
  rcases iteP hr with ⟨h1, hr⟩ | ⟨h1, hr⟩
  obtain ⟨x1, h2, hr⟩ := bsome hr
  rcases iteP hr with ⟨h3, hr⟩ | ⟨h3, hr⟩
  obtain ⟨x2, h4, x3, h5, hr⟩ := bs2 hr
  have h5k := (qlY9 h5).k rfl rfl rfl
  try simp only [go_sem] at h5k
  obtain rfl := oiA hr
  refine run_V is90 (nbA rfl) ?_
  rotate_left
  obtain rfl := oiA hr
  refine run_V is90 (nbA rfl) ?_
  rotate_left
  obtain rfl := oiA hr
  refine run_V is90 (nbA rfl) ?_
  rotate_left
  all_goals (simp +decide only [go_sem, c90, *])
def qoR9 : ACode := .seq (.seq (.reg [] [] [.M 44 4, .M 45 3, .K 46 (.bin .lss (.tmp 44) (.tmp 45))]) (.cond (.tmp 46) (some 46) (.skip) (.exit 2))) (.seq (.block 3 576531121047601152 (.seq (.reg [] [] [.M 49 0, .M 50 4, ⟨some (51, false), .ix 2 (.tmp 49) (.tmp 50), none, true, false⟩, .T 52 (.fa 0 (.tmp 51)), ⟨some (53, false), .load none (.tmp 52), none, true, false⟩, .M 54 0, .M 55 3, ⟨some (56, false), .ix 2 (.tmp 54) (.tmp 55), none, true, false⟩, .T 57 (.fa 0 (.tmp 56)), ⟨some (58, false), .load none (.tmp 57), none, true, false⟩, .K 59 (.bin .eql (.tmp 53) (.tmp 58))]) (.cond (.tmp 59) (some 59) (.seq (.reg [] [] [.K 2 (.mv (cI 36))]) (.ret)) (.skip)))) (.reg [] [] [.M 47 4, .T 48 (.bin .add (.tmp 47) (cI 1)), .N 4 48]))
def qqk9 : ACode := .seq (.seq (.reg [] [] [.M 8 3, .M 9 0, .T 10 (.len (.tmp 9)), .K 11 (.bin .lss (.tmp 8) (.tmp 10))]) (.cond (.tmp 11) (some 11) (.skip) (.exit 0))) (.seq (.block 1 576539917677496336 (.seq (.seq (.reg [] [] [.M 14 0, .M 15 3, .T 16 (.ix 2 (.tmp 14) (.tmp 15)), .T 17 (.fa 0 (.tmp 16)), .T 18 (.load none (.tmp 17)), .T 19 (.call 89 [.tmp 18]), .T 20 (.not (.tmp 19)), .M 21 20, .MG 22 21 true 0, .MG 23 21 true 3, .TG 24 21 true (.ix 2 (.tmp 22) (.tmp 23)), .TG 25 21 true (.fa 0 (.tmp 24)), .TG 26 21 true (.load none (.tmp 25)), .TG 27 21 true (.call 90 [.tmp 26]), .TG 28 21 true (.not (.tmp 27)), .K 29 (.pick (.tmp 21) (.tmp 28) (.const (.bool false)))]) (.cond (.tmp 29) (some 29) (.seq (.reg [] [] [.K 2 (.mv (cI 34))]) (.ret)) (.skip))) (.seq (.seq (.reg [] [] [.M 30 0, .M 31 3, .T 32 (.ix 2 (.tmp 30) (.tmp 31)), .T 33 (.fa 1 (.tmp 32)), .T 34 (.load none (.tmp 33)), .T 35 (.bin .lss (.tmp 34) (cI 0)), .M 36 35, .MG 37 36 false 0, .MG 38 36 false 3, .TG 39 36 false (.ix 2 (.tmp 37) (.tmp 38)), .TG 40 36 false (.fa 1 (.tmp 39)), .TG 41 36 false (.load none (.tmp 40)), .TG 42 36 false (.bin .gtr (.tmp 41) (cI 8)), .K 43 (.pick (.tmp 36) (.const (.bool true)) (.tmp 42))]) (.cond (.tmp 43) (some 43) (.seq (.reg [] [] [.K 2 (.mv (cI 35))]) (.ret)) (.skip))) (.seq (.reg [] [] [.K 4 (.mv (cI 0))]) (.block 2 576539917677496336 (.loop qoR9)))))) (.reg [] [] [.M 12 3, .T 13 (.bin .add (.tmp 12) (cI 1)), .N 3 13]))
def c55 : ACode := .seq (.reg [] [] [.K 2 (.mv (cI 0))]) (.seq (.seq (.reg [] [] [.M 5 0, .T 6 (.len (.tmp 5)), .K 7 (.bin .gtr (.tmp 6) (cI 128))]) (.cond (.tmp 7) (some 7) (.seq (.reg [] [] [.K 2 (.mv (cI 37))]) (.ret)) (.skip))) (.seq (.seq (.reg [] [] [.K 3 (.mv (cI 0))]) (.block 0 576539917677496336 (.loop qqk9))) (.seq (.reg [] [] [.K 2 (.mv (cI 0))]) (.ret))))
theorem is55 : IsF C 55 60 576539917677496477 c55 [.tmp 2] := ⟨⟨Tryd.f55, _, C_P ▸ Tryd.func55, rfl, rfl, rfl, by kernel_rfl, rfl⟩⟩
def qdb9 (s0 : List Symbol) (s3 : Int) : Int → Unit → St := fun s4 _ => ⟨[(0, .d (.rd (s0.map qb9))), (2, PI 0), (3, PI s3), (4, PI s4)], []⟩
def qlF9 (s0 : List Symbol) (s3 : Int) : (Int ⊕ Unit) → AExit × St → Prop
  | .inl r, q => XV C [.tmp 2] (PI r) q
  | .inr _, q => ∃ d4 : PV, q = (.exit 2, ⟨[(0, .d (.rd (s0.map qb9))), (2, PI 0), (3, PI s3), (4, d4)], []⟩)
set_option maxHeartbeats 60000000 in
theorem qiw9 {s0 : List Symbol} {s3 : Int} : Sim C 576539917677496477 qoR9 (qca9 s0 s3) (qdb9 s0 s3) (qlF9 s0 s3) := by
  intro s g r hr
  have ⟨s4, hs0⟩ : ∃ y, y = s := ⟨_, rfl⟩
  subst hs0
  simp only [qca9] at hr
  rcases iteP hr with ⟨h1, hr⟩ | ⟨h1, hr⟩
  obtain ⟨x9, h2, x10, h3, hr⟩ := bs2 hr
  rcases iteP hr with ⟨h4, hr⟩ | ⟨h4, hr⟩
  obtain rfl := oiA hr
  refine xv_of ?_
  rotate_left
  obtain rfl := oiA hr
  refine ⟨(), ?_⟩
  rotate_left
  obtain rfl := oiA hr
  refine xe_of ⟨PI s4, rfl⟩ ?_
  rotate_left
  all_goals (simp +decide only [go_sem, qdb9, qoR9, *])
def qdQ9 (s0 : List Symbol) : Int → Unit → St := fun s3 _ => ⟨[(0, .d (.rd (s0.map qb9))), (2, PI 0), (3, PI s3)], []⟩
def qmd9 (s0 : List Symbol) : (Int ⊕ Int) → AExit × St → Prop
  | .inl r, q => XV C [.tmp 2] (PI r) q
  | .inr s3, q => ∃ g, q = (.exit 0, qdQ9 s0 s3 g)
set_option maxHeartbeats 60000000 in
theorem qlV9 {s0 : List Symbol} : Sim C 576539917677496477 qqk9 (qbZ9 s0) (qdQ9 s0) (qmd9 s0) := by
  intro s g r hr
  have ⟨s3, hs0⟩ : ∃ y, y = s := ⟨_, rfl⟩
  subst hs0
  simp only [qbZ9] at hr
  rcases iteP hr with ⟨h1, hr⟩ | ⟨h1, hr⟩
  obtain ⟨x1, h2, x2, h3, hr⟩ := bs2 hr
  have h3k := (qlY9 h3).k rfl rfl rfl
  try simp only [go_sem] at h3k
  rcases iteB hr with ⟨h4, hr⟩ | ⟨h4, hr⟩
  rcases iteP hr with ⟨h5, hr⟩ | ⟨h5, hr⟩
  obtain rfl := oiA hr
  refine xv_of ?_
  rotate_left
  rcases iteP hr with ⟨h6, hr⟩ | ⟨h6, hr⟩
  obtain rfl := oiA hr
  refine xv_of ?_
  rotate_left
  obtain ⟨x5, h7, hr⟩ := bsome hr
  obtain ⟨q7, h7L, h7X⟩ := qiw9.L (g := ()) h7
  rcases x5 with x6 | ⟨⟩
  try dsimp only at hr
  obtain ⟨st7, rfl, h7R⟩ := h7X
  simp only [qdb9, go_sem] at h7L
  obtain rfl := oiA hr
  refine xv_of ?_
  rotate_left
  try dsimp only at hr
  obtain ⟨z7, rfl⟩ := h7X
  simp only [qdb9, go_sem] at h7L
  obtain rfl := oiA hr
  refine ⟨(), ?_⟩
  rotate_left
  obtain ⟨x8, h8, hr⟩ := bsome hr
  have h8k := (qki9 h8).k rfl rfl rfl
  try simp only [go_sem] at h8k
  rcases iteB hr with ⟨h9, hr⟩ | ⟨h9, hr⟩
  rcases iteP hr with ⟨h10, hr⟩ | ⟨h10, hr⟩
  obtain rfl := oiA hr
  refine xv_of ?_
  rotate_left
  rcases iteP hr with ⟨h11, hr⟩ | ⟨h11, hr⟩
  obtain rfl := oiA hr
  refine xv_of ?_
  rotate_left
  obtain ⟨x11, h12, hr⟩ := bsome hr
  obtain ⟨q12, h12L, h12X⟩ := qiw9.L (g := ()) h12
  rcases x11 with x12 | ⟨⟩
  try dsimp only at hr
  obtain ⟨st12, rfl, h12R⟩ := h12X
  simp only [qdb9, go_sem] at h12L
  obtain rfl := oiA hr
  refine xv_of ?_
  rotate_left
  try dsimp only at hr
  obtain ⟨z13, rfl⟩ := h12X
  simp only [qdb9, go_sem] at h12L
  obtain rfl := oiA hr
  refine ⟨(), ?_⟩
  rotate_left
  obtain rfl := oiA hr
  refine xv_of ?_
  rotate_left
  obtain rfl := oiA hr
  refine xe_of ⟨(), rfl⟩ ?_
  rotate_left
  all_goals (simp +decide only [go_sem, qdQ9, qqk9, *])
set_option maxHeartbeats 60000000 in
theorem qiZ9 {a0 : List Symbol} {r : Int} (hr : qdH9 a0 = some r) : Res C 55 [.rd (a0.map qb9)] (PI r) := by
  simp only [qdH9] at hr
  rcases iteP hr with ⟨h1, hr⟩ | ⟨h1, hr⟩
  obtain rfl := oiA hr
  refine run_V is55 (nbA rfl) ?_
  rotate_left
  obtain ⟨x14, h2, hr⟩ := bsome hr
  obtain ⟨q2, h2L, h2X⟩ := qlV9.L (g := ()) h2
  rcases x14 with x15 | x16
  try dsimp only at hr
  obtain ⟨st2, rfl, h2R⟩ := h2X
  simp only [qdQ9, go_sem] at h2L
  obtain rfl := oiA hr
  refine run_V is55 (nbA rfl) ?_
  rotate_left
  try dsimp only at hr
  obtain ⟨⟨⟩, rfl⟩ := h2X
  simp only [qdQ9, go_sem] at h2L
  obtain rfl := oiA hr
  refine run_V is55 (nbA rfl) ?_
  rotate_left
  all_goals (simp +decide only [go_sem, c55, *])
def qpf9 : ACode := .seq (.seq (.reg [] [] [.M 13 4, .M 14 0, .T 15 (.len (.tmp 14)), .K 16 (.bin .lss (.tmp 13) (.tmp 15))]) (.cond (.tmp 16) (some 16) (.skip) (.exit 0))) (.seq (.block 1 16842752 (.seq (.reg [] [] [.M 19 0, .M 20 4, .T 21 (.ix 2 (.tmp 19) (.tmp 20)), .T 22 (.fa 0 (.tmp 21)), .T 23 (.load none (.tmp 22)), .K 24 (.call 90 [.tmp 23])]) (.cond (.tmp 24) (some 24) (.seq (.reg [] [] [.K 2 (.mv (cI 34))]) (.ret)) (.skip)))) (.reg [] [] [.M 17 4, .T 18 (.bin .add (.tmp 17) (cI 1)), .N 4 18]))
def c87 : ACode := .seq (.reg [] [] [.K 2 (.mv (cI 0))]) (.seq (.reg [] [] [.M 5 0, .T 6 (.call 55 [.tmp 5]), .N 3 6]) (.seq (.seq (.reg [] [] [.M 7 3, .K 8 (.bin .neq (.tmp 7) (cI 0))]) (.cond (.tmp 8) (some 8) (.seq (.reg [] [] [.M 9 3, .N 2 9]) (.ret)) (.skip))) (.seq (.seq (.reg [] [] [.M 10 0, .T 11 (.len (.tmp 10)), .K 12 (.bin .gtr (.tmp 11) (cI 64))]) (.cond (.tmp 12) (some 12) (.seq (.reg [] [] [.K 2 (.mv (cI 37))]) (.ret)) (.skip))) (.seq (.seq (.reg [] [] [.K 4 (.mv (cI 0))]) (.block 0 16842752 (.loop qpf9))) (.seq (.reg [] [] [.K 2 (.mv (cI 0))]) (.ret))))))
theorem is87 : IsF C 87 25 16847133 c87 [.tmp 2] := ⟨⟨Tryd.f87, _, C_P ▸ Tryd.func87, rfl, rfl, rfl, by kernel_rfl, rfl⟩⟩
def qeS9 (s0 : List Symbol) (s3 : Int) : Int → Unit → St := fun s4 _ => ⟨[(0, .d (.rd (s0.map qb9))), (2, PI 0), (3, PI s3), (4, PI s4)], []⟩
def qql9 (s0 : List Symbol) (s3 : Int) : (Int ⊕ Int) → AExit × St → Prop
  | .inl r, q => XV C [.tmp 2] (PI r) q
  | .inr s4, q => ∃ g, q = (.exit 0, qeS9 s0 s3 s4 g)
set_option maxHeartbeats 60000000 in
theorem qov9 {s0 : List Symbol} {s3 : Int} : Sim C 16847133 qpf9 (qea9 s0 s3) (qeS9 s0 s3) (qql9 s0 s3) := by
  intro s g r hr
  have ⟨s4, hs0⟩ : ∃ y, y = s := ⟨_, rfl⟩
  subst hs0
  simp only [qea9] at hr
  rcases iteP hr with ⟨h1, hr⟩ | ⟨h1, hr⟩
  obtain ⟨x2, h2, x3, h3, hr⟩ := bs2 hr
  have h3k := (qki9 h3).k rfl rfl rfl
  try simp only [go_sem] at h3k
  rcases iteB hr with ⟨h4, hr⟩ | ⟨h4, hr⟩
  obtain rfl := oiA hr
  refine xv_of ?_
  rotate_left
  obtain rfl := oiA hr
  refine ⟨(), ?_⟩
  rotate_left
  obtain rfl := oiA hr
  refine xe_of ⟨(), rfl⟩ ?_
  rotate_left
  all_goals (simp +decide only [go_sem, qeS9, qpf9, *])
set_option maxHeartbeats 60000000 in
theorem qqD9 {a0 : List Symbol} {r : Int} (hr : qhg9 a0 = some r) : Res C 87 [.rd (a0.map qb9)] (PI r) := by
  simp only [qhg9] at hr
  obtain ⟨x1, h1, hr⟩ := bsome hr
  have h1k := (qiZ9 h1).k rfl rfl rfl
  try simp only [go_sem] at h1k
  rcases iteP hr with ⟨h2, hr⟩ | ⟨h2, hr⟩
  rcases iteP hr with ⟨h3, hr⟩ | ⟨h3, hr⟩
  obtain rfl := oiA hr
  refine run_V is87 (nbA rfl) ?_
  rotate_left
  obtain ⟨x4, h4, hr⟩ := bsome hr
  obtain ⟨q4, h4L, h4X⟩ := qov9.L (g := ()) h4
  rcases x4 with x5 | x6
  try dsimp only at hr
  obtain ⟨st4, rfl, h4R⟩ := h4X
  simp only [qeS9, go_sem] at h4L
  obtain rfl := oiA hr
  refine run_V is87 (nbA rfl) ?_
  rotate_left
  try dsimp only at hr
  obtain ⟨⟨⟩, rfl⟩ := h4X
  simp only [qeS9, go_sem] at h4L
  obtain rfl := oiA hr
  refine run_V is87 (nbA rfl) ?_
  rotate_left
  obtain rfl := oiA hr
  refine run_V is87 (nbA rfl) ?_
  rotate_left
  all_goals (simp +decide only [go_sem, c87, *])
def qoE9 : ACode := .seq (.seq (.reg [] [] [.M 7 5, .K 8 (.bin .gtr (.tmp 7) (cI 0))]) (.cond (.tmp 8) (some 8) (.skip) (.exit 0))) (.seq (.block 1 18014433137672448 (.seq (.seq (.reg [] [] [.M 11 6, .M 12 1, .T 13 (.len (.tmp 12)), .K 14 (.bin .eql (.tmp 11) (.tmp 13))]) (.cond (.tmp 14) (some 14) (.seq (.reg [] [] [.K 4 (.mv (cI 31))]) (.ret)) (.skip))) (.seq (.seq (.reg [] [] [.M 15 1, .M 16 6, .T 17 (.ix 1 (.tmp 15) (.tmp 16)), .T 18 (.load none (.tmp 17)), .M 19 0, .T 20 (.len (.tmp 19)), .T 21 (.bin .geq (.tmp 18) (.tmp 20)), .M 22 21, .MG 23 22 false 1, .MG 24 22 false 6, .TG 25 22 false (.ix 1 (.tmp 23) (.tmp 24)), .TG 26 22 false (.load none (.tmp 25)), .TG 27 22 false (.bin .lss (.tmp 26) (cI (-1048576))), .K 28 (.pick (.tmp 22) (.const (.bool true)) (.tmp 27))]) (.cond (.tmp 28) (some 28) (.seq (.reg [] [] [.K 4 (.mv (cI 30))]) (.ret)) (.skip))) (.seq (.reg [] [] [.M 29 5, .T 30 (.bin .sub (.tmp 29) (cI 1)), .N 5 30]) (.seq (.seq (.reg [] [] [.M 31 1, .M 32 6, .T 33 (.ix 1 (.tmp 31) (.tmp 32)), .T 34 (.load none (.tmp 33)), .K 35 (.bin .geq (.tmp 34) (cI 0))]) (.cond (.tmp 35) (some 35) (.reg [] [] [.M 36 5, .M 37 0, .M 38 1, .M 39 6, .T 40 (.ix 1 (.tmp 38) (.tmp 39)), .T 41 (.load none (.tmp 40)), .T 42 (.ix 2 (.tmp 37) (.tmp 41)), .T 43 (.fa 1 (.tmp 42)), .T 44 (.load none (.tmp 43)), .T 45 (.bin .add (.tmp 36) (.tmp 44)), .N 5 45]) (.skip))) (.seq (.reg [] [] [.M 46 5, .T 47 (.bin .eql (.tmp 46) (cI 0)), .M 48 47, .MG 49 48 true 6, .TG 50 48 true (.bin .add (.tmp 49) (cI 1)), .MG 51 48 true 1, .TG 52 48 true (.len (.tmp 51)), .TG 53 48 true (.bin .lss (.tmp 50) (.tmp 52)), .K 54 (.pick (.tmp 48) (.tmp 53) (.const (.bool false)))]) (.cond (.tmp 54) (some 54) (.seq (.reg [] [] [.K 4 (.mv (cI 32))]) (.ret)) (.skip)))))))) (.reg [] [] [.M 9 6, .T 10 (.bin .add (.tmp 9) (cI 1)), .N 6 10]))
def c56 : ACode := .seq (.reg [] [] [.K 4 (.mv (cI 0))]) (.seq (.reg [] [] [.K 5 (.mv (cI 1))]) (.seq (.seq (.reg [] [] [.K 6 (.mv (cI 0))]) (.block 0 18014433137672448 (.loop qoE9))) (.seq (.reg [] [] [.K 4 (.mv (cI 0))]) (.ret))))
theorem is56 : IsF C 56 55 18014433137672563 c56 [.tmp 4] := ⟨⟨Tryd.f56, _, C_P ▸ Tryd.func56, rfl, rfl, rfl, by kernel_rfl, rfl⟩⟩
def qfz9 (s0 : List Symbol) (s1 : List Int) : Int × Int → Unit → St := fun (s5, s6) _ => ⟨[(0, .d (.rd (s0.map qb9))), (1, .d (.rd (s1.map intD))), (4, PI 0), (5, PI s5), (6, PI s6)], []⟩
def qqH9 (s0 : List Symbol) (s1 : List Int) : (Int ⊕ (Int × Int)) → AExit × St → Prop
  | .inl r, q => XV C [.tmp 4] (PI r) q
  | .inr (s5, s6), q => ∃ g, q = (.exit 0, qfz9 s0 s1 (s5, s6) g)
set_option maxHeartbeats 60000000 in
theorem qrj9 {s0 : List Symbol} {s1 : List Int} : Sim C 18014433137672563 qoE9 (qcK9 s0 s1) (qfz9 s0 s1) (qqH9 s0 s1) := by
  intro s g r hr
  obtain ⟨s5, s6⟩ := s
  simp only [qcK9] at hr
  rcases iteP hr with ⟨h1, hr⟩ | ⟨h1, hr⟩
  rcases iteP hr with ⟨h2, hr⟩ | ⟨h2, hr⟩
  obtain rfl := oiA hr
  refine xv_of ?_
  rotate_left
  obtain ⟨x1, h3, hr⟩ := bsome hr
  rcases iteP hr with ⟨h4, hr⟩ | ⟨h4, hr⟩
  obtain rfl := oiA hr
  refine xv_of ?_
  rotate_left
  rcases iteP hr with ⟨h5, hr⟩ | ⟨h5, hr⟩
  obtain rfl := oiA hr
  refine xv_of ?_
  rotate_left
  rcases iteP hr with ⟨h6, hr⟩ | ⟨h6, hr⟩
  obtain ⟨x2, h7, hr⟩ := bsome hr
  rcases iteP hr with ⟨h8, hr⟩ | ⟨h8, hr⟩
  rcases iteP hr with ⟨h9, hr⟩ | ⟨h9, hr⟩
  obtain rfl := oiA hr
  refine xv_of ?_
  rotate_left
  obtain rfl := oiA hr
  refine ⟨(), ?_⟩
  rotate_left
  obtain rfl := oiA hr
  refine ⟨(), ?_⟩
  rotate_left
  rcases iteP hr with ⟨h10, hr⟩ | ⟨h10, hr⟩
  rcases iteP hr with ⟨h11, hr⟩ | ⟨h11, hr⟩
  obtain rfl := oiA hr
  refine xv_of ?_
  rotate_left
  obtain rfl := oiA hr
  refine ⟨(), ?_⟩
  rotate_left
  obtain rfl := oiA hr
  refine ⟨(), ?_⟩
  rotate_left
  obtain rfl := oiA hr
  refine xe_of ⟨(), rfl⟩ ?_
  rotate_left
  all_goals (simp +decide only [go_sem, qfz9, qoE9, *])
set_option maxHeartbeats 60000000 in
theorem qjy9 {a0 : List Symbol} {a1 : List Int} {r : Int} (hr : qfN9 a0 a1 = some r) : Res C 56 [.rd (a0.map qb9), .rd (a1.map intD)] (PI r) := by
  simp only [qfN9] at hr
  obtain ⟨x3, h1, hr⟩ := bsome hr
  obtain ⟨q1, h1L, h1X⟩ := qrj9.L (g := ()) h1
  rcases x3 with x4 | ⟨x5, x6⟩
  try dsimp only at hr
  obtain ⟨st1, rfl, h1R⟩ := h1X
  simp only [qfz9, go_sem] at h1L
  obtain rfl := oiA hr
  refine run_V is56 (nbA rfl) ?_
  rotate_left
  try dsimp only at hr
  obtain ⟨⟨⟩, rfl⟩ := h1X
  simp only [qfz9, go_sem] at h1L
  obtain rfl := oiA hr
  refine run_V is56 (nbA rfl) ?_
  rotate_left
  all_goals (simp +decide only [go_sem, c56, *])
def qmy9 : ACode := .seq (.seq (.reg [] [] [.M 18 6, .M 19 3, .T 20 (.len (.tmp 19)), .K 21 (.bin .lss (.tmp 18) (.tmp 20))]) (.cond (.tmp 21) (some 21) (.skip) (.exit 2))) (.seq (.block 3 2097152 (.reg [] [] [.M 24 5, .M 25 24, .MG 26 25 false 3, .MG 27 25 false 6, ⟨some (28, false), .ix 1 (.tmp 26) (.tmp 27), some (25, false), true, false⟩, ⟨some (29, false), .load none (.tmp 28), some (25, false), true, false⟩, .MG 30 25 false 0, .MG 31 25 false 4, ⟨some (32, false), .ix 1 (.tmp 30) (.tmp 31), some (25, false), true, false⟩, ⟨some (33, false), .load none (.tmp 32), some (25, false), true, false⟩, .TG 34 25 false (.bin .sub (cI (-1)) (.tmp 33)), .TG 35 25 false (.bin .eql (.tmp 29) (.tmp 34)), .T 36 (.pick (.tmp 25) (.const (.bool true)) (.tmp 35)), .N 5 36])) (.reg [] [] [.M 22 6, .T 23 (.bin .add (.tmp 22) (cI 1)), .N 6 23]))
def qmv9 : ACode := .seq (.seq (.reg [] [] [.M 7 4, .M 8 0, .T 9 (.len (.tmp 8)), .K 10 (.bin .lss (.tmp 7) (.tmp 9))]) (.cond (.tmp 10) (some 10) (.skip) (.exit 0))) (.seq (.block 1 274880005216 (.seq (.reg [] [] [.M 13 0, .M 14 4, .T 15 (.ix 1 (.tmp 13) (.tmp 14)), .T 16 (.load none (.tmp 15)), .T 17 (.bin .geq (.tmp 16) (cI 0)), .N 5 17]) (.seq (.seq (.reg [] [] [.K 6 (.mv (cI 0))]) (.block 2 2098240 (.loop qmy9))) (.seq (.reg [] [] [.M 37 5, .K 38 (.not (.tmp 37))]) (.cond (.tmp 38) (some 38) (.reg [] [] [.M 39 3, .M 40 0, .M 41 4, .T 42 (.ix 1 (.tmp 40) (.tmp 41)), .T 43 (.load none (.tmp 42)), .T 44 (.bin .sub (cI (-1)) (.tmp 43)), .T 45 (.lit 1 [(0, .tmp 44)]), .T 46 (.app 1 8 (.tmp 39) (.tmp 45)), .N 3 46]) (.skip)))))) (.reg [] [] [.M 11 4, .T 12 (.bin .add (.tmp 11) (cI 1)), .N 4 12]))
def c108 : ACode := .seq (.reg [] [(2, 0)] [.K 2 (.mv (.const (.slice none 0 0)))]) (.seq (.reg [] [(3, 1)] [.K 3 (.mv (.const (.slice none 0 0)))]) (.seq (.seq (.reg [] [] [.K 4 (.mv (cI 0))]) (.block 0 274880005216 (.loop qmv9))) (.seq (.reg [] [(2, 0)] [.M 47 3, .N 2 47]) (.ret))))
theorem is108 : IsF C 108 48 274880005245 c108 [.tmp 2] := ⟨⟨Tryd.f108, _, C_P ▸ Tryd.func108, rfl, rfl, rfl, by kernel_rfl, rfl⟩⟩
def qiB9 (s0 : List Int) (s2 : List Int) (s4 : Int) (o3 : List Int) (v3 : Nat) : Bool × Int → Unit → St := fun (s5, s6) _ => ⟨[(0, .d (.rd (s0.map intD))), (2, .d (.rd (s2.map intD))), (3, .ref 0 v3 0 o3.length), (4, PI s4), (5, PB s5), (6, PI s6)], (.row false v3 1 (rowP intD o3) :: [])⟩
def qqW9 (s0 : List Int) (s2 : List Int) (s4 : Int) (o3 : List Int) (v3 : Nat) : Bool → AExit × St → Prop := fun s5 q => ∃ d6 : PV, q = (.exit 2, ⟨[(0, .d (.rd (s0.map intD))), (2, .d (.rd (s2.map intD))), (3, .ref 0 v3 0 o3.length), (4, PI s4), (5, PB s5), (6, d6)], (.row false v3 1 (rowP intD o3) :: [])⟩)
set_option maxHeartbeats 60000000 in
theorem qqS9 {s0 : List Int} {s2 : List Int} {s4 : Int} {o3 : List Int} {v3 : Nat} : Sim C 274880005245 qmy9 (qdR9 s0 s2 s4 o3) (qiB9 s0 s2 s4 o3 v3) (qqW9 s0 s2 s4 o3 v3) := by
  intro s g r hr
  obtain ⟨s5, s6⟩ := s
  simp only [qdR9] at hr
  rcases iteP hr with ⟨h1, hr⟩ | ⟨h1, hr⟩
  rcases iteB hr with ⟨h2, hr⟩ | ⟨h2, hr⟩
  obtain rfl := oiA hr
  refine ⟨(), ?_⟩
  rotate_left
  obtain ⟨x2, h3, x3, h4, hr⟩ := bs2 hr
  have h3a := eq_true (qa9 h3).1
  have h3b := eq_true (qa9 h3).2.1
  have h3c := (qa9 h3).2.2
  obtain rfl := oiA hr
  refine ⟨(), ?_⟩
  rotate_left
  obtain rfl := oiA hr
  refine xe_of ⟨PI s6, rfl⟩ ?_
  rotate_left
  all_goals (simp +decide only [go_sem, qiB9, qmy9, *])
def qgZ9 (s0 : List Int) (s2 : List Int) : Int × (List Int) → Nat → St := fun (s4, o3) v3 => ⟨[(0, .d (.rd (s0.map intD))), (2, .d (.rd (s2.map intD))), (3, .ref 0 v3 0 o3.length), (4, PI s4)], (.row false v3 1 (rowP intD o3) :: [])⟩
def qri9 (s0 : List Int) (s2 : List Int) : (Int × (List Int)) → AExit × St → Prop := fun (s4, o3) q => ∃ g, q = (.exit 0, qgZ9 s0 s2 (s4, o3) g)
set_option maxHeartbeats 60000000 in
theorem qrc9 {s0 : List Int} {s2 : List Int} : Sim C 274880005245 qmv9 (qcM9 s0 s2) (qgZ9 s0 s2) (qri9 s0 s2) := by
  intro s g r hr
  obtain ⟨s4, o3⟩ := s
  have ⟨v3, hg0⟩ : ∃ y, y = g := ⟨_, rfl⟩
  subst hg0
  simp only [qcM9] at hr
  rcases iteP hr with ⟨h1, hr⟩ | ⟨h1, hr⟩
  obtain ⟨x1, h2, hr⟩ := bsome hr
  obtain ⟨x4, h3, hr⟩ := bsome hr
  obtain ⟨q3, h3L, h3X⟩ := (qqS9 (v3 := v3)).L (g := ()) h3
  have ⟨x5, hq3⟩ : ∃ y, y = x4 := ⟨_, rfl⟩
  subst hq3
  try dsimp only at hr
  obtain ⟨z6, rfl⟩ := h3X
  simp only [qiB9, go_sem] at h3L
  rcases iteB hr with ⟨h4, hr⟩ | ⟨h4, hr⟩
  obtain rfl := oiA hr
  refine ⟨v3, ?_⟩
  rotate_left
  obtain ⟨h5, hr⟩ := gsome hr
  obtain rfl := oiA hr
  refine ⟨(v3 + 1), ?_⟩
  rotate_left
  obtain rfl := oiA hr
  refine xe_of ⟨v3, rfl⟩ ?_
  rotate_left
  all_goals (simp +decide only [go_sem, qgZ9, qmv9, *])
set_option maxHeartbeats 60000000 in
theorem qmc9 {a0 : List Int} {r : (List Int)} (hr : qgS9 a0 = some r) : Res C 108 [.rd (a0.map intD)] (.d (.rd (r.map intD))) := by
  simp only [qgS9] at hr
  obtain ⟨x7, h1, hr⟩ := bsome hr
  obtain ⟨q1, h1L, h1X⟩ := qrc9.L (g := 0) h1
  obtain ⟨x8, x9⟩ := x7
  try dsimp only at hr
  obtain ⟨z10, rfl⟩ := h1X
  simp only [qgZ9, go_sem] at h1L
  obtain rfl := oiA hr
  refine run_V is108 (nbA rfl) ?_
  rotate_left
  all_goals (simp +decide only [go_sem, c108, *])
def qmW9 : ACode := .seq (.seq (.reg [] [] [.M 6 5, .M 7 0, .T 8 (.len (.tmp 7)), .K 9 (.bin .lss (.tmp 6) (.tmp 8))]) (.cond (.tmp 9) (some 9) (.skip) (.exit 0))) (.seq (.block 1 131584 (.seq (.reg [] [] [.M 12 0, .M 13 5, .T 14 (.ix 1 (.tmp 12) (.tmp 13)), .T 15 (.load none (.tmp 14)), .M 16 1, .K 17 (.bin .eql (.tmp 15) (.tmp 16))]) (.cond (.tmp 17) (some 17) (.seq (.reg [] [] [.K 4 (.mv (.const (.bool true)))]) (.ret)) (.skip)))) (.reg [] [] [.M 10 5, .T 11 (.bin .add (.tmp 10) (cI 1)), .N 5 11]))
def c109 : ACode := .seq (.reg [] [] [.K 4 (.mv (.const (.bool false)))]) (.seq (.seq (.reg [] [] [.K 5 (.mv (cI 0))]) (.block 0 131584 (.loop qmW9))) (.seq (.reg [] [] [.K 4 (.mv (.const (.bool false)))]) (.ret)))
theorem is109 : IsF C 109 18 131635 c109 [.tmp 4] := ⟨⟨Tryd.f109, _, C_P ▸ Tryd.func109, rfl, rfl, rfl, by kernel_rfl, rfl⟩⟩
def qgv9 (s0 : List Int) (s1 : Int) : Int → Unit → St := fun s5 _ => ⟨[(0, .d (.rd (s0.map intD))), (1, PI s1), (4, PB false), (5, PI s5)], []⟩
def qsN9 (s0 : List Int) (s1 : Int) : (Bool ⊕ Int) → AExit × St → Prop
  | .inl r, q => XV C [.tmp 4] (PB r) q
  | .inr s5, q => ∃ g, q = (.exit 0, qgv9 s0 s1 s5 g)
set_option maxHeartbeats 60000000 in
theorem qtn9 {s0 : List Int} {s1 : Int} : Sim C 131635 qmW9 (qff9 s0 s1) (qgv9 s0 s1) (qsN9 s0 s1) := by
  intro s g r hr
  have ⟨s5, hs0⟩ : ∃ y, y = s := ⟨_, rfl⟩
  subst hs0
  simp only [qff9] at hr
  rcases iteP hr with ⟨h1, hr⟩ | ⟨h1, hr⟩
  obtain ⟨x1, h2, hr⟩ := bsome hr
  rcases iteP hr with ⟨h3, hr⟩ | ⟨h3, hr⟩
  obtain rfl := oiA hr
  refine xv_of ?_
  rotate_left
  obtain rfl := oiA hr
  refine ⟨(), ?_⟩
  rotate_left
  obtain rfl := oiA hr
  refine xe_of ⟨(), rfl⟩ ?_
  rotate_left
  all_goals (simp +decide only [go_sem, qgv9, qmW9, *])
set_option maxHeartbeats 60000000 in
theorem quc9 {a0 : List Int} {a1 : Int} {r : Bool} (hr : qjj9 a0 a1 = some r) : Res C 109 [.rd (a0.map intD), .v (.int .i64 a1)] (PB r) := by
  simp only [qjj9] at hr
  obtain ⟨x2, h1, hr⟩ := bsome hr
  obtain ⟨q1, h1L, h1X⟩ := qtn9.L (g := ()) h1
  rcases x2 with x3 | x4
  try dsimp only at hr
  obtain ⟨st1, rfl, h1R⟩ := h1X
  simp only [qgv9, go_sem] at h1L
  obtain rfl := oiA hr
  refine run_V is109 (nbA rfl) ?_
  rotate_left
  try dsimp only at hr
  obtain ⟨⟨⟩, rfl⟩ := h1X
  simp only [qgv9, go_sem] at h1L
  obtain rfl := oiA hr
  refine run_V is109 (nbA rfl) ?_
  rotate_left
  all_goals (simp +decide only [go_sem, c109, *])
def qpk9 : ACode := .seq (.seq (.reg [] [] [.M 44 8, .M 45 7, .T 46 (.len (.tmp 45)), .K 47 (.bin .lss (.tmp 44) (.tmp 46))]) (.cond (.tmp 47) (some 47) (.skip) (.exit 0))) (.seq (.block 1 72198331526283264 (.seq (.reg [] [] [.M 50 6, .M 51 7, .M 52 8, .T 53 (.ix 1 (.tmp 51) (.tmp 52)), .T 54 (.load none (.tmp 53)), .T 55 (.call 109 [.tmp 50, .tmp 54]), .K 56 (.not (.tmp 55))]) (.cond (.tmp 56) (some 56) (.seq (.reg [] [] [.K 4 (.mv (cI 72))]) (.ret)) (.skip)))) (.reg [] [] [.M 48 8, .T 49 (.bin .add (.tmp 48) (cI 1)), .N 8 49]))
def c88 : ACode := .seq (.reg [] [] [.K 3 (.box (.tmp 1)), .K 4 (.mv (cI 0))]) (.seq (.reg [] [] [.M 9 0, .T 10 (.fa 0 (.tmp 3)), .T 11 (.load none (.tmp 10)), .T 12 (.call 56 [.tmp 9, .tmp 11]), .N 5 12]) (.seq (.seq (.reg [] [] [.M 13 5, .K 14 (.bin .neq (.tmp 13) (cI 0))]) (.cond (.tmp 14) (some 14) (.seq (.reg [] [] [.M 15 5, .N 4 15]) (.ret)) (.skip))) (.seq (.reg [] [] [.M 16 0, .T 17 (.fa 1 (.tmp 3)), .T 18 (.load none (.tmp 17)), .T 19 (.call 56 [.tmp 16, .tmp 18]), .N 5 19]) (.seq (.seq (.reg [] [] [.M 20 5, .K 21 (.bin .neq (.tmp 20) (cI 0))]) (.cond (.tmp 21) (some 21) (.seq (.reg [] [] [.M 22 5, .N 4 22]) (.ret)) (.skip))) (.seq (.seq (.reg [] [] [.T 23 (.fa 0 (.tmp 3)), .T 24 (.load none (.tmp 23)), .T 25 (.len (.tmp 24)), .T 26 (.bin .gtr (.tmp 25) (cI 512)), .M 27 26, .TG 28 27 false (.fa 1 (.tmp 3)), .TG 29 27 false (.load none (.tmp 28)), .TG 30 27 false (.len (.tmp 29)), .TG 31 27 false (.bin .gtr (.tmp 30) (cI 512)), .K 32 (.pick (.tmp 27) (.const (.bool true)) (.tmp 31))]) (.cond (.tmp 32) (some 32) (.seq (.reg [] [] [.K 4 (.mv (cI 2))]) (.ret)) (.skip))) (.seq (.seq (.reg [] [] [.T 33 (.fa 0 (.tmp 3)), .T 34 (.load none (.tmp 33)), .T 35 (.ix 1 (.tmp 34) (cI 0)), .T 36 (.load none (.tmp 35)), .K 37 (.bin .lss (.tmp 36) (cI 0))]) (.cond (.tmp 37) (some 37) (.seq (.reg [] [] [.K 4 (.mv (cI 71))]) (.ret)) (.skip))) (.seq (.reg [] [] [.T 38 (.fa 0 (.tmp 3)), .T 39 (.load none (.tmp 38)), .T 40 (.call 108 [.tmp 39]), .N 6 40]) (.seq (.reg [] [] [.T 41 (.fa 1 (.tmp 3)), .T 42 (.load none (.tmp 41)), .T 43 (.call 108 [.tmp 42]), .N 7 43]) (.seq (.seq (.reg [] [] [.K 8 (.mv (cI 0))]) (.block 0 72198331526283264 (.loop qpk9))) (.seq (.reg [] [] [.K 4 (.mv (cI 0))]) (.ret)))))))))))
theorem is88 : IsF C 88 57 72198473262318075 c88 [.tmp 4] := ⟨⟨Tryd.f88, _, C_P ▸ Tryd.func88, rfl, rfl, rfl, by kernel_rfl, rfl⟩⟩
def qfD9 (s0 : List Symbol) (s1 : Rule) (s5 : Int) (s6 : List Int) (s7 : List Int) (b3_0 : List Int) (b3_1 : List Int) : Int → Unit → St := fun s8 _ => ⟨[(0, .d (.rd (s0.map qb9))), (1, .d (.ag (qd9 s1))), (3, .ptr 0 0 0 0), (4, PI 0), (5, PI s5), (6, .d (.rd (s6.map intD))), (7, .d (.rd (s7.map intD))), (8, PI s8)], (.row false 0 2 [[.d (.rd (b3_0.map intD)), .d (.rd (b3_1.map intD))]] :: [])⟩
def qqL9 (s0 : List Symbol) (s1 : Rule) (s5 : Int) (s6 : List Int) (s7 : List Int) (b3_0 : List Int) (b3_1 : List Int) : (Int ⊕ Int) → AExit × St → Prop
  | .inl r, q => XV C [.tmp 4] (PI r) q
  | .inr s8, q => ∃ g, q = (.exit 0, qfD9 s0 s1 s5 s6 s7 b3_0 b3_1 s8 g)
set_option maxHeartbeats 60000000 in
theorem qrk9 {s0 : List Symbol} {s1 : Rule} {s5 : Int} {s6 : List Int} {s7 : List Int} {b3_0 : List Int} {b3_1 : List Int} : Sim C 72198473262318075 qpk9 (qeD9 s0 s1 s5 s6 s7 b3_0 b3_1) (qfD9 s0 s1 s5 s6 s7 b3_0 b3_1) (qqL9 s0 s1 s5 s6 s7 b3_0 b3_1) := by
  intro s g r hr
  have ⟨s8, hs0⟩ : ∃ y, y = s := ⟨_, rfl⟩
  subst hs0
  simp only [qeD9] at hr
  rcases iteP hr with ⟨h1, hr⟩ | ⟨h1, hr⟩
  obtain ⟨x6, h2, x7, h3, hr⟩ := bs2 hr
  have h3k := (quc9 h3).k rfl rfl rfl
  try simp only [go_sem] at h3k
  rcases iteB hr with ⟨h4, hr⟩ | ⟨h4, hr⟩
  obtain rfl := oiA hr
  refine ⟨(), ?_⟩
  rotate_left
  obtain rfl := oiA hr
  refine xv_of ?_
  rotate_left
  obtain rfl := oiA hr
  refine xe_of ⟨(), rfl⟩ ?_
  rotate_left
  all_goals (simp +decide only [go_sem, qfD9, qpk9, *])
set_option maxHeartbeats 60000000 in
theorem qsz9 {a0 : List Symbol} {a1 : Rule} {r : Int} (hr : qig9 a0 a1 = some r) : Res C 88 [.rd (a0.map qb9), .ag (qd9 a1)] (PI r) := by
  simp only [qig9] at hr
  obtain ⟨x1, h1, hr⟩ := bsome hr
  have h1k := (qjy9 h1).k rfl rfl rfl
  try simp only [go_sem] at h1k
  rcases iteP hr with ⟨h2, hr⟩ | ⟨h2, hr⟩
  obtain ⟨x2, h3, hr⟩ := bsome hr
  have h3k := (qjy9 h3).k rfl rfl rfl
  try simp only [go_sem] at h3k
  rcases iteP hr with ⟨h4, hr⟩ | ⟨h4, hr⟩
  rcases iteP hr with ⟨h5, hr⟩ | ⟨h5, hr⟩
  obtain rfl := oiA hr
  refine run_V is88 (nbA rfl) ?_
  rotate_left
  rcases iteP hr with ⟨h6, hr⟩ | ⟨h6, hr⟩
  obtain rfl := oiA hr
  refine run_V is88 (nbA rfl) ?_
  rotate_left
  obtain ⟨x3, h7, hr⟩ := bsome hr
  rcases iteP hr with ⟨h8, hr⟩ | ⟨h8, hr⟩
  obtain rfl := oiA hr
  refine run_V is88 (nbA rfl) ?_
  rotate_left
  obtain ⟨x4, h9, x5, h10, hr⟩ := bs2 hr
  have h9k := (qmc9 h9).k rfl rfl rfl
  try simp only [go_sem] at h9k
  have h10k := (qmc9 h10).k rfl rfl rfl
  try simp only [go_sem] at h10k
  obtain ⟨x8, h11, hr⟩ := bsome hr
  obtain ⟨q11, h11L, h11X⟩ := qrk9.L (g := ()) h11
  rcases x8 with x9 | x10
  try dsimp only at hr
  obtain ⟨st11, rfl, h11R⟩ := h11X
  simp only [qfD9, go_sem] at h11L
  obtain rfl := oiA hr
  refine run_V is88 (nbA rfl) ?_
  rotate_left
  try dsimp only at hr
  obtain ⟨⟨⟩, rfl⟩ := h11X
  simp only [qfD9, go_sem] at h11L
  obtain rfl := oiA hr
  refine run_V is88 (nbA rfl) ?_
  rotate_left
  obtain rfl := oiA hr
  refine run_V is88 (nbA rfl) ?_
  rotate_left
  obtain rfl := oiA hr
  refine run_V is88 (nbA rfl) ?_
  rotate_left
  all_goals (simp +decide only [go_sem, c88, *])
def qoh9 : ACode := .seq (.seq (.reg [] [] [.M 17 5, .T 18 (.fa 1 (.tmp 1)), .T 19 (.load none (.tmp 18)), .T 20 (.len (.tmp 19)), .K 21 (.bin .lss (.tmp 17) (.tmp 20))]) (.cond (.tmp 21) (some 21) (.skip) (.exit 0))) (.seq (.block 1 8592031808 (.seq (.reg [] [] [.T 24 (.fa 0 (.tmp 1)), ⟨some (25, false), .load none (.tmp 24), none, true, false⟩, .T 26 (.fa 1 (.tmp 1)), ⟨some (27, false), .load none (.tmp 26), none, true, false⟩, .M 28 5, ⟨some (29, false), .ix 2 (.tmp 27) (.tmp 28), none, true, false⟩, ⟨some (30, false), .load (some 2) (.tmp 29), none, true, false⟩, ⟨some (31, false), .call 88 [.tmp 25, .tmp 30], none, true, false⟩, .N 6 31]) (.seq (.reg [] [] [.M 32 6, .K 33 (.bin .neq (.tmp 32) (cI 0))]) (.cond (.tmp 33) (some 33) (.seq (.reg [] [] [.M 34 6, .M 35 5, .N 2 34, .N 3 35]) (.ret)) (.skip))))) (.reg [] [] [.M 22 5, .T 23 (.bin .add (.tmp 22) (cI 1)), .N 5 23]))
def c54 : ACode := .seq (.reg [] [] [.K 1 (.box (.tmp 0)), .K 2 (.mv (cI 0)), .K 3 (.mv (cI 0))]) (.seq (.reg [] [] [.T 7 (.fa 0 (.tmp 1)), .T 8 (.load none (.tmp 7)), .T 9 (.call 87 [.tmp 8]), .N 4 9]) (.seq (.seq (.reg [] [] [.M 10 4, .K 11 (.bin .neq (.tmp 10) (cI 0))]) (.cond (.tmp 11) (some 11) (.seq (.reg [] [] [.M 12 4, .N 2 12, .K 3 (.mv (cI (-1)))]) (.ret)) (.skip))) (.seq (.seq (.reg [] [] [.T 13 (.fa 1 (.tmp 1)), .T 14 (.load none (.tmp 13)), .T 15 (.len (.tmp 14)), .K 16 (.bin .gtr (.tmp 15) (cI 64))]) (.cond (.tmp 16) (some 16) (.seq (.reg [] [] [.K 2 (.mv (cI 70)), .K 3 (.mv (cI (-1)))]) (.ret)) (.skip))) (.seq (.seq (.reg [] [] [.K 5 (.mv (cI 0))]) (.block 0 8592031808 (.loop qoh9))) (.seq (.reg [] [] [.K 2 (.mv (cI 0)), .K 3 (.mv (cI 0))]) (.ret))))))
theorem is54 : IsF C 54 36 8592099455 c54 [.tmp 2, .tmp 3] := ⟨⟨Tryd.f54, _, C_P ▸ Tryd.func54, rfl, rfl, rfl, by kernel_rfl, rfl⟩⟩
def qeX9 (s0 : System) (s4 : Int) (b1_0 : List Symbol) (b1_1 : List Rule) : Int → Unit → St := fun s5 _ => ⟨[(0, .d (.ag (qg9 s0))), (1, .ptr 0 0 0 0), (2, PI 0), (3, PI 0), (4, PI s4), (5, PI s5)], (.row false 0 2 [[.d (.rd (b1_0.map qb9)), .d (.rd (b1_1.map qd9))]] :: [])⟩
def qpU9 (s0 : System) (s4 : Int) (b1_0 : List Symbol) (b1_1 : List Rule) : ((Int × Int) ⊕ Int) → AExit × St → Prop
  | .inl r, q => XV C [.tmp 2, .tmp 3] (.tp [PI r.1, PI r.2]) q
  | .inr s5, q => ∃ g, q = (.exit 0, qeX9 s0 s4 b1_0 b1_1 s5 g)
set_option maxHeartbeats 60000000 in
theorem qqh9 {s0 : System} {s4 : Int} {b1_0 : List Symbol} {b1_1 : List Rule} : Sim C 8592099455 qoh9 (qed9 s0 s4 b1_0 b1_1) (qeX9 s0 s4 b1_0 b1_1) (qpU9 s0 s4 b1_0 b1_1) := by
  intro s g r hr
  have ⟨s5, hs0⟩ : ∃ y, y = s := ⟨_, rfl⟩
  subst hs0
  simp only [qed9] at hr
  rcases iteP hr with ⟨h1, hr⟩ | ⟨h1, hr⟩
  obtain ⟨x2, h2, x3, h3, hr⟩ := bs2 hr
  have h3k := fun h => (qsz9 h3).o rfl rfl rfl (h := h) (args := [.d (.rd (b1_0.map qb9)), .ag [.d (.rd (x2.L.map intD)), .d (.rd (x2.R.map intD))]]) rfl
  try simp only [go_sem] at h3k
  rcases iteP hr with ⟨h4, hr⟩ | ⟨h4, hr⟩
  obtain rfl := oiA hr
  refine ⟨(), ?_⟩
  rotate_left
  obtain rfl := oiA hr
  refine xv_of ?_
  rotate_left
  obtain rfl := oiA hr
  refine xe_of ⟨(), rfl⟩ ?_
  rotate_left
  all_goals (simp +decide only [go_sem, qeX9, qoh9, *])
set_option maxHeartbeats 60000000 in
theorem qrm9 {a0 : System} {r : Int × Int} (hr : qhi9 a0 = some r) : Res C 54 [.ag (qg9 a0)] (.tp [PI r.1, PI r.2]) := by
  simp only [qhi9] at hr
  obtain ⟨x1, h1, hr⟩ := bsome hr
  have h1k := (qqD9 h1).k rfl rfl rfl
  try simp only [go_sem] at h1k
  rcases iteP hr with ⟨h2, hr⟩ | ⟨h2, hr⟩
  rcases iteP hr with ⟨h3, hr⟩ | ⟨h3, hr⟩
  obtain rfl := oiA hr
  refine run_V is54 (nbA rfl) ?_
  rotate_left
  obtain ⟨x4, h4, hr⟩ := bsome hr
  obtain ⟨q4, h4L, h4X⟩ := qqh9.L (g := ()) h4
  rcases x4 with x5 | x6
  try dsimp only at hr
  obtain ⟨st4, rfl, h4R⟩ := h4X
  simp only [qeX9, go_sem] at h4L
  obtain rfl := oiA hr
  refine run_V is54 (nbA rfl) ?_
  rotate_left
  try dsimp only at hr
  obtain ⟨⟨⟩, rfl⟩ := h4X
  simp only [qeX9, go_sem] at h4L
  obtain rfl := oiA hr
  refine run_V is54 (nbA rfl) ?_
  rotate_left
  obtain rfl := oiA hr
  refine run_V is54 (nbA rfl) ?_
  rotate_left
  all_goals (simp +decide only [go_sem, c54, *])
def c21 : ACode := .seq (.reg [] [] [.K 1 (.box (.tmp 0)), .K 2 (.mv (.const (.bool false)))]) (.seq (.reg [] [] [.T 6 (.load (some 2) (.tmp 1)), .T 7 (.call 54 [.tmp 6]), .M 5 7, .T 8 (.ext (.tmp 5) 0), .T 9 (.ext (.tmp 5) 1), .N 3 8, .M 4 9]) (.seq (.reg [] [] [.M 10 3, .T 11 (.bin .eql (.tmp 10) (cI 0)), .N 2 11]) (.ret)))
theorem is21 : IsF C 21 12 15 c21 [.tmp 2] := ⟨⟨Tryd.f21, _, C_P ▸ Tryd.func21, rfl, rfl, rfl, by kernel_rfl, rfl⟩⟩
set_option maxHeartbeats 60000000 in
theorem qqX9 {a0 : System} {r : Bool} (hr : qhs9 a0 = some r) : Res C 21 [.ag (qg9 a0)] (PB r) := by
  simp only [qhs9] at hr
  obtain ⟨x1, h1, hr⟩ := bsome hr
  have h1k := fun h => (qrm9 h1).o rfl rfl rfl (h := h) (args := [.ag [.d (.rd (a0.Sig.map qb9)), .d (.rd (a0.Rules.map qd9))]]) rfl
  try simp only [go_sem] at h1k
  obtain rfl := oiA hr
  refine run_V is21 (nbA rfl) ?_
  rotate_left
  all_goals (simp +decide only [go_sem, c21, *])
def c22 : ACode := .seq (.reg [] [] [.K 4 (.mv (cI 0))]) (.seq (.reg [] [] [.M 6 0, .T 7 (.call 55 [.tmp 6]), .N 5 7]) (.seq (.seq (.reg [] [] [.M 8 5, .K 9 (.bin .neq (.tmp 8) (cI 0))]) (.cond (.tmp 9) (some 9) (.seq (.reg [] [] [.M 10 5, .N 4 10]) (.ret)) (.skip))) (.seq (.reg [] [] [.M 11 0, .M 12 1, .T 13 (.call 56 [.tmp 11, .tmp 12]), .N 4 13]) (.ret))))
theorem is22 : IsF C 22 14 563 c22 [.tmp 4] := ⟨⟨Tryd.f22, _, C_P ▸ Tryd.func22, rfl, rfl, rfl, by kernel_rfl, rfl⟩⟩
set_option maxHeartbeats 60000000 in
theorem qqF9 {a0 : List Symbol} {a1 : List Int} {r : Int} (hr : qeO9 a0 a1 = some r) : Res C 22 [.rd (a0.map qb9), .rd (a1.map intD)] (PI r) := by
  simp only [qeO9] at hr
  obtain ⟨x1, h1, hr⟩ := bsome hr
  have h1k := (qiZ9 h1).k rfl rfl rfl
  try simp only [go_sem] at h1k
  rcases iteP hr with ⟨h2, hr⟩ | ⟨h2, hr⟩
  obtain ⟨x2, h3, hr⟩ := bsome hr
  have h3k := (qjy9 h3).k rfl rfl rfl
  try simp only [go_sem] at h3k
  obtain rfl := oiA hr
  refine run_V is22 (nbA rfl) ?_
  rotate_left
  obtain rfl := oiA hr
  refine run_V is22 (nbA rfl) ?_
  rotate_left
  all_goals (simp +decide only [go_sem, c22, *])
end Ld

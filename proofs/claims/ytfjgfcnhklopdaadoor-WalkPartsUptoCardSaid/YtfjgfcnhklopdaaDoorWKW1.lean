import Derived.Test.YtfjgfcnhklopdaaDoorWKC
set_option maxHeartbeats 4000000
set_option linter.unusedVariables false
set_option linter.unusedSimpArgs false
namespace Ld
open Go Go.Proofs Go.Abs
set_option maxRecDepth 8000
def c52 : ACode := .seq (.reg [] [] [.K 0 (.alloc [.im true [], .im true []] 2)]) (.seq (.reg [] [] [.T 1 (.build [(0, 1), (1, 1)] [.d (.v (.string ⟨#[]⟩)), .d (.v (.int .i64 0))] [(0, .const (.string { data := #[122, 101, 114, 111] }))]), .T 2 (.build [(0, 1), (1, 1)] [.d (.v (.string ⟨#[]⟩)), .d (.v (.int .i64 0))] [(0, .const (.string { data := #[115] })), (1, .const (.int .i64 1))]), .T 3 (.build [(0, 1), (1, 1)] [.d (.v (.string ⟨#[]⟩)), .d (.v (.int .i64 0))] [(0, .const (.string { data := #[112, 108, 117, 115] })), (1, .const (.int .i64 2))]), ⟨some (4, false), .lit 2 [(0, .tmp 1), (1, .tmp 2), (2, .tmp 3)], none, false, true⟩, ⟨some (5, false), .lit 1 [(0, .const (.int .i64 2)), (1, .const (.int .i64 0)), (2, .const (.int .i64 (-2)))], none, false, true⟩, ⟨some (6, false), .lit 1 [(0, .const (.int .i64 (-2)))], none, false, true⟩, .T 7 (.build [(0, 1), (1, 1)] [.im true [], .im true []] [(0, .tmp 5), (1, .tmp 6)]), ⟨some (8, false), .lit 1 [(0, .const (.int .i64 2)), (1, .const (.int .i64 1)), (2, .const (.int .i64 (-1))), (3, .const (.int .i64 (-2)))], none, false, true⟩, ⟨some (9, false), .lit 1 [(0, .const (.int .i64 1)), (1, .const (.int .i64 2)), (2, .const (.int .i64 (-1))), (3, .const (.int .i64 (-2)))], none, false, true⟩, .T 10 (.build [(0, 1), (1, 1)] [.im true [], .im true []] [(0, .tmp 8), (1, .tmp 9)]), ⟨some (11, false), .lit 2 [(0, .tmp 7), (1, .tmp 10)], none, false, true⟩, .T 12 (.build [(0, 1), (1, 1)] [.im true [], .im true []] [(0, .tmp 4), (1, .tmp 11)]), ⟨none, .store 2 (.tmp 0) (.tmp 12), none, false, false⟩]) (.ret))
theorem is52 : IsF C 52 13 1 c52 [.cell 0 25] := ⟨⟨Tryd.f52, _, C_P ▸ Tryd.func52, rfl, rfl, rfl, by kernel_rfl, rfl⟩⟩
set_option maxHeartbeats 60000000 in
theorem qrY9  {r : System} (hr : qjA9 = some r) : Res C 52 [] (.d (.ag (qg9 r))) := by
  simp only [qjA9] at hr
  obtain rfl := oiA hr
  refine run_V is52 (nbA rfl) ?_
  rotate_left
  all_goals (simp +decide only [go_sem, c52, *])
theorem qhE9 {a0 : ByteArray} {r : Bool} (hr : qbg9 a0 = some r) {h : AHeap} : callP C (Lim C) 114 [.d (.v (.string a0))] h = some (.d (.v (.bool r)), h) := by
  have e : C.prim 114 = some qbp9 := rfl
  simp only [callP, e, qbp9, hr]

def c115 : ACode := .seq (.reg [] [] [.K 2 (.mv (.const (.bool false)))]) (.seq (.reg [] [] [.M 3 0, .T 4 (.bin .leq (.const (.int .i32 97)) (.tmp 3)), .M 5 4, .MG 6 5 true 0, .TG 7 5 true (.bin .leq (.tmp 6) (.const (.int .i32 122))), .T 8 (.pick (.tmp 5) (.tmp 7) (.const (.bool false))), .M 9 8, .MG 10 9 false 0, .TG 11 9 false (.bin .leq (.const (.int .i32 65)) (.tmp 10)), .MG 12 9 false 11, .MG 13 12 true 0, .TG 14 12 true (.bin .leq (.tmp 13) (.const (.int .i32 90))), .TG 15 9 false (.pick (.tmp 12) (.tmp 14) (.const (.bool false))), .T 16 (.pick (.tmp 9) (.const (.bool true)) (.tmp 15)), .M 17 16, .MG 18 17 false 0, .TG 19 17 false (.bin .geq (.tmp 18) (.const (.int .i32 128))), .T 20 (.pick (.tmp 17) (.const (.bool true)) (.tmp 19)), .N 2 20]) (.ret))
theorem is115 : IsF C 115 21 5 c115 [.tmp 2] := ⟨⟨Tryd.f115, _, C_P ▸ Tryd.func115, rfl, rfl, rfl, by kernel_rfl, rfl⟩⟩
set_option maxHeartbeats 60000000 in
theorem qnW9 {a0 : Int} {r : Bool} (hr : qdT9 a0 = some r) : Res C 115 [.v (.int .i32 a0)] (PB r) := by
  simp only [qdT9] at hr
  rcases iteP hr with ⟨h1, hr⟩ | ⟨h1, hr⟩
  rcases iteP hr with ⟨h2, hr⟩ | ⟨h2, hr⟩
  obtain rfl := oiA hr
  refine run_V is115 (nbA rfl) ?_
  rotate_left
  rcases iteP hr with ⟨h3, hr⟩ | ⟨h3, hr⟩
  rcases iteP hr with ⟨h4, hr⟩ | ⟨h4, hr⟩
  obtain rfl := oiA hr
  refine run_V is115 (nbA rfl) ?_
  rotate_left
  obtain rfl := oiA hr
  refine run_V is115 (nbA rfl) ?_
  rotate_left
  obtain rfl := oiA hr
  refine run_V is115 (nbA rfl) ?_
  rotate_left
  rcases iteP hr with ⟨h5, hr⟩ | ⟨h5, hr⟩
  rcases iteP hr with ⟨h6, hr⟩ | ⟨h6, hr⟩
  obtain rfl := oiA hr
  refine run_V is115 (nbA rfl) ?_
  rotate_left
  obtain rfl := oiA hr
  refine run_V is115 (nbA rfl) ?_
  rotate_left
  obtain rfl := oiA hr
  refine run_V is115 (nbA rfl) ?_
  rotate_left
  all_goals (simp +decide only [go_sem, c115, *])
def qpS9 : ACode := .seq (.reg [] [] [.K 19 (.nxt (.tmp 18) true), .K 20 (.ext (.tmp 19) 0)]) (.seq (.cond (.tmp 20) (some 20) (.skip) (.exit 0)) (.block 1 77070360 (.seq (.reg [] [] [.T 21 (.ext (.tmp 19) 1), .T 22 (.ext (.tmp 19) 2), .N 3 21, .N 4 22]) (.block 2 77070360 (.seq (.reg [] [] [.M 24 4, .T 25 (.call 115 [.tmp 24]), .N 23 25]) (.cond (.tmp 23) (some 23) (.skip) (.seq (.reg [] [] [.M 27 3, .T 28 (.bin .gtr (.tmp 27) (cI 0)), .M 29 28, .MG 30 29 true 4, .TG 31 29 true (.bin .leq (.const (.int .i32 48)) (.tmp 30)), .MG 32 29 true 31, .MG 33 32 true 4, .TG 34 32 true (.bin .leq (.tmp 33) (.const (.int .i32 57))), .TG 35 29 true (.pick (.tmp 32) (.tmp 34) (.const (.bool false))), .MG 36 29 true 35, .MG 37 36 false 4, .TG 38 36 false (.bin .eql (.tmp 37) (.const (.int .i32 95))), .TG 39 29 true (.pick (.tmp 36) (.const (.bool true)) (.tmp 38)), .MG 40 29 true 39, .MG 41 40 false 4, .TG 42 40 false (.bin .eql (.tmp 41) (.const (.int .i32 39))), .TG 43 29 true (.pick (.tmp 40) (.const (.bool true)) (.tmp 42)), .T 44 (.pick (.tmp 29) (.tmp 43) (.const (.bool false))), .N 26 44]) (.cond (.tmp 26) (some 26) (.skip) (.seq (.reg [] [] [.K 2 (.mv (.const (.bool false)))]) (.ret))))))))))
def c93 : ACode := .seq (.reg [] [] [.K 2 (.mv (.const (.bool false)))]) (.seq (.seq (.reg [] [] [.M 5 0, .T 6 (.bin .eql (.tmp 5) (.const (.string { data := #[] }))), .M 7 6, .MG 8 7 false 0, .TG 9 7 false (.slen (.tmp 8)), .TG 10 7 false (.bin .gtr (.tmp 9) (cI 32)), .T 11 (.pick (.tmp 7) (.const (.bool true)) (.tmp 10)), .M 12 11, .MG 13 12 false 0, .TG 14 12 false (.call 114 [.tmp 13]), .TG 15 12 false (.not (.tmp 14)), .K 16 (.pick (.tmp 12) (.const (.bool true)) (.tmp 15))]) (.cond (.tmp 16) (some 16) (.seq (.reg [] [] [.K 2 (.mv (.const (.bool false)))]) (.ret)) (.skip))) (.seq (.seq (.reg [] [] [.M 17 0, .K 18 (.rng (.tmp 17))]) (.block 0 77070360 (.loop qpS9))) (.seq (.reg [] [] [.K 2 (.mv (.const (.bool true)))]) (.ret))))
theorem is93 : IsF C 93 45 77398045 c93 [.tmp 2] := ⟨⟨Tryd.f93, _, C_P ▸ Tryd.func93, rfl, rfl, rfl, by kernel_rfl, rfl⟩⟩
def qfK9 (s0 : ByteArray) (t18 : ByteArray) : Nat → Unit → St := fun q18 _ => ⟨[(0, .d (.v (.string s0))), (2, PB false), (18, .it 0)], (.siter t18 q18 :: [])⟩
def qnI9 (s0 : ByteArray) (t18 : ByteArray) : (Bool ⊕ Nat) → AExit × St → Prop
  | .inl r, q => XV C [.tmp 2] (PB r) q
  | .inr q18, q => ∃ d19 : PV, q = (.exit 0, ⟨[(0, .d (.v (.string s0))), (2, PB false), (18, .it 0), (19, d19)], (.siter t18 q18 :: [])⟩)
set_option maxHeartbeats 60000000 in
theorem qnZ9 {s0 : ByteArray} {t18 : ByteArray} : Sim C 77398045 qpS9 (qbe9 s0 t18) (qfK9 s0 t18) (qnI9 s0 t18) := by
  intro s g r hr
  have ⟨q18, hs0⟩ : ∃ y, y = s := ⟨_, rfl⟩
  subst hs0
  simp only [qbe9] at hr
  rcases iteP hr with ⟨h1, hr⟩ | ⟨h1, hr⟩
  obtain ⟨x2, h2, hr⟩ := bsome hr
  have h2k := (qnW9 h2).k rfl rfl rfl
  try simp only [go_sem] at h2k
  rcases iteB hr with ⟨h3, hr⟩ | ⟨h3, hr⟩
  obtain rfl := oiA hr
  refine ⟨(), ?_⟩
  rotate_left
  rcases iteP hr with ⟨h4, hr⟩ | ⟨h4, hr⟩
  rcases iteP hr with ⟨h5, hr⟩ | ⟨h5, hr⟩
  rcases iteP hr with ⟨h6, hr⟩ | ⟨h6, hr⟩
  obtain rfl := oiA hr
  refine ⟨(), ?_⟩
  rotate_left
  rcases iteP hr with ⟨h7, hr⟩ | ⟨h7, hr⟩
  obtain rfl := oiA hr
  refine ⟨(), ?_⟩
  rotate_left
  rcases iteP hr with ⟨h8, hr⟩ | ⟨h8, hr⟩
  obtain rfl := oiA hr
  refine ⟨(), ?_⟩
  rotate_left
  obtain rfl := oiA hr
  refine xv_of ?_
  rotate_left
  rcases iteP hr with ⟨h9, hr⟩ | ⟨h9, hr⟩
  obtain rfl := oiA hr
  refine ⟨(), ?_⟩
  rotate_left
  rcases iteP hr with ⟨h10, hr⟩ | ⟨h10, hr⟩
  obtain rfl := oiA hr
  refine ⟨(), ?_⟩
  rotate_left
  obtain rfl := oiA hr
  refine xv_of ?_
  rotate_left
  obtain rfl := oiA hr
  refine xv_of ?_
  rotate_left
  obtain rfl := oiA hr
  refine xe_of ⟨.tp [PB false], rfl⟩ ?_
  rotate_left
  all_goals (simp +decide only [go_sem, qfK9, qpS9, *])
set_option maxHeartbeats 60000000 in
theorem qjZ9 {a0 : ByteArray} {r : Bool} (hr : qX9 a0 = some r) : Res C 93 [.v (.string a0)] (PB r) := by
  simp only [qX9] at hr
  rcases iteP hr with ⟨h1, hr⟩ | ⟨h1, hr⟩
  obtain rfl := oiA hr
  refine run_V is93 (nbA rfl) ?_
  rotate_left
  rcases iteP hr with ⟨h2, hr⟩ | ⟨h2, hr⟩
  obtain rfl := oiA hr
  refine run_V is93 (nbA rfl) ?_
  rotate_left
  obtain ⟨x1, h3, hr⟩ := bsome hr
  have h3k := fun h => qhE9 (h := h) h3
  try simp only [go_sem] at h3k
  rcases iteB hr with ⟨h4, hr⟩ | ⟨h4, hr⟩
  obtain ⟨x3, h5, hr⟩ := bsome hr
  obtain ⟨q5, h5L, h5X⟩ := qnZ9.L (g := ()) h5
  rcases x3 with x4 | x5
  try dsimp only at hr
  obtain ⟨st5, rfl, h5R⟩ := h5X
  simp only [qfK9, go_sem] at h5L
  obtain rfl := oiA hr
  refine run_V is93 (nbA rfl) ?_
  rotate_left
  try dsimp only at hr
  obtain ⟨z6, rfl⟩ := h5X
  simp only [qfK9, go_sem] at h5L
  obtain rfl := oiA hr
  refine run_V is93 (nbA rfl) ?_
  rotate_left
  obtain rfl := oiA hr
  refine run_V is93 (nbA rfl) ?_
  rotate_left
  all_goals (simp +decide only [go_sem, c93, *])
def c95 : ACode := .seq (.reg [] [] [.K 2 (.box (.tmp 0)), .K 3 (.mv (.const (.bool false)))]) (.seq (.reg [] [] [.T 4 (.fa 0 (.tmp 2)), .T 5 (.load none (.tmp 4)), .T 6 (.fa 0 (.tmp 1)), .T 7 (.load none (.tmp 6)), .T 8 (.bin .eql (.tmp 5) (.tmp 7)), .N 3 8]) (.ret))
theorem is95 : IsF C 95 9 15 c95 [.tmp 3] := ⟨⟨Tryd.f95, _, C_P ▸ Tryd.func95, rfl, rfl, rfl, by kernel_rfl, rfl⟩⟩
set_option maxHeartbeats 60000000 in
theorem qjQ9 {a0 : Symbol} {a1 : Symbol} {r : Bool} (hr : qel9 a0 a1 = some r) : Res C 95 [.ag (qb9 a0), .bx (qb9 a1)] (PB r) := by
  simp only [qel9] at hr
  obtain rfl := oiA hr
  refine run_V is95 (nbA rfl) ?_
  rotate_left
  all_goals (simp +decide only [go_sem, c95, *])
def qjl9 : ACode := .seq (.reg [] [] [.K 9 (.bin .lss (.tmp 8) (.tmp 7))]) (.seq (.cond (.tmp 9) (some 9) (.skip) (.exit 0)) (.seq (.block 1 66080 (.seq (.reg [] [] [.M 10 8, .N 5 10]) (.seq (.reg [] [] [.M 11 1, .M 12 0, .M 13 5, .T 14 (.ix 2 (.tmp 12) (.tmp 13)), .T 15 (.load (some 2) (.tmp 14)), .K 16 (.callV (.tmp 11) [.tmp 15])]) (.cond (.tmp 16) (some 16) (.seq (.reg [] [] [.M 17 5, .N 4 17]) (.ret)) (.skip))))) (.reg [] [] [.T 18 (.bin .add (.tmp 8) (cI 1)), .N 8 18])))
def c116 : ACode := .seq (.reg [] [] [.K 4 (.mv (cI 0))]) (.seq (.seq (.reg [] [] [.M 6 0, .K 7 (.len (.tmp 6)), .K 8 (.mv (cI 0))]) (.block 0 66080 (.loop qjl9))) (.seq (.reg [] [] [.K 4 (.mv (cI (-1)))]) (.ret)))
theorem is116 : IsF C 116 19 66483 c116 [.tmp 4] := ⟨⟨Tryd.f116, _, C_P ▸ Tryd.func116, rfl, rfl, rfl, by kernel_rfl, rfl⟩⟩
def qq9 (s0 : List Symbol) (s1_0 : Symbol) (s7 : Int) : Int → Unit → St := fun s8 _ => ⟨[(0, .d (.rd (s0.map qb9))), (1, .d (.fn 95 [.bx (qb9 s1_0)])), (4, PI 0), (7, PI s7), (8, PI s8)], []⟩
def qcw9 (s0 : List Symbol) (s1_0 : Symbol) (s7 : Int) : (Int ⊕ Int) → AExit × St → Prop
  | .inl r, q => XV C [.tmp 4] (PI r) q
  | .inr s8, q => ∃ g, q = (.exit 0, qq9 s0 s1_0 s7 s8 g)
set_option maxHeartbeats 60000000 in
theorem qcz9 {s0 : List Symbol} {s1_0 : Symbol} {s7 : Int} : Sim C 66483 qjl9 (qj9 s0 s1_0 s7) (qq9 s0 s1_0 s7) (qcw9 s0 s1_0 s7) := by
  intro s g r hr
  have ⟨s8, hs0⟩ : ∃ y, y = s := ⟨_, rfl⟩
  subst hs0
  simp only [qj9] at hr
  rcases iteP hr with ⟨h1, hr⟩ | ⟨h1, hr⟩
  obtain ⟨x1, h2, x2, h3, hr⟩ := bs2 hr
  have h3k := fun h => (qjQ9 h3).o rfl rfl rfl (h := h) (args := [.ag [.d (.v (.string x1.Name)), PI x1.Arity], .d (.bx (qb9 s1_0))]) rfl
  try simp only [go_sem] at h3k
  rcases iteB hr with ⟨h4, hr⟩ | ⟨h4, hr⟩
  obtain rfl := oiA hr
  refine xv_of ?_
  rotate_left
  obtain rfl := oiA hr
  refine ⟨(), ?_⟩
  rotate_left
  obtain rfl := oiA hr
  refine xe_of ⟨(), rfl⟩ ?_
  rotate_left
  all_goals (simp +decide only [go_sem, qq9, qjl9, *])
set_option maxHeartbeats 60000000 in
theorem qcC9 {a0 : List Symbol} {a1_0 : Symbol} {r : Int} (hr : qA9 a0 a1_0 = some r) : Res C 116 [.rd (a0.map qb9), .fn 95 [.bx (qb9 a1_0)]] (PI r) := by
  simp only [qA9] at hr
  obtain ⟨x3, h1, hr⟩ := bsome hr
  obtain ⟨q1, h1L, h1X⟩ := qcz9.L (g := ()) h1
  rcases x3 with x4 | x5
  try dsimp only at hr
  obtain ⟨st1, rfl, h1R⟩ := h1X
  simp only [qq9, go_sem] at h1L
  obtain rfl := oiA hr
  refine run_V is116 (nbA rfl) ?_
  rotate_left
  try dsimp only at hr
  obtain ⟨⟨⟩, rfl⟩ := h1X
  simp only [qq9, go_sem] at h1L
  obtain rfl := oiA hr
  refine run_V is116 (nbA rfl) ?_
  rotate_left
  all_goals (simp +decide only [go_sem, c116, *])
def c94 : ACode := .seq (.reg [] [] [.K 4 (.mv (.const (.bool false)))]) (.seq (.reg [] [] [.M 5 0, .M 6 1, .T 7 (.call 116 [.tmp 5, .tmp 6]), .T 8 (.bin .geq (.tmp 7) (cI 0)), .N 4 8]) (.ret))
theorem is94 : IsF C 94 9 19 c94 [.tmp 4] := ⟨⟨Tryd.f94, _, C_P ▸ Tryd.func94, rfl, rfl, rfl, by kernel_rfl, rfl⟩⟩
set_option maxHeartbeats 60000000 in
theorem qbf9 {a0 : List Symbol} {a1_0 : Symbol} {r : Bool} (hr : qk9 a0 a1_0 = some r) : Res C 94 [.rd (a0.map qb9), .fn 95 [.bx (qb9 a1_0)]] (PB r) := by
  simp only [qk9] at hr
  obtain ⟨x1, h1, hr⟩ := bsome hr
  have h1k := (qcC9 h1).k rfl rfl rfl
  try simp only [go_sem] at h1k
  obtain rfl := oiA hr
  refine run_V is94 (nbA rfl) ?_
  rotate_left
  all_goals (simp +decide only [go_sem, c94, *])
def qoq9 : ACode := .seq (.reg [] [] [.K 12 (.bin .lss (.tmp 11) (.tmp 10))]) (.seq (.cond (.tmp 12) (some 12) (.skip) (.exit 0)) (.seq (.block 1 18049582882099256 (.seq (.reg [] [] [.M 13 11, .T 14 (.ix 2 (.tmp 9) (.tmp 11)), .T 15 (.load (some 2) (.tmp 14)), .K 4 (.alloc [.d (.v (.string ⟨#[]⟩)), .d (.v (.int .i64 0))] 2), .N 3 13, ⟨none, .store 2 (.tmp 4) (.tmp 15), none, false, false⟩]) (.seq (.reg [] [] [.T 16 (.fa 0 (.tmp 4)), .T 17 (.load none (.tmp 16)), .T 18 (.slen (.tmp 17)), .N 5 18]) (.block 2 18049582882099256 (.seq (.reg [] [] [.T 20 (.fa 0 (.tmp 4)), .T 21 (.load none (.tmp 20)), .T 22 (.call 93 [.tmp 21]), .T 23 (.not (.tmp 22)), .M 24 23, .MG 25 24 true 5, .TG 26 24 true (.bin .eql (.tmp 25) (cI 0)), .MG 27 24 true 26, .TG 28 27 false (.fa 0 (.tmp 4)), .TG 29 27 false (.load none (.tmp 28)), .MG 30 27 false 5, .TG 31 27 false (.bin .sub (.tmp 30) (cI 1)), .TG 32 27 false (.ixS (.tmp 29) (.tmp 31)), .TG 33 27 false (.bin .neq (.tmp 32) (.const (.int .u8 35))), .TG 34 24 true (.pick (.tmp 27) (.const (.bool true)) (.tmp 33)), .MG 35 24 true 34, .TG 36 35 false (.fa 0 (.tmp 4)), .TG 37 35 false (.load none (.tmp 36)), .MG 38 35 false 5, .TG 39 35 false (.bin .sub (.tmp 38) (cI 1)), .TG 40 35 false (.cutS (.tmp 37) none (some (.tmp 39))), .TG 41 35 false (.call 93 [.tmp 40]), .TG 42 35 false (.not (.tmp 41)), .TG 43 24 true (.pick (.tmp 35) (.const (.bool true)) (.tmp 42)), .T 44 (.pick (.tmp 24) (.tmp 43) (.const (.bool false))), .N 19 44]) (.cond (.tmp 19) (some 19) (.seq (.reg [] [] [.K 2 (.mv (cI 34))]) (.ret)) (.seq (.reg [] [] [.T 46 (.fa 1 (.tmp 4)), .T 47 (.load none (.tmp 46)), .T 48 (.bin .lss (.tmp 47) (cI 0)), .M 49 48, .TG 50 49 false (.fa 1 (.tmp 4)), .TG 51 49 false (.load none (.tmp 50)), .TG 52 49 false (.bin .gtr (.tmp 51) (cI 8)), .T 53 (.pick (.tmp 49) (.const (.bool true)) (.tmp 52)), .N 45 53]) (.cond (.tmp 45) (some 45) (.seq (.reg [] [] [.K 2 (.mv (cI 35))]) (.ret)) (.seq (.reg [] [] [.M 55 0, .M 56 3, .T 57 (.cut 2 (.tmp 55) none (some (.tmp 56))), .T 58 (.mkF 95 [.tmp 4]), .T 59 (.call 94 [.tmp 57, .tmp 58]), .N 54 59]) (.cond (.tmp 54) (some 54) (.seq (.reg [] [] [.K 2 (.mv (cI 36))]) (.ret)) (.skip))))))))))) (.reg [] [] [.T 60 (.bin .add (.tmp 11) (cI 1)), .N 11 60])))
def c69 : ACode := .seq (.reg [] [] [.K 2 (.mv (cI 0))]) (.seq (.seq (.reg [] [] [.M 6 0, .T 7 (.len (.tmp 6)), .K 8 (.bin .gtr (.tmp 7) (cI 128))]) (.cond (.tmp 8) (some 8) (.seq (.reg [] [] [.K 2 (.mv (cI 37))]) (.ret)) (.skip))) (.seq (.seq (.reg [] [] [.N 9 0, .K 10 (.len (.tmp 9)), .K 11 (.mv (cI 0))]) (.block 0 18049582882099256 (.loop qoq9))) (.seq (.reg [] [] [.K 2 (.mv (cI 0))]) (.ret))))
theorem is69 : IsF C 69 61 18049582882103101 c69 [.tmp 2] := ⟨⟨Tryd.f69, _, C_P ▸ Tryd.func69, rfl, rfl, rfl, by kernel_rfl, rfl⟩⟩
def qdD9 (s0 : List Symbol) (s9 : List Symbol) (s10 : Int) : Int → AHeap → St := fun s11 gt => ⟨[(0, .d (.rd (s0.map qb9))), (2, PI 0), (9, .d (.rd (s9.map qb9))), (10, PI s10), (11, PI s11)], gt⟩
def qln9 (s0 : List Symbol) (s9 : List Symbol) (s10 : Int) : (Int ⊕ Int) → AExit × St → Prop
  | .inl r, q => XV C [.tmp 2] (PI r) q
  | .inr s11, q => ∃ g, q = (.exit 0, qdD9 s0 s9 s10 s11 g)
set_option maxHeartbeats 60000000 in
theorem qlf9 {s0 : List Symbol} {s9 : List Symbol} {s10 : Int} : Sim C 18049582882103101 qoq9 (qD9 s0 s9 s10) (qdD9 s0 s9 s10) (qln9 s0 s9 s10) := by
  intro s g r hr
  have ⟨s11, hs0⟩ : ∃ y, y = s := ⟨_, rfl⟩
  subst hs0
  have ⟨gt, hg0⟩ : ∃ y, y = g := ⟨_, rfl⟩
  subst hg0
  simp only [qD9] at hr
  rcases iteP hr with ⟨h1, hr⟩ | ⟨h1, hr⟩
  obtain ⟨x1, h2, x2, h3, hr⟩ := bs2 hr
  have h3k := (qjZ9 h3).k rfl rfl rfl
  try simp only [go_sem] at h3k
  rcases iteB hr with ⟨h4, hr⟩ | ⟨h4, hr⟩
  rcases iteP hr with ⟨h5, hr⟩ | ⟨h5, hr⟩
  obtain rfl := oiA hr
  refine xv_of ?_
  rotate_left
  rcases iteP hr with ⟨h6, hr⟩ | ⟨h6, hr⟩
  obtain rfl := oiA hr
  refine xv_of ?_
  rotate_left
  obtain ⟨x3, h7, x4, h8, hr⟩ := bs2 hr
  have h8k := fun h args => (qbf9 h8).o rfl rfl rfl (h := h) (args := args)
  try simp only [go_sem] at h8k
  rcases iteB hr with ⟨h9, hr⟩ | ⟨h9, hr⟩
  obtain rfl := oiA hr
  refine xv_of ?_
  rotate_left
  obtain rfl := oiA hr
  refine ⟨(gt ++ (.row false 0 2 [[.d (.v (.string x1.Name)), PI x1.Arity]] :: [])), ?_⟩
  rotate_left
  rcases iteP hr with ⟨h10, hr⟩ | ⟨h10, hr⟩
  obtain rfl := oiA hr
  refine xv_of ?_
  rotate_left
  obtain ⟨x5, h11, hr⟩ := bsome hr
  rcases iteP hr with ⟨h12, hr⟩ | ⟨h12, hr⟩
  obtain ⟨x6, h13, x7, h14, hr⟩ := bs2 hr
  have h14k := (qjZ9 h14).k rfl rfl rfl
  try simp only [go_sem] at h14k
  rcases iteB hr with ⟨h15, hr⟩ | ⟨h15, hr⟩
  rcases iteP hr with ⟨h16, hr⟩ | ⟨h16, hr⟩
  obtain rfl := oiA hr
  refine xv_of ?_
  rotate_left
  rcases iteP hr with ⟨h17, hr⟩ | ⟨h17, hr⟩
  obtain rfl := oiA hr
  refine xv_of ?_
  rotate_left
  obtain ⟨x8, h18, x9, h19, hr⟩ := bs2 hr
  have h19k := fun h args => (qbf9 h19).o rfl rfl rfl (h := h) (args := args)
  try simp only [go_sem] at h19k
  rcases iteB hr with ⟨h20, hr⟩ | ⟨h20, hr⟩
  obtain rfl := oiA hr
  refine xv_of ?_
  rotate_left
  obtain rfl := oiA hr
  refine ⟨(gt ++ (.row false 0 2 [[.d (.v (.string x1.Name)), PI x1.Arity]] :: [])), ?_⟩
  rotate_left
  obtain rfl := oiA hr
  refine xv_of ?_
  rotate_left
  obtain rfl := oiA hr
  refine xv_of ?_
  rotate_left
  obtain rfl := oiA hr
  refine xe_of ⟨gt, rfl⟩ ?_
  rotate_left
  all_goals (simp +decide only [go_sem, qdD9, qoq9, *])
set_option maxHeartbeats 60000000 in
theorem qgs9 {a0 : List Symbol} {r : Int} (hr : qr9 a0 = some r) : Res C 69 [.rd (a0.map qb9)] (PI r) := by
  simp only [qr9] at hr
  rcases iteP hr with ⟨h1, hr⟩ | ⟨h1, hr⟩
  obtain rfl := oiA hr
  refine run_V is69 (nbA rfl) ?_
  rotate_left
  obtain ⟨x10, h2, hr⟩ := bsome hr
  obtain ⟨q2, h2L, h2X⟩ := qlf9.L (g := []) h2
  rcases x10 with x11 | x12
  try dsimp only at hr
  obtain ⟨st2, rfl, h2R⟩ := h2X
  simp only [qdD9, go_sem] at h2L
  obtain rfl := oiA hr
  refine run_V is69 (nbA rfl) ?_
  rotate_left
  try dsimp only at hr
  obtain ⟨z13, rfl⟩ := h2X
  simp only [qdD9, go_sem] at h2L
  obtain rfl := oiA hr
  refine run_V is69 (nbA rfl) ?_
  rotate_left
  all_goals (simp +decide only [go_sem, c69, *])
def c134 : ACode := .seq (.reg [] [] [.K 4 (.mv (.const (.bool false)))]) (.seq (.reg [] [] [.M 5 0, .T 6 (.slen (.tmp 5)), .M 7 1, .T 8 (.slen (.tmp 7)), .T 9 (.bin .geq (.tmp 6) (.tmp 8)), .M 10 9, .MG 11 10 true 0, .MG 12 10 true 0, .TG 13 10 true (.slen (.tmp 12)), .MG 14 10 true 1, .TG 15 10 true (.slen (.tmp 14)), .TG 16 10 true (.bin .sub (.tmp 13) (.tmp 15)), .TG 17 10 true (.cutS (.tmp 11) (some (.tmp 16)) none), .MG 18 10 true 1, .TG 19 10 true (.bin .eql (.tmp 17) (.tmp 18)), .T 20 (.pick (.tmp 10) (.tmp 19) (.const (.bool false))), .N 4 20]) (.ret))
theorem is134 : IsF C 134 21 19 c134 [.tmp 4] := ⟨⟨Tryd.f134, _, C_P ▸ Tryd.func134, rfl, rfl, rfl, by kernel_rfl, rfl⟩⟩
set_option maxHeartbeats 60000000 in
theorem qfU9 {a0 : ByteArray} {a1 : ByteArray} {r : Bool} (hr : qbN9 a0 a1 = some r) : Res C 134 [.v (.string a0), .v (.string a1)] (PB r) := by
  simp only [qbN9] at hr
  rcases iteP hr with ⟨h1, hr⟩ | ⟨h1, hr⟩
  obtain ⟨x1, h2, hr⟩ := bsome hr
  obtain rfl := oiA hr
  refine run_V is134 (nbA rfl) ?_
  rotate_left
  obtain rfl := oiA hr
  refine run_V is134 (nbA rfl) ?_
  rotate_left
  all_goals (simp +decide only [go_sem, c134, *])
def c118 : ACode := .seq (.reg [] [] [.K 4 (.mv (.const (.bool false)))]) (.seq (.reg [] [] [.M 5 0, .M 6 1, .T 7 (.call 134 [.tmp 5, .tmp 6]), .N 4 7]) (.ret))
theorem is118 : IsF C 118 8 19 c118 [.tmp 4] := ⟨⟨Tryd.f118, _, C_P ▸ Tryd.func118, rfl, rfl, rfl, by kernel_rfl, rfl⟩⟩
set_option maxHeartbeats 60000000 in
theorem qjK9 {a0 : ByteArray} {a1 : ByteArray} {r : Bool} (hr : qdV9 a0 a1 = some r) : Res C 118 [.v (.string a0), .v (.string a1)] (PB r) := by
  simp only [qdV9] at hr
  obtain ⟨x1, h1, hr⟩ := bsome hr
  have h1k := (qfU9 h1).k rfl rfl rfl
  try simp only [go_sem] at h1k
  obtain rfl := oiA hr
  refine run_V is118 (nbA rfl) ?_
  rotate_left
  all_goals (simp +decide only [go_sem, c118, *])
def c117 : ACode := .seq (.reg [] [] [.K 1 (.box (.tmp 0)), .K 2 (.mv (.const (.bool false)))]) (.seq (.reg [] [] [.T 3 (.fa 0 (.tmp 1)), .T 4 (.load none (.tmp 3)), .T 5 (.call 118 [.tmp 4, .const (.string { data := #[35] })]), .N 2 5]) (.ret))
theorem is117 : IsF C 117 6 7 c117 [.tmp 2] := ⟨⟨Tryd.f117, _, C_P ▸ Tryd.func117, rfl, rfl, rfl, by kernel_rfl, rfl⟩⟩
set_option maxHeartbeats 60000000 in
theorem qkC9 {a0 : Symbol} {r : Bool} (hr : qdN9 a0 = some r) : Res C 117 [.ag (qb9 a0)] (PB r) := by
  simp only [qdN9] at hr
  obtain ⟨x1, h1, hr⟩ := bsome hr
  have h1k := (qjK9 h1).k rfl rfl rfl
  try simp only [go_sem] at h1k
  obtain rfl := oiA hr
  refine run_V is117 (nbA rfl) ?_
  rotate_left
  all_goals (simp +decide only [go_sem, c117, *])
def qt9 (s0 : List Symbol) (s7 : Int) : Int → Unit → St := fun s8 _ => ⟨[(0, .d (.rd (s0.map qb9))), (1, .d (.fn 117 [])), (4, PI 0), (7, PI s7), (8, PI s8)], []⟩
def qcE9 (s0 : List Symbol) (s7 : Int) : (Int ⊕ Int) → AExit × St → Prop
  | .inl r, q => XV C [.tmp 4] (PI r) q
  | .inr s8, q => ∃ g, q = (.exit 0, qt9 s0 s7 s8 g)
set_option maxHeartbeats 60000000 in
theorem qcD9 {s0 : List Symbol} {s7 : Int} : Sim C 66483 qjl9 (ql9 s0 s7) (qt9 s0 s7) (qcE9 s0 s7) := by
  intro s g r hr
  have ⟨s8, hs0⟩ : ∃ y, y = s := ⟨_, rfl⟩
  subst hs0
  simp only [ql9] at hr
  rcases iteP hr with ⟨h1, hr⟩ | ⟨h1, hr⟩
  obtain ⟨x1, h2, x2, h3, hr⟩ := bs2 hr
  have h3k := fun h => (qkC9 h3).o rfl rfl rfl (h := h) (args := [.ag [.d (.v (.string x1.Name)), PI x1.Arity]]) rfl
  try simp only [go_sem] at h3k
  rcases iteB hr with ⟨h4, hr⟩ | ⟨h4, hr⟩
  obtain rfl := oiA hr
  refine xv_of ?_
  rotate_left
  obtain rfl := oiA hr
  refine ⟨(), ?_⟩
  rotate_left
  obtain rfl := oiA hr
  refine xe_of ⟨(), rfl⟩ ?_
  rotate_left
  all_goals (simp +decide only [go_sem, qt9, qjl9, *])
set_option maxHeartbeats 60000000 in
theorem qcF9 {a0 : List Symbol} {r : Int} (hr : qC9 a0 = some r) : Res C 116 [.rd (a0.map qb9), .fn 117 []] (PI r) := by
  simp only [qC9] at hr
  obtain ⟨x3, h1, hr⟩ := bsome hr
  obtain ⟨q1, h1L, h1X⟩ := qcD9.L (g := ()) h1
  rcases x3 with x4 | x5
  try dsimp only at hr
  obtain ⟨st1, rfl, h1R⟩ := h1X
  simp only [qt9, go_sem] at h1L
  obtain rfl := oiA hr
  refine run_V is116 (nbA rfl) ?_
  rotate_left
  try dsimp only at hr
  obtain ⟨⟨⟩, rfl⟩ := h1X
  simp only [qt9, go_sem] at h1L
  obtain rfl := oiA hr
  refine run_V is116 (nbA rfl) ?_
  rotate_left
  all_goals (simp +decide only [go_sem, c116, *])
set_option maxHeartbeats 60000000 in
theorem qcr9 {a0 : List Symbol} {r : Bool} (hr : qs9 a0 = some r) : Res C 94 [.rd (a0.map qb9), .fn 117 []] (PB r) := by
  simp only [qs9] at hr
  obtain ⟨x1, h1, hr⟩ := bsome hr
  have h1k := (qcF9 h1).k rfl rfl rfl
  try simp only [go_sem] at h1k
  obtain rfl := oiA hr
  refine run_V is94 (nbA rfl) ?_
  rotate_left
  all_goals (simp +decide only [go_sem, c94, *])
def c100 : ACode := .seq (.reg [] [] [.K 2 (.mv (cI 0))]) (.seq (.seq (.reg [] [] [.M 4 0, .T 5 (.call 69 [.tmp 4]), .N 3 5]) (.seq (.reg [] [] [.M 6 3, .K 7 (.bin .neq (.tmp 6) (cI 0))]) (.cond (.tmp 7) (some 7) (.seq (.reg [] [] [.M 8 3, .N 2 8]) (.ret)) (.skip)))) (.seq (.seq (.reg [] [] [.M 9 0, .T 10 (.len (.tmp 9)), .K 11 (.bin .gtr (.tmp 10) (cI 64))]) (.cond (.tmp 11) (some 11) (.seq (.reg [] [] [.K 2 (.mv (cI 37))]) (.ret)) (.skip))) (.seq (.seq (.reg [] [] [.M 12 0, .K 13 (.call 94 [.tmp 12, .func 117])]) (.cond (.tmp 13) (some 13) (.seq (.reg [] [] [.K 2 (.mv (cI 34))]) (.ret)) (.skip))) (.seq (.reg [] [] [.K 2 (.mv (cI 0))]) (.ret)))))
theorem is100 : IsF C 100 14 10381 c100 [.tmp 2] := ⟨⟨Tryd.f100, _, C_P ▸ Tryd.func100, rfl, rfl, rfl, by kernel_rfl, rfl⟩⟩
set_option maxHeartbeats 60000000 in
theorem qna9 {a0 : List Symbol} {r : Int} (hr : qdF9 a0 = some r) : Res C 100 [.rd (a0.map qb9)] (PI r) := by
  simp only [qdF9] at hr
  obtain ⟨x1, h1, hr⟩ := bsome hr
  have h1k := (qgs9 h1).k rfl rfl rfl
  try simp only [go_sem] at h1k
  rcases iteP hr with ⟨h2, hr⟩ | ⟨h2, hr⟩
  rcases iteP hr with ⟨h3, hr⟩ | ⟨h3, hr⟩
  obtain rfl := oiA hr
  refine run_V is100 (nbA rfl) ?_
  rotate_left
  obtain ⟨x2, h4, hr⟩ := bsome hr
  have h4k := fun h => (qcr9 h4).o rfl rfl rfl (h := h) (args := [.d (.rd (a0.map qb9)), .fn 117 []]) rfl
  try simp only [go_sem] at h4k
  rcases iteB hr with ⟨h5, hr⟩ | ⟨h5, hr⟩
  obtain rfl := oiA hr
  refine run_V is100 (nbA rfl) ?_
  rotate_left
  obtain rfl := oiA hr
  refine run_V is100 (nbA rfl) ?_
  rotate_left
  obtain rfl := oiA hr
  refine run_V is100 (nbA rfl) ?_
  rotate_left
  all_goals (simp +decide only [go_sem, c100, *])
def qeR9 : ACode := .reg [] [] [.K 89 (.bin .lss (.tmp 88) (.tmp 87))]
def qeV9 : ACode := .reg [] [] [.M 90 0, .T 91 (.call 132 [.tmp 90]), .N 5 91]
def qdg9 : ACode := .reg [] [] [.M 92 4, .M 93 4, .T 94 (.nilC (.tmp 93)), .T 95 (.fa 2 (.tmp 94)), .T 96 (.load none (.tmp 95)), .M 97 5, .T 98 (.lit 1 [(0, .tmp 97)]), .T 99 (.app 1 16 (.tmp 96) (.tmp 98)), .T 100 (.nilC (.tmp 92)), .T 101 (.fa 2 (.tmp 100)), ⟨none, .store 1 (.tmp 101) (.tmp 99), none, false, false⟩]
def qdE9 : ACode := .reg [] [] [.M 102 4, .T 103 (.nilC (.tmp 102)), .T 104 (.fa 1 (.tmp 103)), ⟨some (105, false), .load none (.tmp 104), none, true, false⟩, .M 106 5, ⟨some (107, false), .inv (.tmp 106) "lodestone/term.size" [], none, true, false⟩, .T 108 (.bin .add (.tmp 105) (.tmp 107)), .T 109 (.nilC (.tmp 102)), .T 110 (.fa 1 (.tmp 109)), ⟨none, .store 1 (.tmp 110) (.tmp 108), none, false, false⟩]
def qfO9 : ACode := .reg [] [] [.T 111 (.bin .add (.tmp 88) (cI 1)), .N 88 111]
def qgW9 : ACode := .reg [] [] [.K 2 (.mv (.const Go.Value.nilIface))]
def qgG9 : ACode := .reg [] [] [.M 7 0, .T 8 (.nilC (.tmp 7)), .T 9 (.fa 3 (.tmp 8)), .T 10 (.load none (.tmp 9)), .T 11 (.bin .neq (.tmp 10) (cI 0)), .N 6 11]
def qgJ9 : ACode := .reg [] [] [.T 12 (.mkI 183 (cI 0)), .N 2 12]
def qgH9 : ACode := .reg [] [] [.M 14 0, .T 15 (.nilC (.tmp 14)), .T 16 (.fa 2 (.tmp 15)), ⟨some (17, false), .load none (.tmp 16), none, true, false⟩, .M 18 0, .T 19 (.nilC (.tmp 18)), .T 20 (.fa 1 (.tmp 19)), ⟨some (21, false), .load none (.tmp 20), none, true, false⟩, ⟨some (22, false), .len (.tmp 21), none, true, false⟩, .T 23 (.bin .eql (.tmp 17) (.tmp 22)), .N 13 23]
def qgU9 : ACode := .reg [] [] [.M 24 0, .T 25 (.nilC (.tmp 24)), .T 26 (.fa 3 (.tmp 25)), ⟨none, .store 1 (.tmp 26) (cI 31), none, false, false⟩]
def qgP9 : ACode := .reg [] [] [.T 27 (.mkI 183 (cI 0)), .N 2 27]
def qgK9 : ACode := .reg [] [] [.M 28 0, .T 29 (.nilC (.tmp 28)), .T 30 (.fa 1 (.tmp 29)), ⟨some (31, false), .load none (.tmp 30), none, true, false⟩, .M 32 0, .T 33 (.nilC (.tmp 32)), .T 34 (.fa 2 (.tmp 33)), ⟨some (35, false), .load none (.tmp 34), none, true, false⟩, ⟨some (36, false), .ix 1 (.tmp 31) (.tmp 35), none, true, false⟩, ⟨some (37, false), .load none (.tmp 36), none, true, false⟩, .N 3 37]
def qgM9 : ACode := .reg [] [] [.M 39 3, .M 40 0, .T 41 (.nilC (.tmp 40)), .T 42 (.fa 0 (.tmp 41)), .T 43 (.load none (.tmp 42)), .T 44 (.len (.tmp 43)), .T 45 (.bin .geq (.tmp 39) (.tmp 44)), .M 46 45, .MG 47 46 false 3, .TG 48 46 false (.bin .lss (.tmp 47) (cI (-1048576))), .T 49 (.pick (.tmp 46) (.const (.bool true)) (.tmp 48)), .N 38 49]
def qgV9 : ACode := .reg [] [] [.M 50 0, .T 51 (.nilC (.tmp 50)), .T 52 (.fa 3 (.tmp 51)), ⟨none, .store 1 (.tmp 52) (cI 30), none, false, false⟩]
def qgL9 : ACode := .reg [] [] [.T 53 (.mkI 183 (cI 0)), .N 2 53]
def qfR9 : ACode := .reg [] [] [.M 55 3, .T 56 (.bin .lss (.tmp 55) (cI 0)), .N 54 56]
def qfM9 : ACode := .reg [] [] [.M 57 0, .T 58 (.nilC (.tmp 57)), .T 59 (.fa 2 (.tmp 58)), .T 60 (.load none (.tmp 59)), .T 61 (.bin .add (.tmp 60) (cI 1)), .T 62 (.nilC (.tmp 57)), .T 63 (.fa 2 (.tmp 62)), ⟨none, .store 1 (.tmp 63) (.tmp 61), none, false, false⟩]
def qfL9 : ACode := .reg [] [] [.M 64 3, .T 65 (.bin .sub (cI (-1)) (.tmp 64)), .T 66 (.mkI 183 (.tmp 65)), .N 2 66]
def qfX9 : ACode := .reg [] [] [.M 67 0, .T 68 (.nilC (.tmp 67)), .T 69 (.fa 2 (.tmp 68)), .T 70 (.load none (.tmp 69)), .T 71 (.build [(0, 1), (1, 1), (2, 1)] [.d (.v (.int .i64 0)), .d (.v (.int .i64 0)), .im true []] [(0, .tmp 70), (1, .const (.int .i64 1))]), .T 72 (.box (.tmp 71)), .N 4 72]
def qfW9 : ACode := .reg [] [] [.M 73 0, .T 74 (.nilC (.tmp 73)), .T 75 (.fa 2 (.tmp 74)), .T 76 (.load none (.tmp 75)), .T 77 (.bin .add (.tmp 76) (cI 1)), .T 78 (.nilC (.tmp 73)), .T 79 (.fa 2 (.tmp 78)), ⟨none, .store 1 (.tmp 79) (.tmp 77), none, false, false⟩]
def qfQ9 : ACode := .reg [] [] [.M 80 0, .T 81 (.nilC (.tmp 80)), .T 82 (.fa 0 (.tmp 81)), .T 83 (.load none (.tmp 82)), .M 84 3, .T 85 (.ix 2 (.tmp 83) (.tmp 84)), .T 86 (.fa 1 (.tmp 85)), .K 87 (.load none (.tmp 86)), .K 88 (.mv (cI 0))]
def qfP9 : ACode := .reg [] [] [.M 112 4, .T 113 (.mkI 103 (.tmp 112)), .N 2 113]
def qgR9 : ACode := .seq (qeR9) (.seq (.cond (.tmp 89) (some 89) (.skip) (.exit 2)) (.seq (.block 3 618970019642690137449562144 (.seq (qeV9) (.seq (qdg9) (qdE9)))) (qfO9)))
def c132 : ACode := .seq (qgW9) (.seq (.block 0 8256 (.seq (qgG9) (.cond (.tmp 6) (some 6) (.seq (qgJ9) (.ret)) (.seq (qgH9) (.cond (.tmp 13) (some 13) (.seq (qgU9) (.seq (qgP9) (.ret))) (.skip)))))) (.seq (qgK9) (.seq (.block 1 18014673387388928 (.seq (qgM9) (.cond (.tmp 38) (some 38) (.seq (qgV9) (.seq (qgL9) (.ret))) (.seq (qfR9) (.cond (.tmp 54) (some 54) (.seq (qfM9) (.seq (qfL9) (.ret))) (.skip)))))) (.seq (qfX9) (.seq (qfW9) (.seq (.seq (qfQ9) (.block 2 618970019642690137449562144 (.loop qgR9))) (.seq (qfP9) (.ret))))))))
theorem is132 : IsF C 132 114 1083197534392722413924130941 c132 [.tmp 2] := ⟨⟨Tryd.f132, _, C_P ▸ Tryd.func132, rfl, rfl, rfl, by kernel_rfl, rfl⟩⟩
def qrQ9 : ACode := .reg [] [] [.K 2 (.mv (cI 0))]
def qrJ9 : ACode := .reg [] [] [.K 2 (.mv (cI 1))]
def c160 : ACode := .seq (qrQ9) (.seq (qrJ9) (.ret))
theorem is160 : IsF C 160 3 4 c160 [.tmp 2] := ⟨⟨Tryd.f160, _, C_P ▸ Tryd.func160, rfl, rfl, rfl, by kernel_rfl, rfl⟩⟩
def qrx9 : ACode := .reg [] [] [.K 2 (.mv (cI 0))]
def qrO9 : ACode := .reg [] [] [.M 3 0, .T 4 (.nilC (.tmp 3)), .T 5 (.fa 1 (.tmp 4)), .T 6 (.load none (.tmp 5)), .N 2 6]
def c157 : ACode := .seq (qrx9) (.seq (qrO9) (.ret))
theorem is157 : IsF C 157 7 5 c157 [.tmp 2] := ⟨⟨Tryd.f157, _, C_P ▸ Tryd.func157, rfl, rfl, rfl, by kernel_rfl, rfl⟩⟩
def qkq9 : ACode := .reg [] [] [.K 4 (.mv (.const Go.Value.nilIface)), .K 5 (.mv (cI 0))]
def qkw9 : ACode := .reg [] [] [.M 8 0, .M 9 1, .T 10 (.build [(0, 1), (1, 1), (2, 1), (3, 1)] [.im true [], .im true [], .d (.v (.int .i64 0)), .d (.v (.int .i64 0))] [(0, .tmp 8), (1, .tmp 9)]), .T 11 (.box (.tmp 10)), .N 6 11]
def qkt9 : ACode := .reg [] [] [.M 12 6, .T 13 (.call 132 [.tmp 12]), .N 7 13]
def qkl9 : ACode := .reg [] [] [.M 14 6, .T 15 (.nilC (.tmp 14)), .T 16 (.fa 3 (.tmp 15)), .T 17 (.load none (.tmp 16)), .T 18 (.bin .eql (.tmp 17) (cI 0)), .M 19 18, .MG 20 19 true 6, .TG 21 19 true (.nilC (.tmp 20)), .TG 22 19 true (.fa 2 (.tmp 21)), .TG 23 19 true (.load none (.tmp 22)), .MG 24 19 true 1, .TG 25 19 true (.len (.tmp 24)), .TG 26 19 true (.bin .lss (.tmp 23) (.tmp 25)), .K 27 (.pick (.tmp 19) (.tmp 26) (.const (.bool false)))]
def qkx9 : ACode := .reg [] [] [.M 28 6, .T 29 (.nilC (.tmp 28)), .T 30 (.fa 3 (.tmp 29)), ⟨none, .store 1 (.tmp 30) (cI 32), none, false, false⟩]
def qks9 : ACode := .reg [] [] [.M 31 7, .M 32 6, .T 33 (.nilC (.tmp 32)), .T 34 (.fa 3 (.tmp 33)), ⟨some (35, false), .load none (.tmp 34), none, true, false⟩, .N 4 31, .N 5 35]
def c113 : ACode := .seq (qkq9) (.seq (qkw9) (.seq (qkt9) (.seq (.seq (qkl9) (.cond (.tmp 27) (some 27) (qkx9) (.skip))) (.seq (qks9) (.ret)))))
theorem is113 : IsF C 113 36 134217971 c113 [.tmp 4, .tmp 5] := ⟨⟨Tryd.f113, _, C_P ▸ Tryd.func113, rfl, rfl, rfl, by kernel_rfl, rfl⟩⟩
def qoy9 : ACode := .reg [] [] [.K 4 (.mv (.const Go.Value.nilIface)), .K 5 (.mv (cI 0))]
def qpP9 : ACode := .reg [] [] [.M 7 0, .T 8 (.call 69 [.tmp 7]), .N 6 8]
def qou9 : ACode := .reg [] [] [.M 9 6, .K 10 (.bin .neq (.tmp 9) (cI 0))]
def qoM9 : ACode := .reg [] [] [.M 11 6, .K 4 (.mv (.const Go.Value.nilIface)), .N 5 11]
def qoU9 : ACode := .reg [] [] [.M 12 0, .M 13 1, .T 14 (.call 113 [.tmp 12, .tmp 13]), .T 15 (.ext (.tmp 14) 0), .T 16 (.ext (.tmp 14) 1), .N 4 15, .N 5 16]
def c91 : ACode := .seq (qoy9) (.seq (.seq (qpP9) (.seq (qou9) (.cond (.tmp 10) (some 10) (.seq (qoM9) (.ret)) (.skip)))) (.seq (qoU9) (.ret)))
theorem is91 : IsF C 91 17 1139 c91 [.tmp 4, .tmp 5] := ⟨⟨Tryd.f91, _, C_P ▸ Tryd.func91, rfl, rfl, rfl, by kernel_rfl, rfl⟩⟩
section
variable {sig : List Symbol} {t : List Int} {h : AHeap} {r : Nat}
abbrev RO (sig : List Symbol) (t : List Int) (a b : Int) : AObj := .row false 0 4 [[.d (.rd (sig.map qb9)), .d (.rd (t.map intD)), PI a, PI b]]
theorem qut9 : qeC9 C.P 183 "lodestone/term.size" = some 160 := by kernel_rfl
theorem qtc9 : qeC9 C.P 103 "lodestone/term.size" = some 157 := by kernel_rfl
theorem qux9 {n : Int} {h : AHeap} : callP C (Lim C) 160 [PI n] h = some (PI 1, h) := by
  refine qko9 (ds := [.v (.int .i64 n)]) rfl rfl rfl ?_ h
  refine qua9 is160 (nbA rfl) (q := (.ret, ⟨[(2, PI 1)], []⟩)) ?_ (.inr rfl) ⟨[PI 1], rfl, rfl⟩
  simp +decide only [c160, qrQ9, qrJ9, qM9, go_sem]
theorem qsY9 {id : Nat} {a b : Int} {K : PV} (ho : h[id]? = some (.row false 0 3 [[PI a, PI b, K]])) : callP C (Lim C) 157 [.ptr id 0 0 0] h = some (PI b, h) := by
  have e : callP C (Lim C) 157 [.ptr id 0 0 0] h = Lim C 157 [.ptr id 0 0 0] h := rfl
  rw [e]
  refine Lim_A is157 (nbA rfl) (env := [(0, .ptr id 0 0 0), (2, PI b)]) (e := .ret) ?_ (.inr rfl) (vs := [PI b]) rfl
  simp +decide only [c157, qrx9, qrO9, qM9, go_sem, opNil, ho]
abbrev Lf (n : Int) : PV := .ifc 183 (PI n)
abbrev rdr (r : Nat) : PV := .ptr r 0 0 0
theorem rdA {a b : Int} (ho : h[r]? = some (RO sig t a b)) (hb : b ≠ 0) : Lim C 132 [rdr r] h = some (Lf 0, h) := by
  have hb' : (b = 0) = False := eq_false hb
  refine Lim_A is132 (nbA rfl) (env := [(0, rdr r), (2, Lf 0)]) (e := .ret) ?_ (.inr rfl) (vs := [Lf 0]) rfl
  simp +decide only [c132, qgW9, qgG9, qgJ9, qgH9, qgU9, qgP9, qgK9, qgM9, qgV9, qgL9, qfR9, qfM9, qfL9, qfX9, qfW9, qfQ9, qeR9, qeV9, qdg9, qdE9, qfO9, qfP9, qM9, go_sem, opNil, ho, hb']
theorem rdB {a : Int} (ho : h[r]? = some (RO sig t a 0)) (ha : a = (t.length : Int)) : Lim C 132 [rdr r] h = some (Lf 0, h.set r (RO sig t a 31)) := by
  have ha' : (a = (t.length : Int)) = True := eq_true ha
  refine Lim_A is132 (nbA rfl) (env := [(0, rdr r), (2, Lf 0)]) (e := .ret) ?_ (.inr rfl) (vs := [Lf 0]) rfl
  simp +decide only [c132, qgW9, qgG9, qgJ9, qgH9, qgU9, qgP9, qgK9, qgM9, qgV9, qgL9, qfR9, qfM9, qfL9, qfX9, qfW9, qfQ9, qeR9, qeV9, qdg9, qdE9, qfO9, qfP9, qM9, go_sem, opNil, ho, ha']
theorem rdC {a c : Int} (ho : h[r]? = some (RO sig t a 0)) (ha : a ≠ (t.length : Int)) (hx : idx t a = some c) (hc : (sig.length : Int) ≤ c ∨ c < -1048576) : Lim C 132 [rdr r] h = some (Lf 0, h.set r (RO sig t a 30)) := by
  have ha' : (a = (t.length : Int)) = False := eq_false ha
  refine Lim_A is132 (nbA rfl) (env := [(0, rdr r), (2, Lf 0), (3, PI c)]) (e := .ret) ?_ (.inr rfl) (vs := [Lf 0]) rfl
  rcases pcA ((sig.length : Int) ≤ c) with h1 | h1
  · simp +decide only [c132, qgW9, qgG9, qgJ9, qgH9, qgU9, qgP9, qgK9, qgM9, qgV9, qgL9, qfR9, qfM9, qfL9, qfX9, qfW9, qfQ9, qeR9, qeV9, qdg9, qdE9, qfO9, qfP9, qM9, go_sem, opNil, ho, ha', hx, h1]
  · have h2 : (c < -1048576) = True := eq_true (hc.resolve_left (of_eq_false h1))
    simp +decide only [c132, qgW9, qgG9, qgJ9, qgH9, qgU9, qgP9, qgK9, qgM9, qgV9, qgL9, qfR9, qfM9, qfL9, qfX9, qfW9, qfQ9, qeR9, qeV9, qdg9, qdE9, qfO9, qfP9, qM9, go_sem, opNil, ho, ha', hx, h1, h2]
theorem rdD {a c : Int} (ho : h[r]? = some (RO sig t a 0)) (ha : a ≠ (t.length : Int)) (hx : idx t a = some c) (hc : ¬ ((sig.length : Int) ≤ c ∨ c < -1048576)) (hn : c < 0) : Lim C 132 [rdr r] h = some (Lf (w64 (-1 - c)), h.set r (RO sig t (w64 (a + 1)) 0)) := by
  have ha' : (a = (t.length : Int)) = False := eq_false ha
  have h1 : ((sig.length : Int) ≤ c) = False := eq_false fun e => hc (.inl e)
  have h2 : (c < -1048576) = False := eq_false fun e => hc (.inr e)
  have h3 : (c < 0) = True := eq_true hn
  refine Lim_A is132 (nbA rfl) (env := [(0, rdr r), (2, Lf (w64 (-1 - c))), (3, PI c)]) (e := .ret) ?_ (.inr rfl) (vs := [Lf (w64 (-1 - c))]) rfl
  simp +decide only [c132, qgW9, qgG9, qgJ9, qgH9, qgU9, qgP9, qgK9, qgM9, qgV9, qgL9, qfR9, qfM9, qfL9, qfX9, qfW9, qfQ9, qeR9, qeV9, qdg9, qdE9, qfO9, qfP9, qM9, go_sem, opNil, ho, ha', hx, h1, h2, h3]
abbrev St5 (r X : Nat) (c ar j : Int) (h : AHeap) : St := ⟨[(0, rdr r), (2, .d (.v .nilIface)), (3, PI c), (4, .ptr X 0 0 0), (87, PI ar), (88, PI j)], h⟩
abbrev St6 (r X : Nat) (c ar j : Int) (x : PV) (h : AHeap) : St := ⟨[(0, rdr r), (2, .d (.v .nilIface)), (3, PI c), (4, .ptr X 0 0 0), (5, x), (87, PI ar), (88, PI j)], h⟩
abbrev In (id : Nat) : PV := .ifc 103 (.ptr id 0 0 0)
abbrev XO (a n : Int) (K : PV) : AObj := .row false 0 3 [[PI a, PI n, K]]
inductive SizeOk (h : AHeap) : PV → Int → Prop where
  | leaf (n : Int) : SizeOk h (Lf n) 1
  | inner (id : Nat) (a s : Int) (K : PV) (ho : h[id]? = some (XO a s K)) : SizeOk h (In id) s
theorem rd17 {X : Nat} {c ar j : Int} {x : PV} {h1 : AHeap} (hc : Lim C 132 [rdr r] h = some (x, h1)) : semA C (Lim C) 1083197534392722413924130941 qeV9 (St5 r X c ar j h) = some (.normal, St6 r X c ar j x h1) := by
  have e : callP C (Lim C) 132 [rdr r] h = some (x, h1) := hc
  simp +decide only [qeV9, go_sem, e]
theorem rd18a {X : Nat} {c ar j a n s : Int} {x : PV} (hx : SizeOk h x s) (ho : h[X]? = some (XO a n (.im true []))) : semA C (Lim C) 1083197534392722413924130941 qdg9 (St6 r X c ar j x h) = some (.normal, St6 r X c ar j x ((h ++ [AObj.row false 0 1 [[x]]]).set X (XO a n (.ref h.length 0 0 1)))) := by
  have hlt := (List.getElem?_eq_some_iff.1 ho).1
  have ho2 : ∀ o, (h ++ [o])[X]? = some (XO a n (.im true [])) := fun o => by rw [List.getElem?_append_left hlt]; exact ho
  cases hx <;> simp +decide only [qdg9, go_sem, opNil, ho, ho2]
theorem rd18b {X kid v : Nat} {c ar j a n s : Int} {x : PV} {es : List (List PV)} (hx : SizeOk h x s) (ho : h[X]? = some (XO a n (.ref kid v 0 es.length))) (hk : h[kid]? = some (.row false v 1 es)) (hne : X ≠ kid) (hb : (es.length + 1) * 16 ≤ 140737488355328) :
    semA C (Lim C) 1083197534392722413924130941 qdg9 (St6 r X c ar j x h) = some (.normal, St6 r X c ar j x ((h.set kid (.row false (v + 1) 1 (es ++ [[x]]))).set X (XO a n (.ref kid (v + 1) 0 (es ++ [[x]]).length)))) := by
  have hb' := eq_true hb
  have ho2 : ∀ o, (h.set kid o)[X]? = some (XO a n (.ref kid v 0 es.length)) := fun o => by rw [List.getElem?_set_ne (Ne.symm hne)]; exact ho
  cases hx <;> simp +decide only [qdg9, go_sem, opNil, ho, ho2, hk, hb', List.take_length]
theorem rd19 {X : Nat} {c ar j a n s : Int} {K x : PV} (hx : SizeOk h x s) (ho : h[X]? = some (XO a n K)) : semA C (Lim C) 1083197534392722413924130941 qdE9 (St6 r X c ar j x h) = some (.normal, St6 r X c ar j x (h.set X (XO a (w64 (n + s)) K))) := by
  cases hx with
  | leaf m => simp +decide only [qdE9, go_sem, opNil, ho, qut9, qux9]
  | inner id a' s K' hi => simp +decide only [qdE9, go_sem, opNil, ho, qtc9, qsY9 hi]
theorem qvq9 (l : List Int) : ∀ k, ∃ m, m ≤ l.length ∧ (rdT sig l k).1 = l.drop m := by
  induction l with
  | nil => intro k; cases k <;> exact ⟨0, Nat.le_refl _, rfl⟩
  | cons c l ih =>
    intro k
    cases k with
    | zero => exact ⟨0, Nat.zero_le _, rfl⟩
    | succ k =>
      rw [rdT]
      split
      · exact ⟨0, Nat.zero_le _, rfl⟩
      · obtain ⟨m, h1, h2⟩ := ih (k + arOf sig c)
        exact ⟨m + 1, by simp; omega, by rw [h2, List.drop_succ_cons]⟩
theorem qhU9 (l : List Int) : ∀ j k, rdT sig l (j + k) = if (rdT sig l j).2 = 0 then rdT sig (rdT sig l j).1 k else rdT sig l j := by
  induction l with
  | nil =>
    intro j k
    cases j with
    | zero => rw [Nat.zero_add]; rfl
    | succ j => rw [show j + 1 + k = (j + k) + 1 by omega]; rfl
  | cons c l ih =>
    intro j k
    cases j with
    | zero => rw [Nat.zero_add]; rfl
    | succ j =>
      rw [show j + 1 + k = (j + k) + 1 by omega, rdT, rdT]
      by_cases hc : (sig.length : Int) ≤ c ∨ c < -1048576
      · simp only [if_pos hc]; rfl
      · simp only [if_neg hc]
        rw [show j + k + arOf sig c = (j + arOf sig c) + k by omega]
        exact ih _ _
inductive KV (S : Nat → Prop) (h : AHeap) : PV → List PV → Prop where
  | none : KV S h (.im true []) []
  | row (kid v : Nat) (ks : List PV) (hS : S kid) (ho : h[kid]? = some (.row false v 1 (ks.map fun x => [x]))) : KV S h (.ref kid v 0 ks.length) ks
inductive Forest (sig : List Symbol) (t : List Int) (S : Nat → Prop) (h : AHeap) : List PV → Nat → Nat → Prop where
  | nil (i : Nat) : Forest sig t S h [] i i
  | leaf (xs : List PV) (i e : Nat) (c : Int) (hc : t[i]? = some c) (hn : c < 0) (hf : Forest sig t S h xs (i + 1) e) : Forest sig t S h (Lf (w64 (-1 - c)) :: xs) i e
  | node (xs ks : List PV) (i j e c id : Nat) (s : Symbol) (K : PV) (hc : t[i]? = some (c : Int)) (hs : sig[c]? = some s) (hS : S id) (ho : h[id]? = some (XO i ((j : Int) - i) K)) (hK : KV S h K ks) (hl : ks.length = s.Arity.toNat)
      (hk : Forest sig t S h ks (i + 1) j) (hf : Forest sig t S h xs j e) : Forest sig t S h (In id :: xs) i e
theorem KV.mono {S S' : Nat → Prop} {h h' : AHeap} (hh : ∀ id, S id → S' id ∧ h'[id]? = h[id]?) {K : PV} {ks : List PV} (hk : KV S h K ks) : KV S' h' K ks := by
  cases hk with
  | none => exact .none
  | row kid v ks hS ho => exact .row kid v ks (hh _ hS).1 ((hh _ hS).2.trans ho)
theorem Forest.mono {S S' : Nat → Prop} {h h' : AHeap} (hh : ∀ id, S id → S' id ∧ h'[id]? = h[id]?) {xs : List PV} {i e : Nat} (hf : Forest sig t S h xs i e) : Forest sig t S' h' xs i e := by
  induction hf with
  | nil i => exact .nil i
  | leaf xs i e c hc hn hf ih => exact .leaf xs i e c hc hn ih
  | node xs ks i j e c id s K hc hs hS ho hK hl hk hf ih1 ih2 => exact .node xs ks i j e c id s K hc hs (hh _ hS).1 ((hh _ hS).2.trans ho) (hK.mono hh) hl ih1 ih2
theorem Forest.append {S : Nat → Prop} {h : AHeap} {xs ys : List PV} {i j e : Nat} (h1 : Forest sig t S h xs i j) (h2 : Forest sig t S h ys j e) : Forest sig t S h (xs ++ ys) i e := by
  induction h1 with
  | nil i => exact h2
  | leaf xs i e c hc hn hf ih => exact .leaf _ i _ c hc hn (ih h2)
  | node xs ks i j e c id s K hc hs hS ho hK hl hk hf ih1 ih2 => exact .node _ ks i j _ c id s K hc hs hS ho hK hl hk (ih2 h2)
theorem Forest.size {S : Nat → Prop} {h : AHeap} {x : PV} {i e : Nat} (hf : Forest sig t S h [x] i e) : SizeOk h x ((e : Int) - i) := by
  cases hf with
  | leaf _ _ _ c hc hn hf => cases hf; rw [show ((i + 1 : Nat) : Int) - i = 1 by omega]; exact .leaf _
  | node _ ks _ j _ c id s K hc hs hS ho hK hl hk hf => cases hf; exact .inner _ _ _ _ ho
theorem SizeOk.inj {h : AHeap} {x : PV} {s s' : Int} (h1 : SizeOk h x s) (h2 : SizeOk h x s') : s = s' := by
  cases h1 with
  | leaf n => cases h2; rfl
  | inner id a s K ho =>
    cases h2 with
    | inner _ a' _ K' ho' =>
      rw [ho] at ho'
      simp only [Option.some.injEq, AObj.row.injEq, List.cons.injEq, PV.d.injEq, D.v.injEq, Value.int.injEq] at ho'
      exact ho'.2.2.2.1.2.1.2
theorem SizeOk.stay {h h' : AHeap} {x : PV} {s : Int} (h1 : SizeOk h x s) (hh : ∀ id o, h[id]? = some o → x = In id → h'[id]? = some o) : SizeOk h' x s := by
  cases h1 with
  | leaf n => exact .leaf n
  | inner id a s K ho => exact .inner id a s K (hh id _ ho rfl)
def RdOk (sig : List Symbol) (t : List Int) (r : Nat) (h : AHeap) (i : Nat) : Prop := ∃ x h', Lim C 132 [rdr r] h = some (x, h') ∧ h'[r]? = some (RO sig t ((t.length - (rdT sig (t.drop i) 1).1.length : Nat) : Int) (rdT sig (t.drop i) 1).2) ∧ h.length ≤ h'.length ∧
  (∀ id, id < h.length → id ≠ r → h'[id]? = h[id]?) ∧ (∃ s id, SizeOk h' x s ∧ h.length ≤ id ∧ (∀ k, x = In k → h.length ≤ k ∧ k < h'.length)) ∧ ((rdT sig (t.drop i) 1).2 = 0 → Forest sig t (fun id => h.length ≤ id ∧ id < h'.length) h' [x] i (t.length - (rdT sig (t.drop i) 1).1.length))
def KVk (X : Nat) (h : AHeap) (K : PV) (ks : List PV) (kd : Option Nat) : Prop := (kd = none ∧ K = .im true [] ∧ ks = []) ∨ ∃ kid v, kd = some kid ∧ X < kid ∧ K = .ref kid v 0 ks.length ∧ h[kid]? = some (.row false v 1 (ks.map fun x => [x]))
theorem KVk.stay {X : Nat} {h h' : AHeap} {K : PV} {ks : List PV} {kd : Option Nat} (hk : KVk X h K ks kd) (hh : ∀ id, kd = some id → h'[id]? = h[id]?) : KVk X h' K ks kd := by
  rcases hk with h1 | ⟨kid, v, h1, h2, h3, h4⟩
  · exact .inl h1
  · exact .inr ⟨kid, v, h1, h2, h3, (hh _ h1).trans h4⟩
theorem qgO9 {h : AHeap} {o : AObj} {id : Nat} (hlt : id < h.length) : (h ++ [o])[id]? = h[id]? := List.getElem?_append_left hlt
theorem step18 {X i : Nat} {c ar j n s : Int} {K x : PV} {ks : List PV} {kd : Option Nat} (hX : h[X]? = some (XO i n K)) (hK : KVk X h K ks kd) (hx : SizeOk h x s) (hxk : ∀ k, x = In k → k ≠ X ∧ kd ≠ some k) (hb : (ks.length + 1) * 16 ≤ 140737488355328) :
    ∃ h2 h3 K' kd', semA C (Lim C) 1083197534392722413924130941 qdg9 (St6 r X c ar j x h) = some (.normal, St6 r X c ar j x h2) ∧ semA C (Lim C) 1083197534392722413924130941 qdE9 (St6 r X c ar j x h2) = some (.normal, St6 r X c ar j x h3) ∧
      h3[X]? = some (XO i (w64 (n + s)) K') ∧ KVk X h3 K' (ks ++ [x]) kd' ∧ h.length ≤ h3.length ∧ (∀ id, id < h.length → id ≠ X → kd ≠ some id → h3[id]? = h[id]?) ∧ (∀ id, kd' = some id → kd = some id ∨ id = h.length) ∧ (∀ id, kd' = some id → id < h3.length) := by
  have hlt := (List.getElem?_eq_some_iff.1 hX).1
  rcases hK with ⟨rfl, rfl, rfl⟩ | ⟨kid, v, rfl, hXk, rfl, hkid⟩
  · have e18 := rd18a (r := r) (c := c) (ar := ar) (j := j) hx hX
    have hx2 : SizeOk ((h ++ [AObj.row false 0 1 [[x]]]).set X (XO i n (.ref h.length 0 0 1))) x s := hx.stay fun id o ho he => by
      rw [List.getElem?_set_ne (Ne.symm (hxk id he).1), qgO9 (List.getElem?_eq_some_iff.1 ho).1]; exact ho
    have hX2 : ((h ++ [AObj.row false 0 1 [[x]]]).set X (XO i n (.ref h.length 0 0 1)))[X]? = some (XO i n (.ref h.length 0 0 1)) := by
      rw [List.getElem?_set_self (by simp; omega)]
    have e19 := rd19 (r := r) (c := c) (ar := ar) (j := j) hx2 hX2
    refine ⟨_, _, .ref h.length 0 0 1, some h.length, e18, e19, ?_, ?_, by simp, fun id h1 h2 _ => ?_, fun id e => .inr (oiA e).symm, fun id e => by cases e; simp⟩
    · rw [List.getElem?_set_self (by simp; omega)]
    · refine .inr ⟨h.length, 0, rfl, hlt, rfl, ?_⟩
      rw [List.getElem?_set_ne (by omega), List.getElem?_set_ne (by omega)]
      simp
    · rw [List.getElem?_set_ne (Ne.symm h2), List.getElem?_set_ne (Ne.symm h2), qgO9 h1]
  · have hne : X ≠ kid := by omega
    have hl : (ks.map fun x => [x]).length = ks.length := by simp
    have hX' : h[X]? = some (XO i n (.ref kid v 0 (ks.map fun x => [x]).length)) := by rw [hl]; exact hX
    have e18 := rd18b (r := r) (c := c) (ar := ar) (j := j) hx hX' hkid hne (by rw [hl]; exact hb)
    have hkl := (List.getElem?_eq_some_iff.1 hkid).1
    have hx2 : SizeOk ((h.set kid (.row false (v + 1) 1 ((ks.map fun x => [x]) ++ [[x]]))).set X (XO i n (.ref kid (v + 1) 0 ((ks.map fun x => [x]) ++ [[x]]).length))) x s := hx.stay fun id o ho he => by
      have h1 := (hxk id he).1
      have h2 : kid ≠ id := fun e => (hxk id he).2 (by rw [e])
      rw [List.getElem?_set_ne (Ne.symm h1), List.getElem?_set_ne h2]; exact ho
    have hX2 : ((h.set kid (.row false (v + 1) 1 ((ks.map fun x => [x]) ++ [[x]]))).set X (XO i n (.ref kid (v + 1) 0 ((ks.map fun x => [x]) ++ [[x]]).length)))[X]? = some (XO i n (.ref kid (v + 1) 0 ((ks.map fun x => [x]) ++ [[x]]).length)) := by
      rw [List.getElem?_set_self (by simp; omega)]
    have e19 := rd19 (r := r) (c := c) (ar := ar) (j := j) hx2 hX2
    refine ⟨_, _, .ref kid (v + 1) 0 ((ks.map fun x => [x]) ++ [[x]]).length, some kid, e18, e19, ?_, ?_, by simp, fun id h1 h2 h3 => ?_, fun id e => .inl e, fun id e => by cases e; simp; omega⟩
    · rw [List.getElem?_set_self (by simp; omega)]
    · refine .inr ⟨kid, v + 1, rfl, hXk, by simp, ?_⟩
      rw [List.getElem?_set_ne (by omega), List.getElem?_set_ne (by omega), List.getElem?_set_self (by omega)]
      simp
    · have h4 : kid ≠ id := fun e => h3 (by rw [e])
      rw [List.getElem?_set_ne (Ne.symm h2), List.getElem?_set_ne (Ne.symm h2), List.getElem?_set_ne h4]
theorem round101 {X : Nat} {c ar j : Int} {x : PV} {h1 h2 h3 : AHeap} (hj : j < ar) (hc : Lim C 132 [rdr r] h = some (x, h1)) (e18 : semA C (Lim C) 1083197534392722413924130941 qdg9 (St6 r X c ar j x h1) = some (.normal, St6 r X c ar j x h2))
    (e19 : semA C (Lim C) 1083197534392722413924130941 qdE9 (St6 r X c ar j x h2) = some (.normal, St6 r X c ar j x h3)) : semA C (Lim C) 1083197534392722413924130941 qgR9 (St5 r X c ar j h) = some (.normal, St5 r X c ar (w64 (j + 1)) h3) := by
  have hj' := eq_true hj
  have e17 := rd17 (X := X) (c := c) (ar := ar) (j := j) hc
  simp +decide only [qgR9, qeR9, qfO9, go_sem, e17, e18, e19, hj']
theorem leave101 {X : Nat} {c ar j : Int} (hj : ¬ j < ar) : semA C (Lim C) 1083197534392722413924130941 qgR9 (St5 r X c ar j h) = some (.exit 2, St5 r X c ar j h) := by
  have hj' := eq_false hj
  simp +decide only [qgR9, qeR9, go_sem, hj']
theorem rdE {a c ar : Int} {f : Symbol} {h' : AHeap} (hlt : r < h.length) (ho : h[r]? = some (RO sig t a 0)) (ha : a ≠ (t.length : Int)) (hx : idx t a = some c) (hc : ¬ ((sig.length : Int) ≤ c ∨ c < -1048576)) (hn : ¬ c < 0) (hf : idx sig c = some f) (hl : qbv9 (semA C (Lim C) 1083197534392722413924130941 qgR9) (St5 r h.length c f.Arity 0 ((h ++ [XO a 1 (.im true [])]).set r (RO sig t (w64 (a + 1)) 0))) = some (.exit 2, St5 r h.length c f.Arity ar h')) :
    Lim C 132 [rdr r] h = some (In h.length, h') := by
  have ha' : (a = (t.length : Int)) = False := eq_false ha
  have h1 : ((sig.length : Int) ≤ c) = False := eq_false fun e => hc (.inl e)
  have h2 : (c < -1048576) = False := eq_false fun e => hc (.inr e)
  have h3 : (c < 0) = False := eq_false hn
  have ho2 : ∀ o, (h ++ [o])[r]? = some (RO sig t a 0) := fun o => by rw [qgO9 hlt]; exact ho
  have ho3 : ∀ o o', ((h ++ [o]).set r o')[r]? = some o' := fun o o' => List.getElem?_set_self (by simp; omega)
  refine Lim_A is132 (nbA rfl) (env := [(0, rdr r), (2, In h.length), (3, PI c), (4, .ptr h.length 0 0 0), (87, PI f.Arity), (88, PI ar)]) (e := .ret) ?_ (.inr rfl) (vs := [In h.length]) rfl
  simp +decide only [c132, qgW9, qgG9, qgJ9, qgH9, qgU9, qgP9, qgK9, qgM9, qgV9, qgL9, qfR9, qfM9, qfL9, qfX9, qfW9, qfQ9, qfP9, qM9, go_sem, opNil, ho, ho2, ho3, ha', hx, h1, h2, h3, hf, hl]
structure LInv (sig : List Symbol) (t : List Int) (r X i : Nat) (h0 : AHeap) (j : Nat) (h : AHeap) : Prop where
  rx : r < X
  xl : X < h.length
  fr : ∀ id, id < X → id ≠ r → h[id]? = h0[id]?
  rd : h[r]? = some (RO sig t ((t.length - (rdT sig (t.drop (i + 1)) j).1.length : Nat) : Int) (rdT sig (t.drop (i + 1)) j).2)
  ex : ∃ (n : Int) (K : PV) (ks : List PV) (kd : Option Nat), h[X]? = some (XO i n K) ∧ ks.length = j ∧ KVk X h K ks kd ∧ (∀ id, kd = some id → id < h.length) ∧
    ((rdT sig (t.drop (i + 1)) j).2 = 0 → n = ((t.length - (rdT sig (t.drop (i + 1)) j).1.length : Nat) : Int) - i ∧ Forest sig t (fun id => X < id ∧ id < h.length ∧ kd ≠ some id) h ks (i + 1) (t.length - (rdT sig (t.drop (i + 1)) j).1.length))
theorem qoW9 {l : List Int} {i k : Nat} (hi : i ≤ t.length) : i ≤ t.length - (rdT sig (t.drop i) k).1.length ∧ t.length - (rdT sig (t.drop i) k).1.length ≤ t.length ∧ t.drop (t.length - (rdT sig (t.drop i) k).1.length) = (rdT sig (t.drop i) k).1 := by
  obtain ⟨m, h1, h2⟩ := qvq9 (sig := sig) (t.drop i) k
  rw [h2]
  rw [List.length_drop] at h1
  rw [List.drop_drop, List.length_drop]
  refine ⟨by omega, by omega, ?_⟩
  congr 1
  omega
theorem loop101 {X i : Nat} {c ar : Int} {h0 : AHeap} (hL : t.length < 4611686018427387904) (hi : i + 1 ≤ t.length) (hA : ar ≤ 1099511627776) (IH : ∀ (i' : Nat) (h' : AHeap), i < i' → i' ≤ t.length → h'[r]? = some (RO sig t i' 0) → RdOk sig t r h' i') :
    ∀ (m j : Nat) (h : AHeap), j + m = ar.toNat → LInv sig t r X i h0 j h → ∃ h', qbv9 (semA C (Lim C) 1083197534392722413924130941 qgR9) (St5 r X c ar j h) = some (.exit 2, St5 r X c ar ar.toNat h') ∧ LInv sig t r X i h0 ar.toNat h' := by
  intro m
  induction m with
  | zero =>
    intro j h hj hv
    have : j = ar.toNat := by omega
    subst this
    exact ⟨h, qlb9 (leave101 (by omega)) (by simp), hv⟩
  | succ m ih =>
    intro j h hj hv
    have hlt : (j : Int) < ar := by omega
    obtain ⟨n, K, ks, kd, k1, k2, k3, k3b, k4⟩ := hv.ex
    obtain ⟨p1, p2, p3⟩ := qoW9 (sig := sig) (l := t) (k := j) hi
    have hadd := qhU9 (sig := sig) (t.drop (i + 1)) j 1
    have hw : w64 ((j : Int) + 1) = ((j + 1 : Nat) : Int) := by unfold w64; rw [IntKind.wrap_i64]; omega
    have hbd : (ks.length + 1) * 16 ≤ 140737488355328 := by omega
    -- one argument is read
    have step : ∃ x h1 s, Lim C 132 [rdr r] h = some (x, h1) ∧ h1[r]? = some (RO sig t ((t.length - (rdT sig (t.drop (i + 1)) (j + 1)).1.length : Nat) : Int) (rdT sig (t.drop (i + 1)) (j + 1)).2) ∧ h.length ≤ h1.length ∧ (∀ id, id < h.length → id ≠ r → h1[id]? = h[id]?) ∧
        SizeOk h1 x s ∧ (∀ k, x = In k → h.length ≤ k ∧ k < h1.length) ∧ ((rdT sig (t.drop (i + 1)) (j + 1)).2 = 0 → (rdT sig (t.drop (i + 1)) j).2 = 0 ∧ Forest sig t (fun id => h.length ≤ id ∧ id < h1.length) h1 [x] (t.length - (rdT sig (t.drop (i + 1)) j).1.length) (t.length - (rdT sig (t.drop (i + 1)) (j + 1)).1.length)) := by
      have hrd := hv.rd
      by_cases hb : (rdT sig (t.drop (i + 1)) j).2 = 0
      · rw [hb] at hrd
        rw [if_pos hb] at hadd
        obtain ⟨x, h1, q1, q2, q3, q4, ⟨s, _, q5, _, q6⟩, q7⟩ := IH _ h (by omega) p2 hrd
        rw [p3, ← hadd] at q2 q7
        exact ⟨x, h1, s, q1, q2, q3, q4, q5, q6, fun e => ⟨hb, q7 e⟩⟩
      · rw [if_neg hb] at hadd
        rw [hadd]
        exact ⟨Lf 0, h, 1, rdA hrd hb, hrd, Nat.le_refl _, fun _ _ _ => rfl, .leaf 0, fun k e => (by cases e), fun e => absurd e hb⟩
    obtain ⟨x, h1, s, s1, s2, s3, s4, s5, s6, s7⟩ := step
    have hXr : X ≠ r := by have := hv.rx; omega
    have hkr : ∀ id, kd = some id → X < id := by
      intro id e
      rcases k3 with ⟨e1, _⟩ | ⟨kid, v, e1, e2, _⟩
      · rw [e1] at e; cases e
      · rw [e1] at e; cases e; exact e2
    have hX1 : h1[X]? = some (XO i n K) := (s4 X hv.xl hXr).trans k1
    have hK1 : KVk X h1 K ks kd := k3.stay fun id e => s4 id (k3b id e) (by have := hkr id e; have := hv.rx; omega)
    have hxk : ∀ k, x = In k → k ≠ X ∧ kd ≠ some k := fun k e => by
      have h1' := s6 k e
      have := hv.xl
      exact ⟨by omega, fun e' => by have := k3b k e'; omega⟩
    obtain ⟨h2, h3, K', kd', e18, e19, g1, g2, g3, g4, g5, g6⟩ := step18 (r := r) (c := c) (ar := ar) (j := j) hX1 hK1 s5 hxk hbd
    have hr3 : h3[r]? = h1[r]? := g4 r (by have := hv.rx; have := hv.xl; omega) (Ne.symm hXr) (fun e => by have := hkr r e; have := hv.rx; omega)
    have hv' : LInv sig t r X i h0 (j + 1) h3 := by
      refine ⟨hv.rx, by have := hv.xl; omega, fun id hid hne => ?_, by rw [hr3]; exact s2, w64 (n + s), K', ks ++ [x], kd', g1, by simp [k2], g2, g6, fun hb => ?_⟩
      · rw [g4 id (by have := hv.xl; omega) (by omega) (fun e => by have := hkr id e; omega), s4 id (by have := hv.xl; omega) hne]
        exact hv.fr id hid hne
      · obtain ⟨hb0, hF⟩ := s7 hb
        obtain ⟨c1, c2⟩ := k4 hb0
        have hsz := s5.inj hF.size
        obtain ⟨p1', p2', _⟩ := qoW9 (sig := sig) (l := t) (k := j + 1) hi
        refine ⟨?_, ?_⟩
        · rw [c1, hsz]
          unfold w64
          rw [IntKind.wrap_i64]
          omega
        · refine Forest.append (c2.mono fun id hid => ?_) (hF.mono fun id hid => ?_)
          · obtain ⟨a1, a2, a3⟩ := hid
            refine ⟨⟨a1, by omega, fun e => ?_⟩, ?_⟩
            · rcases g5 id e with e' | e'
              · exact a3 e'
              · omega
            · rw [g4 id (by omega) (by omega) a3, s4 id a2 (by have := hv.rx; omega)]
          · obtain ⟨a1, a2⟩ := hid
            have hne : kd ≠ some id := fun e => by have := k3b id e; omega
            refine ⟨⟨by have := hv.xl; omega, by omega, fun e => ?_⟩, ?_⟩
            · rcases g5 id e with e' | e'
              · exact hne e'
              · omega
            · rw [g4 id a2 (by have := hv.xl; omega) hne]
    obtain ⟨h', f1, f2⟩ := ih (j + 1) h3 (by omega) hv'
    have hround := round101 hlt s1 e18 e19
    rw [hw] at hround
    exact ⟨h', qmo9 hround f1, f2⟩
theorem rd_ok (hL : t.length < 4611686018427387904) (hA : ∀ s ∈ sig, s.Arity ≤ 1099511627776) : ∀ (n i : Nat) (h : AHeap), i ≤ t.length → t.length - i ≤ n → h[r]? = some (RO sig t i 0) → RdOk sig t r h i := by
  intro n
  induction n with
  | zero =>
    intro i h hi hn ho
    have : i = t.length := by omega
    subst this
    have hlt := (List.getElem?_eq_some_iff.1 ho).1
    have e : rdT sig (t.drop t.length) 1 = ([], 31) := by rw [List.drop_eq_nil_of_le (Nat.le_refl _)]; rfl
    rw [RdOk, e]
    refine ⟨_, _, rdB ho rfl, ?_, by simp, fun id h1 h2 => by rw [List.getElem?_set_ne (Ne.symm h2)], ⟨1, h.length, .leaf 0, Nat.le_refl _, fun k e => by cases e⟩, fun e => by cases e⟩
    rw [List.getElem?_set_self hlt]; rfl
  | succ n ih =>
    intro i h hi hn ho
    have hlt := (List.getElem?_eq_some_iff.1 ho).1
    by_cases hil : i = t.length
    · exact ih i h hi (by omega) ho
    have hit : i < t.length := by omega
    have ha : (i : Int) ≠ (t.length : Int) := by omega
    have hd := List.drop_eq_getElem_cons hit
    have hget : t[i]? = some t[i] := List.getElem?_eq_getElem hit
    have hx : idx t (i : Int) = some t[i] := by unfold idx; rw [if_pos (by omega)]; simp
    have hw : w64 ((i : Int) + 1) = ((i + 1 : Nat) : Int) := by unfold w64; rw [IntKind.wrap_i64]; omega
    by_cases hc : (sig.length : Int) ≤ t[i] ∨ t[i] < -1048576
    · have e : rdT sig (t.drop i) 1 = (t.drop i, 30) := by rw [hd]; simp only [rdT, if_pos hc]
      rw [RdOk, e]
      refine ⟨_, _, rdC ho ha hx hc, ?_, by simp, fun id h1 h2 => by rw [List.getElem?_set_ne (Ne.symm h2)], ⟨1, h.length, .leaf 0, Nat.le_refl _, fun k e => by cases e⟩, fun e => by cases e⟩
      rw [List.getElem?_set_self hlt, List.length_drop, show t.length - (t.length - i) = i by omega]
    by_cases hneg : t[i] < 0
    · have har : arOf sig t[i] = 0 := by unfold arOf; rw [if_neg (by omega)]
      have e : rdT sig (t.drop i) 1 = (t.drop (i + 1), 0) := by
        rw [hd]; simp only [rdT, if_neg hc, har]
        cases t.drop (i + 1) <;> rfl
      rw [RdOk, e]
      have hp : t.length - (t.drop (i + 1)).length = i + 1 := by rw [List.length_drop]; omega
      simp only [hp]
      refine ⟨_, _, rdD ho ha hx hc hneg, ?_, by simp, fun id h1 h2 => by rw [List.getElem?_set_ne (Ne.symm h2)], ⟨1, h.length, .leaf _, Nat.le_refl _, fun k e => by cases e⟩, fun _ => .leaf _ _ _ _ hget hneg (.nil _)⟩
      rw [List.getElem?_set_self hlt, hw]
    · obtain ⟨c, hcn⟩ : ∃ c : Nat, t[i] = (c : Int) := ⟨t[i].toNat, by omega⟩
      have hcs : c < sig.length := by rw [hcn] at hc; omega
      have hs : sig[c]? = some sig[c] := List.getElem?_eq_getElem hcs
      have hf : idx sig t[i] = some sig[c] := by unfold idx; rw [if_pos (by omega), hcn]; simp
      have har : arOf sig t[i] = sig[c].Arity.toNat := by unfold arOf; rw [if_pos (by omega), hcn]; simp [hs]
      have e : rdT sig (t.drop i) 1 = rdT sig (t.drop (i + 1)) sig[c].Arity.toNat := by
        rw [hd]; simp only [rdT, if_neg hc, har, Nat.zero_add]
      have hi1 : i + 1 ≤ t.length := hit
      have hr0 : ((h ++ [XO (i : Int) 1 (.im true [])]).set r (RO sig t (w64 ((i : Int) + 1)) 0))[h.length]? = some (XO (i : Int) 1 (.im true [])) := by
        rw [List.getElem?_set_ne (by omega)]; simp
      have hv0 : LInv sig t r h.length i h 0 ((h ++ [XO (i : Int) 1 (.im true [])]).set r (RO sig t (w64 ((i : Int) + 1)) 0)) := by
        have e0 : rdT sig (t.drop (i + 1)) 0 = (t.drop (i + 1), 0) := by cases t.drop (i + 1) <;> rfl
        have hp : t.length - (t.drop (i + 1)).length = i + 1 := by rw [List.length_drop]; omega
        refine ⟨hlt, by simp, fun id h1 h2 => ?_, ?_, 1, .im true [], [], none, hr0, rfl, .inl ⟨rfl, rfl, rfl⟩, fun id e => (by cases e), fun _ => ?_⟩
        · rw [List.getElem?_set_ne (Ne.symm h2), qgO9 h1]
        · rw [e0, hp, List.getElem?_set_self (by simp; omega), hw]
        · rw [e0, hp]
          exact ⟨by omega, .nil _⟩
      obtain ⟨h', f1, f2⟩ := loop101 (c := t[i]) (ar := sig[c].Arity) hL hi1 (hA _ (List.getElem_mem hcs)) (fun i' h'' h1 h2 h3 => ih i' h'' h2 (by omega) h3) sig[c].Arity.toNat 0 _ (by omega) hv0
      have hE := rdE hlt ho ha hx hc hneg hf (by simpa using f1)
      rw [RdOk, e]
      obtain ⟨n', K, ks, kd, k1, k2, k3, k3b, k4⟩ := f2.ex
      refine ⟨_, _, hE, f2.rd, by have := f2.xl; omega, fun id h1 h2 => f2.fr id h1 h2, ⟨n', h.length, .inner _ _ _ _ k1, Nat.le_refl _, fun k e => by cases e; exact ⟨Nat.le_refl _, f2.xl⟩⟩, fun hb => ?_⟩
      obtain ⟨c1, c2⟩ := k4 hb
      refine .node [] ks i _ _ c h.length sig[c] K (by rw [hget, hcn]) hs ⟨Nat.le_refl _, f2.xl⟩ (by rw [k1, c1]) ?_ k2 (c2.mono fun id hid => ⟨⟨by omega, hid.2.1⟩, rfl⟩) (.nil _)
      rcases k3 with ⟨_, rfl, rfl⟩ | ⟨kid, v, e1, e2, rfl, e4⟩
      · exact .none
      · exact .row kid v ks ⟨by omega, k3b _ e1⟩ e4
abbrev TArgs (sig : List Symbol) (t : List Int) : List PV := [.d (.rd (sig.map qb9)), .d (.rd (t.map intD))]
theorem qoL9 (hL : t.length < 4611686018427387904) (hA : ∀ s ∈ sig, s.Arity ≤ 1099511627776) (h : AHeap) : ∃ x h', Lim C 113 (TArgs sig t) h = some (.tp [x, PI (qo9 sig t)], h') ∧ h.length ≤ h'.length ∧ (∀ id, id < h.length → h'[id]? = h[id]?) ∧
    (∃ s, SizeOk h' x s) ∧ (qo9 sig t = 0 → Forest sig t (fun id => h.length < id ∧ id < h'.length) h' [x] 0 t.length) := by
  have ho : (h ++ [RO sig t 0 0])[h.length]? = some (RO sig t ((0 : Nat) : Int) 0) := by simp
  obtain ⟨x, h1, q1, q2, q3, q4, ⟨s, _, q5, _, q6⟩, q7⟩ := rd_ok (r := h.length) hL hA t.length 0 _ (Nat.zero_le _) (by omega) ho
  have hcall : callP C (Lim C) 132 [.ptr h.length 0 0 0] (h ++ [RO sig t 0 0]) = some (x, h1) := q1
  obtain ⟨p1, p2, p3⟩ := qoW9 (sig := sig) (l := t) (k := 1) (Nat.zero_le t.length)
  rw [List.drop_zero] at *
  have hle : h.length + 1 ≤ h1.length := by simpa using q3
  have hself : ∀ o, (h1.set h.length o)[h.length]? = some o := fun o => List.getElem?_set_self (by omega)
  have hst : ∀ o, SizeOk (h1.set h.length o) x s := fun o => q5.stay fun id ob hob he => by
    have := (q6 id he).1
    rw [List.length_append] at this
    rw [List.getElem?_set_ne (by simp at this; omega)]; exact hob
  by_cases hb : (rdT sig t 1).2 = 0
  · by_cases hn : (rdT sig t 1).1 = []
    · have e : qo9 sig t = 0 := by unfold qo9; simp [hb, hn]
      rw [e]
      have hlen : t.length - (rdT sig t 1).1.length = t.length := by rw [hn]; simp
      rw [hb, hlen] at q2
      have hlt : ((t.length : Int) < (t.length : Int)) = False := eq_false (by omega)
      refine ⟨x, h1, Lim_A is113 (nbA rfl) (env := [(0, .d (.rd (sig.map qb9))), (1, .d (.rd (t.map intD))), (4, x), (5, PI 0), (6, .ptr h.length 0 0 0), (7, x)]) (e := .ret) ?_ (.inr rfl) (vs := [x, PI 0]) rfl, by omega, fun id hid => ?_, ⟨s, q5⟩, fun _ => ?_⟩
      · simp +decide only [c113, qkq9, qkw9, qkt9, qkl9, qkx9, qks9, qM9, go_sem, opNil, hcall, q2, hlt]
      · rw [q4 id (by simp; omega) (by omega), qgO9 hid]
      · have := q7 hb
        rw [hlen] at this
        exact this.mono fun id hid => ⟨⟨by have := hid.1; simp at this; omega, hid.2⟩, rfl⟩
    · have e : qo9 sig t = 32 := by unfold qo9; simp [hb, hn]
      rw [e]
      rw [hb] at q2
      have hlt : (((t.length - (rdT sig t 1).1.length : Nat) : Int) < (t.length : Int)) = True := by
        have h1 : 0 < (rdT sig t 1).1.length := List.length_pos_iff.2 hn
        have h2 : (rdT sig t 1).1.length ≤ t.length := by
          have := congrArg List.length p3
          rw [List.length_drop] at this
          omega
        exact eq_true (by omega)
      refine ⟨x, _, Lim_A is113 (h' := h1.set h.length (RO sig t ((t.length - (rdT sig t 1).1.length : Nat) : Int) 32)) (nbA rfl) (env := [(0, .d (.rd (sig.map qb9))), (1, .d (.rd (t.map intD))), (4, x), (5, PI 32), (6, .ptr h.length 0 0 0), (7, x)]) (e := .ret) ?_ (.inr rfl) (vs := [x, PI 32]) rfl, by simp; omega, fun id hid => ?_, ⟨s, hst _⟩, fun e => by cases e⟩
      · simp +decide only [c113, qkq9, qkw9, qkt9, qkl9, qkx9, qks9, qM9, go_sem, opNil, hcall, q2, hlt, hself]
      · rw [List.getElem?_set_ne (by omega), q4 id (by simp; omega) (by omega), qgO9 hid]
  · have e : qo9 sig t = (rdT sig t 1).2 := by unfold qo9; simp [hb]
    rw [e]
    have hb' := eq_false hb
    refine ⟨x, h1, Lim_A is113 (nbA rfl) (env := [(0, .d (.rd (sig.map qb9))), (1, .d (.rd (t.map intD))), (4, x), (5, PI (rdT sig t 1).2), (6, .ptr h.length 0 0 0), (7, x)]) (e := .ret) ?_ (.inr rfl) (vs := [x, PI (rdT sig t 1).2]) rfl, by omega, fun id hid => ?_, ⟨s, q5⟩, fun e => absurd e hb⟩
    · simp +decide only [c113, qkq9, qkw9, qkt9, qkl9, qkx9, qks9, qM9, go_sem, opNil, hcall, q2, hb']
    · rw [q4 id (by simp; omega) (by omega), qgO9 hid]
theorem qyo9 (hL : t.length < 4611686018427387904) (hA : ∀ s ∈ sig, s.Arity ≤ 1099511627776) (hs : qr9 sig = some 0) (h : AHeap) : ∃ x h', Lim C 91 (TArgs sig t) h = some (.tp [x, PI (qo9 sig t)], h') ∧ h.length ≤ h'.length ∧ (∀ id, id < h.length → h'[id]? = h[id]?) ∧
    (∃ s, SizeOk h' x s) ∧ (qo9 sig t = 0 → Forest sig t (fun id => h.length < id ∧ id < h'.length) h' [x] 0 t.length) := by
  obtain ⟨x, h', q1, q2⟩ := qoL9 hL hA h
  have hcall : callP C (Lim C) 113 (TArgs sig t) h = some (.tp [x, PI (qo9 sig t)], h') := q1
  have hk := (qgs9 hs).k rfl rfl rfl
  simp only [List.map_cons, List.map_nil] at hk
  refine ⟨x, h', Lim_A is91 (nbA rfl) (env := [(0, .d (.rd (sig.map qb9))), (1, .d (.rd (t.map intD))), (4, x), (5, PI (qo9 sig t)), (6, PI 0)]) (e := .ret) ?_ (.inr rfl) (vs := [x, PI (qo9 sig t)]) rfl, q2⟩
  simp +decide only [c91, qoy9, qpP9, qou9, qoM9, qoU9, qM9, go_sem, opNil, hcall, hk]
theorem qxs9 {e : Int} (hs : qr9 sig = some e) (he : e ≠ 0) (h : AHeap) : Lim C 91 (TArgs sig t) h = some (.tp [.d (.v .nilIface), PI e], h) := by
  have hk := (qgs9 hs).k rfl rfl rfl
  simp only [List.map_cons, List.map_nil] at hk
  have he' := eq_false he
  refine Lim_A is91 (nbA rfl) (env := [(0, .d (.rd (sig.map qb9))), (1, .d (.rd (t.map intD))), (4, .d (.v .nilIface)), (5, PI e), (6, PI e)]) (e := .ret) ?_ (.inr rfl) (vs := [.d (.v .nilIface), PI e]) rfl
  simp +decide only [c91, qoy9, qpP9, qou9, qoM9, qoU9, qM9, go_sem, opNil, hk, he']
end

def qrC9 : ACode := .reg [] [] [.K 4 (.mv (cI 0))]
def qrN9 : ACode := .reg [] [] [.M 8 0, .M 9 1, .T 10 (.call 113 [.tmp 8, .tmp 9]), .M 7 10, .T 11 (.ext (.tmp 7) 0), .T 12 (.ext (.tmp 7) 1), .M 5 11, .N 6 12]
def qrB9 : ACode := .reg [] [] [.M 13 6, .N 4 13]
def c119 : ACode := .seq (qrC9) (.seq (qrN9) (.seq (qrB9) (.ret)))
theorem is119 : IsF C 119 14 83 c119 [.tmp 4] := ⟨⟨Tryd.f119, _, C_P ▸ Tryd.func119, rfl, rfl, rfl, by kernel_rfl, rfl⟩⟩
theorem qoK9 {sig : List Symbol} {t : List Int} {r : Int} (hr : qep9 sig t = some r) : ∃ p hp, Lim C 119 (TArgs sig t) [] = some (p, hp) ∧ rsT hp p = some (PI r) := by
  simp only [qep9] at hr
  obtain ⟨hL, hr⟩ := gsome hr
  replace hL := of_eq_true hL
  replace hr := oiA hr
  subst hr
  obtain ⟨x, h', q1, _⟩ := qoL9 hL.1 (fun s hs => by have := List.all_eq_true.1 hL.2 s hs; exact of_decide_eq_true this) []
  have hcall : callP C (Lim C) 113 (TArgs sig t) [] = some (.tp [x, PI (qo9 sig t)], h') := q1
  refine ⟨_, _, Lim_A is119 (h' := h') (nbA rfl) (env := [(0, .d (.rd (sig.map qb9))), (1, .d (.rd (t.map intD))), (4, PI (qo9 sig t)), (6, PI (qo9 sig t))]) (e := .ret) ?_ (.inr rfl) (vs := [PI (qo9 sig t)]) rfl, rfl⟩
  simp +decide only [c119, qrC9, qrN9, qrB9, qM9, go_sem, opNil, hcall]
theorem qjP9 {a0 : List Symbol} {a1 : List Int} {r : Int} (hr : qep9 a0 a1 = some r) {h : AHeap} : callP C (Lim C) 119 (TArgs a0 a1) h = some (PI r, h) := qko9 (ds := [.rd (a0.map qb9), .rd (a1.map intD)]) rfl rfl rfl (qoK9 hr) h

def qmM9 : ACode := .seq (.reg [] [] [.K 13 (.bin .lss (.tmp 12) (.tmp 11))]) (.seq (.cond (.tmp 13) (some 13) (.skip) (.exit 0)) (.seq (.block 1 268444000 (.seq (.reg [] [] [.M 14 12, .T 15 (.ix 1 (.tmp 10) (.tmp 12)), .T 16 (.load none (.tmp 15)), .N 5 14, .N 6 16]) (.seq (.reg [] [] [.M 18 3, .M 19 6, .T 20 (.look (Go.TypeDesc.int .i64) (.d (.v (.int .i64 0))) (.tmp 18) (.tmp 19) true), .M 17 20, .T 21 (.ext (.tmp 17) 0), .T 22 (.ext (.tmp 17) 1), .M 7 21, .N 8 22]) (.seq (.reg [] [] [.M 23 6, .T 24 (.bin .lss (.tmp 23) (cI 0)), .M 25 24, .MG 26 25 true 8, .TG 27 25 true (.not (.tmp 26)), .K 28 (.pick (.tmp 25) (.tmp 27) (.const (.bool false)))]) (.cond (.tmp 28) (some 28) (.seq (.reg [] [] [.M 29 3, .M 30 6, .M 31 5, ⟨none, .mput (Go.TypeDesc.int .i64) (.tmp 29) (.tmp 30) (.tmp 31), none, false, false⟩]) (.reg [] [] [.M 32 4, .M 33 6, .T 34 (.bin .sub (cI (-1)) (.tmp 33)), .T 35 (.lit 1 [(0, .tmp 34)]), .T 36 (.app 1 8 (.tmp 32) (.tmp 35)), .N 4 36])) (.skip)))))) (.reg [] [] [.T 37 (.bin .add (.tmp 12) (cI 1)), .N 12 37])))
def c120 : ACode := .seq (.reg [] [(2, 0)] [.K 2 (.mv (.const (.slice none 0 0)))]) (.seq (.reg [] [] [.T 9 (.mkMap), .N 3 9]) (.seq (.reg [] [(4, 1)] [.K 4 (.mv (.const (.slice none 0 0)))]) (.seq (.seq (.reg [] [] [.N 10 0, .K 11 (.len (.tmp 10)), .K 12 (.mv (cI 0))]) (.block 0 268444000 (.loop qmM9))) (.seq (.reg [] [(2, 0)] [.M 38 4, .N 2 38]) (.ret)))))
theorem is120 : IsF C 120 39 268451197 c120 [.tmp 2] := ⟨⟨Tryd.f120, _, C_P ▸ Tryd.func120, rfl, rfl, rfl, by kernel_rfl, rfl⟩⟩
def qgE9 (s0 : List Int) (s2 : List Int) (s10 : List Int) (s11 : Int) : Int × (List (Int × Int)) × (List Int) → Nat → St := fun (s12, m3, o4) v4 => ⟨[(0, .d (.rd (s0.map intD))), (2, .d (.rd (s2.map intD))), (3, .mp 0), (4, .ref 1 v4 0 o4.length), (10, .d (.rd (s10.map intD))), (11, PI s11), (12, PI s12)], (.map (mapP keyI intD m3) :: (.row false v4 1 (rowP intD o4) :: []))⟩
def qoZ9 (s0 : List Int) (s2 : List Int) (s10 : List Int) (s11 : Int) : (Int × (List (Int × Int)) × (List Int)) → AExit × St → Prop := fun (s12, m3, o4) q => ∃ g, q = (.exit 0, qgE9 s0 s2 s10 s11 (s12, m3, o4) g)
set_option maxHeartbeats 60000000 in
theorem qpy9 {s0 : List Int} {s2 : List Int} {s10 : List Int} {s11 : Int} : Sim C 268451197 qmM9 (qbP9 s0 s2 s10 s11) (qgE9 s0 s2 s10 s11) (qoZ9 s0 s2 s10 s11) := by
  intro s g r hr
  obtain ⟨s12, m3, o4⟩ := s
  have ⟨v4, hg0⟩ : ∃ y, y = g := ⟨_, rfl⟩
  subst hg0
  simp only [qbP9] at hr
  rcases iteP hr with ⟨h1, hr⟩ | ⟨h1, hr⟩
  obtain ⟨x1, h2, hr⟩ := bsome hr
  rcases h3 : mget m3 x1 with _ | x2
  simp only [h3] at hr
  rcases iteP hr with ⟨h4, hr⟩ | ⟨h4, hr⟩
  obtain ⟨h5, hr⟩ := gsome hr
  obtain rfl := oiA hr
  refine ⟨(v4 + 1), ?_⟩
  rotate_left
  obtain rfl := oiA hr
  refine ⟨v4, ?_⟩
  rotate_left
  simp only [h3] at hr
  rcases iteP hr with ⟨h6, hr⟩ | ⟨h6, hr⟩
  obtain rfl := oiA hr
  refine ⟨v4, ?_⟩
  rotate_left
  obtain rfl := oiA hr
  refine ⟨v4, ?_⟩
  rotate_left
  obtain rfl := oiA hr
  refine xe_of ⟨v4, rfl⟩ ?_
  rotate_left
  all_goals (simp +decide only [go_sem, qgE9, qmM9, *])
set_option maxHeartbeats 60000000 in
theorem qkR9 {a0 : List Int} {r : (List Int)} (hr : qgn9 a0 = some r) : Res C 120 [.rd (a0.map intD)] (.d (.rd (r.map intD))) := by
  simp only [qgn9] at hr
  obtain ⟨x3, h1, hr⟩ := bsome hr
  obtain ⟨q1, h1L, h1X⟩ := qpy9.L (g := 0) h1
  obtain ⟨x4, x5, x6⟩ := x3
  try dsimp only at hr
  obtain ⟨z7, rfl⟩ := h1X
  simp only [qgE9, go_sem] at h1L
  obtain rfl := oiA hr
  refine run_V is120 (nbA rfl) ?_
  rotate_left
  all_goals (simp +decide only [go_sem, c120, *])
def qmE9 : ACode := .seq (.reg [] [] [.K 9 (.bin .lss (.tmp 8) (.tmp 7))]) (.seq (.cond (.tmp 9) (some 9) (.skip) (.exit 0)) (.seq (.block 1 66080 (.seq (.reg [] [] [.M 10 8, .N 5 10]) (.seq (.reg [] [] [.M 11 1, .M 12 0, .M 13 5, .T 14 (.ix 1 (.tmp 12) (.tmp 13)), .T 15 (.load none (.tmp 14)), .K 16 (.bin .eql (.tmp 11) (.tmp 15))]) (.cond (.tmp 16) (some 16) (.seq (.reg [] [] [.M 17 5, .N 4 17]) (.ret)) (.skip))))) (.reg [] [] [.T 18 (.bin .add (.tmp 8) (cI 1)), .N 8 18])))
def c135 : ACode := .seq (.reg [] [] [.K 4 (.mv (cI 0))]) (.seq (.seq (.reg [] [] [.M 6 0, .K 7 (.len (.tmp 6)), .K 8 (.mv (cI 0))]) (.block 0 66080 (.loop qmE9))) (.seq (.reg [] [] [.K 4 (.mv (cI (-1)))]) (.ret)))
theorem is135 : IsF C 135 19 66483 c135 [.tmp 4] := ⟨⟨Tryd.f135, _, C_P ▸ Tryd.func135, rfl, rfl, rfl, by kernel_rfl, rfl⟩⟩
def qbK9 (s0 : List Int) (s1 : Int) (s7 : Int) : Int → Unit → St := fun s8 _ => ⟨[(0, .d (.rd (s0.map intD))), (1, PI s1), (4, PI 0), (7, PI s7), (8, PI s8)], []⟩
def qhP9 (s0 : List Int) (s1 : Int) (s7 : Int) : (Int ⊕ Int) → AExit × St → Prop
  | .inl r, q => XV C [.tmp 4] (PI r) q
  | .inr s8, q => ∃ g, q = (.exit 0, qbK9 s0 s1 s7 s8 g)
set_option maxHeartbeats 60000000 in
theorem qhI9 {s0 : List Int} {s1 : Int} {s7 : Int} : Sim C 66483 qmE9 (qbo9 s0 s1 s7) (qbK9 s0 s1 s7) (qhP9 s0 s1 s7) := by
  intro s g r hr
  have ⟨s8, hs0⟩ : ∃ y, y = s := ⟨_, rfl⟩
  subst hs0
  simp only [qbo9] at hr
  rcases iteP hr with ⟨h1, hr⟩ | ⟨h1, hr⟩
  obtain ⟨x1, h2, hr⟩ := bsome hr
  rcases iteP hr with ⟨h3, hr⟩ | ⟨h3, hr⟩
  obtain rfl := oiA hr
  refine xv_of ?_
  rotate_left
  obtain rfl := oiA hr
  refine ⟨(), ?_⟩
  rotate_left
  obtain rfl := oiA hr
  refine xe_of ⟨(), rfl⟩ ?_
  rotate_left
  all_goals (simp +decide only [go_sem, qbK9, qmE9, *])
set_option maxHeartbeats 60000000 in
theorem qim9 {a0 : List Int} {a1 : Int} {r : Int} (hr : qcO9 a0 a1 = some r) : Res C 135 [.rd (a0.map intD), .v (.int .i64 a1)] (PI r) := by
  simp only [qcO9] at hr
  obtain ⟨x2, h1, hr⟩ := bsome hr
  obtain ⟨q1, h1L, h1X⟩ := qhI9.L (g := ()) h1
  rcases x2 with x3 | x4
  try dsimp only at hr
  obtain ⟨st1, rfl, h1R⟩ := h1X
  simp only [qbK9, go_sem] at h1L
  obtain rfl := oiA hr
  refine run_V is135 (nbA rfl) ?_
  rotate_left
  try dsimp only at hr
  obtain ⟨⟨⟩, rfl⟩ := h1X
  simp only [qbK9, go_sem] at h1L
  obtain rfl := oiA hr
  refine run_V is135 (nbA rfl) ?_
  rotate_left
  all_goals (simp +decide only [go_sem, c135, *])
def c121 : ACode := .seq (.reg [] [] [.K 4 (.mv (.const (.bool false)))]) (.seq (.reg [] [] [.M 5 0, .M 6 1, .T 7 (.call 135 [.tmp 5, .tmp 6]), .T 8 (.bin .geq (.tmp 7) (cI 0)), .N 4 8]) (.ret))
theorem is121 : IsF C 121 9 19 c121 [.tmp 4] := ⟨⟨Tryd.f121, _, C_P ▸ Tryd.func121, rfl, rfl, rfl, by kernel_rfl, rfl⟩⟩
set_option maxHeartbeats 60000000 in
theorem qhr9 {a0 : List Int} {a1 : Int} {r : Bool} (hr : qbL9 a0 a1 = some r) : Res C 121 [.rd (a0.map intD), .v (.int .i64 a1)] (PB r) := by
  simp only [qbL9] at hr
  obtain ⟨x1, h1, hr⟩ := bsome hr
  have h1k := (qim9 h1).k rfl rfl rfl
  try simp only [go_sem] at h1k
  obtain rfl := oiA hr
  refine run_V is121 (nbA rfl) ?_
  rotate_left
  all_goals (simp +decide only [go_sem, c121, *])
def qml9 : ACode := .seq (.reg [] [] [.K 47 (.bin .lss (.tmp 46) (.tmp 45))]) (.seq (.cond (.tmp 47) (some 47) (.skip) (.exit 1)) (.seq (.block 2 9147936743096832 (.seq (.reg [] [] [.T 48 (.ix 1 (.tmp 44) (.tmp 46)), .T 49 (.load none (.tmp 48)), .N 9 49]) (.seq (.reg [] [] [.M 50 7, .M 51 9, .T 52 (.call 121 [.tmp 50, .tmp 51]), .K 53 (.not (.tmp 52))]) (.cond (.tmp 53) (some 53) (.seq (.reg [] [] [.K 4 (.mv (cI 72))]) (.ret)) (.skip))))) (.reg [] [] [.T 54 (.bin .add (.tmp 46) (cI 1)), .N 46 54])))
def c101 : ACode := .seq (.reg [] [] [.K 3 (.box (.tmp 1)), .K 4 (.mv (cI 0))]) (.seq (.seq (.reg [] [] [.M 10 0, .T 11 (.fa 0 (.tmp 3)), .T 12 (.load none (.tmp 11)), .T 13 (.call 119 [.tmp 10, .tmp 12]), .N 5 13]) (.seq (.reg [] [] [.M 14 5, .K 15 (.bin .neq (.tmp 14) (cI 0))]) (.cond (.tmp 15) (some 15) (.seq (.reg [] [] [.M 16 5, .N 4 16]) (.ret)) (.skip)))) (.seq (.seq (.reg [] [] [.M 17 0, .T 18 (.fa 1 (.tmp 3)), .T 19 (.load none (.tmp 18)), .T 20 (.call 119 [.tmp 17, .tmp 19]), .N 6 20]) (.seq (.reg [] [] [.M 21 6, .K 22 (.bin .neq (.tmp 21) (cI 0))]) (.cond (.tmp 22) (some 22) (.seq (.reg [] [] [.M 23 6, .N 4 23]) (.ret)) (.skip)))) (.seq (.block 0 8606711808 (.seq (.reg [] [] [.T 25 (.fa 0 (.tmp 3)), .T 26 (.load none (.tmp 25)), .T 27 (.len (.tmp 26)), .T 28 (.fa 1 (.tmp 3)), .T 29 (.load none (.tmp 28)), .T 30 (.len (.tmp 29)), .T 31 (.raw ({ dst := some 31, op := Go.Op.call { callee := Go.Callee.builtin Go.Builtin.max, args := #[.tmp 27, .tmp 30], argTypes := #[3, 3] }, type := 3, pos := "system.go:37", after := #[{ on := 2, ground := Go.Ground.data }, { on := 5, ground := Go.Ground.data }], guard := none })), .T 32 (.bin .gtr (.tmp 31) (cI 512)), .N 24 32]) (.cond (.tmp 24) (some 24) (.seq (.reg [] [] [.K 4 (.mv (cI 2))]) (.ret)) (.seq (.reg [] [] [.T 34 (.fa 0 (.tmp 3)), .T 35 (.load none (.tmp 34)), .T 36 (.ix 1 (.tmp 35) (cI 0)), .T 37 (.load none (.tmp 36)), .T 38 (.bin .lss (.tmp 37) (cI 0)), .N 33 38]) (.cond (.tmp 33) (some 33) (.seq (.reg [] [] [.K 4 (.mv (cI 71))]) (.ret)) (.skip)))))) (.seq (.reg [] [] [.T 39 (.fa 0 (.tmp 3)), .T 40 (.load none (.tmp 39)), .T 41 (.call 120 [.tmp 40]), .N 7 41]) (.seq (.seq (.reg [] [] [.T 42 (.fa 1 (.tmp 3)), .T 43 (.load none (.tmp 42)), .K 44 (.call 120 [.tmp 43]), .K 45 (.len (.tmp 44)), .K 46 (.mv (cI 0))]) (.block 1 9147936743096832 (.loop qml9))) (.seq (.reg [] [] [.K 4 (.mv (cI 0))]) (.ret)))))))
theorem is101 : IsF C 101 55 9271090656346875 c101 [.tmp 4] := ⟨⟨Tryd.f101, _, C_P ▸ Tryd.func101, rfl, rfl, rfl, by kernel_rfl, rfl⟩⟩
def qeg9 (s0 : List Symbol) (s1 : Rule) (s5 : Int) (s6 : Int) (s7 : List Int) (s44 : List Int) (s45 : Int) (b3_0 : List Int) (b3_1 : List Int) : Int → Unit → St := fun s46 _ => ⟨[(0, .d (.rd (s0.map qb9))), (1, .d (.ag (qd9 s1))), (3, .ptr 0 0 0 0), (4, PI 0), (5, PI s5), (6, PI s6), (7, .d (.rd (s7.map intD))), (44, .d (.rd (s44.map intD))), (45, PI s45), (46, PI s46)], (.row false 0 2 [[.d (.rd (b3_0.map intD)), .d (.rd (b3_1.map intD))]] :: [])⟩
def qmK9 (s0 : List Symbol) (s1 : Rule) (s5 : Int) (s6 : Int) (s7 : List Int) (s44 : List Int) (s45 : Int) (b3_0 : List Int) (b3_1 : List Int) : (Int ⊕ Int) → AExit × St → Prop
  | .inl r, q => XV C [.tmp 4] (PI r) q
  | .inr s46, q => ∃ g, q = (.exit 1, qeg9 s0 s1 s5 s6 s7 s44 s45 b3_0 b3_1 s46 g)
set_option maxHeartbeats 60000000 in
theorem qmR9 {s0 : List Symbol} {s1 : Rule} {s5 : Int} {s6 : Int} {s7 : List Int} {s44 : List Int} {s45 : Int} {b3_0 : List Int} {b3_1 : List Int} : Sim C 9271090656346875 qml9 (qbT9 s0 s1 s5 s6 s7 s44 s45 b3_0 b3_1) (qeg9 s0 s1 s5 s6 s7 s44 s45 b3_0 b3_1) (qmK9 s0 s1 s5 s6 s7 s44 s45 b3_0 b3_1) := by
  intro s g r hr
  have ⟨s46, hs0⟩ : ∃ y, y = s := ⟨_, rfl⟩
  subst hs0
  simp only [qbT9] at hr
  rcases iteP hr with ⟨h1, hr⟩ | ⟨h1, hr⟩
  obtain ⟨x6, h2, x7, h3, hr⟩ := bs2 hr
  have h3k := (qhr9 h3).k rfl rfl rfl
  try simp only [go_sem] at h3k
  rcases iteB hr with ⟨h4, hr⟩ | ⟨h4, hr⟩
  obtain rfl := oiA hr
  refine ⟨(), ?_⟩
  rotate_left
  obtain rfl := oiA hr
  refine xv_of ?_
  rotate_left
  obtain rfl := oiA hr
  refine xe_of ⟨(), rfl⟩ ?_
  rotate_left
  all_goals (simp +decide only [go_sem, qeg9, qml9, *])
set_option maxHeartbeats 60000000 in
theorem qnT9 {a0 : List Symbol} {a1 : Rule} {r : Int} (hr : qR9 a0 a1 = some r) : Res C 101 [.rd (a0.map qb9), .ag (qd9 a1)] (PI r) := by
  simp only [qR9] at hr
  obtain ⟨x1, h1, hr⟩ := bsome hr
  have h1k := fun h => qjP9 (h := h) h1
  try simp only [go_sem] at h1k
  rcases iteP hr with ⟨h2, hr⟩ | ⟨h2, hr⟩
  obtain ⟨x2, h3, hr⟩ := bsome hr
  have h3k := fun h => qjP9 (h := h) h3
  try simp only [go_sem] at h3k
  rcases iteP hr with ⟨h4, hr⟩ | ⟨h4, hr⟩
  rcases iteP hr with ⟨h5, hr⟩ | ⟨h5, hr⟩
  obtain rfl := oiA hr
  refine run_V is101 (nbA rfl) ?_
  rotate_left
  obtain ⟨x3, h6, hr⟩ := bsome hr
  rcases iteP hr with ⟨h7, hr⟩ | ⟨h7, hr⟩
  obtain rfl := oiA hr
  refine run_V is101 (nbA rfl) ?_
  rotate_left
  obtain ⟨x4, h8, x5, h9, hr⟩ := bs2 hr
  have h8k := (qkR9 h8).k rfl rfl rfl
  try simp only [go_sem] at h8k
  have h9k := (qkR9 h9).k rfl rfl rfl
  try simp only [go_sem] at h9k
  obtain ⟨x8, h10, hr⟩ := bsome hr
  obtain ⟨q10, h10L, h10X⟩ := qmR9.L (g := ()) h10
  rcases x8 with x9 | x10
  try dsimp only at hr
  obtain ⟨st10, rfl, h10R⟩ := h10X
  simp only [qeg9, go_sem] at h10L
  obtain rfl := oiA hr
  refine run_V is101 (nbA rfl) ?_
  rotate_left
  try dsimp only at hr
  obtain ⟨⟨⟩, rfl⟩ := h10X
  simp only [qeg9, go_sem] at h10L
  obtain rfl := oiA hr
  refine run_V is101 (nbA rfl) ?_
  rotate_left
  obtain rfl := oiA hr
  refine run_V is101 (nbA rfl) ?_
  rotate_left
  obtain rfl := oiA hr
  refine run_V is101 (nbA rfl) ?_
  rotate_left
  all_goals (simp +decide only [go_sem, c101, *])
def qqe9 : ACode := .seq (.reg [] [] [.K 22 (.bin .lss (.tmp 21) (.tmp 20))]) (.seq (.cond (.tmp 22) (some 22) (.skip) (.exit 0)) (.seq (.block 1 2151678176 (.seq (.reg [] [] [.M 23 21, .T 24 (.ix 2 (.tmp 19) (.tmp 21)), .T 25 (.load (some 2) (.tmp 24)), .K 6 (.alloc [.im true [], .im true []] 2), .N 5 23, ⟨none, .store 2 (.tmp 6) (.tmp 25), none, false, false⟩]) (.seq (.reg [] [] [.T 26 (.fa 0 (.tmp 1)), .T 27 (.load none (.tmp 26)), .T 28 (.load (some 2) (.tmp 6)), .T 29 (.call 101 [.tmp 27, .tmp 28]), .N 7 29]) (.seq (.reg [] [] [.M 30 7, .K 31 (.bin .neq (.tmp 30) (cI 0))]) (.cond (.tmp 31) (some 31) (.seq (.reg [] [] [.M 32 7, .M 33 5, .N 2 32, .N 3 33]) (.ret)) (.skip)))))) (.reg [] [] [.T 34 (.bin .add (.tmp 21) (cI 1)), .N 21 34])))
def c77 : ACode := .seq (.reg [] [] [.K 1 (.box (.tmp 0)), .K 2 (.mv (cI 0)), .K 3 (.mv (cI 0))]) (.seq (.seq (.reg [] [] [.T 8 (.fa 0 (.tmp 1)), .T 9 (.load none (.tmp 8)), .T 10 (.call 100 [.tmp 9]), .N 4 10]) (.seq (.reg [] [] [.M 11 4, .K 12 (.bin .neq (.tmp 11) (cI 0))]) (.cond (.tmp 12) (some 12) (.seq (.reg [] [] [.M 13 4, .N 2 13, .K 3 (.mv (cI (-1)))]) (.ret)) (.skip)))) (.seq (.seq (.reg [] [] [.T 14 (.fa 1 (.tmp 1)), .T 15 (.load none (.tmp 14)), .T 16 (.len (.tmp 15)), .K 17 (.bin .gtr (.tmp 16) (cI 64))]) (.cond (.tmp 17) (some 17) (.seq (.reg [] [] [.K 2 (.mv (cI 70)), .K 3 (.mv (cI (-1)))]) (.ret)) (.skip))) (.seq (.seq (.reg [] [] [.T 18 (.fa 1 (.tmp 1)), .K 19 (.load none (.tmp 18)), .K 20 (.len (.tmp 19)), .K 21 (.mv (cI 0))]) (.block 0 2151678176 (.loop qqe9))) (.seq (.reg [] [] [.K 2 (.mv (cI 0)), .K 3 (.mv (cI 0))]) (.ret)))))
theorem is77 : IsF C 77 35 2155483391 c77 [.tmp 2, .tmp 3] := ⟨⟨Tryd.f77, _, C_P ▸ Tryd.func77, rfl, rfl, rfl, by kernel_rfl, rfl⟩⟩
def qdP9 (s0 : System) (s4 : Int) (s19 : List Rule) (s20 : Int) (b1_0 : List Symbol) (b1_1 : List Rule) : Int → AHeap → St := fun s21 gt => ⟨[(0, .d (.ag (qg9 s0))), (1, .ptr 0 0 0 0), (2, PI 0), (3, PI 0), (4, PI s4), (19, .d (.rd (s19.map qd9))), (20, PI s20), (21, PI s21)], (.row false 0 2 [[.d (.rd (b1_0.map qb9)), .d (.rd (b1_1.map qd9))]] :: gt)⟩
def qlz9 (s0 : System) (s4 : Int) (s19 : List Rule) (s20 : Int) (b1_0 : List Symbol) (b1_1 : List Rule) : ((Int × Int) ⊕ Int) → AExit × St → Prop
  | .inl r, q => XV C [.tmp 2, .tmp 3] (.tp [PI r.1, PI r.2]) q
  | .inr s21, q => ∃ g, q = (.exit 0, qdP9 s0 s4 s19 s20 b1_0 b1_1 s21 g)
set_option maxHeartbeats 60000000 in
theorem qlH9 {s0 : System} {s4 : Int} {s19 : List Rule} {s20 : Int} {b1_0 : List Symbol} {b1_1 : List Rule} : Sim C 2155483391 qqe9 (qbM9 s0 s4 s19 s20 b1_0 b1_1) (qdP9 s0 s4 s19 s20 b1_0 b1_1) (qlz9 s0 s4 s19 s20 b1_0 b1_1) := by
  intro s g r hr
  have ⟨s21, hs0⟩ : ∃ y, y = s := ⟨_, rfl⟩
  subst hs0
  have ⟨gt, hg0⟩ : ∃ y, y = g := ⟨_, rfl⟩
  subst hg0
  simp only [qbM9] at hr
  rcases iteP hr with ⟨h1, hr⟩ | ⟨h1, hr⟩
  obtain ⟨x2, h2, x3, h3, hr⟩ := bs2 hr
  have h3k := fun h => (qnT9 h3).o rfl rfl rfl (h := h) (args := [.d (.rd (b1_0.map qb9)), .ag [.d (.rd (x2.L.map intD)), .d (.rd (x2.R.map intD))]]) rfl
  try simp only [go_sem] at h3k
  rcases iteP hr with ⟨h4, hr⟩ | ⟨h4, hr⟩
  obtain rfl := oiA hr
  refine ⟨(gt ++ (.row false 0 2 [[.d (.rd (x2.L.map intD)), .d (.rd (x2.R.map intD))]] :: [])), ?_⟩
  rotate_left
  obtain rfl := oiA hr
  refine xv_of ?_
  rotate_left
  obtain rfl := oiA hr
  refine xe_of ⟨gt, rfl⟩ ?_
  rotate_left
  all_goals (simp +decide only [go_sem, qdP9, qqe9, *])
set_option maxHeartbeats 60000000 in
theorem qje9 {a0 : System} {r : Int × Int} (hr : qcW9 a0 = some r) : Res C 77 [.ag (qg9 a0)] (.tp [PI r.1, PI r.2]) := by
  simp only [qcW9] at hr
  obtain ⟨x1, h1, hr⟩ := bsome hr
  have h1k := (qna9 h1).k rfl rfl rfl
  try simp only [go_sem] at h1k
  rcases iteP hr with ⟨h2, hr⟩ | ⟨h2, hr⟩
  rcases iteP hr with ⟨h3, hr⟩ | ⟨h3, hr⟩
  obtain rfl := oiA hr
  refine run_V is77 (nbA rfl) ?_
  rotate_left
  obtain ⟨x4, h4, hr⟩ := bsome hr
  obtain ⟨q4, h4L, h4X⟩ := qlH9.L (g := []) h4
  rcases x4 with x5 | x6
  try dsimp only at hr
  obtain ⟨st4, rfl, h4R⟩ := h4X
  simp only [qdP9, go_sem] at h4L
  obtain rfl := oiA hr
  refine run_V is77 (nbA rfl) ?_
  rotate_left
  try dsimp only at hr
  obtain ⟨z7, rfl⟩ := h4X
  simp only [qdP9, go_sem] at h4L
  obtain rfl := oiA hr
  refine run_V is77 (nbA rfl) ?_
  rotate_left
  obtain rfl := oiA hr
  refine run_V is77 (nbA rfl) ?_
  rotate_left
  all_goals (simp +decide only [go_sem, c77, *])
def qoB9 : ACode := .reg [] [] [.K 4 (.mv (cI 0))]
def qpH9 : ACode := .reg [] [] [.M 8 0, .M 9 1, .T 10 (.call 91 [.tmp 8, .tmp 9]), .M 7 10, .T 11 (.ext (.tmp 7) 0), .T 12 (.ext (.tmp 7) 1), .M 5 11, .N 6 12]
def qop9 : ACode := .reg [] [] [.M 13 6, .N 4 13]
def c62 : ACode := .seq (qoB9) (.seq (qpH9) (.seq (qop9) (.ret)))
theorem is62 : IsF C 62 14 83 c62 [.tmp 4] := ⟨⟨Tryd.f62, _, C_P ▸ Tryd.func62, rfl, rfl, rfl, by kernel_rfl, rfl⟩⟩
theorem qoC9 {sig : List Symbol} {t : List Int} {r : Int} (hr : qbJ9 sig t = some r) : ∃ p hp, Lim C 62 (TArgs sig t) [] = some (p, hp) ∧ rsT hp p = some (PI r) := by
  simp only [qbJ9] at hr
  obtain ⟨e, he, hr⟩ := bsome hr
  by_cases h0 : e = 0
  · subst h0
    simp only [if_true] at hr
    obtain ⟨hL, hr⟩ := gsome hr
    replace hr := oiA hr
    subst hr
    obtain ⟨x, h', q1, _⟩ := qyo9 (of_eq_true hL) (fun s hs => by have := qdv9 he s hs; omega) he []
    have hcall : callP C (Lim C) 91 (TArgs sig t) [] = some (.tp [x, PI (qo9 sig t)], h') := q1
    refine ⟨_, _, Lim_A is62 (h' := h') (nbA rfl) (env := [(0, .d (.rd (sig.map qb9))), (1, .d (.rd (t.map intD))), (4, PI (qo9 sig t)), (6, PI (qo9 sig t))]) (e := .ret) ?_ (.inr rfl) (vs := [PI (qo9 sig t)]) rfl, rfl⟩
    simp +decide only [c62, qoB9, qpH9, qop9, qM9, go_sem, opNil, hcall]
  · rw [if_neg h0] at hr
    replace hr := oiA hr
    subst hr
    have hcall : callP C (Lim C) 91 (TArgs sig t) [] = some (.tp [.d (.v .nilIface), PI e], []) := qxs9 he h0 []
    refine ⟨_, _, Lim_A is62 (h' := []) (nbA rfl) (env := [(0, .d (.rd (sig.map qb9))), (1, .d (.rd (t.map intD))), (4, PI e), (6, PI e)]) (e := .ret) ?_ (.inr rfl) (vs := [PI e]) rfl, rfl⟩
    simp +decide only [c62, qoB9, qpH9, qop9, qM9, go_sem, opNil, hcall]
theorem qgu9 {a0 : List Symbol} {a1 : List Int} {r : Int} (hr : qbJ9 a0 a1 = some r) {h : AHeap} : callP C (Lim C) 62 (TArgs a0 a1) h = some (PI r, h) := qko9 (ds := [.rd (a0.map qb9), .rd (a1.map intD)]) rfl rfl rfl (qoC9 hr) h

def c57 : ACode := .seq (.reg [] [] [.K 2 (.box (.tmp 0)), .K 4 (.mv (cI 0))]) (.seq (.seq (.reg [] [] [.T 8 (.load (some 2) (.tmp 2)), .T 9 (.call 77 [.tmp 8]), .M 7 9, .T 10 (.ext (.tmp 7) 0), .T 11 (.ext (.tmp 7) 1), .N 5 10, .M 6 11]) (.seq (.reg [] [] [.M 12 5, .K 13 (.bin .neq (.tmp 12) (cI 0))]) (.cond (.tmp 13) (some 13) (.seq (.reg [] [] [.M 14 5, .N 4 14]) (.ret)) (.skip)))) (.seq (.reg [] [] [.T 15 (.fa 0 (.tmp 2)), .T 16 (.load none (.tmp 15)), .M 17 1, .T 18 (.call 62 [.tmp 16, .tmp 17]), .N 4 18]) (.ret)))
theorem is57 : IsF C 57 19 8247 c57 [.tmp 4] := ⟨⟨Tryd.f57, _, C_P ▸ Tryd.func57, rfl, rfl, rfl, by kernel_rfl, rfl⟩⟩
set_option maxHeartbeats 60000000 in
theorem qma9 {a0 : System} {a1 : List Int} {r : Int} (hr : qib9 a0 a1 = some r) : Res C 57 [.ag (qg9 a0), .rd (a1.map intD)] (PI r) := by
  simp only [qib9] at hr
  obtain ⟨x1, h1, hr⟩ := bsome hr
  have h1k := fun h => (qje9 h1).o rfl rfl rfl (h := h) (args := [.ag [.d (.rd (a0.Sig.map qb9)), .d (.rd (a0.Rules.map qd9))]]) rfl
  try simp only [go_sem] at h1k
  rcases iteP hr with ⟨h2, hr⟩ | ⟨h2, hr⟩
  obtain ⟨x2, h3, hr⟩ := bsome hr
  have h3k := fun h => qgu9 (h := h) h3
  try simp only [go_sem] at h3k
  obtain rfl := oiA hr
  refine run_V is57 (nbA rfl) ?_
  rotate_left
  obtain rfl := oiA hr
  refine run_V is57 (nbA rfl) ?_
  rotate_left
  all_goals (simp +decide only [go_sem, c57, *])
def c42 : ACode := .seq (.reg [] [] [.K 2 (.box (.tmp 0)), .K 4 (.mv (cI 0))]) (.seq (.seq (.reg [] [] [.T 8 (.load (some 2) (.tmp 2)), .T 9 (.call 77 [.tmp 8]), .M 7 9, .T 10 (.ext (.tmp 7) 0), .T 11 (.ext (.tmp 7) 1), .N 5 10, .M 6 11]) (.seq (.reg [] [] [.M 12 5, .K 13 (.bin .neq (.tmp 12) (cI 0))]) (.cond (.tmp 13) (some 13) (.seq (.reg [] [] [.M 14 5, .N 4 14]) (.ret)) (.skip)))) (.seq (.reg [] [] [.T 15 (.fa 0 (.tmp 2)), .T 16 (.load none (.tmp 15)), .M 17 1, .T 18 (.call 62 [.tmp 16, .tmp 17]), .N 4 18]) (.ret)))
theorem is42 : IsF C 42 19 8247 c42 [.tmp 4] := ⟨⟨Tryd.f42, _, C_P ▸ Tryd.func42, rfl, rfl, rfl, by kernel_rfl, rfl⟩⟩
set_option maxHeartbeats 60000000 in
theorem qjV9 {a0 : System} {a1 : List Int} {r : Int} (hr : qfc9 a0 a1 = some r) : Res C 42 [.ag (qg9 a0), .rd (a1.map intD)] (PI r) := by
  simp only [qfc9] at hr
  obtain ⟨x1, h1, hr⟩ := bsome hr
  have h1k := fun h => (qje9 h1).o rfl rfl rfl (h := h) (args := [.ag [.d (.rd (a0.Sig.map qb9)), .d (.rd (a0.Rules.map qd9))]]) rfl
  try simp only [go_sem] at h1k
  rcases iteP hr with ⟨h2, hr⟩ | ⟨h2, hr⟩
  obtain ⟨x2, h3, hr⟩ := bsome hr
  have h3k := fun h => qgu9 (h := h) h3
  try simp only [go_sem] at h3k
  obtain rfl := oiA hr
  refine run_V is42 (nbA rfl) ?_
  rotate_left
  obtain rfl := oiA hr
  refine run_V is42 (nbA rfl) ?_
  rotate_left
  all_goals (simp +decide only [go_sem, c42, *])
def c80 : ACode := .seq (.reg [] [(2, 0)] [.K 2 (.mv (.const Go.Value.nilIface))]) (.seq (.seq (.reg [] [] [.M 3 0, .K 4 (.bin .lss (.tmp 3) (cI 0))]) (.cond (.tmp 4) (some 4) (.seq (.reg [] [(2, 0)] [.M 5 0, .T 6 (.bin .sub (cI (-1)) (.tmp 5)), .T 7 (.mkI 130 (.tmp 6)), .N 2 7]) (.ret)) (.skip))) (.seq (.reg [] [(2, 0)] [.M 8 0, .T 9 (.mkI 128 (.tmp 8)), .N 2 9]) (.ret)))
theorem is80 : IsF C 80 10 21 c80 [.tmp 2] := ⟨⟨Tryd.f80, _, C_P ▸ Tryd.func80, rfl, rfl, rfl, by kernel_rfl, rfl⟩⟩
set_option maxHeartbeats 60000000 in
theorem qpc9 {a0 : Int} {r : D} (hr : qeq9 a0 = some r) : Res C 80 [.v (.int .i64 a0)] (.d (r)) := by
  simp only [qeq9] at hr
  rcases iteP hr with ⟨h1, hr⟩ | ⟨h1, hr⟩
  obtain rfl := oiA hr
  refine run_V is80 (nbA rfl) ?_
  rotate_left
  obtain rfl := oiA hr
  refine run_V is80 (nbA rfl) ?_
  rotate_left
  all_goals (simp +decide only [go_sem, c80, *])
def qqc9 : ACode := .seq (.seq (.reg [] [] [.M 8 6, .K 9 (.bin .gtr (.tmp 8) (cI 0))]) (.cond (.tmp 9) (some 9) (.skip) (.exit 0))) (.seq (.block 1 131712 (.seq (.seq (.reg [] [] [.M 12 1, .M 13 5, .T 14 (.ix 1 (.tmp 12) (.tmp 13)), .T 15 (.load none (.tmp 14)), .N 7 15]) (.seq (.reg [] [] [.M 16 7, .K 17 (.bin .geq (.tmp 16) (cI 0))]) (.cond (.tmp 17) (some 17) (.reg [] [] [.M 18 6, .M 19 0, .M 20 7, .T 21 (.ix 2 (.tmp 19) (.tmp 20)), .T 22 (.fa 1 (.tmp 21)), .T 23 (.load none (.tmp 22)), .T 24 (.bin .add (.tmp 18) (.tmp 23)), .N 6 24]) (.skip)))) (.reg [] [] [.M 25 5, .T 26 (.bin .add (.tmp 25) (cI 1)), .N 5 26]))) (.reg [] [] [.M 10 6, .T 11 (.bin .sub (.tmp 10) (cI 1)), .N 6 11]))
def c81 : ACode := .seq (.reg [] [] [.K 4 (.mv (cI 0))]) (.seq (.reg [] [] [.K 5 (.mv (cI 0))]) (.seq (.seq (.reg [] [] [.K 6 (.mv (cI 1))]) (.block 0 131712 (.loop qqc9))) (.seq (.reg [] [] [.M 27 5, .N 4 27]) (.ret))))
theorem is81 : IsF C 81 28 131827 c81 [.tmp 4] := ⟨⟨Tryd.f81, _, C_P ▸ Tryd.func81, rfl, rfl, rfl, by kernel_rfl, rfl⟩⟩
def qfe9 (s0 : List Symbol) (s1 : List Int) : Int × Int → Unit → St := fun (s5, s6) _ => ⟨[(0, .d (.rd (s0.map qb9))), (1, .d (.rd (s1.map intD))), (4, PI 0), (5, PI s5), (6, PI s6)], []⟩
def qne9 (s0 : List Symbol) (s1 : List Int) : (Int × Int) → AExit × St → Prop := fun (s5, s6) q => ∃ g, q = (.exit 0, qfe9 s0 s1 (s5, s6) g)
set_option maxHeartbeats 60000000 in
theorem qmY9 {s0 : List Symbol} {s1 : List Int} : Sim C 131827 qqc9 (qcs9 s0 s1) (qfe9 s0 s1) (qne9 s0 s1) := by
  intro s g r hr
  obtain ⟨s5, s6⟩ := s
  simp only [qcs9] at hr
  rcases iteP hr with ⟨h1, hr⟩ | ⟨h1, hr⟩
  obtain ⟨x1, h2, hr⟩ := bsome hr
  rcases iteP hr with ⟨h3, hr⟩ | ⟨h3, hr⟩
  obtain ⟨x2, h4, hr⟩ := bsome hr
  obtain rfl := oiA hr
  refine ⟨(), ?_⟩
  rotate_left
  obtain rfl := oiA hr
  refine ⟨(), ?_⟩
  rotate_left
  obtain rfl := oiA hr
  refine xe_of ⟨(), rfl⟩ ?_
  rotate_left
  all_goals (simp +decide only [go_sem, qfe9, qqc9, *])
set_option maxHeartbeats 60000000 in
theorem qoa9 {a0 : List Symbol} {a1 : List Int} {r : Int} (hr : qfp9 a0 a1 = some r) : Res C 81 [.rd (a0.map qb9), .rd (a1.map intD)] (PI r) := by
  simp only [qfp9] at hr
  obtain ⟨x3, h1, hr⟩ := bsome hr
  obtain ⟨q1, h1L, h1X⟩ := qmY9.L (g := ()) h1
  obtain ⟨x4, x5⟩ := x3
  try dsimp only at hr
  obtain ⟨⟨⟩, rfl⟩ := h1X
  simp only [qfe9, go_sem] at h1L
  obtain rfl := oiA hr
  refine run_V is81 (nbA rfl) ?_
  rotate_left
  all_goals (simp +decide only [go_sem, c81, *])
def c60 : ACode := .seq (.reg [] [] [.K 4 (.mv (.const (.bool false)))]) (.seq (.reg [] [] [.T 5 (.load none (.tmp 1)), .M 6 0, .T 7 (.build [(0, 1), (1, 1)] [.d (.v (.int .i64 0)), .d (.v (.int .i64 0))] [(0, .tmp 5), (1, .tmp 6)]), ⟨none, .store 2 (.tmp 2) (.tmp 7), none, false, false⟩]) (.seq (.reg [] [] [.K 4 (.mv (.const (.bool false)))]) (.ret)))
theorem is60 : IsF C 60 8 23 c60 [.tmp 4] := ⟨⟨Tryd.f60, _, C_P ▸ Tryd.func60, rfl, rfl, rfl, by kernel_rfl, rfl⟩⟩
set_option maxHeartbeats 60000000 in
theorem qjU9 {s0 : Int} {b2_0 : Int} {b2_1 : Int} {b1_0 : Int} {g1 : AHeap} {g2 : AHeap} {g3 : AHeap} {r : Bool × Int × Int} (hr : qek9 s0 b2_0 b2_1 b1_0 = some r) : Lim C 60 [PI s0, .ptr (g1.length + g2.length + 1) 0 0 0, .ptr g1.length 0 0 0] (g1 ++ (.row false 0 2 [[PI b2_0, PI b2_1]] :: (g2 ++ (.row false 0 1 [[PI b1_0]] :: g3)))) = some (resOf [PB r.1], (g1 ++ (.row false 0 2 [[PI r.2.1, PI r.2.2]] :: (g2 ++ (.row false 0 1 [[PI b1_0]] :: g3))))) := by
  simp only [qek9] at hr
  obtain rfl := oiA hr
  refine run_L is60 (nbA rfl) ?_
  rotate_left
  all_goals (simp +decide only [go_sem, c60, *])
def c23 : ACode := .seq (.reg [] [] [.K 4 (.mv (cI 0))]) (.seq (.seq (.reg [] [] [.M 5 0, .K 6 (.bin .lss (.tmp 5) (cI 0))]) (.cond (.tmp 6) (some 6) (.reg [] [] [.M 7 0, .T 8 (.bin .add (.tmp 7) (cI 1)), .T 9 (.raw ({ dst := some 9, op := Go.Op.unOp Go.UnOp.neg 3 (.tmp 8), type := 3, pos := "law.go:172", after := #[{ on := 1, ground := Go.Ground.data }], guard := none })), .N 0 9]) (.skip))) (.seq (.reg [] [] [.M 10 0, .M 11 1, .T 12 (.binM .rem (.tmp 10) (.tmp 11)), .N 4 12]) (.ret)))
theorem is23 : IsF C 23 13 83 c23 [.tmp 4] := ⟨⟨Tryd.f23, _, C_P ▸ Tryd.func23, rfl, rfl, rfl, by kernel_rfl, rfl⟩⟩
set_option maxHeartbeats 60000000 in
theorem qkM9 {a0 : Int} {a1 : Int} {r : Int} (hr : qgk9 a0 a1 = some r) : Res C 23 [.v (.int .i64 a0), .v (.int .i64 a1)] (PI r) := by
  simp only [qgk9] at hr
  rcases iteP hr with ⟨h1, hr⟩ | ⟨h1, hr⟩
  obtain ⟨x1, h2, hr⟩ := bsome hr
  obtain rfl := oiA hr
  refine run_V is23 (nbA rfl) ?_
  rotate_left
  obtain ⟨x2, h3, hr⟩ := bsome hr
  obtain rfl := oiA hr
  refine run_V is23 (nbA rfl) ?_
  rotate_left
  all_goals (simp +decide only [go_sem, c23, *])
end Ld
